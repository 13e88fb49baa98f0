/- What the operations of a program do, shown once for all programs; and numbers. -/
import Derived.Test.YtadjkmffodhmbaaGreatVm12
set_option linter.constructorNameAsVariable false
set_option linter.unusedVariables false
set_option linter.unusedSimpArgs false
noncomputable section
namespace Go.Vm
open Go.RowKit
variable {R:Type}
def B9I (d:V):Prop:=A2d (d.nth 1).els∧(d.nth 1).els.length≤100
theorem C8A {c:Nat} {l:List (List Nat)} {d:V} (h:dOf c l=some d) (hr:A2b d=true):B9I d:=by
 have z:A2d ([]:List V):=⟨[],rfl⟩
 unfold dOf at h
 split at h
 ·split at h
  ·split at h
   ·cases h;exact ⟨z,(by decide:([]:List V).length≤100)⟩
   ·cases h
  ·cases h
 ·split at h
  ·split at h
   ·rename_i x y w
    cases h
    have hr:(C0 1 ((x.map nv).length:Nat)&&(C0 ((x.map nv).length:Nat) 64&&_))=true:=hr
    simp only [D2I,Q0,D2T] at hr
    exact ⟨⟨x,rfl⟩,show (x.map nv).length≤100 by omega⟩
   ·cases h
  ·split at h
   ·rename_i x y
    cases h
    have hr:(C0 1 ((x.map nv).length:Nat)&&(C0 ((x.map nv).length:Nat) 64&&_))=true:=hr
    simp only [D2I,Q0,D2T] at hr
    exact ⟨⟨x,rfl⟩,show (x.map nv).length≤100 by omega⟩
   ·cases h
theorem A0Y:B9I J0:=⟨⟨[],rfl⟩,(by decide:([]:List V).length≤100)⟩
theorem C8B {x:V} (h:(D.slice (.int .u8)).has x):B9I (spD x):=by
 obtain ⟨b,hb,hb2⟩:=A0F h
 unfold spD
 rw [J1 hb]
 cases b with
 | nil=>exact A0Y
 | cons c r =>
  by_cases hc:81≤c∧c≤83
  ·rw [A5b hc]
   cases hp:pcs (B0a c) r with
   | none=>exact A0Y
   | some p =>
    simp only
    cases hd:dOf c p.1 with
    | none=>exact A0Y
    | some d =>
     simp only
     by_cases hf:fits (c::r) d=true
     ·rw [if_pos hf]
      have hr:A2b d=true:=by unfold fits at hf;rw [D2I] at hf;exact hf.1
      exact C8A hd hr
     ·rw [if_neg hf];exact A0Y
  ·rw [A2J hc];exact A0Y
theorem D07 {P:V→Prop}:∀ (r:List V) (i:Int) (d:V) (a:Int),(∀ o∈r,P (spD (o.nth 1)))→P d→∀ q,tdL r i d a=some q→P q.1:=by
 intro r
 induction r with
 | nil=>intro i d a hr hd q h;cases h;exact hd
 | cons o r ih =>
  intro i d a hr hd q h
  have ho:=hr o (by simp)
  have hr':∀ o∈r,P (spD (o.nth 1)):=fun x hx=>hr x (by simp [hx])
  simp only [tdL] at h
  cases hx:spX (o.nth 1) with
  | true=>rw [hx] at h;cases h
  | false =>
   rw [hx] at h
   simp only [cond_false] at h
   cases hk0:!(L5 (V.nth (spD (o.nth 1)) 0).int 0) with
   | false=>rw [hk0] at h;exact ih _ _ _ hr' hd q h
   | true =>
    rw [hk0] at h
    simp only [cond_true] at h
    cases ha0:C0 0 a with
    | true=>rw [ha0] at h;cases h
    | false=>rw [ha0] at h;exact ih _ _ _ hr' ho q h
theorem B2c {t:V} (ht:DTx.has t):B9I (W0 t):=by
 have hl:=B0c ht
 unfold W0
 cases h:tdS t with
 | none=>exact A0Y
 | some q=>exact D07 (P:=B9I) _ _ _ _ (fun o ho=>C8B (hl o ho)) A0Y q h
theorem A6U {t:V} (ht:DTx.has t) (hg:N1 (t.nth 2).els=true):(V.nth (W0 t) 0).int=0∨(V.nth (W0 t) 0).int=1∨(V.nth (W0 t) 0).int=2∨(V.nth (W0 t) 0).int=3:=by
 unfold W0
 cases h:tdS t with
 | none=>exact .inl rfl
 | some q =>
  obtain ⟨⟨⟨k0,k3⟩,_⟩,_⟩:=C3x ht hg h
  have:kD q.1=(q.1.nth 0).int:=rfl
  simp only
  omega
theorem B0D (kv:V) (es:Es):L1 (U5 kv es)=U5 kv (L1 es):=by
 unfold L1
 rw [H5,H5,List.filter_map];rfl
theorem B9J (kv v:V) (q:Bool) (es:Es):L1 (V1 kv v q es)=V1 kv v true (L1 es):=by
 have:V1 kv v q es=(kv,v,q)::U5 kv es:=rfl
 rw [this]
 show (kv,v,true)::L1 (U5 kv es)=(kv,v,true)::U5 kv (L1 es)
 rw [B0D]
theorem C8C:∀ (r a:List V) (E:Es),R4 a E→(∀ e∈a++r,A2d (L4 e))→∃ E',R4 (a++r) E':=by
 intro r
 induction r with
 | nil=>intro a E h _;rw [List.append_nil];exact ⟨E,h⟩
 | cons x r ih =>
  intro a E h hn
  obtain ⟨E',h'⟩:=ih (a++[x]) _ (h.snoc (hn x (by simp)) (fun e he=>hn e (by simp [he]))) (fun e he=>hn e (by simpa using he))
  exact ⟨E',by simpa using h'⟩
theorem R4.of_sem {p:List V} {E:Es} (hp:∀ e∈p,A2d (L4 e)) (nd:(E.map (·.1)).Nodup) (gd:∀ q∈E,NmV q.1) (has:∀ nm,J5 (.s nm) E=!(G0 nm p).isEmpty) (val:∀ nm,J5 (.s nm) E=true→N6 (.s nm) E=.l (G0 nm p)) (own:∀ kv,A0r kv E=true):R4 p E:=by
 obtain ⟨E0,h0⟩:=C8C p [] [] R4.nil (by simpa using hp)
 rw [List.nil_append] at h0
 refine ⟨nd,?_,gd,has,val,own⟩
 rw [← h0.ks]
 have hm:∀ q∈E.map (·.1),NmV q:=fun q hq=>by obtain ⟨y,hy,rfl⟩:=List.mem_map.1 hq;exact gd y hy
 have hm0:∀ q∈E0.map (·.1),NmV q:=fun q hq=>by obtain ⟨y,hy,rfl⟩:=List.mem_map.1 hq;exact h0.gd y hy
 refine A7i ((List.perm_ext_iff_of_nodup nd h0.nd).2 fun k=>?_) hm
 constructor
 ·intro hk
  obtain ⟨nm,rfl,_⟩:=hm k hk
  rw [← A0Z] at hk ⊢
  rw [h0.has,← has];exact hk
 ·intro hk
  obtain ⟨nm,rfl,_⟩:=hm0 k hk
  rw [← A0Z] at hk ⊢
  rw [has,← h0.has];exact hk
theorem A11 (kv:V) (es:Es):J5 kv (U5 kv es)=false:=by
 rw [← Bool.not_eq_true,A0Z,H5]
 intro h
 obtain ⟨y,hy,hyk⟩:=List.mem_map.1 h
 have:=(List.mem_filter.1 hy).2
 rw [hyk,Y0] at this
 cases this
theorem R4.unsnoc {p:List V} {x:V} {E:Es} (h:R4 (p++[x]) E) (hp:∀ e∈p,A2d (L4 e)) (hx:A2d (L4 x)) :
  ((G0 (L4 x) p).isEmpty=true→R4 p (U5 (.s (L4 x)) E))∧((G0 (L4 x) p).isEmpty=false→R4 p (V1 (.s (L4 x)) (.l (G0 (L4 x) p)) true E)):=by
 have ne:∀ nm,F5 (L4 x) nm=false→G0 nm (p++[x])=G0 nm p:=fun nm hn=>by rw [A1G,hn];rfl
 have gdd:∀ q∈U5 (.s (L4 x)) E,NmV q.1:=fun q hq=>by rw [H5] at hq;exact h.gd q (List.mem_filter.1 hq).1
 have ndd:((U5 (.s (L4 x)) E).map (·.1)).Nodup:=by
  rw [H5]
  exact (List.filter_sublist.map _).nodup h.nd
 have ownd:∀ kv,A0r kv (U5 (.s (L4 x)) E)=true:=fun kv=>by
  cases hk:Q5 (.s (L4 x)) kv with
  | false=>rw [(A30 hk E).2,h.own]
  | true =>
   rw [(J7 _ _).1 hk]
   have hz:=A11 kv E
   clear hk
   generalize U5 kv E=Z at hz
   induction Z with
   | nil=>rfl
   | cons q r ih =>
    simp only [J5,Bool.or_eq_false_iff] at hz
    simp only [A0r,hz.1,cond_false]
    exact ih hz.2
 constructor
 ·intro he
  refine R4.of_sem hp ndd gdd (fun nm=>?_) (fun nm hh=>?_) ownd
  ·cases hq:F5 (L4 x) nm with
   | true =>
    rw [← (G9 _ _).1 hq,A11,he];rfl
   | false=>rw [A7l (by rw [A32];exact hq),h.has,ne nm hq]
  ·cases hq:F5 (L4 x) nm with
   | true=>rw [← (G9 _ _).1 hq,A11] at hh;cases hh
   | false =>
    rw [A7l (by rw [A32];exact hq)] at hh
    rw [(A30 (by rw [A32];exact hq) E).1,h.val nm hh,ne nm hq]
 ·intro he
  refine R4.of_sem hp (A1P h.nd) (fun q hq=>?_) (fun nm=>?_) (fun nm hh=>?_) (fun kv=>?_)
  ·rcases List.mem_cons.1 (show q∈(.s (L4 x),.l (G0 (L4 x) p),true)::U5 (.s (L4 x)) E from hq) with rfl | hq
   ·exact ⟨_,rfl,hx⟩
   ·exact gdd q hq
  ·rw [A31,A32]
   cases hq:F5 (L4 x) nm with
   | true=>rw [← (G9 _ _).1 hq,he];rfl
   | false=>rw [Bool.false_or,h.has,ne nm hq]
  ·rw [B0Q,A32]
   rw [A31,A32] at hh
   cases hq:F5 (L4 x) nm with
   | true=>rw [cond_true,(G9 _ _).1 hq]
   | false =>
    rw [hq,Bool.false_or] at hh
    rw [cond_false,h.val nm hh,ne nm hq]
  ·rw [B0R,h.own];cases Q5 (.s (L4 x)) kv<;>rfl
variable {R:Type}
theorem A3U (kv:V) (es:Es):J5 kv (L1 es)=J5 kv es∧N6 kv (L1 es)=N6 kv es:=⟨(A1H kv es).1,(A1H kv es).2.1⟩
theorem B5R (es:Es):A2c (L1 es)=A2c es:=by unfold A2c L1;rw [List.map_map];rfl
theorem C38 {es:Es} {ks:List V} {nk:Bool} {n:Int} {kx kx':QAw→Option R} (hk:∀ xs nl i,kx (.o es xs nl ks nk n i)=kx' (.o (L1 es) xs nl ks nk n i)):∀ (fuel:Nat) (xs:List V) (nl:Bool) (i:Int),
  E1 (BAw R) fuel (.m es xs nl ks nk n i) kx=E1 (BAw R) fuel (.m (L1 es) xs nl ks nk n i) kx':=by
 intro fuel
 induction fuel with
 | zero=>intro xs nl i;rfl
 | succ f ih =>
  intro xs nl i
  rw [E1,E1,B4a,B4a,(A3U _ es).1,(A3U _ es).2]
  simp only [ih,hk]
def C39 (xs ys:List V) (ky kn:Option R):Option R:=bif Nat.ble xs.length 100000&&Nat.ble ys.length 100000 then bif F5 xs ys then ky else kn else none
theorem C4a {nl:Bool} {xs ys:List V} {ky kn:Option R} (h1:nl=true→xs=[]):C3A nl xs ys ky kn=C39 xs ys ky kn:=by
 cases nl with
 | true=>rw [h1 rfl];rfl
 | false=>rfl
theorem B9K {xs:List V} {ky kn:Option R} (h:xs.length≤100000):C39 xs xs ky kn=ky:=by
 unfold C39
 rw [D2R h,(G9 _ _).2 rfl];rfl
theorem A3V {l w:V} {es:Es} {ky kn:Es→Option R} (hl:LOK l) (hw:w.els=l.els) (h100:l.els.length≤100) (hi:R4 l.els (L1 es)):A2Z es w ky kn=ky es:=by
 have hq:=U0
 have hnl:=A2U l.els []
 simp only [List.length_nil,Nat.zero_add] at hnl
 unfold A2Z
 have e1:∀ k:List V→Option R,B6b 0 es k=B6b 0 (L1 es) k:=fun k=>by unfold B6b;rw [B5R]
 rw [e1,C1x hl hi]
 refine (C38 (kx':=fun q=>match q with
  | .o es1 xs1 nl1 ks1 nk1 n1 i1=>bif Nat.ble w.els.length 10000 then C3A nl1 xs1 (A25 w.els (J4 [] w.els) []) (ky es) (kn es) else none) (fun _ _ _=>rfl) _ _ _ _).trans ?_
 have l3:=B6e (l:=l.els) (J4 [] l.els) []
 simp only [List.length_nil,Nat.zero_add] at l3
 have l4:(J4 [] l.els).length * l.els.length≤100 * 100:=Nat.mul_le_mul (by omega) h100
 refine (D0b (ko:=fun xs=>C39 xs (A25 l.els (J4 [] l.els) []) (ky es) (kn es)) hl hi (fun k hk=>hk) (fun xs nl i hx=>?_) (J4 [] l.els) [] [] true (A2 FU) rfl (by omega) (by simp) (fun _=>rfl) (by omega)).trans (B9K (by omega))
 show (bif Nat.ble w.els.length 10000 then C3A nl xs (A25 w.els (J4 [] w.els) []) (ky es) (kn es) else none)=_
 rw [hw,D2R (by omega),cond_true]
 exact C4a hx
theorem C4b {l t:V} {es:Es} {h:Int} (k:Es→Option R) (hl:LOK l) (hi:R4 l.els es) (ht:DTx.has t) (hg:N1 (t.nth 2).els=true) (hx:txg [t]=true) (hh:0≤h∧h≤1000000000) (hfew:l.els.length≤9000) :
  ∃ es1,apW es t h k=k es1∧R4 (apV l t h).els es1∧LOK (.l (apV l t h).els):=by
 obtain ⟨n1,n2⟩:=B2c ht
 have hk:=A6U ht hg
 have hll:LOK (.l l.els):=⟨hl.nm,hl.len,hl.ht,hl.few⟩
 unfold apW apV
 rw [hg,cond_true]
 simp only [X7,G5]
 have two:(V.nth (W0 t) 0).int=2∨(V.nth (W0 t) 0).int=3→∃ es1,apX es (.s (V.nth (W0 t) 1).els) t h k=k es1∧R4 (l.els++[Q8 t h]) es1∧LOK (.l (l.els++[Q8 t h])):=by
  intro _
  have hsn:=hi.snoc (x:=Q8 t h) n1 hl.nm
  refine ⟨_,?_,hsn,?_,?_,?_,?_⟩
  ·unfold apX
   show (bif J5 (.s (L4 (Q8 t h))) es then _ else _)=_
   cases hq:J5 (.s (L4 (Q8 t h))) es with
   | true =>
    have e1:=hi.val _ hq
    have hle:=A2V (L4 (Q8 t h)) l.els
    show (bif true then (bif A0r (.s (L4 (Q8 t h))) es then (bif txg [t] then (N0 ((N6 (.s (L4 (Q8 t h))) es).els.length+1) <| bif Q5 (.s (L4 (Q8 t h))) (.s (L4 (Q8 t h))) then k (V1 (.s (L4 (Q8 t h))) (.l ((N6 (.s (L4 (Q8 t h))) es).els++[Q8 t h])) true es) else none) else none) else none) else _)=_
    rw [hi.own,hx,e1,Y0]
    simp only [cond_true]
    rw [B3 (by show (G0 (L4 (Q8 t h)) l.els).length+1≤_;omega)];rfl
   | false =>
    have he:G0 (L4 (Q8 t h)) l.els=[]:=by
     have:=hi.has (L4 (Q8 t h))
     rw [hq] at this
     cases hz:G0 (L4 (Q8 t h)) l.els with
     | nil=>rfl
     | cons y s=>rw [hz] at this;cases this
    rw [cond_false,hx,he];rfl
  ·intro e he
   rcases D2S.1 he with he | he
   ·exact hl.nm e he
   ·simp only [List.mem_singleton] at he;subst he;exact n1
  ·intro e he
   rcases D2S.1 he with he | he
   ·exact hl.len e he
   ·simp only [List.mem_singleton] at he;subst he;exact n2
  ·intro e he
   rcases D2S.1 he with he | he
   ·exact hl.ht e he
   ·simp only [List.mem_singleton] at he;subst he;exact hh
  ·show (l.els++[Q8 t h]).length≤10000;simp;omega
 rcases hk with e0 | e0 | e0 | e0
 ·rw [e0]
  exact ⟨es,rfl,hi,hll⟩
 ·rw [e0]
  exact ⟨es,rfl,hi,hll⟩
 ·rw [e0]
  exact two (.inl e0)
 ·rw [e0]
  exact two (.inr e0)
def wsL (h:Int):V→List V→Int→V
 | w,[],_=>w
 | w,t::r,i=>wsL h (apV w t (h+i)) r (i+1)
theorem B9L (h:Int):∀ (r:List V) (w t:V) (i:Int),wsL h w (r++[t]) i=apV (wsL h w r i) t (h+(i+r.length)):=by
 intro r
 induction r with
 | nil=>intro w t i;simp [wsL]
 | cons o r ih=>intro w t i;simp only [List.cons_append,wsL,ih];congr 1;simp;omega
theorem A9b (w t:V) (h:Int):(apV w t h).els.length≤w.els.length+1:=by
 unfold apV
 cases B5 (V.nth (W0 t) 0).int 2 with
 | true=>simp
 | false=>simp [V.els]
theorem C8D {t:V} (h1:(t.nth 1).els.length≤12) (h2:(t.nth 2).els.length≤12) (h3:∀ o∈(t.nth 2).els,(o.nth 1).els.length≤500) (h4:∀ o∈(t.nth 1).els,(o.nth 1).els.length≤300):txg [t]=true:=by
 show ((Nat.ble (t.nth 1).els.length 1000&&(t.nth 1).els.all fun x=>Nat.ble (x.nth 1).els.length 100000)&&(Nat.ble (t.nth 2).els.length 1000&&(t.nth 2).els.all fun x=>Nat.ble (x.nth 1).els.length 100000))=true
 simp only [D2I,Nat.ble_eq,List.all_eq_true]
 exact ⟨⟨by omega,fun o ho=>by have:=h4 o ho;omega⟩,by omega,fun o ho=>by have:=h3 o ho;omega⟩
theorem C8E {t:V} (ht:DTx.has t) (hs:DTx.sm t):(szB (t.nth 1).els&&szB (t.nth 2).els)=true:=by
 obtain ⟨v,x,y,u,rfl,_,hxa,hyb,_⟩:=A5A ht
 obtain ⟨_,x1,y1,_⟩:=hs
 obtain ⟨x1,x2⟩:=x1
 obtain ⟨y1,y2⟩:=y1
 show (szB x.els&&szB y.els)=true
 unfold szB
 simp only [D2I,Nat.ble_eq,List.all_eq_true]
 refine ⟨⟨Nat.le_trans x1 (by decide),fun o ho=>?_⟩,Nat.le_trans y1 (by decide),fun o ho=>?_⟩
 ·obtain ⟨r,b,n,rfl,_⟩:=D0j (V3 hxa o ho)
  have h3:=x2 _ ho
  obtain ⟨_,h4,_⟩:=h3
  exact Nat.le_trans h4.1 (by decide)
 ·obtain ⟨ys,rfl,hy⟩:=V3 hyb o ho
  obtain ⟨a,b,rfl,_,_⟩:=A14 hy
  have h3:=y2 _ ho
  obtain ⟨_,h4,_⟩:=h3
  exact Nat.le_trans h4.1 (by decide)
theorem B0E {t:V} (ht:DTx.has t) (hg:A8U t=false):N1 (t.nth 2).els=true∧txg [t]=true:=by
 obtain ⟨v,x,y,u,rfl,_⟩:=A5A ht
 obtain ⟨q1,q2,q3,q4⟩:=C3y hg
 exact ⟨B5a (by show y.els.length≤1000;omega) (fun o ho=>by have:=q3 o ho;omega),C8D q1 q2 q3 q4⟩
theorem LOK.cong {l m:V} (h:LOK l) (e:m.els=l.els):LOK m:=⟨by rw [e];exact h.nm,by rw [e];exact h.len,by rw [e];exact h.ht,by rw [e];exact h.few⟩
theorem C4c {kx:C8b→Option R} {kr:Option R} {l x y:V} {h:Int} {ek:Es} (hr:∀ es w n i,kx (.r l x h es ek w y n i)=kr) (h0:0≤h∧h≤1000) (hy:∀ t∈y.els,DTx.has t∧DTx.sm t) (hyl:y.els.length≤15):∀ (r b:List V) (w:V) (es:Es) (fuel:Nat),y.els=b++r→LOK w→R4 w.els es→w.els.length+r.length≤100→r.length < fuel →
  E1 (A7y R) fuel (.m l x h es ek w y (y.els.length:Nat) (b.length:Nat)) kx=kr∨∃ es',R4 (wsL h w r (b.length:Nat)).els es'∧LOK (wsL h w r (b.length:Nat))∧(∀ t∈r,A8U t=false)∧E1 (A7y R) fuel (.m l x h es ek w y (y.els.length:Nat) (b.length:Nat)) kx=kx (.o l x h es' ek (wsL h w r (b.length:Nat)) y (y.els.length:Nat) (y.els.length:Nat)):=by
 intro r
 induction r with
 | nil =>
  intro b w es fuel he hl hi hn hf
  obtain ⟨f,rfl⟩:∃ f,fuel=f+1:=⟨fuel - 1,by omega⟩
  rw [List.append_nil] at he
  refine .inr ⟨es,hi,hl,(fun t ht=>by cases ht),?_⟩
  rw [E1]
  show (bif B5 _ _ then _ else kx _)=_
  rw [A3l he,cond_false,he];rfl
 | cons t r ih =>
  intro b w es fuel he hl hi hn hf
  obtain ⟨f,rfl⟩:∃ f,fuel=f+1:=⟨fuel - 1,by omega⟩
  simp only [D2P] at hn hf
  have hle:y.els.length=b.length+(r.length+1):=by rw [he];simp
  have hat:y.nth ((b.length:Nat):Int).toNat=t:=S7 he
  obtain ⟨ht,hts⟩:=hy t (by rw [he];simp)
  have hsz:=C8E ht hts
  have step:E1 (A7y R) (f+1) (.m l x h es ek w y (y.els.length:Nat) (b.length:Nat)) kx=bif A8U t then kr else apW es t (h+(b.length:Nat)) fun es1=>bif (N1 (V.nth t 2).els&&txg [t])&&Nat.ble w.els.length 10000 then
    A2Z es1 (apV w t (h+(b.length:Nat))) (fun es2=>E1 (A7y R) f (.m l x h es2 ek (apV w t (h+(b.length:Nat))) y (y.els.length:Nat) ((b.length+1:Nat):Int)) kx) (fun es2=>kx (.s l x h es2 ek (apV w t (h+(b.length:Nat))) y (y.els.length:Nat) (b.length:Nat))) else none:=by
   rw [E1]
   show (bif B5 _ _ then (ck ((b.length:Nat):Int) y.els.length <| bif szB (V.nth (y.nth ((b.length:Nat):Int).toNat) 1).els&&szB (V.nth (y.nth ((b.length:Nat):Int).toNat) 2).els then (bif A8U (y.nth ((b.length:Nat):Int).toNat) then kx (.r l x h es ek w y _ _) else apW es (y.nth ((b.length:Nat):Int).toNat) (D7 (h+(b.length:Nat))) _) else none) else _)=_
   rw [A3k he,cond_true,C9 (by omega) (by omega),hat,hsz,cond_true,hr,L9 (by omega),F8 (n:=h+(b.length:Nat)) (by omega) (by omega)]
  cases hg:A8U t with
  | true=>left;rw [step,hg];rfl
  | false =>
   obtain ⟨g1,g2⟩:=B0E ht hg
   obtain ⟨es1,a1,a2,a3⟩:=C4b (R:=R) (h:=h+(b.length:Nat)) (fun es1=>bif (N1 (V.nth t 2).els&&txg [t])&&Nat.ble w.els.length 10000 then
    A2Z es1 (apV w t (h+(b.length:Nat))) (fun es2=>E1 (A7y R) f (.m l x h es2 ek (apV w t (h+(b.length:Nat))) y (y.els.length:Nat) ((b.length+1:Nat):Int)) kx) (fun es2=>kx (.s l x h es2 ek (apV w t (h+(b.length:Nat))) y (y.els.length:Nat) (b.length:Nat))) else none) hl hi ht g1 g2 (by omega) (by omega)
   have hlen:=A9b w t (h+(b.length:Nat))
   have hl2:LOK (apV w t (h+(b.length:Nat))):=a3.cong rfl
   have st2:E1 (A7y R) (f+1) (.m l x h es ek w y (y.els.length:Nat) (b.length:Nat)) kx=E1 (A7y R) f (.m l x h es1 ek (apV w t (h+(b.length:Nat))) y (y.els.length:Nat) ((b.length+1:Nat):Int)) kx:=by
    rw [step,hg,cond_false,a1,g1,g2,D2R (by omega)]
    simp only [Bool.and_self,cond_true]
    exact A3V hl2 rfl (by omega) a2.copy
   have ih:=ih (b++[t]) (apV w t (h+(b.length:Nat))) es1 f (by rw [he];simp) hl2 a2 (by omega) (by omega)
   simp only [D2J,D2Q] at ih
   rw [show ((b.length+1:Nat):Int)=(b.length:Nat)+1 by omega] at ih st2
   rcases ih with h1 | ⟨es',q1,q2,q3,q4⟩
   ·exact .inl (st2.trans h1)
   ·refine .inr ⟨es',q1,q2,fun s hs=>?_,st2.trans q4⟩
    rcases List.mem_cons.1 hs with rfl | hs
    ·exact hg
    ·exact q3 s hs
variable {R:Type}
theorem C4d (d:V) (x:V):∀ (p:List V) (i a:Int),luL d (p++[x]) i a=bif C0 2 (d.nth 0).int&&F5 (x.nth 0).els (d.nth 1).els then i+p.length else luL d p i a:=by
 intro p
 induction p with
 | nil =>
  intro i a
  simp only [List.nil_append,luL,List.length_nil]
  cases C0 2 (d.nth 0).int&&F5 (x.nth 0).els (d.nth 1).els<;>simp
 | cons o p ih =>
  intro i a
  simp only [List.cons_append,luL,ih,D2P]
  cases C0 2 (d.nth 0).int&&F5 (x.nth 0).els (d.nth 1).els with
  | false=>rfl
  | true=>simp only [cond_true];omega
theorem C8F {d:V} (h:C0 2 (d.nth 0).int=false):∀ (p:List V) (i a:Int),luL d p i a=a:=by
 intro p
 induction p with
 | nil=>intro i a;rfl
 | cons o p ih=>intro i a;simp only [luL,h,Bool.false_and,cond_false,ih]
theorem D08 {w w' t:V} {h:Int} (hw:w'.els=(apV w t h).els) (hk:(V.nth (W0 t) 0).int=0∨(V.nth (W0 t) 0).int=1∨(V.nth (W0 t) 0).int=2∨(V.nth (W0 t) 0).int=3):(unV w' t).els=w.els:=by
 unfold unV
 rw [hw]
 have lo:(V.nth (W0 t) 0).int=0∨(V.nth (W0 t) 0).int=1→(bif B5 (luL (W0 t) (apV w t h).els 0 (-1)) 0 then w' else .l ((apV w t h).els.take (luL (W0 t) (apV w t h).els 0 (-1)).toNat++(apV w t h).els.drop ((luL (W0 t) (apV w t h).els 0 (-1)).toNat+1))).els=w.els:=by
  intro hk
  have h2:C0 2 (V.nth (W0 t) 0).int=false:=by rw [Q0];simp;omega
  rw [C8F h2]
  show w'.els=_
  rw [hw]
  unfold apV
  rw [show B5 (V.nth (W0 t) 0).int 2=true by rw [G5];simp;omega];rfl
 have hi:(V.nth (W0 t) 0).int=2∨(V.nth (W0 t) 0).int=3→(bif B5 (luL (W0 t) (apV w t h).els 0 (-1)) 0 then w' else .l ((apV w t h).els.take (luL (W0 t) (apV w t h).els 0 (-1)).toNat++(apV w t h).els.drop ((luL (W0 t) (apV w t h).els 0 (-1)).toNat+1))).els=w.els:=by
  intro hk
  have h2:C0 2 (V.nth (W0 t) 0).int=true:=by rw [Q0];simp;omega
  have e1:(apV w t h).els=w.els++[Q8 t h]:=by
   unfold apV
   rw [show B5 (V.nth (W0 t) 0).int 2=false by rw [G5];simp;omega];rfl
  rw [e1,C4d,h2]
  have e2:F5 ((Q8 t h).nth 0).els ((W0 t).nth 1).els=true:=(G9 _ _).2 rfl
  rw [e2]
  simp only [Bool.and_self,cond_true]
  rw [show B5 ((0:Int)+(w.els.length:Nat)) 0=false by rw [G5];simp<;>omega,cond_false,show ((0:Int)+(w.els.length:Nat)).toNat=w.els.length by omega]
  show (w.els++[Q8 t h]).take w.els.length++(w.els++[Q8 t h]).drop (w.els.length+1)=_
  simp
 rcases hk with e | e | e | e
 ·exact lo (.inl e)
 ·exact lo (.inr e)
 ·exact hi (.inl e)
 ·exact hi (.inr e)
theorem C4e {w t:V} {es:Es} {h:Int} (k:Es→Option R) (hl:LOK w) (hfew:w.els.length≤9000) (hi:R4 (apV w t h).els (L1 es)) (ht:DTx.has t) (hg:N1 (t.nth 2).els=true) :
  ∃ es1,unW es t k=k es1∧R4 w.els (L1 es1):=by
 obtain ⟨n1,n2⟩:=B2c ht
 have hk:=A6U ht hg
 unfold unW
 rw [hg,cond_true]
 simp only [X7]
 have lo:(V.nth (W0 t) 0).int=0∨(V.nth (W0 t) 0).int=1→R4 w.els (L1 es):=by
  intro hk
  unfold apV at hi
  rw [show B5 (V.nth (W0 t) 0).int 2=true by rw [G5];simp;omega] at hi;exact hi
 have two:(V.nth (W0 t) 0).int=2∨(V.nth (W0 t) 0).int=3→∃ es1,(bif J5 (.s (V.nth (W0 t) 1).els) es then unX es (.s (V.nth (W0 t) 1).els) k else k es)=k es1∧R4 w.els (L1 es1):=by
  intro hk
  have e1:(apV w t h).els=w.els++[Q8 t h]:=by
   unfold apV
   rw [show B5 (V.nth (W0 t) 0).int 2=false by rw [G5];simp;omega];rfl
  rw [e1] at hi
  obtain ⟨u1,u2⟩:=hi.unsnoc hl.nm n1
  have hh:J5 (.s (L4 (Q8 t h))) (L1 es)=true:=by
   rw [hi.has,A1G,show F5 (L4 (Q8 t h)) (L4 (Q8 t h))=true from (G9 _ _).2 rfl];simp
  have hv:=hi.val _ hh
  rw [A1G,show F5 (L4 (Q8 t h)) (L4 (Q8 t h))=true from (G9 _ _).2 rfl,cond_true] at hv
  rw [(A3U _ es).1] at hh
  rw [(A3U _ es).2] at hv
  have hle:=A2V (L4 (Q8 t h)) w.els
  show ∃ es1,(bif J5 (.s (L4 (Q8 t h))) es then unX es (.s (L4 (Q8 t h))) k else k es)=k es1∧_
  rw [hh,cond_true]
  unfold unX
  rw [hv]
  generalize hH:G0 (L4 (Q8 t h)) w.els=H at *
  have hL:(V.l (H++[Q8 t h])).els.length=H.length+1:=by show (H++[Q8 t h]).length=_;simp
  have ln1:∀ kk:Option R,ln (H.length+1) kk=kk:=fun kk=>B7 (by omega)
  rw [hL]
  simp only [ln1,X7]
  rw [show decide (((H.length+1:Nat):Int)=0)=false by simp;omega,cond_false]
  cases H with
  | nil =>
   refine ⟨U5 (.s (L4 (Q8 t h))) es,rfl,?_⟩
   rw [B0D];exact u1 rfl
  | cons a s =>
   refine ⟨V1 (.s (L4 (Q8 t h))) (.l (a::s)) false es,?_,by rw [B9J];exact u2 rfl⟩
   rw [show decide ((((a::s).length+1:Nat):Int)=1)=false by simp;omega,cond_false]
   have hz:D7 (((((a::s).length+1:Nat):Int)) - 1)=((a::s).length:Nat):=by rw [F8 (by omega) (by omega)];omega
   rw [hz,show ((C0 0 ((0:Nat):Int)&&C0 ((0:Nat):Int) ((a::s).length:Nat))&&C0 ((a::s).length:Nat) (((a::s).length+1:Nat):Int))=true by simp only [Q0,D2I,D2T];omega,cond_true]
   have e9:A00 (V.l ((a::s)++[Q8 t h])) 0 ((((a::s).length:Nat):Int) - ((0:Nat):Int)).toNat=.l (a::s):=by
    show V.l (List.take _ (List.drop 0 ((a::s)++[Q8 t h])))=_
    rw [show ((((a::s).length:Nat):Int) - ((0:Nat):Int)).toNat=(a::s).length by omega,List.drop_zero,List.take_left]
   rw [e9]
 rcases hk with e | e | e | e
 ·refine ⟨es,?_,lo (.inl e)⟩
  rw [e];cases J5 (.s (V.nth (W0 t) 1).els) es<;>rfl
 ·refine ⟨es,?_,lo (.inr e)⟩
  rw [e];cases J5 (.s (V.nth (W0 t) 1).els) es<;>rfl
 ·rw [e];exact two (.inl e)
 ·rw [e];exact two (.inr e)
theorem C4f {kx:C8c→Option R} {l x:V} {h:Int} {ek:Es} (hx:∀ t∈x.els,DTx.has t∧A8U t=false) (hxl:x.els.length≤15) (hll:l.els.length≤41) (hok:∀ k,k≤x.els.length→LOK (wsL h l (x.els.take k) 0)):∀ (k:Nat) (w:V) (es:Es) (fuel:Nat),k≤x.els.length→w.els=(wsL h l (x.els.take k) 0).els→R4 w.els (L1 es)→k < fuel→(∀ j,j≤k→(wsL h l (x.els.take j) 0).els.length≤41+j) →
  ∃ es' w',R4 l.els (L1 es')∧E1 (A7z R) fuel (.m l x es ek w ((k:Int) - 1)) kx=kx (.o l x es' ek w' (-1)):=by
 intro k
 induction k with
 | zero =>
  intro w es fuel hk hw hi hf hlen
  obtain ⟨f,rfl⟩:∃ f,fuel=f+1:=⟨fuel - 1,by omega⟩
  refine ⟨es,w,?_,?_⟩
  ·rw [hw] at hi;exact hi
  ·rw [E1];rfl
 | succ k ih =>
  intro w es fuel hk hw hi hf hlen
  obtain ⟨f,rfl⟩:∃ f,fuel=f+1:=⟨fuel - 1,by omega⟩
  have hkl:k < x.els.length:=by omega
  have hat:x.nth ((k:Nat):Int).toNat=x.els[k]:=by
   unfold V.nth
   rw [show ((k:Nat):Int).toNat=k by omega,List.getD_eq_getElem?_getD,D2U hkl];rfl
  obtain ⟨ht,hgr⟩:=hx _ (List.getElem_mem hkl)
  obtain ⟨g1,g2⟩:=B0E ht hgr
  have hk1:x.els.take (k+1)=x.els.take k++[x.els[k]]:=List.take_succ_eq_append_getElem hkl
  have hl0:=hok k (by omega)
  have hl1:=hok (k+1) hk
  have n0:=hlen k (by omega)
  have n1:=hlen (k+1) (by omega)
  rw [hk1,B9L,List.length_take,Nat.min_eq_left (by omega)] at hw hl1 n1
  generalize hW:wsL h l (x.els.take k) 0=W at *
  have hT:=A6U ht g1
  have hun:=D08 (w':=w) hw hT
  obtain ⟨es1,b1,b2⟩:=C4e (R:=R) (w:=W) (t:=x.els[k]) (es:=es) (h:=h+(0+(k:Nat))) (fun es1=>bif N1 (V.nth x.els[k] 2).els&&Nat.ble w.els.length 10000 then
    A2Z es1 (unV w x.els[k]) (fun es2=>E1 (A7z R) f (.m l x es2 ek (unV w x.els[k]) ((k:Int) - 1)) kx) (fun es2=>kx (.s l x es2 ek (unV w x.els[k]) (k:Nat))) else none) hl0 (by omega) (by rw [← hw];exact hi) ht g1
  have step:E1 (A7z R) (f+1) (.m l x es ek w (((k+1:Nat):Int) - 1)) kx=E1 (A7z R) f (.m l x es1 ek (unV w x.els[k]) ((k:Int) - 1)) kx:=by
   rw [E1,show ((k+1:Nat):Int) - 1=(k:Nat) by omega]
   show (bif C0 0 (k:Nat) then (ck ((k:Nat):Int) x.els.length <| unW es (x.nth ((k:Nat):Int).toNat) fun es1=>ck ((k:Nat):Int) x.els.length <| bif N1 (V.nth (x.nth ((k:Nat):Int).toNat) 2).els&&Nat.ble w.els.length 10000 then
    A2Z es1 (unV w (x.nth ((k:Nat):Int).toNat)) (fun es2=>E1 (A7z R) f (.m l x es2 ek (unV w (x.nth ((k:Nat):Int).toNat)) (D7 ((k:Nat) - 1))) kx) (fun es2=>kx (.s l x es2 ek (unV w (x.nth ((k:Nat):Int).toNat)) (k:Nat))) else none) else kx (.o l x es ek w ((k:Nat):Int)))=_
   have ck1:∀ kk:Option R,ck ((k:Nat):Int) x.els.length kk=kk:=fun kk=>C9 (by omega) (by omega)
   simp only [ck1,hat]
   rw [show C0 0 ((k:Nat):Int)=true by rw [Q0];simp,cond_true,F8 (by omega) (by omega),b1,g1,D2R (by rw [hw];omega)]
   simp only [Bool.and_self,cond_true]
   exact A3V (l:=W) hl0 hun (by omega) b2
  obtain ⟨es',w',c1,c2⟩:=ih (unV w x.els[k]) es1 f (by omega) (by rw [hun]) (by rw [hun];exact b2) (by omega) (fun j hj=>hlen j (by omega))
  exact ⟨es',w',c1,step.trans c2⟩
theorem C4g (h:Int):∀ (r:List V) (w:V) (i:Int),(wsL h w r i).els.length≤w.els.length+r.length:=by
 intro r
 induction r with
 | nil=>intro w i;simp [wsL]
 | cons t r ih =>
  intro w i
  have h1:=ih (apV w t (h+i)) (i+1)
  have h2:=A9b w t (h+i)
  simp only [wsL,D2P];omega
theorem C8G {l t:V} {h:Int} (hl:LOK l) (ht:DTx.has t) (hh:0≤h∧h≤1000000000) (hf:l.els.length≤9000):LOK (apV l t h):=by
 obtain ⟨n1,n2⟩:=B2c ht
 unfold apV
 cases B5 (V.nth (W0 t) 0).int 2 with
 | true=>exact hl
 | false =>
  refine ⟨fun e he=>?_,fun e he=>?_,fun e he=>?_,?_⟩
  ·rcases D2S.1 he with he | he
   ·exact hl.nm e he
   ·simp only [List.mem_singleton] at he;subst he;exact n1
  ·rcases D2S.1 he with he | he
   ·exact hl.len e he
   ·simp only [List.mem_singleton] at he;subst he;exact n2
  ·rcases D2S.1 he with he | he
   ·exact hl.ht e he
   ·simp only [List.mem_singleton] at he;subst he;exact hh
  ·show (l.els++[Q8 t h]).length≤10000;simp;omega
theorem C8H {h:Int} (h0:0≤h∧h≤1000):∀ (r:List V) (w:V) (i:Int),LOK w→(∀ t∈r,DTx.has t)→0≤i→i+r.length≤100→w.els.length+r.length≤9000→LOK (wsL h w r i):=by
 intro r
 induction r with
 | nil=>intro w i hl _ _ _ _;exact hl
 | cons t r ih =>
  intro w i hl hr hi hn hw
  simp only [D2P] at hn hw
  have h2:=A9b w t (h+i)
  exact ih _ _ (C8G hl (hr t (by simp)) (by omega) (by omega)) (fun s hs=>hr s (by simp [hs])) (by omega) (by omega) (by omega)
theorem B9M {l x:V} {h:Int} (hd:(D.slice A2X).has l) (hs:(D.slice A2X).sm l) (hx:(D.slice DTx).has x) (hxs:(D.slice DTx).sm x):B8Q l x h=some ():=by
 have hq:=U0
 have hg:rng [l]=true:=by
  show (Nat.ble l.els.length MX&&l.els.all fun x=>Nat.ble (L4 x).length MX&&Nat.ble (x.nth 1).els.length MX)=true
  obtain ⟨h1,h2⟩:=hs
  simp only [D2I,Nat.ble_eq,List.all_eq_true]
  refine ⟨by simp only [ML,MX] at *;omega,fun x hx=>?_⟩
  obtain ⟨n,v,k,r,rfl,_,_⟩:=D0N (V3 hd x hx)
  have h3:=h2 _ hx
  obtain ⟨h4,h5,_⟩:=h3
  exact ⟨Nat.le_trans h4 (by decide),Nat.le_trans h5 (by decide)⟩
 unfold B8Q
 rw [hg,cond_true]
 cases hr:A0c l.els 0 with
 | false=>rfl
 | true =>
 obtain ⟨r1,r2⟩:=B6d hr
 have hlen:l.els.length≤41:=by
  rcases r2 with r2 | r2
  ·rw [r2];decide
  ·omega
 have hl:LOK l:=⟨fun e he=>by
   obtain ⟨ys,rfl,hy⟩:=V3 hd e he
   obtain ⟨a,b,c,d,rfl,⟨na,rfl,_⟩,_⟩:=B7L hy
   exact ⟨na,rfl⟩,fun e he=>(r1 e he).1,fun e he=>(r1 e he).2.2,by omega⟩
 obtain ⟨x1,x2⟩:=hxs
 rw [cond_true,B7 (Nat.le_trans x1 (by decide))]
 cases h1:B5 15 (x.els.length:Nat) with
 | true=>rfl
 | false =>
 cases h2:B5 h 0 with
 | true=>rfl
 | false =>
 cases h3:B5 1000 h with
 | true=>rfl
 | false =>
 rw [G5] at h1 h2 h3
 simp only [decide_eq_false_iff_not] at h1 h2 h3
 rw [cond_false,cond_false,cond_false,B7 (by omega)]
 obtain ⟨es,hi,hrun⟩:=C97 (R:=Unit) (l:=l) hl.nm l.els [] [] (A2 FU) rfl (by simp;omega) R4.nil (by omega)
 refine (hrun _).trans ?_
 show (bif A1j es then _ else none)=_
 rw [B2K hi hl.few,cond_true,B7 (by omega)]
 have hyx:∀ t∈x.els,DTx.has t∧DTx.sm t:=fun t ht=>⟨V3 hx t ht,x2 t ht⟩
 rcases C4c (R:=Unit) (kx:=fun q=>match q with
   | .o l1 x1 h1 es1 ek1 w1 y1 n1 i1=>ln x1.els.length <| E1 (A7z Unit) (A2 FU) (.m l1 x1 es1 ek1 w1 (D7 ((x1.els.length:Nat) - 1))) fun q=>match q with
    | .o l3 x3 es3 ek3 w3 i3=>A2Z es3 l3 (fun _=>A2Z ek3 l3 (fun _=>some ()) (fun _=>none)) (fun _=>none)
    | .s l3 x3 es3 ek3 w3 i3=>none
   | .r l1 x1 h1 es1 ek1 w1 y1 n1 i1=>some ()
   | .s l1 x1 h1 es1 ek1 w1 y1 n1 i1=>none) (kr:=some ()) (l:=l) (x:=x) (y:=x) (h:=h) (ek:=L1 es) (fun _ _ _ _=>rfl) ⟨by omega,by omega⟩ hyx (by omega) x.els [] l es (A2 FU) rfl hl hi (by omega) (by omega) with h4 | ⟨es',q1,q2,q3,q4⟩
 ·exact h4
 ·refine q4.trans ?_
  show (ln x.els.length <| E1 (A7z Unit) (A2 FU) (.m l x es' (L1 es) (wsL h l x.els ((0:Nat):Int)) (D7 ((x.els.length:Nat) - 1))) _)=_
  rw [B7 (by omega),F8 (by omega) (by omega)]
  obtain ⟨es3,w3,c1,c2⟩:=C4f (R:=Unit) (kx:=fun q=>match q with
    | .o l3 x3 es3 ek3 w3 i3=>A2Z es3 l3 (fun _=>A2Z ek3 l3 (fun _=>some ()) (fun _=>none)) (fun _=>none)
    | .s l3 x3 es3 ek3 w3 i3=>none) (l:=l) (x:=x) (h:=h) (ek:=L1 es) (fun t ht=>⟨(hyx t ht).1,q3 t ht⟩) (by omega) hlen
   (fun k hk=>C8H ⟨by omega,by omega⟩ _ _ _ hl (fun t ht=>(hyx t (List.mem_of_mem_take ht)).1) (by omega) (by simp;omega) (by simp;omega)) x.els.length (wsL h l x.els ((0:Nat):Int)) es' (A2 FU) (Nat.le_refl _) (by rw [List.take_length];rfl) q1.copy (by omega)
   (fun j hj=>by have:=C4g h (x.els.take j) l 0;simp at this;omega)
  refine c2.trans ?_
  show A2Z es3 l (fun _=>A2Z (L1 es) l (fun _=>some ()) (fun _=>none)) (fun _=>none)=_
  rw [A3V hl rfl (by omega) c1,A3V hl rfl (by omega) hi.copy.copy]
end Go.Vm
end