/- What the operations of a program do, shown once for all programs; and numbers. -/
import Derived.Test.YtgaghkafmeelhaaGreatVm10
import Derived.Test.YtgaghkafmeelhaaGreatVm6
import Derived.OwnWalkIn
import Derived.Maps.RangeRun
set_option linter.constructorNameAsVariable false
set_option linter.unusedVariables false
set_option linter.unusedSimpArgs false
set_option linter.unnecessarySimpa false
noncomputable section
namespace Go.Vm
open Go.RowKit Go.Sort
variable {R:Type}
theorem C0e {T:TT} {c:F6} {e:B6} {of:Nat→Option Ob} {nx n m:Nat} {v:A} {wo:List (Nat×Ob)} {ro ro':List Nat} {x:Value} {w:World} (h:n≤m)
  (hl:P7 T c e of nx ⟨v,wo,ro,n⟩ x w):P7 T c e of nx ⟨v,wo,ro',m⟩ x w:=by
 obtain ⟨e',h1,h2,h3,h4,h5⟩:=hl
 refine ⟨e',h1,h2,h3,fun id A4=>?_,h5⟩
 rcases h4 id A4 with h | ⟨h6,h7⟩
 ·exact .inl h
 ·exact .inr ⟨h6,Nat.lt_of_lt_of_le h7 h⟩
def B1K {X:Type} (rec:List A→(Nat→Option Ob)→Nat→Option X) (g:X→Bool) (F:X→J7):H4:=fun R args of nx k =>
 match rec args of nx with
 | some x=>bif g x then k (F x) else none
 | none=>none
theorem B6Y {X:Type} {rec:List A→(Nat→Option Ob)→Nat→Option X} {g:X→Bool} {F:X→J7}:(B1K rec g F).nat:=by
 intro R args of nx k
 unfold H4.dir B1K
 cases rec args of nx with
 | none=>rfl
 | some x=>simp only;cases g x<;>rfl
theorem C0f {P:Program} {T:TT} {X:Type} {f:Nat} {rec:List A→(Nat→Option Ob)→Nat→Option X} {g:X→Bool} {F:X→J7} {s:E7} (hs:B2 P T f s)
  (h:∀ args of nx x,rec args of nx=some x→g x=true→∃ n ro of0,n≤(F x).nx∧s args of0 nx=some ⟨(F x).val,(F x).wo,ro,n⟩∧∀ id∈ro,of id=of0 id):A5S P T f (B1K rec g F).dir:=by
 intro c e of args vals nx out hos hr hu hv
 unfold H4.dir B1K at hr
 cases hx:rec args of nx with
 | none=>rw [hx] at hr;cases hr
 | some x =>
 rw [hx] at hr
 simp only at hr
 cases hg:g x with
 | false=>rw [hg] at hr;cases hr
 | true =>
 rw [hg] at hr
 simp only [cond_true,D9B] at hr
 subst hr
 obtain ⟨n,ro,of0,h1,h2,h3⟩:=h args of nx x hx hg
 have:=hs c e of0 of args vals nx _ hos h2 h3 (fun id h3 h4=>hu id h3 (Nat.lt_of_lt_of_le h4 h1)) hv
 exact E0 this (fun x w hl=>C0e h1 hl)
open Go.RowKit Go.Sort
variable {R:Type}
theorem A3t {o:Ob} {of:Nat→Option Ob} (h:of 0=some o) {ro:List Nat} (hr:∀ id∈ro,id=0):∀ id∈ro,of id=ofL [o] id:=fun id A4=>by
 rw [hr id A4,h];rfl
variable {P:Program} {T:TT}
open Go.RowKit Go.Sort
variable {R:Type}
open Go.RowKit Go.Sort
variable {P:Program} {T:TT}
variable {P:Program} {T:TT} {c:F6} {e:B6} {of:Nat→Option Ob}
variable {a kt st el:Nat} {es es':List (V×V×Bool)}
def A11 (es:List (V×V×Bool)):List (V×V×Bool):=es.map fun p=>(p.1,p.2.1,false)
theorem A7a:(A11 es).map (·.1)=es.map (·.1):=by simp [A11,Function.comp_def]
theorem A80 {b:Nat}:∀ {es:List (V×V×Bool)} {ms:List MapEntry},B0E T e kt st es ms→SR T e b kt st el none (A11 es) ms []:=by
 intro es
 induction es with
 | nil=>intro ms h;obtain ⟨h1,_⟩:=h;cases ms with
  | nil=>exact .nil
  | cons m r=>cases h1
 | cons p r ih =>
  intro ms h
  obtain ⟨h1,h2⟩:=h
  cases ms with
  | nil=>cases h1
  | cons m s =>
   obtain ⟨k,x,q⟩:=p
   obtain ⟨g1,g2⟩:=h2 0 k x q m rfl rfl
   exact SR.cons (bs:=[]) (A0S.data g1 g2) (by simp) (ih (ms:=s) ⟨by simpa using h1,fun i k x q m p1 p2=>h2 (i+1) k x q m (by simpa using p1) (by simpa using p2)⟩)
theorem B0E.mono {e e':B6} (he:e.le e') {ms:List MapEntry} (h:B0E T e kt st es ms):B0E T e' kt st es ms:=⟨h.1,fun i k x q m p1 p2=>⟨(h.2 i k x q m p1 p2).1.mono he,(h.2 i k x q m p1 p2).2.mono he⟩⟩
theorem C2n (h:A8 T c e of) {id:Nat} (hof:of id=some (.sm kt st el es none)) :
  ∃ S':Nat→Nat→Prop,A8 T c { e with S:=S' } (D9 of id (some (.sm kt st el (A11 es) none)))∧e.le { e with S:=S' } ∧
   ∃ b ms clock es',e.ι id=some (b,0)∧e.w.heap[b]? = some (.map ms clock)∧StB ms clock∧es'.Perm es∧B0E T { e with S:=S' } kt st es' ms.toList:=by
 obtain ⟨u1,u2,hks,hz,hz3,b,ms,clock,v3,v4,⟨v5,vb⟩,es',bs,v6,v7⟩:=h.ok _ _ hof
 obtain ⟨S',h1,h2,h3⟩:=B5e h hof v3 v4 vb v6 v5 v7
 refine ⟨S',?_,h2,b,ms,clock,es',v3,v4,vb,v6,h3⟩
 refine h1.turn hof (B6.le.refl _) (fun _ _=>rfl) (fun _ _=>rfl) (fun _ q=>q) (fun _ _ _=>rfl) (Nat.le_refl _) (fun _ _ q=>.inl q) (fun b q hb=>.inl ⟨q,hb⟩) rfl rfl rfl ?_
 exact ⟨u1,u2,hks,hz,hz3,b,ms,clock,v3,v4,⟨by rw [A7a];exact v5,vb⟩,A11 es',[],v6.map _,A80 h3⟩
def A81:E7:=fun args of nx =>
 match args with
 | [.m id]=>match of id with
  | some (.sm kt st el es none)=>some ⟨.m nx,[(id,.sm kt st el (A11 es) none),(nx,.sm kt st el (A11 es) none)],[id],nx+1⟩
  | _=>none
 | _=>none
theorem B1L {f:Nat} (hC:A25 P f) (hen:∀ args w,(callFunc f args).run P w=.ok (.enter f args) w):B2 P T f A81:=by
 intro c e of of' as0 vals nx out hos hs hro hu hvals
 unfold A81 at hs
 split at hs<;>try (cases hs;done)
 rename_i id
 split at hs<;>try (cases hs;done)
 rename_i kt st el es hof
 injection hs with hs;subst hs
 have hof':=(hro id (by simp)).trans hof
 obtain ⟨u1,u2,hks,hz,hz3,_⟩:=hos.ok _ _ hof'
 obtain ⟨S',h1,h2,b,ms,clock,es',v3,v4,vb,v6,v7⟩:=C2n hos hof'
 obtain ⟨_,_,_,_,_,_,_,_,_,_,⟨v5,_⟩,_⟩:=hos.ok _ _ hof'
 obtain ⟨x,hv,hx⟩:∃ x,vals.toList=[x]∧B9 T e (.m id) x:=by
  cases hvals':vals.toList with
  | nil=>rw [hvals'] at hvals;cases hvals
  | cons x r =>
   rw [hvals'] at hvals
   cases hvals with
   | cons g1 g2=>cases g2;exact ⟨x,rfl,g1⟩
 obtain ⟨b',_,_,k3,k4⟩:=G9 hx
 rw [v3] at k3;cases k3
 have hva:vals=#[.map (some b)]:=by rw [← k4];exact A8O hv
 subst hva
 have hun:¬ e.U nx:=hu nx (Nat.le_refl _) (Nat.lt_succ_self _)
 refine .inr (.inr (.inl ⟨f,_,e.w,hen _ _,(hC b ms clock e.w v4).mono fun en w' ⟨g1,g2⟩=>⟨_,g1,?_⟩⟩))
 have hle:=h1.le_newM hun (.map ms clock)
 refine ⟨({ e with S:=S' }:B6).newM nx (.map ms clock),g2.symm,h1.newM hun ?_,h2.trans hle,fun j hj=>hj.elim (fun q=>.inr (by subst q;exact ⟨Nat.le_refl _,Nat.lt_succ_self _⟩)) .inl,?_⟩
 ·exact ⟨.inl rfl,upd_same _ _ _,hks,hz,hz3,e.w.heap.size,ms,clock,upd_same _ _ _,G7 _ _,⟨by rw [A7a];exact v5,vb⟩,A11 es',[],v6.map _,A80 (v7.mono hle)⟩
 ·exact RA.r ⟨e.w.heap.size,.inl rfl,upd_same _ _ _,upd_same _ _ _,rfl⟩ rfl .nil
def Y5:E7:=fun args of nx=>match B15 args of nx with
 | some o=>some o
 | none=>A81 args of nx
theorem A1E {f:Nat} (hC:A25 P f) (hen:∀ args w,(callFunc f args).run P w=.ok (.enter f args) w):B2 P T f Y5:=by
 intro c e of of' as0 vals nx out hos hs hro hu hvals
 unfold Y5 at hs
 split at hs
 ·rename_i o ho;cases hs;exact B5a hC hen c e of of' as0 vals nx _ hos ho hro hu hvals
 ·exact B1L hC hen c e of of' as0 vals nx _ hos hs hro hu hvals
variable {P:Program} {T:TT} {c:F6} {e eb:B6} {of of':Nat→Option Ob}
def C9o (C:Act→World→Prop) (Q:Exit→Act→World→Prop):Exit→Act→World→Prop
 | .normal=>C
 | ex=>Q ex
theorem C0g {F:Fence} {n:Nat} {o:Oper} {a:Act} {w:World} {K C:Act→World→Prop} {Q:Exit→Act→World→Prop} (h:o.wpIn F n P a w K (C9o C Q)):o.wpIn F n P a w K Q:=by
 unfold Oper.wpIn at *
 refine ⟨h.1,?_⟩
 have hh:=h.2
 generalize (o.semAt F.round a.eval).run P w=r at *
 cases r with
 | ok x w' =>
  cases x<;>simp only [Oper.uponIn] at hh ⊢ <;>
   first
    | exact hh
    | exact ⟨hh.1,CallsIn.mono hh.2 (fun e w'' he=>by cases e<;>exact he)⟩
    | exact ⟨hh.1,RoundIn.mono hh.2 (fun e w'' he=>by cases e<;>exact he)⟩
 | halt x w'=>cases x<;>simp only [Oper.uponIn] at hh ⊢<;>exact hh
variable {P:Program} {T:TT} {c:F6} {e eb:B6} {of of':Nat→Option Ob}
variable {kt st el:Nat} {es:List (V×V×Bool)}
theorem A82 {ms:Array MapEntry} {clock:Nat} {k z:Value} (h:StB ms clock):(ms.push { key:=k,val:=z,born:=clock }).findIdx? (fun e=>((e.born:Nat):Int) == ((clock:Nat):Int))=some ms.size:=by
 rw [Array.findIdx?_eq_some_iff_getElem]
 refine ⟨by simp,by simp,fun j hj=>?_⟩
 have hj':j < ms.size:=hj
 have h1:=h.1 ms[j] (by simp)
 rw [Array.getElem_push_lt hj']
 simp;omega
structure D3X (T:TT) (ops:Array Oper) (nt k t da db:Nat) (m key v:Operand):Prop where
 o1:∃ ty pos af,ops[k]? = some ⟨some da,.mapEntry t m key,ty,pos,af,none⟩
 o2:∃ ty pos af,ops[k+1]? = some ⟨some db,.extract (.tmp da) 1,ty,pos,af,none⟩
 o3:∃ ty pos af,ops[k+2]? = some ⟨none,.entryStore t m (.tmp db) v,ty,pos,af,none⟩
 m1:m≠.tmp da
 m2:m≠.tmp db
 v1:v≠.tmp da
 v2:v≠.tmp db
 da_lt:da < nt
 db_lt:db < nt
 ok:∀ o∈ops.toList.drop (k+3),V8 nt o=true
theorem A7b {s:Sem Unit} {w:World} {R:Value→World→Prop} (h:C8 P (do s;pure .skip) w R):∃ w',s.run P w=.ok () w'∧R undef w':=by
 rcases h with ⟨x,w',h1,_⟩ | ⟨w',h1,h2⟩ | ⟨f',args,w1,h1,_⟩ | ⟨_,_,_,_,_,w1,h1,_⟩
 all_goals
  simp only [Sem.run_bind] at h1
  cases hs:s.run P w with
  | ok u w2=>rw [hs] at h1;simp [Result.andThen] at h1<;>(try (subst h1;exact ⟨w2,rfl,h2⟩))
  | halt q w2=>rw [hs] at h1;simp [Result.andThen] at h1
variable {P:Program} {T:TT} {c:F6} {e eb:B6} {of of':Nat→Option Ob}
variable {P:Program} {T:TT} {c:F6} {e eb:B6} {of of':Nat→Option Ob}
def zeq:Value→Value→Bool
 | .pointer none,.pointer none=>true
 | .slice none 0 0,.slice none 0 0=>true
 | .map none,.map none=>true
 | .nilFunc,.nilFunc=>true
 | _,_=>false
theorem C9p {a b:Value} (h:zeq a b=true):a=b:=by
 unfold zeq at h
 split at h<;>first | rfl | cases h
def nlq:List Nat→List Nat→Bool
 | [],[]=>true
 | a::r,b::s=>Nat.beq a b&&nlq r s
 | _,_=>false
theorem A31:∀ {a b:List Nat},nlq a b=true→a=b
 | [],[],_=>rfl
 | [],_::_,h=>by cases h
 | _::_,[],h=>by cases h
 | a::r,b::s,h=>by
  simp only [nlq,D9z] at h
  rw [D9y h.1,A31 h.2]
mutual
def aeq:A→A→Bool
 | .i k n,.i k' n'=>(k == k')&&ieq n n'
 | .b x,.b y=>x == y
 | .s l,.s m=>V9 l m
 | .z v,.z w=>zeq v w
 | .v t x,.v t' y=>Nat.beq t t'&&T7 x y
 | .p i t p,.p i' t' p'=>Nat.beq i i'&&Nat.beq t t'&&nlq p p'
 | .e i v j t p,.e i' v' j' t' p'=>Nat.beq i i'&&Nat.beq v v'&&Nat.beq j j'&&Nat.beq t t'&&nlq p p'
 | .c t x,.c t' y=>Nat.beq t t'&&T7 x y
 | .q t x,.q t' y=>Nat.beq t t'&&T7 x y
 | .o i v,.o i' v'=>Nat.beq i i'&&Nat.beq v v'
 | .w i v o n,.w i' v' o' n'=>Nat.beq i i'&&Nat.beq v v'&&Nat.beq o o'&&Nat.beq n n'
 | .a i t p l m,.a i' t' p' l' m'=>Nat.beq i i'&&Nat.beq t t'&&nlq p p'&&Nat.beq l l'&&Nat.beq m m'
 | .m i,.m i'=>Nat.beq i i'
 | .y i,.y i'=>Nat.beq i i'
 | .f f l,.f f' l'=>Nat.beq f f'&&A6M l l'
 | .g t l,.g t' l'=>Nat.beq t t'&&A6M l l'
 | .t l,.t l'=>A6M l l'
 | .x,.x=>true
 | _,_=>false
def A6M:List A→List A→Bool
 | [],[]=>true
 | a::r,b::s=>aeq a b&&A6M r s
 | _,_=>false
end
mutual
theorem A83:∀ (a b:A),aeq a b=true→a=b:=by
 intro a b h
 cases a<;>cases b<;>simp only [aeq,D9z,Bool.false_eq_true,reduceCtorEq] at h ⊢
 case i.i=>obtain ⟨h1,h2⟩:=h;rw [eq_of_beq h1,Y4.1 h2]
 case b.b=>rw [eq_of_beq h]
 case s.s=>rw [(T9 _ _).1 h]
 case z.z=>rw [C9p h]
 case v.v=>rw [D9y h.1,(F3 _ _).1 h.2]
 case p.p=>obtain ⟨⟨h1,h2⟩,h3⟩:=h;rw [D9y h1,D9y h2,A31 h3]
 case e.e=>obtain ⟨⟨⟨⟨h1,h2⟩,h3⟩,h4⟩,h5⟩:=h;rw [D9y h1,D9y h2,D9y h3,D9y h4,A31 h5]
 case c.c=>rw [D9y h.1,(F3 _ _).1 h.2]
 case q.q=>rw [D9y h.1,(F3 _ _).1 h.2]
 case o.o=>rw [D9y h.1,D9y h.2]
 case w.w=>obtain ⟨⟨⟨h1,h2⟩,h3⟩,h4⟩:=h;rw [D9y h1,D9y h2,D9y h3,D9y h4]
 case a.a=>obtain ⟨⟨⟨⟨h1,h2⟩,h3⟩,h4⟩,h5⟩:=h;rw [D9y h1,D9y h2,A31 h3,D9y h4,D9y h5]
 case m.m=>rw [D9y h]
 case y.y=>rw [D9y h]
 case f.f=>rw [D9y h.1,A3u _ _ h.2]
 case g.g=>rw [D9y h.1,A3u _ _ h.2]
 case t.t=>rw [A3u _ _ h]
theorem A3u:∀ (a b:List A),A6M a b=true→a=b
 | [],[],_=>rfl
 | [],_::_,h=>by simp [A6M] at h
 | _::_,[],h=>by simp [A6M] at h
 | a::r,b::s,h=>by
  simp only [A6M,D9z] at h
  rw [A83 a b h.1,A3u r s h.2]
end
def C0h:List (V×V×Bool)→List (V×V×Bool)→Bool
 | [],[]=>true
 | (a,b,q)::r,(a',b',q')::s=>T7 a a'&&T7 b b'&&(q == q')&&C0h r s
 | _,_=>false
theorem B3C:∀ {a b:List (V×V×Bool)},C0h a b=true→a=b
 | [],[],_=>rfl
 | [],_::_,h=>by cases h
 | _::_,[],h=>by cases h
 | (a,b,q)::r,(a',b',q')::s,h=>by
  simp only [C0h,D9z] at h
  rw [(F3 _ _).1 h.1.1.1,(F3 _ _).1 h.1.1.2,eq_of_beq h.1.2,B3C h.2]
def C0i:List (V×V)→List (V×V)→Bool
 | [],[]=>true
 | (a,b)::r,(a',b')::s=>T7 a a'&&T7 b b'&&C0i r s
 | _,_=>false
theorem B3D:∀ {a b:List (V×V)},C0i a b=true→a=b
 | [],[],_=>rfl
 | [],_::_,h=>by cases h
 | _::_,[],h=>by cases h
 | (a,b)::r,(a',b')::s,h=>by
  simp only [C0i,D9z] at h
  rw [(F3 _ _).1 h.1.1,(F3 _ _).1 h.1.2,B3D h.2]
def C0j:Ob→Ob→Bool
 | .box t a s,.box t' a' s'=>Nat.beq t t'&&aeq a a'&&(s == s')
 | .row el v xs n s,.row el' v' xs' n' s'=>Nat.beq el el'&&Nat.beq v v'&&V9 xs xs'&&(n == n')&&(s == s')
 | .vm k et es,.vm k' et' es'=>Nat.beq k k'&&Nat.beq et et'&&C0i es es'
 | .sm k st el es none,.sm k' st' el' es' none=>Nat.beq k k'&&Nat.beq st st'&&Nat.beq el el'&&C0h es es'
 | .lp none,.lp none=>true
 | .it none,.it none=>true
 | _,_=>false
theorem B3E {a b:Ob} (h:C0j a b=true):a=b:=by
 unfold C0j at h
 split at h<;>simp only [D9z,Bool.false_eq_true] at h
 ·rw [D9y h.1.1,A83 _ _ h.1.2,eq_of_beq h.2]
 ·obtain ⟨⟨⟨⟨h1,h2⟩,h3⟩,h4⟩,h5⟩:=h;rw [D9y h1,D9y h2,(T9 _ _).1 h3,eq_of_beq h4,eq_of_beq h5]
 ·rw [D9y h.1.1,D9y h.1.2,B3D h.2]
 ·obtain ⟨⟨⟨h1,h2⟩,h3⟩,h4⟩:=h;rw [D9y h1,D9y h2,D9y h3,B3C h4]
 ·rfl
 ·rfl
def B6Z:List (Nat×Ob)→List (Nat×Ob)→Bool
 | [],[]=>true
 | (i,o)::r,(j,p)::s=>Nat.beq i j&&C0j o p&&B6Z r s
 | _,_=>false
theorem A84:∀ {a b:List (Nat×Ob)},B6Z a b=true→a=b
 | [],[],_=>rfl
 | [],_::_,h=>by cases h
 | _::_,[],h=>by cases h
 | (i,o)::r,(j,p)::s,h=>by
  simp only [B6Z,D9z] at h
  rw [D9y h.1.1,B3E h.1.2,A84 h.2]
variable {P:Program} {T:TT} {c:F6} {e eb:B6} {of of':Nat→Option Ob}
def B60 (P:Program) (T:TT) (nt n0:Nat) (of:Nat→Option Ob) (code:Code) (σ:St) (l:List (Exit×St)):Prop :=
 (l≠[]∧∀ o∈l,σ.le o.2)∧∀ (m:Nat) (of':Nat→Option Ob) (c:F6) (eb:B6) (a:Act) (w:World),n0≤σ.nx→(∀ o∈l,A0d of of' eb n0 o.2)→A6v T eb of'→X1 T c eb of' n0 nt σ a w→code.wpIn (WF c.rd) m P (fun ex a' w'=>∃ o∈l,ex=o.1∧X1 T c eb of' n0 nt o.2 a' w') a w
theorem A1Z.toN {nt n0:Nat} {code:Code} {σ σ':St} {ex:Exit} (h:A1Z P T nt n0 of code σ ex σ'):B60 P T nt n0 of code σ [(ex,σ')] :=
 ⟨⟨by simp,fun o ho=>by simp at ho;subst ho;exact h.1⟩,fun m of' c eb a w hn hf hb hs=>H9 (fun ex' a' w' ⟨h1,h2⟩=>⟨_,List.mem_singleton.2 rfl,h1,h2⟩) (h.2 m of' c eb a w hn (hf _ (List.mem_singleton.2 rfl)) hb hs)⟩
abbrev A2b:=(Nat→Option Ob)→St→Option (List (Exit×St))
def A2c (P:Program) (T:TT) (nt n0:Nat) (code:Code) (r:A2b):Prop:=∀ of σ l,r of σ=some l→B60 P T nt n0 of code σ l
def B61 (T:TT) (K:KS) (fu nt:Nat) (code:Code):A2b:=fun of σ=>match H5 T K (fun _=>none) fu nt of code σ with
 | some p=>some [p]
 | none=>none
theorem A85 (hm:P.follows .mixedOrders=true) (hT:H2 T P) {K:KS} (hK:KOK P T K) {fu nt n0:Nat} {code:Code}:A2c P T nt n0 code (B61 T K fu nt code):=by
 intro of σ l h
 unfold B61 at h
 split at h<;>try (cases h;done)
 rename_i p hp
 injection h with h;subst h
 obtain ⟨ex,σ'⟩:=p
 exact (A00 hm hT hK code (D2 _) _ _ _ hp).toN
def A6N (r:A2b) (of:Nat→Option Ob):List (Exit×St)→Option (List (Exit×St))
 | []=>some []
 | (.normal,σ)::l=>match r of σ,A6N r of l with
  | some a,some b=>some (a++b)
  | _,_=>none
 | (ex,σ)::l=>match A6N r of l with
  | some b=>some ((ex,σ)::b)
  | none=>none
theorem A5x {r:A2b}:∀ {l l':List (Exit×St)},A6N r of l=some l'→∀ o∈l,(o.1=.normal∧∃ a,r of o.2=some a∧∀ x∈a,x∈l')∨(o.1≠.normal∧o∈l'):=by
 intro l
 induction l with
 | nil=>intro l' _ o ho;cases ho
 | cons p l ih =>
  intro l' h o ho
  obtain ⟨ex,σ⟩:=p
  by_cases hex:ex=.normal
  ·subst hex
   simp only [A6N] at h
   split at h<;>try (cases h;done)
   rename_i a b h1 h2
   injection h with h;subst h
   rcases List.mem_cons.1 ho with rfl | ho
   ·exact .inl ⟨rfl,a,h1,fun x hx=>List.mem_append_left _ hx⟩
   ·rcases ih h2 o ho with ⟨g1,a',g2,g3⟩ | ⟨g1,g2⟩
    ·exact .inl ⟨g1,a',g2,fun x hx=>List.mem_append_right _ (g3 x hx)⟩
    ·exact .inr ⟨g1,List.mem_append_right _ g2⟩
  ·have h':(match A6N r of l with
    | some b=>some ((ex,σ)::b)
    | none=>none)=some l':=by
    cases ex<;>first | exact absurd rfl hex | exact h
   split at h'<;>try (cases h';done)
   rename_i b h2
   injection h' with h';subst h'
   rcases List.mem_cons.1 ho with rfl | ho
   ·exact .inr ⟨hex,List.mem_cons_self ..⟩
   ·rcases ih h2 o ho with ⟨g1,a',g2,g3⟩ | ⟨g1,g2⟩
    ·exact .inl ⟨g1,a',g2,fun x hx=>List.mem_cons_of_mem _ (g3 x hx)⟩
    ·exact .inr ⟨g1,List.mem_cons_of_mem _ g2⟩
theorem B4H {r:A2b}:∀ {l l':List (Exit×St)},A6N r of l=some l'→∀ x∈l',∃ o∈l,(o.1=.normal∧∃ a,r of o.2=some a∧x∈a)∨x=o:=by
 intro l
 induction l with
 | nil=>intro l' h x hx;simp [A6N] at h;subst h;cases hx
 | cons p l ih =>
  intro l' h x hx
  obtain ⟨ex,σ⟩:=p
  by_cases hex:ex=.normal
  ·subst hex
   simp only [A6N] at h
   split at h<;>try (cases h;done)
   rename_i a b h1 h2
   injection h with h;subst h
   rcases D9J.1 hx with hx | hx
   ·exact ⟨_,List.mem_cons_self ..,.inl ⟨rfl,a,h1,hx⟩⟩
   ·obtain ⟨o,ho,g⟩:=ih h2 x hx
    exact ⟨o,List.mem_cons_of_mem _ ho,g⟩
  ·have h':(match A6N r of l with
    | some b=>some ((ex,σ)::b)
    | none=>none)=some l':=by
    cases ex<;>first | exact absurd rfl hex | exact h
   split at h'<;>try (cases h';done)
   rename_i b h2
   injection h' with h';subst h'
   rcases List.mem_cons.1 hx with rfl | hx
   ·exact ⟨_,List.mem_cons_self ..,.inr rfl⟩
   ·obtain ⟨o,ho,g⟩:=ih h2 x hx
    exact ⟨o,List.mem_cons_of_mem _ ho,g⟩
def B62 (r1 r2:A2b):A2b:=fun of σ=>match r1 of σ with
 | some l=>A6N r2 of l
 | none=>none
theorem A86 {nt n0:Nat} {x y:Code} {r1 r2:A2b} (h1:A2c P T nt n0 x r1) (h2:A2c P T nt n0 y r2):A2c P T nt n0 (.seq x y) (B62 r1 r2):=by
 intro of σ l h
 unfold B62 at h
 split at h<;>try (cases h;done)
 rename_i l1 hl1
 obtain ⟨g1,g2⟩:=h1 of σ l1 hl1
 have hle:∀ o∈l,σ.le o.2:=fun x hx=>by
  obtain ⟨o,ho,⟨_,a,ha,hxa⟩ | rfl⟩:=B4H h x hx
  ·exact (g1.2 o ho).trans ((h2 of o.2 a ha).1.2 x hxa)
  ·exact g1.2 x ho
 have hne:l≠[]:=by
  obtain ⟨hn1,_⟩:=g1
  cases l1 with
  | nil=>exact absurd rfl hn1
  | cons o l1 =>
   rcases A5x h o (List.mem_cons_self ..) with ⟨_,b,hb1,hb2⟩ | ⟨_,q⟩
   ·have:=(h2 of o.2 b hb1).1.1
    cases b with
    | nil=>exact absurd rfl this
    | cons y r=>intro q;have:=hb2 y (List.mem_cons_self ..);rw [q] at this;cases this
   ·intro q2;rw [q2] at q;cases q
 refine ⟨⟨hne,hle⟩,fun m of' c eb a w hn hf hb hs=>?_⟩
 have hf1:∀ o∈l1,A0d of of' eb n0 o.2:=fun o ho=>by
  rcases A5x h o ho with ⟨_,b,hb1,hb2⟩ | ⟨_,q⟩
  ·obtain ⟨k1,k2⟩:=h2 of o.2 b hb1
   cases b with
   | nil=>exact absurd rfl k1.1
   | cons y r=>exact (hf y (hb2 y (List.mem_cons_self ..))).mono (k1.2 y (List.mem_cons_self ..))
  ·exact hf o q
 refine wpIn_seq (H9 ?_ (g2 m of' c eb a w hn hf1 hb hs))
 rintro ex a' w' ⟨o,ho,rfl,hs'⟩
 obtain ⟨ex,σ1⟩:=o
 rcases A5x h _ ho with ⟨q,b,hb1,hb2⟩ | ⟨q,hmem⟩
 ·simp only at q;subst q
  obtain ⟨k1,k2⟩:=h2 of σ1 b hb1
  exact H9 (fun ex' a2 w2 ⟨o2,ho2,h3,h4⟩=>⟨o2,hb2 o2 ho2,h3,h4⟩) (k2 m of' c eb a' w' (Nat.le_trans hn (g1.2 _ ho).2) (fun o2 ho2=>hf o2 (hb2 o2 ho2)) hb hs')
 ·simp only at q
  cases ex<;>first | exact absurd rfl q | exact ⟨_,hmem,rfl,hs'⟩
def A3v (nx:Nat) (f:J7):J7:={ f with wo:=match f.val with
 | .o id _=>f.wo.filter fun p=>Nat.blt p.1 nx||Nat.ble f.nx p.1||Nat.beq p.1 id
 | _=>f.wo }
theorem B4I {nx:Nat} {f:J7} (hb:A6v T e of') (hf:∀ id,nx≤id→id < f.nx→¬ e.U id) {id:Nat} {o:Ob} (ho:put of' (A3v nx f).wo id=some o):put of' f.wo id=some o:=by
 unfold A3v at ho
 simp only at ho
 split at ho
 ·rename_i id' _ _
  rw [A3f (fun k=>Nat.blt k nx||Nat.ble f.nx k||Nat.beq k id') _ of' of' id rfl] at ho
  split at ho
  ·exact ho
  ·rename_i hc
   simp only [Bool.or_eq_true,not_or,Nat.blt_eq,Nat.ble_eq,Nat.not_lt,Nat.not_le] at hc
   exact absurd (hb id o ho).use (hf id hc.1.1 hc.1.2)
 ·exact ho
def B0b (T:TT) (nx:Nat) (of:Nat→Option Ob) (fn:Func) (o:Exit×St):Option J7 :=
 if A60 o.1 then
  (match o.2.mks with
  | some ms=>if A4z nx o.2.nx o.2.ob.get ms then
   (match A13 T (C4 o.2.sl) (B5 o.2.ob of) fn.results.toList with
   | some (v,ro)=>some (A3v nx (A0i ms (A0p nx v o.2 ro)))
   | none=>none) else none
  | none=>none) else none
def B1M (a b:J7):Bool:=aeq a.val b.val&&B6Z a.wo b.wo&&nlq a.ro b.ro
theorem B4J {a b:J7} (h:B1M a b=true):a.val=b.val∧a.wo=b.wo∧a.ro=b.ro:=by
 simp only [B1M,D9z] at h
 exact ⟨A83 _ _ h.1.1,A84 h.1.2,A31 h.2⟩
def A87 (T:TT) (nx:Nat) (of:Nat→Option Ob) (fn:Func):List (Exit×St)→Nat→Nat
 | [],n=>n
 | o::l,n=>A87 T nx of fn l (match B0b T nx of fn o with
  | some f=>bif Nat.ble n f.nx then f.nx else n
  | none=>n)
theorem C0k {nx:Nat} {fn:Func}:∀ (l:List (Exit×St)) (n:Nat),n≤A87 T nx of fn l n∧∀ o∈l,∀ f,B0b T nx of fn o=some f→f.nx≤A87 T nx of fn l n:=by
 intro l
 induction l with
 | nil=>intro n;exact ⟨Nat.le_refl _,fun o ho=>by cases ho⟩
 | cons o l ih =>
  intro n
  simp only [A87]
  have h1:n≤(match B0b T nx of fn o with
   | some f=>bif Nat.ble n f.nx then f.nx else n
   | none=>n):=by
   split
   ·rename_i f _
    cases hb:Nat.ble n f.nx with
    | true=>exact D9E hb
    | false=>exact Nat.le_refl _
   ·exact Nat.le_refl _
  obtain ⟨g1,g2⟩:=ih (match B0b T nx of fn o with
   | some f=>bif Nat.ble n f.nx then f.nx else n
   | none=>n)
  refine ⟨Nat.le_trans h1 g1,fun o' ho' f hf=>?_⟩
  rcases List.mem_cons.1 ho' with rfl | ho'
  ·refine Nat.le_trans ?_ g1
   rw [hf]
   simp only
   cases hb:Nat.ble n f.nx with
   | true=>exact Nat.le_refl _
   | false =>
    have:¬ n≤f.nx:=fun q=>by rw [D9I q] at hb;cases hb
    show f.nx≤n
    omega
  ·exact g2 o' ho' f hf
def C0l (T:TT) (fn:Func) (r:A2b):E7:=fun args of nx =>
 if !(fn.name == "runtime.NumGoroutine")&&Nat.ble args.length fn.ntmps then
  (match r of ⟨A1U 0 args,.e,[],nx,some []⟩ with
  | some (o::l)=>match B0b T nx of fn o with
   | some out=>if l.all (fun o'=>match B0b T nx of fn o' with
    | some out'=>B1M out' out
    | none=>false) then some { out with nx:=A87 T nx of fn l out.nx } else none
   | none=>none
  | _=>none) else none
theorem B3F (hm:P.follows .mixedOrders=true) (hT:H2 T P) {f:Nat} {fn:Func} {code:Code} (hf:P.funcs[f]? = some fn) (hb:fn.body=some code) {r:A2b} (hR:∀ n0,A2c P T fn.ntmps n0 code r):B2 P T f (C0l T fn r):=by
 intro c e of of' args vals nx outF hos hr hro hu hvals
 unfold C0l at hr
 split at hr<;>try (cases hr;done)
 rename_i hcc
 simp only [D9z,Bool.not_eq_true'] at hcc
 obtain ⟨hn,hargs⟩:=hcc
 have hargs:=D9E hargs
 split at hr<;>try (cases hr;done)
 rename_i o0 l0 hx
 split at hr<;>try (cases hr;done)
 rename_i out0 hfin0
 split at hr<;>try (cases hr;done)
 rename_i hall0
 injection hr with hr;subst hr
 obtain ⟨mx1,mx2⟩:=C0k (T:=T) (of:=of) (nx:=nx) (fn:=fn) l0 out0.nx
 have hall:∀ o∈o0::l0,∃ fo,B0b T nx of fn o=some fo∧fo.val=out0.val∧fo.wo=out0.wo∧fo.ro=out0.ro∧fo.nx≤A87 T nx of fn l0 out0.nx:=by
  intro o ho
  rcases List.mem_cons.1 ho with rfl | ho
  ·exact ⟨out0,hfin0,rfl,rfl,rfl,mx1⟩
  ·have:=List.all_eq_true.1 hall0 o ho
   split at this
   ·rename_i out' h';obtain ⟨g1,g2,g3⟩:=B4J this;exact ⟨out',h',g1,g2,g3,mx2 o ho _ h'⟩
   ·cases this
 have hone:∀ o∈o0::l0,A60 o.1=true∧∃ ms v ro,o.2.mks=some ms∧A4z nx o.2.nx o.2.ob.get ms=true∧A13 T (C4 o.2.sl) (B5 o.2.ob of) fn.results.toList=some (v,ro)∧(A3v nx (A0i ms (A0p nx v o.2 ro))).val=out0.val∧(A3v nx (A0i ms (A0p nx v o.2 ro))).wo=out0.wo∧(A3v nx (A0i ms (A0p nx v o.2 ro))).ro=out0.ro∧(A3v nx (A0i ms (A0p nx v o.2 ro))).nx≤A87 T nx of fn l0 out0.nx:=by
  intro o ho
  obtain ⟨fo,h,h1,h2,h3,h4⟩:=hall o ho
  unfold B0b at h
  split at h<;>try (cases h;done)
  rename_i hend
  split at h<;>try (cases h;done)
  rename_i ms hmk
  split at h<;>try (cases h;done)
  rename_i hmb
  split at h<;>try (cases h;done)
  rename_i v ro hres
  injection h with h
  exact ⟨hend,ms,v,ro,hmk,hmb,hres,by rw [h];exact h1,by rw [h];exact h2,by rw [h];exact h3,by rw [h];exact h4⟩
 have hcall:(callFunc f vals).run P e.w=.ok (.enter f vals) e.w:=by
  have hn':¬ fn.name="runtime.NumGoroutine":=by simpa using hn
  simp [callFunc,hf,hn',hb]
 refine .inr (.inr (.inl ⟨f,vals,e.w,hcall,?_⟩))
 refine (callsIn_wide (n:=0)).1 (callsIn_of_wp_marks (F:=WF none) hf hb trivial ?_ rfl)
 have hlen:=hvals.get.1
 rw [D9F] at hlen
 have hsim:X1 T { c with rd:=none } e of' nx fn.ntmps ⟨A1U 0 args,.e,[],nx,some []⟩ { tmps:=vals++Array.replicate (fn.ntmps - vals.size) undef,defers:=[] } e.w:=by
  refine ⟨e,rfl,?_,B6.le.refl e,fun id A4=>.inl A4,fun t=>?_,⟨rfl,.nil⟩,by simp;omega⟩
  ·have:B5 Tr.e of'=of':=by funext id;unfold B5;rw [Tr.get_e]
   rw [this];exact hos.ctx none
  ·show B9 T e (C4 (A1U 0 args) t) _
   rw [A4A,if_neg (by omega),Nat.sub_zero]
   by_cases ht:t < args.length
   ·have h1:args[t]? = some args[t]:=D9L ht
    have h2:vals.toList[t]? = some vals[t]:=by rw [Array.getElem?_toList];exact Array.getElem?_eq_getElem (by omega)
    have:=hvals.get.2 t _ _ h1 h2
    have e1:args.getD t .x=args[t]:=by simp [List.getD,h1]
    have e2:(vals++Array.replicate (fn.ntmps - vals.size) undef).getD t undef=vals[t]:=by
     have:t < vals.size:=by omega
     simp [Array.getD,Array.getElem_append_left this]
     omega
    rw [e1]
    show B9 T e _ ((vals++Array.replicate (fn.ntmps - vals.size) undef).getD t undef)
    rw [e2];exact this
   ·rw [show args.getD t .x=.x by simp [List.getD,List.getElem?_eq_none (by omega:args.length≤t)]]
    trivial
 obtain ⟨⟨lne,l1⟩,k1⟩:=hR nx of _ _ hx
 have hfitA:∀ o∈o0::l0,A0d of of' e nx o.2:=by
  intro o ho
  obtain ⟨_,ms,v,ro,_,_,_,_,_,hq3,hq4⟩:=hone o ho
  obtain ⟨q1,q2,q3,q4⟩:=A1V ms (A0p nx v o.2 ro)
  obtain ⟨o1,o2,o3,o4⟩:=A0z nx v o.2 ro
  have e2:out0.ro=W0 o.2.ob ro o.2.rd:=by rw [← hq3];exact q2.trans o2
  have e3:o.2.nx≤A87 T nx of fn l0 out0.nx:=by
   have:(A3v nx (A0i ms (A0p nx v o.2 ro))).nx=o.2.nx:=q3.trans o3
   rw [← this];exact hq4
  exact ⟨fun id A4=>hro id (by show id∈out0.ro;rw [e2];exact L4 _ _ _ _ A4),fun id h1 h2=>hu id h1 (Nat.lt_of_lt_of_le h2 e3)⟩
 refine H9 ?_ (k1 0 of' { c with rd:=none } e _ _ (Nat.le_refl _) hfitA hos.ok hsim)
 rintro ex' a w ⟨o,ho,rfl,e',rfl,hst⟩
 have hfit:=hfitA o ho
 obtain ⟨hend,ms,v,ro,hmk,hmb,hres,hv1,hv2,hv3,hv4⟩:=hone o ho
 obtain ⟨hms,hnd⟩:=A4B _ hmb
 obtain ⟨ex',σ⟩:=o
 simp only at hmk hmb hres hv1 hv2 hv3 hv4 hend hms hfit hst ⊢
 generalize hout:A0i ms (A0p nx v σ ro)=out at hv1 hv2 hv3 hv4
 obtain ⟨q1,q2,q3,q4⟩:=A1V ms (A0p nx v σ ro)
 obtain ⟨o1,o2,o3,o4⟩:=A0z nx v σ ro
 rw [hout] at q1 q2 q3 q4
 have o1:=q1.trans o1
 have o2:=q2.trans o2
 have o3:=q3.trans o3
 have hmarks:=hst.def_
 rw [hmk] at hmarks
 have hms':∀ id∈ms,B5 σ.ob of' id=some (.lp none):=fun id A4=>A0Z (hms id A4).1
 have fin:LeavesInM (WF none) 0 P fn a.tmps (fun en w'=>∃ x,en=.returned x∧P7 T c e of' nx { out0 with nx:=A87 T nx of fn l0 out0.nx } x w') a.defers .returning e'.w:=by
  refine A1W ms a.defers e' (B5 σ.ob of') hmarks.2 hms' hnd hst.os (fun e2 hle hu2 hos2=>?_)
  have hst2:H0 T { c with rd:=none } e (C4 σ.sl) (U9 ms (B5 σ.ob of')) (fun id=>e.U id∨(nx≤id∧id < σ.nx)) fn.ntmps σ.mks a e2 :=
   ⟨hos2,hst.le.trans hle,fun id A4=>hst.U id (hu2 id A4),fun t=>(hst.sl t).mono hle,hst.def_.mono hle,hst.nt⟩
  have hres2:A13 T (C4 σ.sl) (U9 ms (B5 σ.ob of)) fn.results.toList=some (v,ro):=by
   refine A3g (fun id t b sh A4=>?_) hres
   unfold U9
   have:mem id ms=false:=by
    rw [← Bool.not_eq_true];intro q
    rw [A0Z (of:=of) (hms id (mem_iff.1 q)).1] at A4;cases A4
   rw [this];exact A4
  have hagree:=N8 (ob:=σ.ob) (rd:=out.ro) (ro:=ro) (l:=σ.rd) (of:=of) (of':=of') (fun id A4=>hro id (by show id∈out0.ro;rw [← hv3];exact A4)) (by rw [o2];exact fun _ h=>h)
  obtain ⟨x,g1,g2⟩:=A9P hT fn hst2 hres2 (fun id A4=>by
   unfold U9
   rw [hagree id A4])
  refine ⟨x,g1,x,rfl,e2,rfl,?_,hst2.le,fun id A4=>(hst2.U id A4).imp (fun q=>q) (fun q=>⟨q.1,Nat.lt_of_lt_of_le q.2 (by rw [← o3];exact hv4)⟩),by show B9 T e2 out0.val x;rw [← hv1];show B9 T e2 out.val x;rw [o1];exact g2⟩
  refine (hos2.unctx).sub (fun id o ho=>?_)
  have ho:put of' (A3v nx out).wo id=some o:=by rw [hv2];exact ho
  have ho:=B4I (f:=out) hos.ok (fun id h1 h2=>hu id h1 (Nat.lt_of_lt_of_le h2 hv4)) ho
  rcases q4 of' id o ho with ⟨h1,h2⟩ | ⟨h1,h2⟩
  ·obtain ⟨_,h3,h4⟩:=hms id h1
   exact absurd (hos.ok _ _ h2).use (hfit.fr id h3 h4)
  ·have:=A3T (of':=of') hos.ok hfit.fr id o h2
   unfold U9
   have hm':mem id ms=false:=by
    rw [← Bool.not_eq_true];intro q;exact h1 (mem_iff.1 q)
   rw [hm'];exact this
 cases ex' with
 | ret=>exact fin
 | normal=>exact fin
 | _=>cases hend
open Go.ChangeMaps (setBlock)
variable {P:Program} {T:TT} {c:F6} {e eb:B6} {of of':Nat→Option Ob}
theorem A8.add (h:A8 T c e of) {id:Nat} {o:Ob} (hn:of id=none) (ho:OK T e id o) {b0:Nat} (hι:e.ι id=some (b0,0)) (hsep:∀ j b q,(of j).isSome→e.ι j=some (b,q)→b≠b0) (hown:c.w0.heap.size≤b0∨c.M b0) (hG:∀ a,¬ e.G a b0):A8 T c e (D9 of id (some o)):=by
 have ne:∀ j,(D9 of id (some o) j).isSome→j≠id→(of j).isSome:=fun j hj hne=>by rwa [A2 _ _ hne] at hj
 refine ⟨fun j x hj=>?_,fun j k b q b' q' hj hk hb hb' hne=>?_,fun j b q hj hb=>?_,h.lt,h.slt,h.s0,h.snew,h.os,h.tape,h.output,h.size,h.block,⟨fun a b hG' j b' q hj hb=>?_,h.g.uniq,h.g.own,h.g.lt⟩⟩
 ·by_cases A4:j=id
  ·subst A4;rw [upd_same] at hj;cases hj;exact ho
  ·rw [A2 _ _ A4] at hj;exact h.ok _ _ hj
 ·by_cases h1:j=id
  ·subst h1
   rw [hι] at hb;cases hb
   exact (hsep k b' q' (ne k hk (Ne.symm hne)) hb').symm
  ·by_cases h2:k=id
   ·subst h2
    rw [hι] at hb';cases hb'
    exact hsep j b q (ne j hj h1) hb
   ·exact h.sep _ _ _ _ _ _ (ne j hj h1) (ne k hk h2) hb hb' hne
 ·by_cases h1:j=id
  ·subst h1;rw [hι] at hb;cases hb;exact hown
  ·exact h.own _ _ _ (ne j hj h1) hb
 ·by_cases h1:j=id
  ·subst h1;rw [hι] at hb;cases hb;intro q;subst q;exact hG a hG'
  ·exact h.g.sep _ _ hG' _ _ _ (ne j hj h1) hb
theorem H0.slot {sl:Nat→A} {U:Nat→Prop} {nt:Nat} {mk:Option (List Nat)} {a:Act} (h:H0 T c eb sl of U nt mk a e) {d:Nat} {v:A} {x:Value} (hv:B9 T e v x) (hd:d < nt):H0 T c eb (D9 sl d v) of U nt mk (a.put (some d) x) e:=by
 refine ⟨h.os,h.le,h.U,fun t=>?_,h.def_,?_⟩
 ·show B9 T e _ ((a.tmps.setIfInBounds d x).getD t undef)
  rw [Array.getD_eq_getD_getElem?,Array.getElem?_setIfInBounds]
  by_cases ht:t=d
  ·subst ht
   rw [upd_same,if_pos rfl,if_pos (by rw [h.nt];exact hd)]
   exact hv
  ·rw [A2 _ _ ht,if_neg (Ne.symm ht)]
   have:=h.sl t
   rwa [Array.getD_eq_getD_getElem?] at this
 ·show (a.tmps.setIfInBounds d x).size=nt
  rw [Array.size_setIfInBounds];exact h.nt
theorem H0.env {sl:Nat→A} {U U':Nat→Prop} {nt:Nat} {mk:Option (List Nat)} {a:Act} (h:H0 T c eb sl of U nt mk a e) {e':B6} {of2:Nat→Option Ob} (hos:A8 T c e' of2) (hle:e.le e') (hU:∀ id,e'.U id→U' id):H0 T c eb sl of2 U' nt mk a e' :=
 ⟨hos,h.le.trans hle,hU,fun t=>(h.sl t).mono hle,h.def_.mono hle,h.nt⟩
theorem Z1 {a:Act} {d:Nat} {v:Value} (h:d < a.tmps.size):(a.put (some d) v).eval (.tmp d)=v:=by
 show (a.tmps.setIfInBounds d v).getD d undef=v
 rw [Array.getD_eq_getD_getElem?,Array.getElem?_setIfInBounds,if_pos rfl,if_pos h];rfl
theorem A0t {a:Act} {d d':Nat} {v:Value} (h:d'≠d):(a.put (some d) v).eval (.tmp d')=a.eval (.tmp d'):=Act.eval_put (fun q hq=>by cases hq;intro e;cases e;exact h rfl)
theorem A0E {F:Fence} {m:Nat} {ops:Array Oper} {Q:Exit→Act→World→Prop} {i:Nat} {o:Oper} {K:Act→World→Prop} {a:Act} {w w':World} {u:Value} (ho:ops[i]? = some o) (hg:o.guard=none) (hab:∀ f,o.about P w a.eval≠some f) (hdf:∀ c,o.op≠.defer c) (hrun:(execOp a.eval o).run P w=.ok (.value u) w') (hK:K (a.put o.dst u) w'):wpOpIn F m P ops Q i K a w:=by
 unfold wpOpIn
 rw [ho]
 simp only [Region.wanted,hg,if_true]
 unfold Oper.wpIn
 refine ⟨fun f hf=>absurd hf (hab f),?_⟩
 rw [Oper.semAt_plain _ _ _ hdf,hrun]
 exact hK
theorem B1N {F:Fence} {m:Nat} {ops:Array Oper} {C:Act→World→Prop} {Q:Exit→Act→World→Prop}:∀ (l l2:List Nat) (a:Act) (w:World),wpOpsIn F m P ops (C9o C Q) l a w→(∀ a w,C a w→wpOpsIn F m P ops Q l2 a w)→wpOpsIn F m P ops Q (l++l2) a w:=by
 intro l
 induction l with
 | nil=>intro l2 a w h hC;exact hC a w h
 | cons i r ih =>
  intro l2 a w h hC
  rw [List.cons_append,wpOpsIn_cons]
  rw [wpOpsIn_cons] at h
  have h:=wpOpIn_mono (fun a w h=>ih l2 a w h hC) h
  unfold wpOpIn at h ⊢
  cases ho:ops[i]? with
  | none=>rw [ho] at h;exact h
  | some o =>
   rw [ho] at h
   simp only at h ⊢
   split
   ·rename_i hw;rw [if_pos hw] at h;exact C0g h
   ·rename_i hw;rw [if_neg hw] at h;exact h
open Go.ChangeMaps (setBlock)
variable {P:Program} {T:TT} {c:F6} {e eb:B6} {of of':Nat→Option Ob}
abbrev E3:=V×V×Bool
def drp (id:Nat) (f:Nat→Option Ob):Nat→Option Ob:=fun j=>if Nat.beq j id then none else f j
theorem A5y {id j:Nat} {f:Nat→Option Ob} {o:Ob} (h:drp id f j=some o):j≠id∧f j=some o:=by
 unfold drp at h
 split at h
 ·cases h
 ·rename_i hc;exact ⟨fun q=>by subst q;simp at hc,h⟩
theorem B1O {id j:Nat} {f:Nat→Option Ob} (h:j≠id):drp id f j=f j:=by
 unfold drp
 rw [if_neg (by simpa using h)]
theorem A5z {id:Nat} {f:Nat→Option Ob}:drp id f id=none:=by simp [drp]
def B4K (T:TT) (K:KS) (fu nt:Nat) (of:Nat→Option Ob) (id:Nat) (opsR:Array Oper) (n3:Nat) (rest:Code) (σ:St):Option St :=
 match F2 T K opsR (drp id (B5 σ.ob of)) (opsR.toList.drop n3) ⟨σ.sl,.e,[],σ.nx,σ.mks⟩ with
 | some (_,σ1)=>match H5 T K (fun _=>none) fu nt (drp id (B5 σ.ob of)) rest σ1 with
  | some (.normal,σ2)=>match σ2.ob.get id with
   | none=>some ⟨σ2.sl,Z0 σ.ob (σ2.ob.toL fun j=>j),W0 σ.ob σ2.rd σ.rd,σ2.nx,σ2.mks⟩
   | some _=>none
  | _=>none
 | none=>none
structure B63 (T:TT) (c:F6) (of':Nat→Option Ob) (id nI kt st el bm bI clock:Nat) (ms:Array MapEntry) (seen:Array Nat) (es es':List E3) (e:B6):Prop where
 sm:of' id=some (.sm kt st el (A11 es) none)
 ιm:e.ι id=some (bm,0)
 hm:e.w.heap[bm]? = some (.map ms clock)
 UI:e.U nI
 bI0:e.bn nI=0
 tI:e.ty nI=0
 ιI:e.ι nI=some (bI,0)
 hI:e.w.heap[bI]? = some (.mapIter (some bm) clock seen clock)
 gI:∀ x,¬ e.G x bI
 nI:∀ j b q,(of' j).isSome→e.ι j=some (b,q)→b≠bI
 oI:c.w0.heap.size≤bI∨c.M bI
 ents:B0E T e kt st es' ms.toList
 perm:es'.Perm es
theorem C9q {a:Act} {mm nt n0 fu:Nat} (hm:P.follows .mixedOrders=true) (hT:H2 T P) {K:KS} (hK:KOK P T K) {id nI kt st el bm bI clock n3:Nat} {ms:Array MapEntry} {seen:Array Nat} {es es':List E3} {opsR:Array Oper} {rest:Code} {σ σ':St} (hr:B4K T K fu nt of id opsR n3 rest σ=some σ') (hd:∀ o∈opsR.toList.drop n3,V8 nt o=true) (hn3:n3≤opsR.size)
  (hst:H0 T c eb (C4 σ.sl) (B5 σ.ob of') (fun j=>eb.U j∨(n0≤j∧j < σ.nx)) nt σ.mks a e) (hA:B63 T c (B5 σ.ob of') id nI kt st el bm bI clock ms seen es es' e) (hn:n0≤σ.nx) (hfit:A0d of of' eb n0 σ') (hvb:StB ms clock) {Q:Exit→Act→World→Prop}
  (hQ:∀ a' e3,H0 T c eb (C4 σ'.sl) (B5 σ'.ob of') (fun j=>eb.U j∨(n0≤j∧j < σ'.nx)) nt σ'.mks a' e3→B63 T c (B5 σ'.ob of') id nI kt st el bm bI clock ms seen es es' e3→e.le e3→Q .normal a' e3.w) :
  wpOpsIn (WF c.rd) mm P opsR (Exit.then (rest.wpIn (WF c.rd) mm P Q) Q) (List.range' n3 (opsR.size - n3)) a e.w:=by
 unfold B4K at hr
 split at hr<;>try (cases hr;done)
 rename_i Es σ1 h1
 split at hr<;>try (cases hr;done)
 rename_i σ2 h2
 split at hr<;>try (cases hr;done)
 rename_i hid2
 injection hr with hr
 have hos:=hst.os
 have hsome:(B5 σ.ob of' id).isSome:=by rw [hA.sm];rfl
 have hsub:A8 T c e (drp id (B5 σ.ob of')):=hos.sub (fun j o hj=>(A5y hj).2)
 have hov:B5 Tr.e (drp id (B5 σ.ob of'))=drp id (B5 σ.ob of'):=by funext j;unfold B5;rw [Tr.get_e]
 have hσrd:σ'.rd=W0 σ.ob σ2.rd σ.rd:=by rw [← hr]
 have hσnx:σ'.nx=σ2.nx:=by rw [← hr]
 have hag:∀ j∈σ2.rd,B5 σ.ob of' j=B5 σ.ob of j:=N8 (ob:=σ.ob) (rd:=σ'.rd) (l:=σ.rd) hfit.rd (fun j hj=>by rw [hσrd];exact hj)
 have l1:=T3 _ _ _ _ h1
 obtain ⟨l2,k2⟩:=A00 (P:=P) hm hT hK (n0:=σ.nx) rest (D2 _) _ _ _ h2
 have hfr:A0d (drp id (B5 σ.ob of)) (drp id (B5 σ.ob of')) e σ.nx σ2:=by
  refine ⟨fun j hj=>?_,fun j g1 g2 hu=>?_⟩
  ·by_cases hji:j=id
   ·subst hji;rw [A5z,A5z]
   ·rw [B1O hji,B1O hji];exact hag j hj
  ·rcases hst.U j hu with q | q
   ·exact hfit.fr j (Nat.le_trans hn g1) (by rw [hσnx];exact g2) q
   ·omega
 have hsim:X1 T (F6.here e (drp id (B5 σ.ob of')) c.rd) e (drp id (B5 σ.ob of')) σ.nx nt ⟨σ.sl,.e,[],σ.nx,σ.mks⟩ a e.w:=by
  refine ⟨e,rfl,?_,B6.le.refl e,fun j hj=>.inl hj,hst.sl,hst.def_,hst.nt⟩
  rw [hov];exact hsub.here c.rd
 have hp:=A6u (rd:=c.rd) (m:=mm) hT hK (Q:=Exit.then (rest.wpIn (WF c.rd) mm P Q) Q) (opsR.toList.drop n3) n3 _ σ1 Es a e.w (fun j=>.inl (by rw [List.getElem?_drop,Array.getElem?_toList])) hd h1 (Nat.le_refl _) (hfr.mono l2) hsim ?_
 ·rwa [List.length_drop,D9F] at hp
 intro a1 w1 hs1
 show rest.wpIn (WF c.rd) mm P Q a1 w1
 refine H9 ?_ (k2 mm (drp id (B5 σ.ob of')) (F6.here e (drp id (B5 σ.ob of')) c.rd) e a1 w1 l1.2 hfr (fun j o hj=>hsub.ok j o hj) hs1)
 rintro ex a' w' ⟨rfl,e3,rfl,h3⟩
 have hos3:=h3.os
 have hle:=h3.le
 have bmlt:bm < e.w.heap.size:=(Array.getElem?_eq_some_iff.1 hA.hm).1
 have bIlt:bI < e.w.heap.size:=(Array.getElem?_eq_some_iff.1 hA.hI).1
 have nMm:¬ (F6.here e (drp id (B5 σ.ob of')) c.rd).M bm:=by
  rintro (⟨j,o,hj,hb⟩ | ⟨x,hG⟩)
  ·obtain ⟨y,hy⟩:=D9D.1 hj
   obtain ⟨g1,g2⟩:=A5y hy
   exact hos.sep _ _ _ _ _ _ (by rw [g2];rfl) hsome hb hA.ιm g1 rfl
  ·exact hos.g.sep _ _ hG _ _ _ hsome hA.ιm rfl
 have nMI:¬ (F6.here e (drp id (B5 σ.ob of')) c.rd).M bI:=by
  rintro (⟨j,o,hj,hb⟩ | ⟨x,hG⟩)
  ·obtain ⟨y,hy⟩:=D9D.1 hj
   obtain ⟨g1,g2⟩:=A5y hy
   exact hA.nI j _ _ (by rw [g2];rfl) hb rfl
  ·exact hA.gI x hG
 have hm3:e3.w.heap[bm]? = some (.map ms clock):=(hos3.block bm bmlt nMm).trans hA.hm
 have hI3:e3.w.heap[bI]? = some (.mapIter (some bm) clock seen clock):=(hos3.block bI bIlt nMI).trans hA.hI
 obtain ⟨u1,u2,hks,hz,hz3,b',ms',clock',v3,v4,⟨v5,vb⟩,es2,bs2,v6,v7⟩:=hos.ok _ _ hA.sm
 have bn3:e3.bn id=0:=hle.box _ u1 u2
 have ι3:e3.ι id=some (bm,0):=by rw [(hle.obj _ u1 (by omega)).1];exact hA.ιm
 have bnI3:e3.bn nI=0:=hle.box _ hA.UI hA.bI0
 have ιI3:e3.ι nI=some (bI,0):=by rw [(hle.obj _ hA.UI (by rw [bnI3,hA.bI0])).1];exact hA.ιI
 have hents:B0E T e3 kt st es' ms.toList:=hA.ents.mono hle
 have hok:OK T e3 id (.sm kt st el (A11 es) none):=⟨hle.use _ u1,bn3,hks,hz,hz3,bm,ms,clock,ι3,hm3,⟨v5,hvb⟩,A11 es',[],hA.perm.map _,A80 hents⟩
 have own3:∀ j b q,(B5 σ2.ob (drp id (B5 σ.ob of')) j).isSome→e3.ι j=some (b,q)→b≠bm∧b≠bI:=fun j b q hj hb=>by
  rcases hos3.own j b q hj hb with g | g
  ·have g:e.w.heap.size≤b:=g
   exact ⟨by omega,by omega⟩
  ·exact ⟨fun q=>nMm (q ▸ g),fun q=>nMI (q ▸ g)⟩
 have G3:∀ x b,e3.G x b→b≠bm∧b≠bI:=fun x b hG=>by
  rcases hos3.g.own x b hG with g | g
  ·have g:e.w.heap.size≤b:=g
   exact ⟨by omega,by omega⟩
  ·exact ⟨fun q=>nMm (q ▸ g),fun q=>nMI (q ▸ g)⟩
 have hback:A8 T c e3 (B5 σ2.ob (drp id (B5 σ.ob of'))):=hsub.back_here hos3
 have hidn:B5 σ2.ob (drp id (B5 σ.ob of')) id=none:=by unfold B5;rw [hid2];exact A5z
 have hadd:=hback.add hidn hok ι3 (fun j b q hj hb=>(own3 j b q hj hb).1) (hos.own _ _ _ hsome hA.ιm) (fun x hG=>(G3 x bm hG).1 rfl)
 have hfun:B5 σ'.ob of'=D9 (B5 σ2.ob (drp id (B5 σ.ob of'))) id (some (.sm kt st el (A11 es) none)):=by
  have e1:σ'.ob=Z0 σ.ob (σ2.ob.toL fun j=>j):=by rw [← hr]
  rw [e1,X3]
  funext j
  rw [A0C]
  by_cases hji:j=id
  ·subst hji
   rw [upd_same]
   unfold B5
   rw [hid2]
   exact hA.sm
  ·rw [A2 _ _ hji]
   have e2:∀ f:Nat→Option Ob,B5 σ2.ob f j=match σ2.ob.get j with
    | some o=>some o
    | none=>f j:=fun f=>rfl
   rw [e2,e2]
   cases σ2.ob.get j with
   | some o=>rfl
   | none=>exact (B1O (f:=B5 σ.ob of') hji).symm
 refine hQ a' e3 ⟨by rw [hfun];exact hadd,hst.le.trans hle,fun j hj=>?_,by rw [← hr];exact h3.sl,by rw [← hr];exact h3.def_,h3.nt⟩ ⟨by rw [hfun,upd_same],ι3,hm3,hle.use _ hA.UI,bnI3,(hle.ty _ hA.UI).trans hA.tI,ιI3,hI3,fun x hG=>(G3 x bI hG).2 rfl,fun j b q hj hb=>?_,hA.oI,hents,hA.perm⟩ hle
 ·rcases h3.U j hj with q | q
  ·rcases hst.U j q with q | q
   ·exact .inl q
   ·exact .inr ⟨q.1,Nat.lt_of_lt_of_le q.2 (by rw [hσnx];exact Nat.le_trans l1.2 l2.2)⟩
  ·exact .inr ⟨Nat.le_trans hn q.1,by rw [hσnx];exact q.2⟩
 ·rw [hfun] at hj
  by_cases hji:j=id
  ·subst hji
   rw [ι3] at hb;cases hb
   intro q;rw [q] at hm3;rw [hm3] at hI3;cases hI3
  ·rw [A2 _ _ hji] at hj
   exact (own3 j b q hj hb).2
open Go.ChangeMaps (setBlock)
variable {P:Program} {T:TT} {c:F6} {e eb:B6} {of of':Nat→Option Ob}
def B0c:List E3→List (E3×List E3)
 | []=>[]
 | a::r=>(a,r)::(B0c r).map fun q=>(q.1,a::q.2)
theorem A7c:∀ {l:List E3} {p:E3},p∈l→∃ r,(p,r)∈B0c l∧l.Perm (p::r)
 | [],p,h=>by cases h
 | a::l,p,h=>by
  by_cases hpa:p=a
  ·subst hpa;exact ⟨l,List.mem_cons_self ..,List.Perm.refl _⟩
  ·have h:p∈l:=(List.mem_cons.1 h).resolve_left hpa
   obtain ⟨r,h1,h2⟩:=A7c h
   exact ⟨a::r,List.mem_cons_of_mem _ (List.mem_map.2 ⟨_,h1,rfl⟩),(h2.cons a).trans (List.Perm.swap _ _ _)⟩
def A88 (g:E3→List E3→Option (List (Exit×St))):List (E3×List E3)→Option (List (Exit×St))
 | []=>some []
 | (p,r)::ps=>match g p r,A88 g ps with
  | some a,some b=>some (a++b)
  | _,_=>none
theorem B0d {g:E3→List E3→Option (List (Exit×St))}:∀ {ps:List (E3×List E3)} {l:List (Exit×St)},A88 g ps=some l→∀ q∈ps,∃ a,g q.1 q.2=some a∧∀ x∈a,x∈l:=by
 intro ps
 induction ps with
 | nil=>intro l _ q hq;cases hq
 | cons p ps ih =>
  intro l h q hq
  obtain ⟨p1,p2⟩:=p
  simp only [A88] at h
  split at h<;>try (cases h;done)
  rename_i a b h1 h2
  injection h with h;subst h
  rcases List.mem_cons.1 hq with rfl | hq
  ·exact ⟨a,h1,fun x hx=>List.mem_append_left _ hx⟩
  ·obtain ⟨a',g1,g2⟩:=ih h2 q hq
   exact ⟨a',g1,fun x hx=>List.mem_append_right _ (g2 x hx)⟩
theorem B4L {g:E3→List E3→Option (List (Exit×St))}:∀ {ps:List (E3×List E3)} {l:List (Exit×St)},A88 g ps=some l→∀ x∈l,∃ q∈ps,∃ a,g q.1 q.2=some a∧x∈a:=by
 intro ps
 induction ps with
 | nil=>intro l h x hx;simp [A88] at h;subst h;cases hx
 | cons p ps ih =>
  intro l h x hx
  obtain ⟨p1,p2⟩:=p
  simp only [A88] at h
  split at h<;>try (cases h;done)
  rename_i a b h1 h2
  injection h with h;subst h
  rcases D9J.1 hx with hx | hx
  ·exact ⟨_,List.mem_cons_self ..,a,h1,hx⟩
  ·obtain ⟨q,hq,a',g1,g2⟩:=ih h2 x hx
   exact ⟨q,List.mem_cons_of_mem _ hq,a',g1,g2⟩
def D3Y (ta tb:Nat) (σ:St):St:={ σ with sl:=(tb,.b false)::(ta,.x)::σ.sl }
def A4G (ta tb:Nat) (rnd:St→E3→Option St):Nat→List E3→St→Option (List (Exit×St))
 | 0,_,_=>none
 | n+1,rem,σ=>match rem with
  | []=>some [(.normal,D3Y ta tb σ)]
  | rem=>A88 (fun p r=>match rnd σ p with
   | some σ'=>A4G ta tb rnd n r σ'
   | none=>none) (B0c rem)
def B0e (T:TT) (K:KS) (fu nt:Nat) (of:Nat→Option Ob) (id nI kt st ti ta tb te tk tv:Nat) (opsR:Array Oper) (rest:Code) (σ:St) (p:E3):Option St :=
 match B4K T K fu nt of id opsR 3 rest ⟨(tv,norm T (.v st p.2.1))::(tk,norm T (.v kt p.1))::(te,.x)::(tb,.b true)::(ta,.x)::σ.sl,σ.ob,σ.rd,σ.nx,σ.mks⟩ with
 | some σ'=>match C4 σ'.sl ti with
  | .p j 0 []=>if Nat.beq j nI then some σ' else none
  | _=>none
 | none=>none
theorem A32 {K:KS} {fu nt id nI kt st ti ta tb te tk tv:Nat} {opsR:Array Oper} {rest:Code} {σ σ':St} {p:E3} (h:B0e T K fu nt of id nI kt st ti ta tb te tk tv opsR rest σ p=some σ') :
  B4K T K fu nt of id opsR 3 rest ⟨(tv,norm T (.v st p.2.1))::(tk,norm T (.v kt p.1))::(te,.x)::(tb,.b true)::(ta,.x)::σ.sl,σ.ob,σ.rd,σ.nx,σ.mks⟩=some σ'∧C4 σ'.sl ti=.p nI 0 []:=by
 unfold B0e at h
 split at h<;>try (cases h;done)
 rename_i σ1 h1
 split at h<;>try (cases h;done)
 rename_i j hj
 split at h<;>try (cases h;done)
 rename_i hc
 obtain rfl:=D9y hc
 injection h with h;subst h
 exact ⟨h1,hj⟩
theorem B3G {K:KS} {fu nt id n3:Nat} {opsR:Array Oper} {rest:Code} {σ σ':St} (hm:P.follows .mixedOrders=true) (hT:H2 T P) (hK:KOK P T K) (h:B4K T K fu nt of id opsR n3 rest σ=some σ'):σ.le σ':=by
 unfold B4K at h
 split at h<;>try (cases h;done)
 rename_i Es σ1 h1
 split at h<;>try (cases h;done)
 rename_i σ2 h2
 split at h<;>try (cases h;done)
 injection h with h
 have l1:=T3 _ _ _ _ h1
 obtain ⟨l2,_⟩:=A00 (P:=P) hm hT hK (n0:=0) rest (D2 _) _ _ _ h2
 rw [← h]
 exact ⟨fun j hj=>L4 _ _ _ _ hj,Nat.le_trans l1.2 l2.2⟩
structure B64 (opsN opsR:Array Oper) (nt ti ta tb te tk tv:Nat):Prop where
 n0:∃ ty pos af,opsN[0]? = some ⟨some ta,.next (.tmp ti) false,ty,pos,af,none⟩
 n1:∃ ty pos af,opsN[1]? = some ⟨some tb,.extract (.tmp ta) 0,ty,pos,af,none⟩
 nsz:opsN.size=2
 r0:∃ ty pos af,opsR[0]? = some ⟨some te,.entry (.tmp ti),ty,pos,af,none⟩
 r1:∃ ty pos af,opsR[1]? = some ⟨some tk,.extract (.tmp te) 0,ty,pos,af,none⟩
 r2:∃ ty pos af,opsR[2]? = some ⟨some tv,.extract (.tmp te) 1,ty,pos,af,none⟩
 ok:∀ o∈opsR.toList.drop 3,V8 nt o=true
 rsz:3≤opsR.size
 ne:ti≠ta∧ti≠tb∧te≠tk
 lt:ta < nt∧tb < nt∧te < nt∧tk < nt∧tv < nt
def A5A (es':List E3) (ms:List MapEntry) (seen:Array Nat):List E3:=((es'.zip ms).filter fun p=>!seen.contains p.2.born).map (·.1)
theorem B65 {es':List E3} {ms:Array MapEntry} {seen:Array Nat} (h:(leftOf ms seen).size=0):A5A es' ms.toList seen=[]:=by
 unfold A5A
 rw [List.map_eq_nil_iff,List.filter_eq_nil_iff]
 intro p hp
 have:=all_seen ms seen h p.2 (List.of_mem_zip hp).2
 rw [this];simp
theorem B66 {es':List E3} {ms:List MapEntry} (hl:es'.length=ms.length) (hn:(ms.map (·.born)).Nodup):((es'.zip ms).map fun p=>p.2.born).Nodup:=by
 have:(es'.zip ms).map (fun p=>p.2.born)=ms.map (·.born):=by
  have h2:((es'.zip ms).map Prod.snd)=ms:=List.map_snd_zip (by omega)
  rw [← h2,List.map_map]
  rw [h2];rfl
 rw [this];exact hn
theorem B4M {es':List E3} {ms:List MapEntry} {seen:Array Nat} {i:Nat} {p:E3} {m:MapEntry} (hl:es'.length=ms.length) (hn:(ms.map (·.born)).Nodup) (h1:es'[i]? = some p) (h2:ms[i]? = some m) (hs:seen.contains m.born=false):(A5A es' ms seen).Perm (p::A5A es' ms (seen.push m.born)):=by
 have hz:(p,m)∈es'.zip ms:=List.mem_of_getElem? (i:=i) (by rw [List.getElem?_zip_eq_some];exact ⟨h1,h2⟩)
 have:=A5T (fun q:E3×MapEntry=>q.2.born) (fun q=>!(seen.push m.born).contains q.2.born) (fun q=>!seen.contains q.2.born) (es'.zip ms) (p,m) (B66 hl hn) hz (by simp) (fun y hy=>by
  by_cases hb:y.2.born=m.born
  ·rw [hb,hs];simp
  ·have:(seen.push m.born).contains y.2.born=seen.contains y.2.born:=by
    rw [Bool.eq_iff_iff];simp [hb]
   rw [this];simp [hb])
 unfold A5A
 exact this.map (·.1)
open Go.ChangeMaps (setBlock)
variable {P:Program} {T:TT} {c:F6} {e eb:B6} {of of':Nat→Option Ob}
theorem B67 {es':List E3} {ms:List MapEntry} {seen:Array Nat} {i:Nat} {p:E3} {m:MapEntry} (h1:es'[i]? = some p) (h2:ms[i]? = some m) (hs:seen.contains m.born=false):p∈A5A es' ms seen:=by
 unfold A5A
 refine List.mem_map.2 ⟨(p,m),List.mem_filter.2 ⟨List.mem_of_getElem? (i:=i) (by rw [List.getElem?_zip_eq_some];exact ⟨h1,h2⟩),by rw [hs];rfl⟩,rfl⟩
theorem B0f {ta tb:Nat} {rnd:St→E3→Option St} (hrnd:∀ σ p σ',rnd σ p=some σ'→σ.le σ'):∀ (n:Nat) (rem:List E3) (σ:St) (l:List (Exit×St)),A4G ta tb rnd n rem σ=some l→l≠[]∧∀ o∈l,σ.le o.2∧o.1=.normal:=by
 intro n
 induction n with
 | zero=>intro rem σ l h;cases h
 | succ n ih =>
  intro rem σ l h
  cases rem with
  | nil =>
   simp only [A4G,D9B] at h
   subst h
   exact ⟨by simp,fun o ho=>by simp at ho;subst ho;exact ⟨St.le.refl _,rfl⟩⟩
  | cons p r =>
   have h:A88 (fun p r=>match rnd σ p with
    | some σ'=>A4G ta tb rnd n r σ'
    | none=>none) (B0c (p::r))=some l:=h
   refine ⟨?_,fun o ho=>?_⟩
   ·obtain ⟨a,h1,h2⟩:=B0d h (p,r) (List.mem_cons_self ..)
    try simp only at h1
    split at h1<;>try (cases h1;done)
    rename_i σ' hσ
    obtain ⟨g1,g2⟩:=ih _ _ _ h1
    cases a with
    | nil=>exact absurd rfl g1
    | cons x a=>intro q;have:=h2 x (List.mem_cons_self ..);rw [q] at this;cases this
   ·obtain ⟨q,hq,a,h1,h2⟩:=B4L h o ho
    try simp only at h1
    split at h1<;>try (cases h1;done)
    rename_i σ' hσ
    obtain ⟨g1,g2⟩:=ih _ _ _ h1
    exact ⟨(hrnd _ _ _ hσ).trans (g2 o h2).1,(g2 o h2).2⟩
theorem C0m {mm nt n0 fu:Nat} (hm:P.follows .mixedOrders=true) (hT:H2 T P) {K:KS} (hK:KOK P T K) {id nI kt st el bm bI clock ti ta tb te tk tv rN rR id0 id1:Nat} {ms:Array MapEntry} {es es':List E3} {opsN opsR:Array Oper} {rest:Code} (hR:B64 opsN opsR nt ti ta tb te tk tv) (hvb:StB ms clock) {tek tev:TE} (htk:T kt=some tek) (htv:T st=some tev) {Q:Exit→Act→World→Prop} :
  ∀ (n:Nat) (rem:List E3) (σ:St) (l:List (Exit×St)),A4G ta tb (B0e T K fu nt of id nI kt st ti ta tb te tk tv opsR rest) n rem σ=some l→∀ (seen:Array Nat) (a:Act) (e:B6),H0 T c eb (C4 σ.sl) (B5 σ.ob of') (fun j=>eb.U j∨(n0≤j∧j < σ.nx)) nt σ.mks a e→B63 T c (B5 σ.ob of') id nI kt st el bm bI clock ms seen es es' e →
   C4 σ.sl ti=.p nI 0 []→rem.Perm (A5A es' ms.toList seen)→n0≤σ.nx→(∀ o∈l,A0d of of' eb n0 o.2)→(∀ o∈l,∀ a' w',X1 T c eb of' n0 nt o.2 a' w'→Q .normal a' w') →
   Code.roundsIn (WF c.rd) mm P (.seq (.region rN opsN false) (.seq (.cond (.tmp tb) .skip (.exit id0)) (.block id1 (.seq (.region rR opsR false) rest)))) (Exit.inBlock id0 Q) n a e.w:=by
 have hle':∀ σ p σ',B0e T K fu nt of id nI kt st ti ta tb te tk tv opsR rest σ p=some σ'→σ.le σ':=fun σ p σ' h=>have g:=B3G (P:=P) hm hT hK (A32 h).1;⟨g.1,g.2⟩
 obtain ⟨tyn,posn,afn,o0⟩:=hR.n0
 obtain ⟨ty1,pos1,af1,o1⟩:=hR.n1
 obtain ⟨ty2,pos2,af2,r0⟩:=hR.r0
 obtain ⟨ty3,pos3,af3,r1⟩:=hR.r1
 obtain ⟨ty4,pos4,af4,r2⟩:=hR.r2
 obtain ⟨ne1,ne2,ne3⟩:=hR.ne
 obtain ⟨lta,ltb,lte,ltk,ltv⟩:=hR.lt
 intro n
 induction n with
 | zero=>intro rem σ l h;cases h
 | succ n ih =>
  intro rem σ l h seen a e hst hA hti hrem hn hfit hQ
  have hos:=hst.os
  have hsz:a.tmps.size=nt:=hst.nt
  have hit:a.eval (.tmp ti)=.pointer (some ⟨bI,0,none⟩):=by
   have:=hst.sl ti
   rw [hti] at this
   obtain ⟨b,off,_,_,q3,q4,q5⟩:=L5 this
   rw [hA.ιI] at q3;cases q3
   rw [hA.tI] at q4;cases q4
   exact q5
  have hl:=hA.ents.1
  rw [roundsIn_succ]
  refine wpIn_seq (wpIn_region ?_)
  rw [hR.nsz]
  show wpOpsIn _ _ _ _ _ [0,1] _ _
  rw [wpOpsIn_cons]
  rcases run_next_at (P:=P) e.w tyn bI bm clock clock seen ms clock hA.hI hA.hm hvb.1 (Nat.le_refl _) with ⟨h0,hrun⟩ | ⟨m,hme,w1,hw1,hrun⟩
  ·-- nothing is left
   have hrn:rem=[]:=by
    rw [B65 h0] at hrem;exact hrem.eq_nil
   subst hrn
   simp only [A4G,D9B] at h
   refine A0E o0 rfl (fun f=>by simp [Oper.about]) (fun c h=>by cases h) (u:=.tuple #[.bool false]) (w':=e.w) (by simp [execOp,hit,hrun]) ?_
   have s1:=hst.slot (d:=ta) (v:=.x) (x:=.tuple #[.bool false]) trivial lta
   rw [wpOpsIn_cons]
   refine A0E o1 rfl (fun f=>by simp [Oper.about]) (fun c h=>by cases h) (u:=.bool false) (w':=e.w) (by simp [execOp,Z1 (show ta < a.tmps.size by rw [hsz];exact lta),Instr.extract]) ?_
   have s2:=s1.slot (d:=tb) (v:=.b false) (x:=.bool false) (RA.b .nil) ltb
   show (Code.seq _ _).wpIn _ _ _ _ _ _
   refine wpIn_seq (wpIn_cond_false (Z1 (by show tb < (a.tmps.setIfInBounds ta _).size;rw [Array.size_setIfInBounds,hsz];exact ltb)) (wpIn_exit ?_))
   show Exit.inBlock id0 Q (.exit id0) _ _
   simp only [Exit.inBlock,if_true]
   refine hQ (.normal,D3Y ta tb σ) (by rw [← h];exact List.mem_singleton.2 rfl) _ _ ⟨e,rfl,?_⟩
   refine ⟨s2.os,s2.le,s2.U,fun t=>?_,s2.def_,s2.nt⟩
   show B9 T e (C4 ((tb,.b false)::(ta,.x)::σ.sl) t) _
   rw [E9,E9]
   exact s2.sl t
  ·-- an entry comes
   obtain ⟨hmm,hms⟩:=mem_left hme
   obtain ⟨i,hi⟩:=List.mem_iff_getElem?.1 hmm
   have hil:i < es'.length:=by rw [hl];exact (List.getElem?_eq_some_iff.1 hi).1
   obtain ⟨⟨k,x,q⟩,hie⟩:∃ p,es'[i]? = some p:=⟨_,D9L hil⟩
   obtain ⟨hr1,hr2⟩:=hA.ents.2 i k x q m hie hi
   have hstep:=B4M hl hvb.2 hie hi hms
   have hin:(k,x,q)∈rem:=hrem.mem_iff.2 (B67 hie hi hms)
   obtain ⟨r,hp1,hp2⟩:=A7c hin
   have hne:rem≠[]:=fun q=>by rw [q] at hin;cases hin
   have h:A88 (fun p r=>match B0e T K fu nt of id nI kt st ti ta tb te tk tv opsR rest σ p with
    | some σ'=>A4G ta tb (B0e T K fu nt of id nI kt st ti ta tb te tk tv opsR rest) n r σ'
    | none=>none) (B0c rem)=some l:=by
    cases rem with
    | nil=>exact absurd rfl hne
    | cons p r=>exact h
   obtain ⟨lo,g1,g2⟩:=B0d h _ hp1
   simp only at g1
   split at g1<;>try (cases g1;done)
   rename_i σ' hσ
   obtain ⟨hσ1,hσ2⟩:=A32 hσ
   have hw1h:w1.heap=e.w.heap:=by rcases hw1 with rfl | rfl<;>rfl
   obtain ⟨osD,leD⟩:A8 T c { e with w:=w1 } (B5 σ.ob of')∧e.le { e with w:=w1 }:=by
    rcases hw1 with rfl | rfl
    ·exact ⟨hos,B6.le.refl e⟩
    ·exact hos.same_heap rfl rfl rfl rfl
   have bIlt:bI < e.w.heap.size:=(Array.getElem?_eq_some_iff.1 hA.hI).1
   have hbne:bm≠bI:=fun q=>by have:=hA.hm;rw [q,hA.hI] at this;cases this
   obtain ⟨os2,le2⟩:=osD.aside (b:=bI) (g:=.mapIter (some bm) clock seen clock) (g':=.mapIter (some bm) clock (seen.push m.born) clock) hA.oI (fun j q' hj hι=>hA.nI j bI q' hj hι rfl) hA.gI (by show w1.heap[bI]? = _;rw [hw1h];exact hA.hI) (fun _ _ _ q=>by cases q) (fun _ _ _ q=>by cases q) (w':=setBlock w1 bI (.mapIter (some bm) clock (seen.push m.born) clock)) rfl
   generalize hw2:setBlock w1 bI (.mapIter (some bm) clock (seen.push m.born) clock)=w2 at hrun os2 le2
   have hI2:w2.heap[bI]? = some (.mapIter (some bm) clock (seen.push m.born) clock):=by
    rw [← hw2];simp [setBlock,hw1h,bIlt]
   have hm2:w2.heap[bm]? = some (.map ms clock):=by
    rw [← hw2]
    simp only [setBlock,Array.getElem?_setIfInBounds,if_neg (Ne.symm hbne),hw1h]
    exact hA.hm
   have le3:e.le { e with w:=w2 }:=leD.trans le2
   refine A0E o0 rfl (fun f=>by simp [Oper.about]) (fun c h=>by cases h) (u:=.tuple #[.bool true,m.key,m.val]) (w':=w2) (by simp [execOp,hit,hrun]) ?_
   have s0:H0 T c eb (C4 σ.sl) (B5 σ.ob of') (fun j=>eb.U j∨(n0≤j∧j < σ.nx)) nt σ.mks a { e with w:=w2 }:=hst.env os2 le3 (fun j hj=>hst.U j hj)
   have s1:=s0.slot (d:=ta) (v:=.x) (x:=.tuple #[.bool true,m.key,m.val]) trivial lta
   rw [wpOpsIn_cons]
   refine A0E o1 rfl (fun f=>by simp [Oper.about]) (fun c h=>by cases h) (u:=.bool true) (w':=w2) (by simp [execOp,Z1 (show ta < a.tmps.size by rw [hsz];exact lta),Instr.extract]) ?_
   have s2:=s1.slot (d:=tb) (v:=.b true) (x:=.bool true) (RA.b .nil) ltb
   show (Code.seq _ _).wpIn _ _ _ _ _ _
   refine wpIn_seq (wpIn_cond_true (Z1 (by show tb < (a.tmps.setIfInBounds ta _).size;rw [Array.size_setIfInBounds,hsz];exact ltb)) (wpIn_skip ?_))
   show (Code.block id1 _).wpIn _ _ _ _ _ _
   refine wpIn_block (wpIn_seq (wpIn_region ?_))
   rw [List.range_eq_range',show opsR.size=(opsR.size - 3)+1+1+1 by have:=hR.rsz;omega,List.range'_succ,List.range'_succ,List.range'_succ]
   generalize ha2:(a.put (some ta) (.tuple #[.bool true,m.key,m.val])).put (some tb) (.bool true)=a2 at s2 ⊢
   have hsz2:a2.tmps.size=nt:=s2.nt
   have hit2:a2.eval (.tmp ti)=.pointer (some ⟨bI,0,none⟩):=by rw [← ha2,A0t ne2,A0t ne1];exact hit
   have hen:=run_entry_at (P:=P) w2 bI bm clock seen ms clock m hI2 hm2 hmm hvb.2
   rw [wpOpsIn_cons]
   refine A0E r0 rfl (fun f=>by simp [Oper.about]) (fun c h=>by cases h) (u:=.tuple #[m.key,m.val]) (w':=w2) (by simp [execOp,hit2,hen]) ?_
   have s3:=s2.slot (d:=te) (v:=.x) (x:=.tuple #[m.key,m.val]) trivial lte
   rw [wpOpsIn_cons]
   refine A0E r1 rfl (fun f=>by simp [Oper.about]) (fun c h=>by cases h) (u:=m.key) (w':=w2) (by simp [execOp,Z1 (show te < a2.tmps.size by rw [hsz2];exact lte),Instr.extract]) ?_
   have hk:B9 T { e with w:=w2 } (norm T (.v kt k)) m.key:=U0 htk (A3N (hr1.mono le3) (G1 _ _)) (G1 _ _)
   have s4:=s3.slot (d:=tk) hk ltk
   rw [wpOpsIn_cons]
   refine A0E r2 rfl (fun f=>by simp [Oper.about]) (fun c h=>by cases h) (u:=m.val) (w':=w2) (by simp [execOp,A0t ne3,Z1 (show te < a2.tmps.size by rw [hsz2];exact lte),Instr.extract]) ?_
   obtain ⟨_,_,hks,hz,_⟩:=hos.ok _ _ hA.sm
   have hone:Go.Vm.one m.val=true:=hr2.one _ (by simp)
   have hv:B9 T { e with w:=w2 } (norm T (.v st x)) m.val:=U0 htv (A3N (a:=.v st x) ⟨by rw [G0 hone];exact hr2.mono le3,L3 hks rfl hone⟩ (G1 _ _)) (G1 _ _)
   have s5:=s4.slot (d:=tv) hv ltv
   refine C9q (eb:=eb) (n0:=n0) (n3:=3) (Q:=Exit.inBlock id1 (Exit.then _ _)) hm hT hK hσ1 hR.ok hR.rsz (e:={ e with w:=w2 }) ?_ ⟨hA.sm,hA.ιm,hm2,hA.UI,hA.bI0,hA.tI,hA.ιI,hI2,hA.gI,hA.nI,hA.oI,hA.ents.mono le3,hA.perm⟩ hn ?_ hvb (fun a' e3 t1 t2 t3=>?_)
   ·refine ⟨s5.os,s5.le,s5.U,fun t=>?_,s5.def_,s5.nt⟩
    show B9 T _ (C4 ((tv,norm T (.v st x))::(tk,norm T (.v kt k))::(te,.x)::(tb,.b true)::(ta,.x)::σ.sl) t) _
    rw [E9,E9,E9,E9,E9]
    exact s5.sl t
   ·obtain ⟨gl1,gl2⟩:=B0f hle' _ _ _ _ g1
    cases lo with
    | nil=>exact absurd rfl gl1
    | cons y lo=>exact (hfit y (g2 y (List.mem_cons_self ..))).mono (gl2 y (List.mem_cons_self ..)).1
   ·have hrp:r.Perm (A5A es' ms.toList (seen.push m.born)):=((hp2.symm.trans hrem).trans hstep).cons_inv
    exact ih r σ' lo g1 (seen.push m.born) a' e3 t1 t2 hσ2 hrp (Nat.le_trans hn (hle' _ _ _ hσ).2) (fun o ho=>hfit o (g2 o ho)) (fun o ho=>hQ o (g2 o ho))
open Go.ChangeMaps (setBlock)
variable {P:Program} {T:TT} {c:F6} {e eb:B6} {of of':Nat→Option Ob}
def B1P (T:TT) (K:KS) (fu nt:Nat) (ops9:Array Oper) (k9 t:Nat) (xm:Operand) (ti ta tb te tk tv:Nat) (opsR:Array Oper) (rest:Code):A2b:=fun of σ =>
 match F2 T K ops9 of (ops9.toList.take k9) σ with
 | some (_,σ1)=>match C3 T t,A2J (B5 σ1.ob of) (M4 (C4 σ1.sl) xm) with
  | some (.map _ _),some (id,kt,st,el,es,none)=>if (T kt).isSome&&(T st).isSome then
    A4G ta tb (B0e T K fu nt of id σ1.nx kt st ti ta tb te tk tv opsR rest) (es.length+1) es ⟨(ti,.p σ1.nx 0 [])::σ1.sl,σ1.ob.set id (.sm kt st el (A11 es) none),W0 σ1.ob [id] σ1.rd,σ1.nx+1,σ1.mks⟩ else none
  | _,_=>none
 | none=>none
structure D3Z (ops9:Array Oper) (nt k9 t ti:Nat) (xm:Operand):Prop where
 o9:∃ ty pos af,ops9[k9]? = some ⟨some ti,.range t xm,ty,pos,af,none⟩
 sz:ops9.size=k9+1
 ok:∀ o∈ops9.toList.take k9,V8 nt o=true
 lt:ti < nt
theorem B4N {nt n0 fu:Nat} (hm:P.follows .mixedOrders=true) (hT:H2 T P) {K:KS} (hK:KOK P T K) {ti ta tb te tk tv rN rR r9 id0 id1 k9 t:Nat} {xm:Operand} {ops9 opsN opsR:Array Oper} {rest:Code} (hB:D3Z ops9 nt k9 t ti xm) (hR:B64 opsN opsR nt ti ta tb te tk tv) :
  A2c P T nt n0 (.seq (.region r9 ops9 false) (.block id0 (.loop (.seq (.region rN opsN false) (.seq (.cond (.tmp tb) .skip (.exit id0)) (.block id1 (.seq (.region rR opsR false) rest))))))) (B1P T K fu nt ops9 k9 t xm ti ta tb te tk tv opsR rest):=by
 intro of σ l1 hl1
 unfold B1P at hl1
 split at hl1<;>try (cases hl1;done)
 rename_i Es σ1 h1
 split at hl1<;>try (cases hl1;done)
 rename_i ktm etm id kt st el es hk hsm
 split at hl1<;>try (cases hl1;done)
 rename_i hkk
 simp only [D9z] at hkk
 obtain ⟨tek,htk⟩:=D9D.1 hkk.1
 obtain ⟨tev,htv⟩:=D9D.1 hkk.2
 have hle':∀ σ0 p σ',B0e T K fu nt of id σ1.nx kt st ti ta tb te tk tv opsR rest σ0 p=some σ'→σ0.le σ':=fun σ0 p σ' h=>have g:=B3G (P:=P) hm hT hK (A32 h).1;⟨g.1,g.2⟩
 obtain ⟨lne,lle⟩:=B0f hle' _ _ _ _ hl1
 have le1:=T3 _ _ _ _ h1
 generalize hσ2:(⟨(ti,.p σ1.nx 0 [])::σ1.sl,σ1.ob.set id (.sm kt st el (A11 es) none),W0 σ1.ob [id] σ1.rd,σ1.nx+1,σ1.mks⟩:St)=σ2 at hl1 lle
 have le2:σ1.le σ2:=by rw [← hσ2];exact ⟨fun j hj=>L4 _ _ _ _ hj,Nat.le_succ _⟩
 have hleA:∀ o∈l1,σ.le o.2:=fun o ho=>le1.trans (le2.trans (lle o ho).1)
 refine ⟨⟨lne,hleA⟩,fun m of' c eb a w hn hf1 hb hs=>?_⟩
 have hf2:A0d of of' eb n0 σ2:=by
  cases l1 with
  | nil=>exact absurd rfl lne
  | cons o l1=>exact (hf1 o (List.mem_cons_self ..)).mono (lle o (List.mem_cons_self ..)).1
 refine wpIn_seq (wpIn_region ?_)
 rw [List.range_eq_range',hB.sz,show List.range' 0 (k9+1)=List.range' 0 k9++[k9] by rw [List.range'_concat];simp]
 have hlen:(ops9.toList.take k9).length=k9:=by rw [List.length_take,D9F,hB.sz];omega
 have hp:=A6u (rd:=c.rd) (m:=m) hT hK (Q:=C9o (fun a w=>X1 T c eb of' n0 nt σ1 a w) (Exit.then ((Code.block id0 (.loop (.seq (.region rN opsN false) (.seq (.cond (.tmp tb) .skip (.exit id0)) (.block id1 (.seq (.region rR opsR false) rest)))))).wpIn (WF c.rd) m P (fun ex a' w'=>∃ o∈l1,ex=o.1∧X1 T c eb of' n0 nt o.2 a' w')) (fun ex a' w'=>∃ o∈l1,ex=o.1∧X1 T c eb of' n0 nt o.2 a' w'))) (ops9.toList.take k9) 0 σ σ1 Es a w (fun j=>by
   by_cases hj:j < k9
   ·left;rw [List.getElem?_take,if_pos hj,Array.getElem?_toList,Nat.zero_add]
   ·right;rw [hlen];omega) hB.ok h1 hn (hf2.mono le2) hs (fun a' w' h=>h)
 rw [hlen] at hp
 refine B1N _ _ a w hp ?_
 rintro a1 w1 ⟨e,rfl,hst⟩
 have hos:=hst.os
 obtain ⟨hmv,hof⟩:=A0q hsm
 have hag:∀ j∈[id],B5 σ1.ob of' j=B5 σ1.ob of j:=N8 (ob:=σ1.ob) (rd:=σ2.rd) (l:=σ1.rd) hf2.rd (fun j hj=>by rw [← hσ2];exact hj)
 have hof':B5 σ1.ob of' id=some (.sm kt st el es none):=(hag id (by simp)).trans hof
 obtain ⟨S',o1,l2,bm,ms,clock,es',v3,v4,vb,v6,v7⟩:=C2n hos hof'
 obtain ⟨u1,u2,hks,hz,hz3,_⟩:=hos.ok _ _ hof'
 obtain ⟨tem,q1,q2⟩:=B8 hk
 have hu:=H3 (hT _ _ q1) q2
 have hxm:=A5o (T:=T) (e:=e) (sl:=C4 σ1.sl) (a:=a1) (x:=xm) (fun t _=>hst.sl t)
 rw [hmv] at hxm
 obtain ⟨b',_,_,u3,hxv⟩:=G9 hxm
 rw [v3] at u3;cases u3
 obtain ⟨ty9,pos9,af9,o9⟩:=hB.o9
 have hrun:(Instr.range t (.map (some bm))).run P e.w=.ok (.pointer (some ⟨e.w.heap.size,0,none⟩)) (e.w.alloc (.mapIter (some bm) clock #[] clock)):=by
  simp [Instr.range,A3 hu,getObj,Sem.run,v4,newObj]
 rw [wpOpsIn_cons]
 refine A0E o9 rfl (fun f=>by simp [Oper.about]) (fun c h=>by cases h) (u:=.pointer (some ⟨e.w.heap.size,0,none⟩)) (w':=e.w.alloc (.mapIter (some bm) clock #[] clock)) (by simp [execOp,hxv,hrun]) ?_
 have hnI:¬ ({ e with S:=S' }:B6).U σ1.nx:=fun hu'=>by
  rcases hst.U _ hu' with q | q
  ·exact hf2.fr σ1.nx (Nat.le_trans hn le1.2) (by rw [← hσ2];exact Nat.lt_succ_self _) q
  ·exact absurd q.2 (Nat.lt_irrefl _)
 have hne1:id≠σ1.nx:=fun q=>hnI (q ▸ u1)
 have bmlt:bm < e.w.heap.size:=(Array.getElem?_eq_some_iff.1 v4).1
 have n1:=o1.newT (id:=σ1.nx) (t:=0) (g:=.mapIter (some bm) clock #[] clock) (o:=.it (some id)) hnI ⟨.inl rfl,upd_same _ _ _,e.w.heap.size,bm,clock,clock,upd_same _ _ _,G7 _ _,.inr u1,by show D9 e.bn σ1.nx 0 id=0;rw [A2 _ _ hne1];exact u2,by show D9 e.ι σ1.nx _ id=_;rw [A2 _ _ hne1];exact v3⟩
 have ln:=o1.le_newT (t:=0) hnI (.mapIter (some bm) clock #[] clock)
 have hnone:D9 (B5 σ1.ob of') id (some (.sm kt st el (A11 es) none)) σ1.nx=none:=by
  cases hq:D9 (B5 σ1.ob of') id (some (.sm kt st el (A11 es) none)) σ1.nx with
  | none=>rfl
  | some o=>exact absurd (o1.ok _ _ hq).use hnI
 have n2:=n1.sub (of2:=D9 (B5 σ1.ob of') id (some (.sm kt st el (A11 es) none))) (fun j o hj=>by
  by_cases hji:j=σ1.nx
  ·subst hji;rw [hnone] at hj;cases hj
  ·rw [A2 _ _ hji];exact hj)
 have hov:B5 σ2.ob of'=D9 (B5 σ1.ob of') id (some (.sm kt st el (A11 es) none)):=by rw [← hσ2];exact A1k _ _ _ _
 generalize he2:(({ e with S:=S' }:B6).newT σ1.nx 0 (.mapIter (some bm) clock #[] clock))=e2 at n1 n2 ln
 have hw2:e.w.alloc (.mapIter (some bm) clock #[] clock)=e2.w:=by rw [← he2];rfl
 have hle3:e.le e2:=l2.trans ln
 have sT:=(hst.env (U':=fun j=>eb.U j∨(n0≤j∧j < σ2.nx)) n2 hle3 (fun j hj=>by
  rw [← he2] at hj
  rcases hj with rfl | hj
  ·exact .inr ⟨Nat.le_trans hn le1.2,by rw [← hσ2];exact Nat.lt_succ_self _⟩
  ·exact (hst.U j hj).imp (fun q=>q) (fun q=>⟨q.1,Nat.lt_of_lt_of_le q.2 le2.2⟩))).slot (d:=ti) (v:=.p σ1.nx 0 []) (x:=.pointer (some ⟨e.w.heap.size,0,none⟩)) (by
   rw [← he2]
   exact RA.r ⟨e.w.heap.size,0,.inl rfl,upd_same _ _ _,upd_same _ _ _,(by show Pth T (D9 e.ty σ1.nx 0 σ1.nx) [] 0 0;rw [upd_same];exact .nil),rfl⟩ rfl .nil) hB.lt
 rw [hw2]
 show (Code.block _ _).wpIn _ _ _ _ _ _
 refine wpIn_block (wpIn_loop_rounds (es.length+1) ?_)
 refine C0m (of:=of) (of':=of') (eb:=eb) (n0:=n0) (id:=id) (nI:=σ1.nx) (kt:=kt) (st:=st) (el:=el) (bm:=bm) (bI:=e.w.heap.size) (clock:=clock) (ms:=ms) (es:=es) (es':=es') hm hT hK hR vb htk htv (es.length+1) es σ2 l1 hl1 #[] _ e2 ?_ ?_ ?_ ?_ (Nat.le_trans hn (Nat.le_trans le1.2 le2.2)) hf1 ?_
 ·refine ⟨by rw [hov];exact sT.os,sT.le,sT.U,fun t'=>?_,by rw [← hσ2];exact sT.def_,sT.nt⟩
  rw [← hσ2]
  show B9 T e2 (C4 ((ti,.p σ1.nx 0 [])::σ1.sl) t') _
  rw [E9]
  exact sT.sl t'
 ·have hsome:(B5 σ1.ob of' id).isSome:=by rw [hof'];rfl
  refine ⟨by rw [hov,upd_same],?_,?_,?_,?_,?_,?_,?_,?_,?_,.inl hos.size,v7.mono (by rw [← he2];rw [← he2] at ln;exact ln),v6⟩
  all_goals rw [← he2]
  ·show D9 e.ι σ1.nx _ id=_;rw [A2 _ _ hne1];exact v3
  ·exact (D4 _ _ bmlt).trans v4
  ·exact .inl rfl
  ·exact upd_same _ _ _
  ·exact upd_same _ _ _
  ·exact upd_same _ _ _
  ·exact G7 _ _
  ·intro x hG
   have:=hos.g.lt x _ hG
   omega
  ·intro j b q hj hb
   have hb:D9 e.ι σ1.nx (some (e.w.heap.size,0)) j=some (b,q):=hb
   rw [hov] at hj
   have hjn:j≠σ1.nx:=fun q=>by subst q;rw [hnone] at hj;cases hj
   rw [A2 _ _ hjn] at hb
   obtain ⟨o,ho⟩:=D9D.1 hj
   have:=o1.lt j b q (o1.ok _ _ ho).use hb
   have this:b < e.w.heap.size:=this
   omega
 ·rw [← hσ2];rw [E9,upd_same]
 ·have:A5A es' ms.toList #[]=es':=by
   unfold A5A
   rw [List.filter_eq_self.2 (fun p _=>by simp)]
   exact List.map_fst_zip (by rw [v7.1];exact Nat.le_refl _)
  rw [this];exact v6.symm
 ·rintro ⟨ex,σo⟩ ho a' w' hs'
  have hex:=(lle _ ho).2
  simp only at hex
  subst hex
  exact ⟨_,ho,rfl,hs'⟩
end Go.Vm
namespace Go.Vm.S2
open Go.RowKit
variable {P:Program} {T:TT} {c:F6} {e eb:B6} {of of':Nat→Option Ob}
theorem B4O (h:A8 T c e of) {el sz:Nat} {w':World} {v:Value} {xs:List V} {ys:List Value} {nx:Nat} (hb:Below e.w.heap.size e.w w') (hu:¬ e.U nx) (hsz:C2 T el=sz) (h0:0 < sz) (hrow:w'.ownsRow e.w.heap.size el sz v xs.length ys) (hv:RV T e (List.replicate xs.length el) xs ys) (hnl:v=.slice none 0 0↔xs=[]) {ro:List Nat} :
  P7 T c e of nx ⟨.o nx 1,[(nx,.row el 1 xs xs.isEmpty false)],ro,nx+1⟩ v w':=by
 obtain ⟨hl,hc⟩:=hrow
 rcases hc with ⟨rfl,hn⟩ | ⟨g,cap,cur,rfl,hg,hgb,h1,h2,h3,h4⟩
 ·have hx:=hnl.1 rfl
  subst hx
  obtain ⟨q1,q2⟩:=h.below hb
  have hu':¬ ({ e with w:=w' }:B6).U nx:=hu
  have q3:=q1.nil (el:=el) hu' (nl:=true) rfl (by omega)
  refine ⟨B6.nil { e with w:=w' } nx el,rfl,q3,q2.trans (q1.le_nil hu'),fun j hj=>hj.elim (fun q=>.inr (by subst q;exact ⟨Nat.le_refl _,Nat.lt_succ_self _⟩)) .inl,?_⟩
  exact A2v (.inl rfl) (upd_same _ _ _) (by decide) (upd_same _ _ _) (upd_same _ _ _)
 ·have hne:xs≠[]:=fun q=>by have:=hnl.2 q;cases this
  have he:xs.isEmpty=false:=by cases xs with | nil=>exact absurd rfl hne | cons a r=>rfl
  rw [he]
  have hglt:g < w'.heap.size:=(Array.getElem?_eq_some_iff.1 hgb).1
  have hspl:cur.toList=[]++ys++cur.toList.drop (xs.length * sz):=by rw [List.nil_append,← h4,List.take_append_drop]
  have hok:OK T (e.got w' nx g el xs.length) nx (.row el 1 xs false false) :=
   ⟨.inl rfl,by decide,upd_same _ _ _,upd_same _ _ _,upd_same _ _ _,by omega,.inr ⟨rfl,g,0,cur,el,(0,0),[],ys,_,upd_same _ _ _,hgb,A1n hgb,hspl,rfl,hv.mono (h.le_got hb hu _ _ _),fun i _ hs=>by have:=h.slt _ _ hs;omega,fun _ i _ hs=>by have:=h.slt _ _ hs;omega⟩⟩
  refine ⟨e.got w' nx g el xs.length,rfl,h.got hb hu hg hglt hok,h.le_got hb hu _ _ _,fun j hj=>hj.elim (fun q=>.inr (by subst q;exact ⟨Nat.le_refl _,Nat.lt_succ_self _⟩)) .inl,?_⟩
  have:=A0L (T:=T) (e:=e.got w' nx g el xs.length) (id:=nx) (ver:=1) (b:=g) (o:=0) (cap:=cap) (k:=0) (.inl rfl) (upd_same _ _ _) (by decide) (upd_same _ _ _) (by show D9 e.ln nx xs.length nx≤cap;rw [upd_same];exact h1)
   (by show 0+cap * C2 T (D9 e.ty nx el nx)=R0 w' g;rw [upd_same,hsz];simp [R0,hgb,h3]) (fun _=>rfl)
  have hln:(e.got w' nx g el xs.length).ln nx=xs.length:=upd_same _ _ _
  rw [hln] at this
  exact this
theorem C0n {s:H4} {of:Nat→Option Ob} {nx el gn N:Nat} {xs ys:List V} {nl nl':Bool} (ho:of nx=some (.row el 1 xs nl false))
  (hs:s J7 [.o 0 1,.f gn []] (ofL [.row el 1 xs nl false]) 1 some=some ⟨.t [],[(0,.row el 1 ys nl' false)],[0],N⟩) (hn:s.nat) (hN:1≤N) :
  (trS s).dir [.o nx 1,.f gn []] of (nx+1)=some ⟨.t [],[(nx,.row el 1 xs nl false),(nx,.row el 1 ys nl' false)],[nx],nx+1+(N - 1)⟩:=by
 have hb:Nat.beq nx nx=true:=by simp
 have hr:A1N of 64 (D6 [.o nx 1,.f gn []]) []=[nx]:=by
  show A1N of 64 ([nx]++([]++[])) []=[nx]
  simp [A1N,mem,ho,A04]
 unfold H4.dir trS
 simp only
 rw [hr]
 have h1:(A1O [nx]&&(A9k of [nx] [nx]&&A6U [nx] (D6 [.o nx 1,.f gn []])))=true:=by
  have e:D6 [.o nx 1,.f gn []]=[nx]:=rfl
  rw [e]
  simp [A1O,mem,A9k,ho,okT,A04,A6U]
 rw [h1,cond_true]
 have h2:rnL (J8 [nx]) (A4a of) [.o nx 1,.f gn []]=[.o 0 1,.f gn []]:=by
  simp [rnL,rnA,rnV,J8,A4a,P3,ho]
 have h3:S3 of [nx] [nx]=[.row el 1 xs nl false]:=by
  simp [S3,ho,rnO,A4a,P3]
 rw [h2,h3,hn J7]
 have h4:s.dir [.o 0 1,.f gn []] (ofL [.row el 1 xs nl false]) [nx].length=some ⟨.t [],[(0,.row el 1 ys nl' false)],[0],N⟩:=hs
 rw [h4]
 have h5:Nat.ble [nx].length N=true:=D9I hN
 have h6:Nat.ble 1 N=true:=h5
 simp [ob,h6,B0C,okT,X2,A1b,G2,A4R,A3E,rnO,P3,ho,rnA,rnL]
theorem B68 {x:Value} (h:one x=true):x.oneCell'=true:=by cases x<;>first | rfl | cases h
def SortW (P:Program) (f f61 g od st:Nat):Prop:=∀ (Bm bm clock:Nat) (ms:Array MapEntry) (w:World) (R2:Value→World→Prop),StB ms clock→(∀ m∈ms.toList,∃ cs,m.key=.agg cs∧cs.size=33∧cs.all (·.oneCell')=true)→ms.size≤1000000 →
 w.cell? ⟨Bm,0,none⟩=some (.map (some bm))→w.heap[bm]? = some (.map ms clock) →
 (∀ v (xs:List MapEntry) w',xs.Perm ms.toList→w'.ownsRow w.heap.size st 33 v xs.length (xs.flatMap fun m=>m.key.cells.toList)→(v=.slice none 0 0↔xs=[])→Below w.heap.size w w'→Calls P f61 #[v,.func (.func od) #[] #[]] w' fun e w''=>(∃ u,e=.returned u)∧R2 v w'') →
 Calls P f #[.func (.func g) #[] #[.pointer (some ⟨Bm,0,none⟩)],.func (.func od) #[] #[]] w fun e w'=>∃ v,e=.returned v∧R2 v w'
def A2d (k1 k2:V):List V→Option (List V)
 | []=>some []
 | [a]=>some [a]
 | [a,b]=>bif V9 [a,b] [k1,k2]||V9 [a,b] [k2,k1] then some [k1,k2] else none
 | _=>none
theorem B4P {k1 k2:V} {ks ls ys:List V} (h:A2d k1 k2 ks=some ys) (hp:ls.Perm ks):A2d k1 k2 ls=some ys:=by
 match ks,h with
 | [],h=>rw [hp.eq_nil];exact h
 | [a],h=>rw [List.perm_singleton.1 hp];exact h
 | [a,b],h =>
  have hl:=hp.length_eq
  match ls,hl with
  | [x,y],_ =>
   have hx:=hp.mem_iff (a:=x)
   have hs:(x=a∧y=b)∨(x=b∧y=a):=by
    by_cases hxa:x=a
    ·subst hxa
     have:=hp.cons_inv
     exact .inl ⟨rfl,by simpa using this⟩
    ·have hxb:x=b:=by
      have:=hx.1 (by simp)
      simp [hxa] at this
      exact this
     subst hxb
     have:=(hp.trans (List.Perm.swap x a [])).cons_inv
     exact .inr ⟨rfl,by simpa using this⟩
   rcases hs with ⟨rfl,rfl⟩ | ⟨rfl,rfl⟩
   ·exact h
   ·simp only [A2d] at h ⊢
    rw [← h]
    have e1:∀ p q r t:V,V9 [p,q] [r,t]=V9 [q,p] [t,r]:=fun p q r t=>by
     simp only [V9,Bool.and_true]
     exact Bool.and_comm _ _
    rw [e1 x y k1 k2,e1 x y k2 k1,Bool.or_comm]
 | _::_::_::_,h=>simp [A2d] at h
theorem B1Q {k1 k2:V} {ks ys:List V} (h:A2d k1 k2 ks=some ys):ys.length=ks.length:=by
 match ks,h with
 | [],h=>simp [A2d] at h;subst h;rfl
 | [a],h=>simp [A2d] at h;subst h;rfl
 | [a,b],h =>
  simp only [A2d] at h
  cases hc:(V9 [a,b] [k1,k2]||V9 [a,b] [k2,k1]) with
  | false=>rw [hc] at h;cases h
  | true=>rw [hc] at h;simp at h;subst h;rfl
 | _::_::_::_,h=>simp [A2d] at h
def rcS (el gn:Nat) (k1 k2:V) (args:List A) (of:Nat→Option Ob) (nx:Nat):Option (List V×List V) :=
 match args with
 | [.o id ver,.f h []]=>bif Nat.beq id 0&&(Nat.beq ver 1&&(Nat.beq nx 1&&Nat.beq h gn)) then
  (match of 0 with
  | some (.row el' v xs nl sh)=>bif Nat.beq el el'&&(Nat.beq v 1&&(!sh&&(nl == xs.isEmpty))) then (match A2d k1 k2 xs with
   | some ys=>some (xs,ys)
   | none=>none) else none
  | _=>none) else none
 | _=>none
def sf2 (el gn N:Nat) (k1 k2:V):H4:=B1K (rcS el gn k1 k2) (fun _=>true) (fun q=>⟨.t [],[(0,.row el 1 q.2 q.1.isEmpty false)],[0],N⟩)
theorem sf2_at {P:Program} {T:TT} {f el gn N:Nat} {k1 k2:V} {s:E7} (hs:B2 P T f s)
  (h0:∃ n,n≤N∧s [.o 0 1,.f gn []] (ofL [.row el 1 [] true false]) 1=some (⟨.t [],[(0,.row el 1 [] true false)],[0],n⟩:J7)) (h1:∀ a,∃ n,n≤N∧s [.o 0 1,.f gn []] (ofL [.row el 1 [a] false false]) 1=some (⟨.t [],[(0,.row el 1 [a] false false)],[0],n⟩:J7))
  (h2:∃ n,n≤N∧s [.o 0 1,.f gn []] (ofL [.row el 1 [k1,k2] false false]) 1=some (⟨.t [],[(0,.row el 1 [k1,k2] false false)],[0],n⟩:J7)) (h3:∃ n,n≤N∧s [.o 0 1,.f gn []] (ofL [.row el 1 [k2,k1] false false]) 1=some (⟨.t [],[(0,.row el 1 [k1,k2] false false)],[0],n⟩:J7)):A5S P T f (sf2 el gn N k1 k2).dir :=
 C0f hs (fun args of nx x hx _=>by
  unfold rcS at hx
  split at hx<;>try (cases hx;done)
  rename_i id ver h'
  cases hg:(Nat.beq id 0&&(Nat.beq ver 1&&(Nat.beq nx 1&&Nat.beq h' gn))) with
  | false=>rw [hg] at hx;cases hx
  | true =>
  rw [hg,cond_true] at hx
  simp only [D9z] at hg
  obtain ⟨g1,g2,g3,g4⟩:=hg
  obtain rfl:=D9y g1
  obtain rfl:=D9y g2
  obtain rfl:=D9y g3
  obtain rfl:=D9y g4
  split at hx<;>try (cases hx;done)
  rename_i el' v xs nl sh hof
  cases hg:(Nat.beq el el'&&(Nat.beq v 1&&(!sh&&(nl == xs.isEmpty)))) with
  | false=>rw [hg] at hx;cases hx
  | true =>
  rw [hg,cond_true] at hx
  simp only [D9z,Bool.not_eq_true'] at hg
  obtain ⟨g1,g2,rfl,g3⟩:=hg
  obtain rfl:=D9y g1
  obtain rfl:=D9y g2
  have g3:=eq_of_beq g3
  subst g3
  split at hx<;>try (cases hx;done)
  rename_i ys hys
  injection hx with hx;subst hx
  match xs,hys,hof with
  | [],hys,hof=>simp [A2d] at hys;subst hys;obtain ⟨n,q1,q2⟩:=h0;exact ⟨n,[0],_,q1,q2,A3t hof (by simp)⟩
  | [a],hys,hof=>simp [A2d] at hys;subst hys;obtain ⟨n,q1,q2⟩:=h1 a;exact ⟨n,[0],_,q1,q2,A3t hof (by simp)⟩
  | [a,b],hys,hof =>
   simp only [A2d] at hys
   cases hc:(V9 [a,b] [k1,k2]||V9 [a,b] [k2,k1]) with
   | false=>rw [hc] at hys;cases hys
   | true =>
    rw [hc,cond_true] at hys
    injection hys with hys;subst hys
    rcases Bool.or_eq_true _ _ ▸ hc with q | q
    ·have:=(T9 _ _).1 q
     cases this
     obtain ⟨n,q1,q2⟩:=h2;exact ⟨n,[0],_,q1,q2,A3t hof (by simp)⟩
    ·have:=(T9 _ _).1 q
     cases this
     obtain ⟨n,q1,q2⟩:=h3;exact ⟨n,[0],_,q1,q2,A3t hof (by simp)⟩
  | _::_::_::_,hys,_=>simp [A2d] at hys)
def sort2K (g od st N:Nat) (k1 k2:V):H4:=fun R args of nx k =>
 match args with
 | [.f g' [.p ib tb []],.f o' []]=>bif Nat.beq g g'&&Nat.beq od o' then (match of ib with
  | some (.box tb' (.m mid) _)=>match of mid with
   | some (.vm kt et es)=>bif Nat.beq kt st then (match A2d k1 k2 (es.map (·.1)) with
    | some ys=>k ⟨.o nx 1,[(nx,.row st 1 ys es.isEmpty false)],[ib,mid],nx+1+N⟩
    | none=>none) else none
   | _=>none
  | _=>none) else none
 | _=>none
theorem B4Q {α β:Type} {f:α→β} {xs ys:List β} (h:xs.Perm ys):∀ L:List α,L.map f=ys→∃ L':List α,L'.Perm L∧L'.map f=xs:=by
 induction h with
 | nil=>intro L hL;exact ⟨L,List.Perm.refl _,hL⟩
 | cons x _ ih =>
  intro L hL
  cases L with
  | nil=>cases hL
  | cons a L =>
   simp only [List.map_cons,List.cons.injEq] at hL
   obtain ⟨L',h1,h2⟩:=ih L hL.2
   exact ⟨a::L',h1.cons _,by rw [List.map_cons,h2,hL.1]⟩
 | swap x y l =>
  intro L hL
  match L,hL with
  | a::b::L,hL =>
   simp only [List.map_cons,List.cons.injEq] at hL
   exact ⟨b::a::L,List.Perm.swap _ _ _,by rw [List.map_cons,List.map_cons,hL.1,hL.2.1,hL.2.2]⟩
 | trans _ _ ih1 ih2 =>
  intro L hL
  obtain ⟨L1,h1,h2⟩:=ih2 L hL
  obtain ⟨L2,h3,h4⟩:=ih1 L1 h2
  exact ⟨L2,h3.trans h1,h4⟩
theorem C9r {kt et:Nat} (hk:∃ k,C3 T kt=some k∧k.agg=true):∀ {es:List (V×A)} {ms:List MapEntry},MR T e kt et es ms→∃ L:List (V×MapEntry),L.map (·.1)=es.map (·.1)∧L.map (·.2)=ms∧∀ p∈L,RV T e [kt] [p.1] p.2.key.cells.toList∧∃ cs,p.2.key=.agg cs:=by
 intro es ms h
 induction h with
 | nil=>exact ⟨[],rfl,rfl,fun p hp=>by cases hp⟩
 | @cons k a r m ms h1 h2 h3 h4 ih =>
  obtain ⟨L,i1,i2,i3⟩:=ih
  obtain ⟨h1,hag⟩:=h1
  refine ⟨(k,m)::L,by rw [List.map_cons,List.map_cons,i1],by rw [List.map_cons,i2],fun p hp=>?_⟩
  rcases List.mem_cons.1 hp with rfl | hp
  ·exact ⟨h1,hag.1 hk⟩
  ·exact i3 p hp
theorem C0o {kt:Nat}:∀ (L:List (V×MapEntry)),(∀ p∈L,RV T e [kt] [p.1] p.2.key.cells.toList)→RV T e (List.replicate (L.map (·.1)).length kt) (L.map (·.1)) ((L.map (·.2)).flatMap fun m=>m.key.cells.toList):=by
 intro L
 induction L with
 | nil=>intro _;exact .nil
 | cons p r ih =>
  intro h
  have h1:=h p (List.mem_cons_self ..)
  have h2:=ih (fun q hq=>h q (List.mem_cons_of_mem _ hq))
  exact h1.append h2
theorem B1R {f:Nat} {vals:Array Value} {w:World} {Q:Value→World→Prop} (hen:(callFunc f vals).run P w=.ok (.enter f vals) w) (h:C8 P (callFunc f vals) w Q):Calls P f vals w fun en w'=>∃ x,en=.returned x∧Q x w':=by
 rcases h with ⟨x,w',h1,_⟩ | ⟨w',h1,_⟩ | ⟨f',args,w1,h1,h2⟩ | ⟨_,_,_,_,_,w1,h1,_⟩
 ·rw [hen] at h1;cases h1
 ·rw [hen] at h1;cases h1
 ·rw [hen] at h1;cases h1;exact h2
 ·rw [hen] at h1;cases h1
theorem sort2K_ok (hT:H2 T P) {f f61 g od st N N1:Nat} {k1 k2:V} (hW:SortW P f f61 g od st) (hS:A5S P T f61 (sf2 st od N1 k1 k2).dir) (h11:1≤N1) (hl1:N1≤N)
  (hz:C2 T st=33) (hk:∃ k,C3 T st=some k∧k.agg=true) (hen:∀ args w,(callFunc f args).run P w=.ok (.enter f args) w) (hen1:∀ args w,(callFunc f61 args).run P w=.ok (.enter f61 args) w):B2 P T f (sort2K g od st N k1 k2).dir:=by
 intro c e of of' as0 vals nx out hos hs hro hu hvals
 unfold H4.dir sort2K at hs
 split at hs<;>try (cases hs;done)
 rename_i g' ib tb o'
 cases hg:(Nat.beq g g'&&Nat.beq od o') with
 | false=>rw [hg] at hs;cases hs
 | true =>
 rw [hg] at hs
 simp only [D9z] at hg
 obtain rfl:=D9y hg.1
 obtain rfl:=D9y hg.2
 simp only [cond_true] at hs
 split at hs<;>try (cases hs;done)
 rename_i tb' mid sh hob
 split at hs<;>try (cases hs;done)
 rename_i kt et es hom
 cases hc:Nat.beq kt st with
 | false=>rw [hc] at hs;cases hs
 | true =>
 rw [hc,cond_true] at hs
 obtain rfl:=D9y hc
 split at hs<;>try (cases hs;done)
 rename_i ys hys
 have hylen:=B1Q hys
 have hlen:es.length≤200:=by
  have:(es.map (·.1)).length≤2:=by
   generalize es.map (·.1)=ks at hys
   match ks,hys with
   | [],_=>simp
   | [_],_=>simp
   | [_,_],_=>simp
   | _::_::_::_,h=>simp [A2d] at h
  rw [D9C] at this;omega
 injection hs with hs;subst hs
 have hob':of' ib=some (.box tb' (.m mid) sh):=(hro ib (by simp)).trans hob
 have hom':of' mid=some (.vm kt et es):=(hro mid (by simp)).trans hom
 obtain ⟨x1,x2,x3,x4,Bm,cs,ty,fz,x5,x6,x7,x8,x9,x10⟩:=hos.ok _ _ hob'
 obtain ⟨y1,y2,b,ms,clock,y3,y4,⟨y5,y5'⟩,es',y6,y7⟩:=hos.ok _ _ hom'
 obtain ⟨v,u,hvs⟩:∃ v u,vals=#[v,u]:=by
  obtain ⟨vals⟩:=vals
  cases hvals with | cons h1 h2=>cases h2 with | cons h3 h4=>cases h4;exact ⟨_,_,rfl⟩
 subst hvs
 have hv:B9 T e (.f g [.p ib tb []]) v∧B9 T e (.f od []) u:=by cases hvals with | cons h1 h2=>cases h2 with | cons h3 _=>exact ⟨h1,h3⟩
 obtain ⟨vs,rfl,hcap⟩:=A2r hv.1
 obtain ⟨v2,rfl⟩:=hcap.single rfl
 obtain ⟨us,rfl,hcap2⟩:=A2r hv.2
 obtain rfl:us=[]:=by cases us with | nil=>rfl | cons q r=>cases hcap2
 obtain ⟨Bm',off,p1,p2,p3,p4,rfl⟩:=L5 (T:=T) (e:=e) (id:=ib) (t:=tb) (path:=[]) hcap
 rw [x5] at p3
 cases p3
 cases p4
 obtain ⟨v3,hcs⟩:=x9.single rfl
 have hm3:∃ b',e.U mid∧e.bn mid=0∧e.ι mid=some (b',0)∧v3=.map (some b'):=G9 (by rw [hcs] at x9;exact x9)
 obtain ⟨b',_,_,z3,rfl⟩:=hm3
 rw [y3] at z3;cases z3
 have hcell:e.w.cell? ⟨Bm,0,none⟩=some (.map (some b)):=by
  have:cs[0]? = some (.map (some b)):=by rw [← Array.getElem?_toList,hcs];rfl
  simp [World.cell?,x6,this]
 obtain ⟨L,l1,l2,l3⟩:=C9r hk y7
 have hkeys:∀ m∈ms.toList,∃ cs,m.key=.agg cs∧cs.size=33∧cs.all (·.oneCell')=true:=by
  intro m hm
  rw [← l2] at hm
  obtain ⟨p,hp,rfl⟩:=List.mem_map.1 hm
  obtain ⟨h1,cs,h2⟩:=l3 p hp
  rw [h2] at h1
  refine ⟨cs,h2,?_,?_⟩
  ·have:=h1.one_len
   rw [hz,D9F] at this
   exact this
  ·rw [Array.all_eq_true_iff_forall_mem]
   intro x hx
   exact B68 (h1.one x (Array.mem_toList_iff.2 hx))
 have hlm:ms.size=es.length:=by
  have h1:=y6.length_eq
  rw [B33] at h1
  have h2:=y7.length
  rw [D9F] at h2
  exact h2.symm.trans h1
 have hkp:(L.map (·.1)).Perm (es.map (·.1)):=by
  rw [l1]
  have:=y6.map (·.1)
  have e1:(vms et es).map (·.1)=es.map (·.1):=by
   have:∀ l:List (V×V),(vms et l).map (·.1)=l.map (·.1):=fun l=>by
    induction l with
    | nil=>rfl
    | cons p r ih=>simp [vms,ih]
   exact this es
  rwa [e1] at this
 refine .inr (.inr (.inl ⟨f,_,e.w,hen _ _,?_⟩))
 refine (hW Bm b clock ms e.w (fun v w'=>P7 T c e of' nx _ v w') y5' hkeys (by omega) hcell y4 (fun v xs w' hp hrow hnl hbl=>?_)).mono fun en w' ⟨v,h1,h2⟩=>⟨v,h1,h2⟩
 obtain ⟨L',q1,q2⟩:=B4Q hp L l2
 have hxl:(L'.map (·.1)).length=xs.length:=by rw [D9C,← q2,D9C]
 have hrv:=C0o (e:=e) (T:=T) (kt:=kt) L' (fun p hp=>(l3 p (q1.mem_iff.1 hp)).1)
 rw [q2] at hrv
 have hun:¬ e.U nx:=hu nx (Nat.le_refl _) (by show nx < nx+1+N;omega)
 have hkp':(L'.map (·.1)).Perm (es.map (·.1)):=(q1.map _).trans hkp
 have hleft:=B4O (nx:=nx) (ro:=[]) hos hbl hun hz (by omega) (by rw [hxl];exact hrow) hrv (by
  rw [hnl]
  constructor
  ·intro q;rw [q] at hxl;exact List.length_eq_zero_iff.1 hxl
  ·intro q;rw [q] at hxl;exact List.length_eq_zero_iff.1 hxl.symm)
 obtain ⟨e1,w1,os1,le1,u1,r1⟩:=hleft
 have hof1:(put of' [(nx,Ob.row kt 1 (L'.map (·.1)) (L'.map (·.1)).isEmpty false)]) nx=some (.row kt 1 (L'.map (·.1)) (L'.map (·.1)).isEmpty false):=upd_same _ _ _
 have hun1:∀ M,M≤N→∀ id,nx+1≤id→id < nx+1+(M - 1)→¬ e1.U id:=fun M hM id h1 h2 hU=>by
  rcases u1 id hU with h3 | ⟨_,h3⟩
  ·exact hu id (by omega) (by show id < nx+1+N;omega) h3
  ·have h3:id < nx+1:=h3
   omega
 have hf1:B9 T e1 (.f od []) (.func (.func od) #[] #[]):=by
  have:=hv.2.mono le1
  exact this
 have hreps:Q1 T e1 [.o nx 1,.f od []] (#[v,.func (.func od) #[] #[]]:Array Value).toList:=.cons r1 (.cons hf1 .nil)
 have hfin:∀ (M:Nat) (s:H4),s.nat→A5S P T f61 s.dir→1≤M→M≤N→s J7 [.o 0 1,.f od []] (ofL [.row kt 1 (L'.map (·.1)) (L'.map (·.1)).isEmpty false]) 1 some=some ⟨.t [],[(0,.row kt 1 (ys) es.isEmpty false)],[0],M⟩ →
   Calls P f61 #[v,.func (.func od) #[] #[]] w' fun en w''=>(∃ u,en=.returned u)∧P7 T c e of' nx ⟨.o nx 1,[(nx,.row kt 1 (ys) es.isEmpty false)],[ib,mid],nx+1+N⟩ v w'':=by
  intro M s hn hs h1M hMN hrun
  have htr:=C0n hof1 hrun hn h1M
  have hdo:=B7G hn hs c e1 _ _ _ #[v,.func (.func od) #[] #[]] (nx+1) _ os1 htr (fun _ _=>rfl) (hun1 M hMN) hreps
  rw [w1] at hdo
  refine (B1R (hen1 _ _) hdo).mono ?_
  rintro en w'' ⟨x,rfl,e2,rfl,os2,le2,u2,_⟩
  refine ⟨⟨x,rfl⟩,e2,rfl,?_,le1.trans le2,fun id A4=>?_,r1.mono le2⟩
  ·have:put (put of' [(nx,Ob.row kt 1 (L'.map (·.1)) (L'.map (·.1)).isEmpty false)]) [(nx,.row kt 1 (L'.map (·.1)) (L'.map (·.1)).isEmpty false),(nx,.row kt 1 (ys) es.isEmpty false)]=put of' [(nx,.row kt 1 (ys) es.isEmpty false)]:=by
    simp only [put]
    funext j
    by_cases hj:j=nx
    ·subst hj;simp [D9]
    ·simp [D9,hj]
   rw [← this];exact os2
  ·rcases u2 id A4 with h | ⟨h3,h4⟩
   ·rcases u1 id h with h | ⟨h3,h4⟩
    ·exact .inl h
    ·exact .inr ⟨h3,by show id < nx+1+N;have h4:id < nx+1:=h4;omega⟩
   ·exact .inr ⟨by omega,by show id < nx+1+N;have h4:id < nx+1+(M - 1):=h4;omega⟩
 have hys':A2d k1 k2 (L'.map (·.1))=some ys:=B4P hys hkp'
 refine hfin N1 (sf2 kt od N1 k1 k2) B6Y hS h11 hl1 ?_
 have hie:(L'.map (·.1)).isEmpty=es.isEmpty:=by
  have:=hkp'.length_eq
  rw [show (es.map (·.1)).length=es.length from D9C _] at this
  cases hq:L'.map (·.1)<;>cases es<;>rw [hq] at this<;>simp at this ⊢
 generalize L'.map (·.1)=ks at hys' hie
 show B1K (rcS kt od k1 k2) _ _ J7 _ _ 1 some=_
 simp only [B1K,rcS,ofL,Nat.beq_refl,Bool.and_true,Bool.not_false,cond_true,hys',beq_self_eq_true,hie,Bool.true_and]
end Go.Vm.S2
namespace Go.Vm
open Go.RowKit
variable {P:Program} {T:TT} {c:F6} {e eb:B6} {of of':Nat→Option Ob}
def C0p:Nat→Code→Code
 | k+1,.seq _ b=>C0p k b
 | _,c=>c
def C0q (T:TT) (K:KS) (fu nt:Nat) (r:A2b):Nat→Code→A2b
 | 0,_=>r
 | k+1,.seq x y=>B62 (B61 T K fu nt x) (C0q T K fu nt r k y)
 | _+1,_=>fun _ _=>none
theorem B3H (hm:P.follows .mixedOrders=true) (hT:H2 T P) {K:KS} (hK:KOK P T K) {fu nt n0:Nat} {r:A2b}:∀ (k:Nat) (code:Code),A2c P T nt n0 (C0p k code) r→A2c P T nt n0 code (C0q T K fu nt r k code):=by
 intro k
 induction k with
 | zero=>intro code h;cases code<;>exact h
 | succ k ih =>
  intro code h
  cases code with
  | seq x y=>exact A86 (A85 hm hT hK) (ih y h)
  | _=>intro of σ l h;cases h
def B69 (ops:Array Oper) (nt k:Nat):Option (Nat×Nat×Nat×Nat×Nat×Nat) :=
 match ops[k]?,ops[k+1]?,ops[k+2]? with
 | some ⟨some da,.mapEntry t (.tmp m) (.tmp key),_,_,_,none⟩,some ⟨some db,.extract (.tmp da') 1,_,_,_,none⟩,some ⟨none,.entryStore t' (.tmp m') (.tmp db') (.tmp v),_,_,_,none⟩ =>
  if Nat.beq da da'&&Nat.beq t t'&&Nat.beq m m'&&Nat.beq db db'&&!(Nat.beq m da)&&!(Nat.beq m db)&&!(Nat.beq v da)&&!(Nat.beq v db)&&Nat.blt da nt&&Nat.blt db nt&&(ops.toList.drop (k+3)).all (V8 nt) then some (t,da,db,m,key,v) else none
 | _,_,_=>none
theorem B7a {ops:Array Oper} {nt k t da db m key v:Nat} (h:B69 ops nt k=some (t,da,db,m,key,v)):D3X T ops nt k t da db (.tmp m) (.tmp key) (.tmp v):=by
 unfold B69 at h
 split at h<;>try (cases h;done)
 rename_i da1 t1 m1 B1I ty1 pos1 af1 db1 da2 ty2 pos2 af2 t2 m2 db2 v1 ty3 pos3 af3 h1 h2 h3
 split at h<;>try (cases h;done)
 rename_i hc
 simp only [D9z,Bool.not_eq_true',Nat.blt_eq] at hc
 obtain ⟨⟨⟨⟨⟨⟨⟨⟨⟨⟨c1,c2⟩,c3⟩,c4⟩,c5⟩,c6⟩,c7⟩,c8⟩,c9⟩,c10⟩,c11⟩:=hc
 obtain rfl:=D9y c1
 obtain rfl:=D9y c2
 obtain rfl:=D9y c3
 obtain rfl:=D9y c4
 simp only [D9B,Prod.mk.injEq] at h
 obtain ⟨rfl,rfl,rfl,rfl,rfl,rfl⟩:=h
 have ne:∀ {a b:Nat},Nat.beq a b=false→Operand.tmp a≠.tmp b:=fun h e=>by cases e;simp at h
 exact ⟨⟨_,_,_,h1⟩,⟨_,_,_,h2⟩,⟨_,_,_,h3⟩,ne c5,ne c6,ne c7,ne c8,c9,c10,fun o ho=>List.all_eq_true.1 c11 o ho⟩
def B7b (ops9 opsN opsR:Array Oper) (nt:Nat):Option (Nat×Operand×Nat×Nat×Nat×Nat×Nat×Nat) :=
 match ops9[ops9.size - 1]?,opsN[(0:Nat)]?,opsN[(1:Nat)]?,opsR[(0:Nat)]?,opsR[(1:Nat)]?,opsR[(2:Nat)]? with
 | some ⟨some ti,.range t xm,_,_,_,none⟩,some ⟨some ta,.next (.tmp ti1) false,_,_,_,none⟩,some ⟨some tb,.extract (.tmp ta1) 0,_,_,_,none⟩,some ⟨some te,.entry (.tmp ti2),_,_,_,none⟩,some ⟨some tk,.extract (.tmp te1) 0,_,_,_,none⟩,some ⟨some tv,.extract (.tmp te2) 1,_,_,_,none⟩ =>
  if Nat.beq ti ti1&&Nat.beq ti ti2&&Nat.beq ta ta1&&Nat.beq te te1&&Nat.beq te te2&&Nat.beq opsN.size 2&&Nat.ble 3 opsR.size&&Nat.ble 1 ops9.size&&!(Nat.beq ti ta)&&!(Nat.beq ti tb)&&!(Nat.beq te tk)&&Nat.blt ta nt&&Nat.blt tb nt&&Nat.blt te nt&&Nat.blt tk nt&&Nat.blt tv nt&&Nat.blt ti nt&&(opsR.toList.drop 3).all (V8 nt)&&(ops9.toList.take (ops9.size - 1)).all (V8 nt) then some (t,xm,ti,ta,tb,te,tk,tv) else none
 | _,_,_,_,_,_=>none
theorem B7c {ops9 opsN opsR:Array Oper} {nt t ti ta tb te tk tv:Nat} {xm:Operand} (h:B7b ops9 opsN opsR nt=some (t,xm,ti,ta,tb,te,tk,tv)):D3Z ops9 nt (ops9.size - 1) t ti xm∧B64 opsN opsR nt ti ta tb te tk tv:=by
 unfold B7b at h
 split at h<;>try (cases h;done)
 rename_i h9 hn0 hn1 hr0 hr1 hr2
 split at h<;>try (cases h;done)
 rename_i hc
 simp only [D9z,Bool.not_eq_true',Nat.blt_eq] at hc
 obtain ⟨⟨⟨⟨⟨⟨⟨⟨⟨⟨⟨⟨⟨⟨⟨⟨⟨⟨c1,c2⟩,c3⟩,c4⟩,c5⟩,c6⟩,c7⟩,c8⟩,c9⟩,c10⟩,c11⟩,d1⟩,d2⟩,d3⟩,d4⟩,d5⟩,d6⟩,d7⟩,d8⟩:=hc
 obtain rfl:=D9y c1
 obtain rfl:=D9y c2
 obtain rfl:=D9y c3
 obtain rfl:=D9y c4
 obtain rfl:=D9y c5
 simp only [D9B,Prod.mk.injEq] at h
 obtain ⟨rfl,rfl,rfl,rfl,rfl,rfl,rfl,rfl⟩:=h
 have ne:∀ {a b:Nat},Nat.beq a b=false→a≠b:=fun h e=>by subst e;simp at h
 have h1:=D9E c8
 exact ⟨⟨⟨_,_,_,h9⟩,by omega,fun o ho=>List.all_eq_true.1 d8 o ho,d6⟩,⟨_,_,_,hn0⟩,⟨_,_,_,hn1⟩,D9y c6,⟨_,_,_,hr0⟩,⟨_,_,_,hr1⟩,⟨_,_,_,hr2⟩,fun o ho=>List.all_eq_true.1 d7 o ho,D9E c7,⟨ne c9,ne c10,ne c11⟩,⟨d1,d2,d3,d4,d5⟩⟩
def C9s (T:TT) (K:KS) (fu nt:Nat) (code:Code):A2b :=
 match code with
 | .seq (.seq (.region _ ops9 false) (.block id0 (.loop (.seq (.region _ opsN false) (.seq (.cond (.tmp tb') .skip (.exit id0')) (.block _ (.seq (.region _ opsR false) rest))))))) y =>
  match B7b ops9 opsN opsR nt with
  | some (t,xm,ti,ta,tb,te,tk,tv)=>if Nat.beq id0 id0'&&Nat.beq tb tb' then B62 (B1P T K fu nt ops9 (ops9.size - 1) t xm ti ta tb te tk tv opsR rest) (B61 T K fu nt y) else fun _ _=>none
  | none=>fun _ _=>none
 | _=>fun _ _=>none
theorem C0r (hm:P.follows .mixedOrders=true) (hT:H2 T P) {K:KS} (hK:KOK P T K) {fu nt n0:Nat} {code:Code}:A2c P T nt n0 code (C9s T K fu nt code):=by
 unfold C9s
 split
 ·split
  ·rename_i h
   split
   ·rename_i hc
    simp only [D9z] at hc
    obtain rfl:=D9y hc.1
    obtain rfl:=D9y hc.2
    obtain ⟨g1,g2⟩:=B7c h
    exact A86 (B4N hm hT hK g1 g2) (A85 hm hT hK)
   ·intro of σ l h;cases h
  ·intro of σ l h;cases h
 ·intro of σ l h;cases h
def B7d (T:TT) (K:KS) (fu k:Nat) (fn:Func) (code:Code):E7:=C0l T fn (C0q T K fu fn.ntmps (C9s T K fu fn.ntmps (C0p k code)) k code)
theorem B4R (hm:P.follows .mixedOrders=true) (hT:H2 T P) {K:KS} (hK:KOK P T K) {fu k f:Nat} {fn:Func} {code:Code} (hf:P.funcs[f]? = some fn) (hb:fn.body=some code):B2 P T f (B7d T K fu k fn code) :=
 B3F hm hT hf hb (fun n0=>B3H hm hT hK k code (C0r hm hT hK))
variable {P:Program} {T:TT} {c:F6} {e eb:B6} {of of':Nat→Option Ob}
theorem C9t {rd:Option Nat} {m:Nat} (hT:H2 T P) {K:KS} (hK:KOK P T K) {ops ops2:Array Oper} (hready:∀ listed,Region.ready .any ops listed=Region.ready .any ops2 listed) (hops:ops.size=ops2.size) {Q:Exit→Act→World→Prop} {n0 nt:Nat} {σ σ':St} {Es:List J9} (hd:∀ o∈ops2.toList,V8 nt o=true) (hr:F2 T K ops2 of ops2.toList σ=some (Es,σ')) (hn:n0≤σ.nx) (hfit:A0d of of' eb n0 σ') (hcb:A0Q 0 ops2.toList=true) (hchk:∀ (p q:Nat) (A B:J9),q < p→Es[p]? = some B→Es[q]? = some A→W9 A B=true→((Q6 ops2.toList []).getD p 0).testBit q=true)
  (J:(Nat→Bool)→Act→World→Prop)
  (hstep:∀ (D:Nat→Bool) (a:Act) (e:B6) (i:Nat) (o:Oper) (E:J9),D i=false→ops2[i]? = some o→Es[i]? = some E→V2 T K ops2 (C4 ((Es.take i).foldl St.app σ).sl) (B5 ((Es.take i).foldl St.app σ).ob of) ((Es.take i).foldl St.app σ).nx o=some E→(∀ ed∈o.after,Region.binds .any ed=true→D ed.on=true)→(∀ j o,D j=true→ops2[j]? = some o→∀ e∈o.after,Region.binds .any e=true→D e.on=true) →
   A8 T c e (G5 D 0 (Es.map wO) (B5 σ.ob of'))→a.tmps.size=nt→(∀ id∈E.ro,G5 D 0 (Es.map wO) (B5 σ.ob of') id=B5 ((Es.take i).foldl St.app σ).ob of id)→(∀ id,E.lo≤id→id < E.hi→¬ e.U id)→(∀ t∈E.rs,B9 T e (C4 ((Es.take i).foldl St.app σ).sl t) (a.tmps.getD t undef))→J D a e.w →
   ∀ K':Act→World→Prop,(∀ x w',P7 T c e (G5 D 0 (Es.map wO) (B5 σ.ob of')) E.lo ⟨E.val,E.wo,E.ro,E.hi⟩ x w'→J (fun j=>j == i||D j) (a.put E.dst x) w'→K' (a.put E.dst x) w')→wpOpIn (WF rd) m P ops Q i K' a e.w)
  (hQ:∀ a' w',X1 T c eb of' n0 nt σ' a' w'→Q .normal a' w'):∀ (fuel:Nat) (listed:Array Bool) (D:Nat→Bool) (a:Act) (e:B6),listed.size=ops2.size→(∀ j,j < ops2.size→D j=listed.getD j false)→(∀ j,ops2.size≤j→D j=false)→left D ops2.size≤fuel →
   (∀ j o,D j=true→ops2[j]? = some o→∀ e∈o.after,Region.binds .any e=true→D e.on=true) →
   H0 T c eb (G5 D 0 (Es.map wS) (C4 σ.sl)) (G5 D 0 (Es.map wO) (B5 σ.ob of')) (fun id=>eb.U id∨(n0≤id∧id < σ.nx)∨∃ j E,D j=true∧Es[j]? = some E∧E.lo≤id∧id < E.hi) nt σ.mks a e→J D a e.w →
   wpAnyIn (WF rd) m P .any ops Q fuel listed a e.w:=by
 obtain ⟨hσ,hlen0,hent⟩:=Z8 _ _ _ _ hr
 have hnx:=B1e hr
 have hlen:Es.length=ops2.size:=by rw [hlen0,D9F]
 have hback:=A2S _ _ hcb
 have hopl:∀ j:Nat,ops2.toList[j]? = ops2[j]? := fun j=>Array.getElem?_toList
 have fin:∀ (D:Nat→Bool) (a:Act) (e:B6),(∀ j,j < ops2.size→D j=true)→H0 T c eb (G5 D 0 (Es.map wS) (C4 σ.sl)) (G5 D 0 (Es.map wO) (B5 σ.ob of')) (fun id=>eb.U id∨(n0≤id∧id < σ.nx)∨∃ j E,D j=true∧Es[j]? = some E∧E.lo≤id∧id < E.hi) nt σ.mks a e→Q .normal a e.w:=by
  intro D a e hall hst
  refine hQ _ _ ⟨e,rfl,?_⟩
  have e1:G5 D 0 (Es.map wS) (C4 σ.sl)=C4 σ'.sl:=by
   rw [hσ,A2E,R8 (D':=fun j=>decide (j < 0+Es.length)) _ _ _ (fun q hq=>by
    rw [D9C] at hq
    rw [Nat.zero_add,hall q (by omega)];simp;omega),M8,List.take_of_length_le (by simp)]
  have e2:G5 D 0 (Es.map wO) (B5 σ.ob of')=B5 σ'.ob of':=by
   rw [hσ,A2F,R8 (D':=fun j=>decide (j < 0+Es.length)) _ _ _ (fun q hq=>by
    rw [D9C] at hq
    rw [Nat.zero_add,hall q (by omega)];simp;omega),M8,List.take_of_length_le (by simp)]
  rw [e1,e2] at hst
  refine ⟨hst.os,hst.le,fun id A4=>?_,hst.sl,by rw [hσ,B1f];exact hst.def_,hst.nt⟩
  rw [hσ]
  have hlast:=hnx Es.length
  rw [List.take_length] at hlast
  rcases hst.U id A4 with h1 | h1 | ⟨j,E,-,hE,hid',hid2⟩
  ·exact .inl h1
  ·exact .inr ⟨h1.1,Nat.lt_of_lt_of_le h1.2 hlast.1⟩
  ·obtain ⟨q1,q2,q3⟩:=hlast.2 j E hE
   have:=q3 (List.getElem?_eq_some_iff.1 hE).1
   have q4:=((hnx j).1)
   exact .inr ⟨by omega,by omega⟩
 have ready_nil:∀ (listed:Array Bool) (D:Nat→Bool),listed.size=ops2.size→(∀ j,j < ops2.size→D j=listed.getD j false)→Region.ready .any ops2 listed=[]→∀ j,j < ops2.size→D j=true:=by
  intro listed D hsz hD hnil j
  induction j using Nat.strongRecOn with
  | ind j ih =>
   intro hj
   cases hDj:D j with
   | true=>rfl
   | false =>
    have hmem:j∈Region.ready .any ops2 listed:=by
     rw [mem_ready]
     refine ⟨?_,ops2[j],Array.getElem?_eq_getElem hj,fun e he hb=>?_⟩
     ·rw [A1x (by rw [hsz];exact hj),← hD j hj];exact hDj
     ·have hlt:=hback j ops2[j] (by rw [hopl];exact Array.getElem?_eq_getElem hj) e he hb
      rw [Nat.zero_add] at hlt
      rw [← hD _ (by omega)]
      exact ih _ hlt (by omega)
    rw [hnil] at hmem;cases hmem
 intro fuel
 induction fuel with
 | zero =>
  intro listed D a e hsz hD hDout hleft hdown hst hJ
  have hall:∀ j,j < ops2.size→D j=true:=by
   intro j hj
   cases hDj:D j with
   | true=>rfl
   | false=>have:=A5d hj hDj;omega
  refine ⟨?_,fin D a e hall hst⟩
  rw [hready]
  cases hrd:Region.ready .any ops2 listed with
  | nil=>rfl
  | cons i r =>
   have hi:i∈Region.ready .any ops2 listed:=by rw [hrd];simp
   rw [mem_ready] at hi
   obtain ⟨h0,o,ho,-⟩:=hi
   have hlt:=(Array.getElem?_eq_some_iff.1 ho).1
   have:=hD i hlt
   rw [hall i hlt,← A1x (by rw [hsz];exact hlt),h0] at this
   cases this
 | succ fuel ih =>
  intro listed D a e hsz hD hDout hleft hdown hst hJ
  refine ⟨fun hnil=>fin D a e (ready_nil listed D hsz hD (by rw [← hready];exact hnil)) hst,fun i hi=>?_⟩
  rw [hready] at hi
  rw [mem_ready] at hi
  obtain ⟨h0,o,ho,hedges⟩:=hi
  have hlt:=(Array.getElem?_eq_some_iff.1 ho).1
  have hDi:D i=false:=by
   rw [hD i hlt,← A1x (by rw [hsz];exact hlt)];exact h0
  have hpreds:∀ e∈o.after,Region.binds .any e=true→D e.on=true:=fun e he hb=>by
   have hl:=hback i o (by rw [hopl];exact ho) e he hb
   rw [hD _ (by omega)];exact hedges e he hb
  obtain ⟨E,hE,hentE,hleE⟩:=hent i o (by rw [hopl];exact ho)
  obtain ⟨k1,k2,k3,k4⟩:=U2 hentE
  have hG:=A3e (D:=D) (G:=fun j=>∀ o,ops2[j]? = some o→∀ e∈o.after,Region.binds .any e=true→D e.on=true) (fun j hj o ho=>hdown j o hj ho) ops2.toList []
   (fun j _ p hp=>by simp at hp) (fun q o' hq hGq=>hGq o' (by simpa using hq))
  have hord:∀ q A,Es[q]? = some A→W9 A E=true→q≠i→D q=decide (q < i):=by
   intro q A hA hcf hqi
   rcases Nat.lt_or_gt_of_ne hqi with hlt' | hgt
   ·have:=hchk i q A E hlt' hE hA hcf
    rw [hG i (fun o' ho'=>by rw [ho] at ho';cases ho';exact hpreds) q this];simp [hlt']
   ·cases hDq:D q with
    | false=>simp;omega
    | true =>
     have:=hchk q i E A hgt hA hE (by rw [A2G];exact hcf)
     have hq:q < ops2.size:=by rw [← hlen];exact (List.getElem?_eq_some_iff.1 hA).1
     have:=hG q (fun o' ho'=>hdown q o' hDq ho') i this
     rw [hDi] at this;cases this
  have hreadS:∀ t∈E.rs,G5 D 0 (Es.map wS) (C4 σ.sl) t=C4 ((Es.take i).foldl St.app σ).sl t:=by
   intro t ht
   rw [A2E,List.map_take,← M8 _ 0]
   refine A1C _ 0 _ _ rfl (fun q l hq htl=>?_)
   rw [List.getElem?_map,Option.map_eq_some_iff] at hq
   obtain ⟨A,hA,rfl⟩:=hq
   rw [Nat.zero_add,Nat.zero_add]
   by_cases hqi:q=i
   ·subst hqi;rw [hDi];simp
   ·refine hord q A hA ?_ hqi
    cases hcf:W9 A E with
    | true=>rfl
    | false=>exact absurd htl (B4g hcf t ht)
  have hreadO:∀ t∈E.ro,G5 D 0 (Es.map wO) (B5 σ.ob of') t=B5 ((Es.take i).foldl St.app σ).ob of' t:=by
   intro t ht
   rw [A2F,List.map_take,← M8 _ 0]
   refine A1C _ 0 _ _ rfl (fun q l hq htl=>?_)
   rw [List.getElem?_map,Option.map_eq_some_iff] at hq
   obtain ⟨A,hA,rfl⟩:=hq
   rw [Nat.zero_add,Nat.zero_add]
   by_cases hqi:q=i
   ·subst hqi;rw [hDi];simp
   ·refine hord q A hA ?_ hqi
    cases hcf:W9 A E with
    | true=>rfl
    | false=>exact absurd htl (B4i hcf t ht)
  have hlater:∀ q A,i < q→Es[q]? = some A→D q=true→W9 E A=false:=by
   intro q A hq hA hDq
   cases hcf:W9 E A with
   | false=>rfl
   | true =>
    have:=hord q A hA (by rw [A2G];exact hcf) (by omega)
    rw [hDq] at this;simp at this;omega
  have hagree:∀ id∈E.ro,B5 ((Es.take i).foldl St.app σ).ob of' id=B5 ((Es.take i).foldl St.app σ).ob of id:=N8 hfit.rd hleE.1
  refine hstep D a e i o E hDi ho hE hentE hpreds hdown hst.os hst.nt (fun id A4=>(hreadO id A4).trans (hagree id A4)) (fun id h1 h2 hu=>?_) (fun t ht=>by rw [← hreadS t ht];exact hst.sl t) hJ _ (fun x w' hl hJ'=>?_)
  ·have hge:=(hnx i).1
   have hhi:id < σ'.nx:=Nat.lt_of_lt_of_le h2 hleE.2
   rcases hst.U id hu with h3 | h3 | ⟨j,A,hDj,hA,hid1,hid2⟩
   ·exact hfit.fr id (by omega) hhi h3
   ·omega
   ·rcases Nat.lt_trichotomy j i with hji | hji | hji
    ·have:=((hnx i).2 j A hA).2.2 hji;omega
    ·subst hji;rw [hDi] at hDj;cases hDj
    ·have q1:=((hnx j).2 j A hA).1
     have q2:=((hnx j).2 i E hE).2.2 hji
     omega
  ·obtain ⟨e',rfl,hst'⟩:=hst.step hl (fun d hd'=>by
    have:=hd o (List.mem_of_getElem? (by rw [hopl];exact ho))
    unfold V8 at this
    rw [← k3,hd'] at this
    simpa [Nat.blt_eq] using this)
   refine ih (listed.setIfInBounds i true) (fun j=>j == i||D j) _ e' (by simp [hsz]) (fun j hj=>?_) (fun j hj=>?_) (by have:=A5d hlt hDi;omega) (fun j o' hj ho' e he hb=>?_) ?_ hJ'
   ·by_cases hji:j=i
    ·subst hji;simp [Array.getD,hsz,hj]
    ·rw [getD_set_ne false (Ne.symm hji),← hD j hj];simp [hji]
   ·have:j≠i:=by omega
    simp [this,hDout j hj]
   ·simp only [Bool.or_eq_true,beq_iff_eq] at hj ⊢
    right
    rcases hj with rfl | hj
    ·rw [ho] at ho';cases ho';exact hpreds e he hb
    ·exact hdown j o' hj ho' e he hb
   ·have f1:=A0k (D:=D) (Es.map wS) 0 i (C4 σ.sl) (wS E) (by rw [List.getElem?_map,hE];rfl) (by rw [Nat.zero_add];exact hDi) (fun q l' hq hl' hDq=>by
     rw [List.getElem?_map,Option.map_eq_some_iff] at hl'
     obtain ⟨A,hA,rfl⟩:=hl'
     rw [Nat.zero_add] at hDq
     exact B4h (hlater q A hq hA hDq))
    have f2:=A0k (D:=D) (Es.map wO) 0 i (B5 σ.ob of') (wO E) (by rw [List.getElem?_map,hE];rfl) (by rw [Nat.zero_add];exact hDi) (fun q l' hq hl' hDq=>by
     rw [List.getElem?_map,Option.map_eq_some_iff] at hl'
     obtain ⟨A,hA,rfl⟩:=hl'
     rw [Nat.zero_add] at hDq
     exact B4j (hlater q A hq hA hDq))
    simp only [Nat.zero_add] at f1 f2
    rw [f1,f2]
    refine ⟨hst'.os,hst'.le,fun id A4=>?_,hst'.sl,hst'.def_,hst'.nt⟩
    rcases hst'.U id A4 with (h1 | h1 | ⟨j,A,hDj,hA,hid'⟩) | h1
    ·exact .inl h1
    ·exact .inr (.inl h1)
    ·exact .inr (.inr ⟨j,A,by simp [hDj],hA,hid'⟩)
    ·exact .inr (.inr ⟨i,E,by simp,hE,h1⟩)
variable {P:Program} {T:TT} {c:F6} {e eb:B6} {of of':Nat→Option Ob}
variable {kt st el:Nat} {es:List (V×V×Bool)}
def RO {α:Type} (s:Sem α):Prop:=∀ (P:Program) (w w':World) (x:α),s.run P w=.ok x w'→w'=w
theorem RO.pure {α:Type} (a:α):RO (pure a:Sem α):=fun P w w' x h=>by simp at h;exact h.2.symm
theorem RO.bind {α β:Type} {s:Sem α} {k:α→Sem β} (h1:RO s) (h2:∀ a,RO (k a)):RO (s >>= k):=fun P w w' x h=>by
 simp only [Sem.run_bind] at h
 cases hs:s.run P w with
 | ok a w1=>rw [hs] at h;have:=h1 P w w1 a hs;subst this;exact h2 a P _ w' x h
 | halt q w1=>rw [hs] at h;cases h
theorem RO.stuck {α:Type} (s:String):RO (stuck s:Sem α):=fun P w w' x h=>by simp [Go.stuck] at h
theorem B3I (a:Addr):RO (load a):=fun P w w' x h=>by
 unfold load at h
 simp only [Sem.run] at h
 split at h
 ·injection h with _ h;exact h.symm
 ·split at h
  ·injection h with _ h;exact h.symm
  ·cases h
theorem A5B:RO program:=fun P w w' x h=>by
 unfold program at h
 simp only [Sem.run] at h
 injection h with _ h;exact h.symm
theorem A6O (t:TypeId):RO (underlying t):=by
 unfold underlying
 refine RO.bind A5B fun p=>?_
 split
 ·exact RO.pure _
 ·exact RO.stuck _
theorem B0g (t:TypeId):RO (typeInfo t):=by
 unfold typeInfo
 refine RO.bind A5B fun p=>?_
 split
 ·exact RO.pure _
 ·exact RO.stuck _
theorem B7e (a:Addr):∀ (n i:Nat) (acc:Array Value),RO (loadCellsFrom a i n acc):=by
 intro n
 induction n with
 | zero=>intro i acc;exact RO.pure _
 | succ n ih=>intro i acc;exact RO.bind (B3I _) fun v=>ih _ _
theorem B4S (t:TypeId) (v:Value):RO (Instr.loadAt t v):=by
 unfold Instr.loadAt
 refine RO.bind ?_ fun a=>?_
 ·unfold Instr.sureAddr
  split
  ·exact RO.pure _
  ·exact RO.stuck _
 ·unfold loadVar
  refine RO.bind ?_ fun q=>?_
  ·unfold isAgg
   refine RO.bind (A6O t) fun d=>?_
   split<;>exact RO.pure _
  ·split
   ·refine RO.bind ?_ fun n=>RO.bind ?_ fun xs=>RO.pure _
    ·exact RO.bind (B0g t) fun i=>RO.pure _
    ·exact B7e _ _ _ _
   ·exact B3I _
def B4T:Op→Bool
 | .move _=>true
 | .load _ _=>true
 | _=>false
theorem A89 {o:Oper} (h:B4T o.op=true) {ρ:Operand→Value} {w w':World} {r:Next} (hr:(execOp ρ o).run P w=.ok r w'):∃ x,r=.value x∧w'=w:=by
 obtain ⟨dst,op,ty,pos,after,guard⟩:=o
 cases op<;>simp only [B4T,Bool.false_eq_true] at h
 ·simp [execOp] at hr;exact ⟨_,hr.1.symm,hr.2.symm⟩
 ·rename_i t a
  have hr:(do pure (.value (← Instr.loadAt t (ρ a))):Sem Next).run P w=.ok r w':=hr
  simp only [Sem.run_bind] at hr
  cases hs:(Instr.loadAt t (ρ a)).run P w with
  | ok x w1 =>
   rw [hs] at hr
   simp [Result.andThen] at hr
   have:=B4S t (ρ a) P w w1 x hs
   exact ⟨x,hr.1.symm,hr.2.symm.trans this⟩
  | halt q w1=>rw [hs] at hr;cases hr
end Go.Vm
end