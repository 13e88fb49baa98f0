/- What the operations of a program do, shown once for all programs; and numbers. -/
import Derived.Test.YtgaghkafmeelhaaGreatVm9
import Derived.Test.YtgaghkafmeelhaaGreatVm8
import Derived.Test.YtgaghkafmeelhaaGreatVm7
import Derived.Laws.Externs
import Derived.Lib.Bytealg
import Derived.OpenShut
import Derived.WalkKit
import Derived.ProofKit
import Derived.JoinedOf
import Derived.ChangeShapes
import Derived.Sort.KeysCollected
import Derived.WideShapes
import Derived.Below
import Derived.Calls
import Derived.Maps.RangeRun
import Derived.Sort.AssemblyPlain
set_option linter.constructorNameAsVariable false
set_option linter.unusedVariables false
set_option linter.unusedSimpArgs false
set_option linter.unnecessarySimpa false
noncomputable section
namespace Go.Vm
open Go.RowKit
variable {T:TT} {R:Type} {P:Program}
def z32:V:=.l (List.replicate 32 (.i 0))
def A1X (j:Nat):Nat→Int→V→V
 | 0,_,h=>h
 | i+1,n,h=>A1X j i (WU (n.tdiv 256)) (h.put (4 * j+i) (.i (IntKind.wrap .u8 (n.tmod 256))))
def B0w (v:V):Nat→Nat→V→V
 | 0,_,h=>h
 | m+1,j,h=>B0w v m (j+1) (A1X j 4 (elV v j) h)
def s0V:V:=stV s0N
def Gsm (h:Nat):FC:=fun R xs k=>match xs with
 | [b]=>bif Nat.ble b.els.length 1000000000 then Z9 (C1k R) (A4 FU) (.m z32 s0V (b.els++(A4b b.els.length).map nv) A2h 0) (fun | .o z v xs kk at_=>k [.d h (B0w v 8 0 z32)]) else none
 | _=>none
def D30 (b:V):V:=.l ((C9E (A53 b)).map nv)
def Fsm (h:Nat):FC:=fun R xs k=>match xs with
 | [b]=>bif Nat.ble b.els.length 1000000000 then k [.d h (D30 b)] else none
 | _=>none
theorem C0A (h:Nat):FC.nat (Fsm h):=by
 intro R xs k
 unfold Fsm
 split
 ·rename_i b;cases Nat.ble b.els.length 1000000000<;>rfl
 ·rfl
theorem A9h {n:Nat} (h:n < 256):IntKind.wrap .u8 (n:Int)=(n:Int):=by
 unfold IntKind.wrap
 simp [IntKind.bits,IntKind.signed]
 omega
theorem C0B {s:S8} (h:OkS s):B0w (stV s) 8 0 z32=.l ((D34 s).map nv):=by
 have one:∀ (j a:Nat) (h:V),a < N5→A1X j 4 (a:Int) h=(((h.put (4 * j+3) (nv (a % 256))).put (4 * j+2) (nv (a / 256 % 256))).put (4 * j+1) (nv (a / 65536 % 256))).put (4 * j) (nv (a / 16777216 % 256)):=by
  intro j a h ha
  have ha:a < 4294967296:=ha
  have td:∀ n:Nat,(n:Int).tdiv 256=((n / 256:Nat):Int):=fun _=>rfl
  have tm:∀ n:Nat,(n:Int).tmod 256=((n % 256:Nat):Int):=fun _=>rfl
  simp only [A1X,td,tm]
  rw [E4 (n:=a / 256) (by omega),td,tm,E4 (n:=a / 256 / 256) (by omega),td,tm,E4 (n:=a / 256 / 256 / 256) (by omega),tm,A9h (by omega),A9h (by omega),A9h (by omega),A9h (by omega)]
  rw [show a / 256 / 256 / 256 % 256=a / 16777216 % 256 by omega,show a / 256 / 256 % 256=a / 65536 % 256 by omega]
  rfl
 have e:B0w (stV s) 8 0 z32=A1X 7 4 (s.h:Int) (A1X 6 4 (s.g:Int) (A1X 5 4 (s.f:Int) (A1X 4 4 (s.e:Int) (A1X 3 4 (s.d:Int) (A1X 2 4 (s.c:Int) (A1X 1 4 (s.b:Int) (A1X 0 4 (s.a:Int) z32))))))):=by kernel_rfl
 rw [e,one _ _ _ h.a,one _ _ _ h.b,one _ _ _ h.c,one _ _ _ h.d,one _ _ _ h.e,one _ _ _ h.f,one _ _ _ h.g,one _ _ _ h.h]
 refine (?_:@Eq V _ _)
 kernel_rfl
theorem C2p:OkS s0N:=⟨by decide,by decide,by decide,by decide,by decide,by decide,by decide,by decide⟩
theorem B45:∀ (n:Nat) (s:S8) (l:List Nat),OkS s→OkS (A1d n s l):=by
 intro n
 induction n with
 | zero=>intro s l h;exact h
 | succ n ih =>
  intro s l h
  cases l with
  | nil=>exact h
  | cons b r=>exact ih _ _ (B3Z _ _)
theorem C0C {n:Nat}:∀ a∈A4b n,a < 256:=by
 intro a ha
 simp only [A4b,List.mem_cons,D9J,List.not_mem_nil,or_false] at ha
 rcases ha with rfl | h | h
 ·decide
 ·rw [List.eq_of_mem_replicate h];decide
 ·rcases h with rfl | rfl | rfl | rfl | rfl | rfl | rfl | rfl<;>exact Nat.mod_lt _ (by decide)
theorem B7p (n:Nat):(A4b n).length=9+(119 - n % 64) % 64:=by
 simp only [A4b,D9G,D9A,List.length_replicate,List.length_nil]
 omega
theorem C9v (h:Nat) {b:V} {bs:List Nat} (hx:b.els=bs.map nv) (hb:∀ b∈bs,b < 256) {rs:List Rs} (hF:Fsm h (List Rs) [b] some=some rs):Gsm h (List Rs) [b] some=some rs:=by
 simp only [Fsm] at hF
 cases hl:Nat.ble b.els.length 1000000000 with
 | false=>rw [hl] at hF;cases hF
 | true =>
  rw [hl] at hF
  simp only [Gsm,hl,cond_true]
  have hl:=D9E hl
  have hlen:b.els.length=bs.length:=by rw [hx,D9C]
  have HID:4611686018427387904=A4 FU:=(A9m _).symm
  have hx2:b.els++(A4b b.els.length).map nv=(bs++A4b bs.length).map nv:=by rw [hlen,hx,List.map_append]
  have hpl:(bs++A4b bs.length).length=64 * (0+(bs.length+9+(119 - bs.length % 64) % 64) / 64):=by
   rw [D9A,B7p];omega
  have law:=D4g (R:=List Rs) (z:=z32) (bs:=bs++A4b bs.length) (fun a ha=>by
   rcases D9J.1 ha with h | h
   ·exact hb a h
   ·exact C0C a h) (by omega) ((bs.length+9+(119 - bs.length % 64) % 64) / 64) 0 (A4 FU) s0N (fun | .o z v xs kk at_=>some [Rs.d h (B0w v 8 0 z32)]) hpl C2p (by omega)
  rw [hx2]
  refine law.trans ?_
  refine Eq.trans ?_ hF
  simp only [cond_true]
  rw [C0B (B45 _ _ _ C2p)]
  unfold D30 C9E
  rw [A2A hx,List.drop_zero]
  congr 6
  have:=B0L ((bs.length+9+(119 - bs.length % 64) % 64) / 64) (bs.length / 64+2 - (bs.length+9+(119 - bs.length % 64) % 64) / 64) s0N (bs++A4b bs.length) (by omega)
  rw [← this]
  congr 1
  omega
variable {T:TT} {P:Program} {c:F6} {e eb:B6} {of of':Nat→Option Ob}
def A1M {α:Type}:List V→(List V→α)→α
 | [],k=>k []
 | a::r,k=>match a with
  | .i n=>C14 n fun n=>A1M r fun r=>k (.i n::r)
  | a=>A1M r fun r=>k (a::r)
theorem A5O {α:Type}:∀ (l:List V) (k:List V→α),A1M l k=k l:=by
 intro l
 induction l with
 | nil=>intro k;rfl
 | cons a r ih =>
  intro k
  cases a with
  | i n=>simp only [A1M,A9K,ih]
  | _=>simp only [A1M,ih]
def D31 {α:Type} (v:V) (k:V→α):α :=
 match v with
 | .l xs=>A1M xs fun xs=>k (.l xs)
 | .i n=>C14 n fun n=>k (.i n)
 | v=>k v
theorem C0D {α:Type} (v:V) (k:V→α):D31 v k=k v:=by
 cases v with
 | l xs=>exact A5O xs _
 | i n=>exact A9K n fun n=>k (.i n)
 | _=>rfl
def A7g {α:Type}:List Rs→(List Rs→α)→α
 | [],k=>k []
 | r::l,k=>match r with
  | .d t y=>D31 y fun y=>A7g l fun l=>k (.d t y::l)
  | .r el xs nl=>A1M xs fun xs=>A7g l fun l=>k (.r el xs nl::l)
theorem B7q {α:Type}:∀ (l:List Rs) (k:List Rs→α),A7g l k=k l:=by
 intro l
 induction l with
 | nil=>intro k;rfl
 | cons r l ih =>
  intro k
  cases r with
  | d t y=>simp only [A7g,C0D,ih]
  | r el xs nl=>simp only [A7g,A5O,ih]
def B7r (F:FC):FC:=fun R xs k=>F R xs fun rs=>A7g rs k
theorem C0E (F:FC):B7r F=F:=by
 funext R xs k
 unfold B7r
 congr 1
 funext rs
 exact B7q rs k
theorem P4.see {f:Nat} {sh:Bool} {ts:List Nat} {F:FC} (h:B2 P T f (A5 T sh ts F).dir):B2 P T f (A5 T sh ts (B7r F)).dir:=by
 rw [C0E];exact h
theorem P4.at {tab:List (Nat×H4)} (h:P4 P T tab) {f:Nat} {s:H4} (hs:A2P tab f=some s):B2 P T f s.dir:=(h f s (A1s hs)).2
theorem A6T (w:World):∀ (ns:List Nat) (a:Addr) (acc:ByteArray),(∀ (j:Nat) y,(ns.map fun n=>Value.int .u8 ((n:Nat):Int))[j]? = some y→w.cell? (a.add j)=some y) →
  (Extern.Bytes.loadBytes a ns.length acc).run P w=.ok ⟨(acc.data.toList++ns.map (fun n=>n.toUInt8)).toArray⟩ w:=by
 intro ns
 induction ns with
 | nil=>intro a acc _;simp [Extern.Bytes.loadBytes]
 | cons n ns ih =>
  intro a acc h
  have h0:w.cell? a=some (.int .u8 ((n:Nat):Int)):=by
   have:=h 0 _ rfl
   rwa [show a.add 0=a from by unfold Addr.add;simp] at this
  have ih:=ih (a.add 1) (acc.push n.toUInt8) (fun j y hj=>by
   rw [Addr.add_add,Nat.add_comm]
   exact h (j+1) y (by simpa using hj))
  rw [D9G,Extern.Bytes.loadBytes]
  simp only [Sem.run_bind]
  rw [Go.run_load,h0]
  simp only [Result.andThen,Int.toNat_natCast]
  rw [ih]
  simp
theorem B7s {e:B6} {el:Nat} {kd:IntKind} (he:C3 T el=some (.int kd)) (hlo:lo kd=0):∀ {n:Nat} {xs:List V} {cs:List Value},RV T e (List.replicate n el) xs cs→∃ ns:List Nat,xs=ns.map nv∧cs=(ns.map fun n=>Value.int kd ((n:Nat):Int))∧∀ a∈ns,(a:Int)≤hi kd:=by
 intro n
 induction n with
 | zero=>intro xs cs h;cases h;exact ⟨[],rfl,rfl,fun a ha=>by cases ha⟩
 | succ n ih =>
  intro xs cs h
  rw [List.replicate_succ] at h
  cases xs with
  | nil=>cases h
  | cons x xs =>
   obtain ⟨d,r,rfl,g1,g2⟩:=h.cons_inv
   obtain ⟨m,rfl,rfl,hr⟩:=g1.int_inv he
   obtain ⟨ns,rfl,rfl,hn⟩:=ih g2
   unfold inR at hr
   rw [hlo] at hr
   have hm:((m.toNat:Nat):Int)=m:=by omega
   refine ⟨m.toNat::ns,?_,?_,fun a ha=>?_⟩
   ·simp only [List.map_cons,nv,hm]
   ·simp only [List.map_cons,hm,List.singleton_append]
   ·rcases List.mem_cons.1 ha with rfl | ha
    ·omega
    ·exact hn a ha
theorem A5P {u8 u8s:Nat} (h1:C3 T u8s=some (.slice u8)) (h2:C3 T u8=some (.int .u8)) {x:V} {v:Value} (h:RV T e [u8s] [x] v.cells.toList) (ha:A0b T u8s v) :
  ∃ ns:List Nat,x.els=ns.map nv∧(∀ a∈ns,a < 256)∧(Extern.Bytes.bytesOf v).run P e.w=.ok ⟨(ns.map (fun n=>n.toUInt8)).toArray⟩ e.w:=by
 have hv:v.cells=#[v]:=by
  cases v with
  | agg cs =>
   obtain ⟨k,hk,hg⟩:=ha.2 ⟨cs,rfl⟩
   rw [h1] at hk;cases hk;cases hg
  | _=>rfl
 rw [hv] at h
 rcases h.slice_inv h1 with ⟨rfl,hc⟩ | ⟨ys,ds,a,cap,rfl,hc,hle,hfz,hrow⟩
 ·simp at hc;subst hc
  exact ⟨[],rfl,(fun a h=>by cases h),rfl⟩
 ·simp at hc;subst hc
  obtain ⟨ns,rfl,rfl,hn⟩:=B7s h2 rfl hrow
  refine ⟨ns,rfl,B3Y hn,?_⟩
  show (Extern.Bytes.loadBytes a (ns.map nv).length .empty).run P e.w=_
  rw [D9C,A6T e.w ns a .empty (fun j y hj=>(hfz.2 j y hj).1)]
  simp
def A5Q:List V→List V→Int
 | [],[]=>0
 | [],_::_ => -1
 | _::_,[]=>1
 | a::x,b::y=>bif H8 a.int b.int then -1 else bif H8 b.int a.int then 1 else A5Q x y
theorem C0F:∀ (a b:List Nat),(∀ x∈a,x < 256)→(∀ x∈b,x < 256)→Lib.compareBytes (a.map (fun n=>n.toUInt8)) (b.map (fun n=>n.toUInt8))=A5Q (a.map nv) (b.map nv):=by
 intro a
 induction a with
 | nil=>intro b _ _;cases b<;>rfl
 | cons x a ih =>
  intro b ha hb
  cases b with
  | nil=>rfl
  | cons y b =>
   have hx:=ha x (by simp)
   have hy:=hb y (by simp)
   have q:∀ m n:Nat,m < 256→n < 256→(m.toUInt8 < n.toUInt8↔m < n):=fun m n hm hn=>by
    rw [UInt8.lt_iff_toNat_lt]
    simp [Nat.toUInt8,UInt8.toNat_ofNat',Nat.mod_eq_of_lt hm,Nat.mod_eq_of_lt hn]
   simp only [List.map_cons,Lib.compareBytes,A5Q]
   rw [ih b (fun z h=>ha z (by simp [h])) (fun z h=>hb z (by simp [h]))]
   have e1:H8 (nv x).int (nv y).int=decide (x < y):=by rw [Bool.eq_iff_iff,K6];simp [nv,V.int]
   have e2:H8 (nv y).int (nv x).int=decide (y < x):=by rw [Bool.eq_iff_iff,K6];simp [nv,V.int]
   rw [e1,e2]
   by_cases h1:x < y
   ·rw [if_pos ((q x y hx hy).2 h1)];simp [h1]
   ·rw [if_neg (fun h=>h1 ((q x y hx hy).1 h))]
    by_cases h2:y < x
    ·rw [if_pos ((q y x hy hx).2 h2)];simp [h1,h2]
    ·rw [if_neg (fun h=>h2 ((q y x hy hx).1 h))];simp [h1,h2]
theorem B46:∀ (a b:List V),inR .i64 (A5Q a b):=by
 have z0:inR .i64 0:=⟨by decide,by decide⟩
 have z1:inR .i64 1:=⟨by decide,by decide⟩
 have zm:inR .i64 (-1):=⟨by decide,by decide⟩
 intro a
 induction a with
 | nil=>intro b;cases b<;>assumption
 | cons x a ih =>
  intro b
  cases b with
  | nil=>exact z1
  | cons y b =>
   simp only [A5Q]
   cases H8 x.int y.int
   ·cases H8 y.int x.int
    ·exact ih b
    ·exact z1
   ·exact zm
def C0G (T:TT) (u8s:Nat):E7:=fun args of nx =>
 match A0f T of [u8s,u8s] args with
 | some ([x,y],wo)=>some ⟨.i .i64 (A5Q x.els y.els),[],T5 wo,nx⟩
 | _=>none
theorem B7t {u8 u8s:Nat} (h1:C3 T u8s=some (.slice u8)) (h2:C3 T u8=some (.int .u8)) {f:FuncId} {fn:Func} (hf:P.funcs[f]? = some fn) (hname:(fn.name == "runtime.NumGoroutine")=false) (hb:fn.body.isNone=true) (hn:Extern.findNext fn=none) (he:Extern.find fn=some Extern.BytealgCompare.compare):B2 P T f (C0G T u8s):=by
 intro c e of of' as0 vals nx out hos hs hro hu hvals
 unfold C0G at hs
 split at hs<;>try (cases hs;done)
 rename_i x y wo hv
 injection hs with hs;subst hs
 obtain ⟨e1,g1,g2,g3,g4,g5⟩:=A5U hos hv hro hvals
 obtain ⟨vals⟩:=vals
 simp only at g5
 cases g5 with
 | @cons _ _ _ _ v1 _ r1 a1 g5 =>
 cases g5 with
 | @cons _ _ _ _ v2 _ r2 a2 g5 =>
 cases g5
 obtain ⟨n1,p1,q1,b1⟩:=A5P (P:=P) h1 h2 r1 a1
 obtain ⟨n2,p2,q2,b2⟩:=A5P (P:=P) h1 h2 r2 a2
 rw [g1] at b1 b2
 have hrun:(callFunc f #[v1,v2]).run P e.w=.ok (.value (.int .i64 (A5Q x.els y.els))) e.w:=by
  rw [run_callFunc_extern hf hname hb hn he]
  show ((do pure (goInt (Extern.BytealgCompare.cmp (← Extern.Bytes.bytesOf v1) (← Extern.Bytes.bytesOf v2))):Sem Value).run P e.w).andThen _=_
  simp only [Sem.run_bind,b1,b2,Result.andThen,Sem.run_pure]
  rw [Lib.cmp_eq,p1,p2,← C0F _ _ q1 q2]
  rfl
 exact H6 (.inl ⟨_,e.w,hrun,B1 hos (L8 (B46 _ _))⟩)
section
variable {P:Program} {H:Type} {enc:TypeId×Value→H} {w w':World} {b0:Nat} {held:Bool}
theorem A1q {α β:Type} {g g':α→Option β}:∀ (l:List α) (xs:List β),l.mapM g=some xs→(∀ a∈l,∀ x,g a=some x→g' a=some x)→l.mapM g'=some xs:=by
 intro l
 induction l with
 | nil=>intro xs h _;simpa using h
 | cons a r ih =>
  intro xs h hg
  simp only [List.mapM_cons] at h ⊢
  cases ha:g a with
  | none=>simp [ha] at h
  | some x =>
   cases hr:r.mapM g with
   | none=>simp [ha,hr] at h
   | some ys =>
    simp [ha,hr] at h
    rw [hg a (by simp) x ha,ih ys hr (fun i hi=>hg i (by simp [hi]))]
    simp [h]
theorem A24 (a:Addr) (i:Nat):(a.add i).block=a.block:=by
 unfold Addr.add;split<;>simp_all
theorem B14 {a:Addr} {v:Value} (h:w.cell? a=some v):a.block < w.heap.size:=by
 unfold World.cell? at h
 cases hb:w.heap[a.block]? with
 | none=>simp [hb] at h
 | some o=>exact (Array.getElem?_eq_some_iff.1 hb).1
theorem B47 {a:Addr} (hb:w'.heap[a.block]? = w.heap[a.block]?):w'.cell? a=w.cell? a:=by
 unfold World.cell?;rw [hb]
theorem B48 (hw:∀ i,i < w.heap.size→w'.heap[i]? = w.heap[i]?) {a:Addr} {n:Nat} {l:List Value} (hn:0 < n) (h:w.cells? b0 a n=some l):a.block < w.heap.size∧w'.cells? b0 a n=some l:=by
 unfold World.cells? at h ⊢
 split at h<;>try (cases h;done)
 rename_i hb
 rw [if_pos hb]
 have hblk:a.block < w.heap.size:=by
  obtain ⟨m,rfl⟩:∃ m,n=m+1:=⟨n - 1,by omega⟩
  rw [List.range_succ_eq_map,List.mapM_cons] at h
  cases h0:w.cell? (a.add 0) with
  | none=>simp [h0] at h
  | some v=>have:=B14 h0;rwa [A24] at this
 refine ⟨hblk,A1q _ _ h (fun i _ x hx=>?_)⟩
 have e:=B47 (w:=w) (w':=w') (a:=a.add i) (by rw [A24];exact hw _ hblk)
 rw [e];exact hx
def A44 (P:Program) (R:List TypeId):Bool:=R.all fun t=>match P.underlying t with
 | some (.slice e)=>decide (0 < P.cellsOf e)&&R.contains e
 | some (.pointer e)=>decide (0 < P.cellsOf e)&&R.contains e
 | some (.struct fs)=>fs.toList.all fun f=>R.contains f.type
 | some (.array _ e)=>R.contains e
 | some (.map _ e)=>R.contains e
 | _=>true
theorem B7u {R:List TypeId} (hR:A44 P R=true) (hw:∀ i,i < w.heap.size→w'.heap[i]? = w.heap[i]?) :
  ∀ (fuel:Nat) (t:TypeId) (cs:List Value) (x:DataW H×List MemPlace),t∈R→DataW.trod enc P w b0 (fun _=>true) true fuel t cs=some x→DataW.trod enc P w' b0 (fun b=>decide (b < w.heap.size)) true fuel t cs=some x:=by
 intro fuel
 induction fuel with
 | zero=>intro t cs x _ h;simp [DataW.trod] at h
 | succ fuel ih =>
  intro t cs x ht h
  have hRt:=(List.all_eq_true.1 hR) t ht
  have bindcells:∀ (a:Addr) (n:Nat) (e:TypeId) (y:DataW H×List MemPlace),e∈R→0 < n→(w.cells? b0 a n).bind (DataW.trod enc P w b0 (fun _=>true) true fuel e)=some y →
    a.block < w.heap.size∧(w'.cells? b0 a n).bind (DataW.trod enc P w' b0 (fun b=>decide (b < w.heap.size)) true fuel e)=some y:=fun a n e y he hn h=>by
   cases hc:w.cells? b0 a n with
   | none=>simp [hc] at h
   | some l =>
    rw [hc] at h
    obtain ⟨h1,h2⟩:=B48 hw hn hc
    exact ⟨h1,by rw [h2];exact ih _ _ _ he h⟩
  simp only [DataW.trod] at h ⊢
  split at h
  case h_6 a e hu =>
   rw [hu] at hRt
   simp only [D9z,D9K,List.contains_iff_mem] at hRt
   obtain ⟨y,hy,rfl⟩:=Option.map_eq_some_iff.1 h
   rw [(bindcells _ _ _ _ hRt.2 hRt.1 hy).2];rfl
  case h_8 e a len cap hu =>
   rw [hu] at hRt
   simp only [D9z,D9K,List.contains_iff_mem] at hRt
   split at h<;>try (cases h;done)
   rename_i hc
   rw [if_pos hc]
   cases h1:(List.range len).mapM (fun i=>(w.cells? b0 (a.add (i * P.cellsOf e)) (P.cellsOf e)).bind (DataW.trod enc P w b0 (fun _=>true) true fuel e)) with
   | none=>rw [h1] at h;cases h
   | some elems =>
    rw [h1] at h
    have g1:=A1q _ _ h1 (fun i _ y hy=>(bindcells _ _ _ _ hRt.2 hRt.1 hy).2)
    rw [g1]
    simp only [Option.bind_some,if_true] at h ⊢
    obtain ⟨rest,hr,rfl⟩:=Option.map_eq_some_iff.1 h
    by_cases hb:a.block < w.heap.size
    ·have g2:=A1q _ _ hr (fun i _ y hy=>(bindcells _ _ _ _ hRt.2 hRt.1 hy).2)
     rw [if_pos (by simpa using hb),g2];rfl
    ·have hz:cap - len=0:=by
      rcases Nat.eq_zero_or_pos (cap - len) with h0 | h0
      ·exact h0
      ·exfalso
       obtain ⟨m,hm⟩:∃ m,cap - len=m+1:=⟨cap - len - 1,by omega⟩
       rw [hm,List.range_succ_eq_map,List.mapM_cons] at hr
       cases h0:(w.cells? b0 (a.add ((len+0) * P.cellsOf e)) (P.cellsOf e)).bind (DataW.trod enc P w b0 (fun _=>true) true fuel e) with
       | none=>rw [h0] at hr;simp at hr
       | some y =>
        have:=(bindcells _ _ _ _ hRt.2 hRt.1 h0).1
        rw [A24] at this
        exact hb this
     rw [hz] at hr
     simp at hr;subst hr
     rw [if_neg (by simpa using hb)];rfl
  case h_9 fs cs' hu =>
   rw [hu] at hRt
   simp only [List.all_eq_true,List.contains_iff_mem] at hRt
   split at h<;>try (cases h;done)
   rename_i hc
   rw [if_pos hc]
   obtain ⟨y,hy,rfl⟩:=Option.map_eq_some_iff.1 h
   rw [A1q _ _ hy (fun f hf z hz=>ih _ _ _ (hRt f hf) hz)];rfl
  case h_10 n e cs' hu =>
   rw [hu] at hRt
   simp only [List.contains_iff_mem] at hRt
   split at h<;>try (cases h;done)
   rename_i hc
   rw [if_pos hc]
   obtain ⟨y,hy,rfl⟩:=Option.map_eq_some_iff.1 h
   rw [A1q _ _ hy (fun i _ z hz=>ih _ _ _ hRt hz)];rfl
  case h_14 k e b hu =>
   rw [hu] at hRt
   simp only [List.contains_iff_mem] at hRt
   cases ho:w.heap[b]? with
   | none=>rw [ho] at h;cases h
   | some o =>
    have hb:b < w.heap.size:=(Array.getElem?_eq_some_iff.1 ho).1
    rw [ho] at h
    rw [hw b hb,ho]
    cases o with
    | map es clock =>
     simp only at h ⊢
     split at h<;>try (cases h;done)
     rename_i hc
     rw [if_pos hc]
     obtain ⟨xs,h1,h2⟩:=Option.bind_eq_some_iff.1 h
     rw [A1q _ _ h1 (fun a _ y hy=>by
      obtain ⟨key,k1,k2⟩:=Option.bind_eq_some_iff.1 hy
      rw [k1]
      simp only [Option.bind_some]
      split at k2<;>try (cases k2;done)
      rename_i hf
      rw [if_pos hf]
      obtain ⟨z,hz,rfl⟩:=Option.map_eq_some_iff.1 k2
      rw [ih _ _ _ hRt hz];rfl)]
     exact h2
    | _=>cases h
  all_goals exact h
theorem B0x {R:List TypeId} (hR:A44 P R=true) (hw:∀ i,i < w.heap.size→w'.heap[i]? = w.heap[i]?) :
  ∀ (ts:List TypeId) (vs:List Value) (ds:List (DataW H)) (ps:List MemPlace),(∀ t∈ts,t∈R)→DataW.TrodAll enc P w b0 (fun _=>true) true ts vs ds ps→DataW.TrodAll enc P w' b0 (fun b=>decide (b < w.heap.size)) true ts vs ds ps:=by
 intro ts
 induction ts with
 | nil =>
  intro vs ds ps _ h
  cases vs<;>cases ds<;>first | exact h | (exact False.elim h)
 | cons t r ih =>
  intro vs ds ps hts h
  cases vs with
  | nil=>exact False.elim h
  | cons v vs =>
   cases ds with
   | nil=>exact False.elim h
   | cons d ds =>
    obtain ⟨p,q,⟨fuel,h1⟩,h2,h3⟩:=h
    exact ⟨p,q,⟨fuel,B7u hR hw _ _ _ _ (hts _ (by simp)) h1⟩,ih _ _ _ (fun t ht=>hts t (by simp [ht])) h2,h3⟩
theorem B49 {f:Func} {s:ChangeSpec} {args:Array Value} {ds gs:List (DataW H)} {before:List MemPlace} {fresh:Bool} {R:List TypeId} (hR:A44 P R=true) (hpR:f.params.toList.all (fun t=>R.contains t)=true)
  (hW:DataW.Whole enc P f.params.toList s.vars false w args.toList ds gs before) (hs:B4m w w') (hv:s.vars=[]) {t:TypeId} (hr:f.resultTypes=#[t]) (ht:P.underlying t=some .bool)
  (hfn:s.fn H (ds++gs)={ results:=[.lit (.bool true)],args:=ds }):s.post enc P f false fresh false false w args (.bool true) w':=by
 have hW':=hW
 obtain ⟨p,q,hA,hV,hb,hz,hn⟩:=hW
 rw [hv] at hV
 have hgq:gs=[]∧q=[]:=by cases gs<;>first | exact ⟨rfl,hV⟩ | exact False.elim hV
 obtain ⟨rfl,rfl⟩:=hgq
 refine ⟨ds,[],before,[],p,[],hW',?_,?_,?_,hs.kept _,fun h=>by cases h⟩
 ·rw [hfn,hr]
  exact ⟨[],[],⟨1,by simp [DataW.trod,ht,Value.cells]⟩,rfl,rfl⟩
 ·rw [hfn];exact B0x hR hs.2.2.2 _ _ _ _ (fun t ht=>by have:=(List.all_eq_true.1 hpR) t ht;simpa [List.contains_iff_mem] using this) hA
 ·rw [hfn,hv];rfl
end
variable {T:TT} {P:Program}
def B3M:List (Nat×E7)→Nat→Option E7
 | [],_=>none
 | (k,s)::r,f=>bif Nat.beq k f then some s else B3M r f
def D8 (P:Program) (T:TT):List (Nat×E7)→Prop
 | []=>True
 | (k,s)::r=>B2 P T k s∧D8 P T r
theorem B7v:∀ {l:List (Nat×E7)},D8 P T l→∀ f s,B3M l f=some s→B2 P T f s:=by
 intro l
 induction l with
 | nil=>intro _ f s h;cases h
 | cons p r ih =>
  obtain ⟨k,s0⟩:=p
  intro h f s hs
  simp only [B3M] at hs
  cases hk:Nat.beq k f with
  | true =>
   rw [hk] at hs;simp only [cond_true,D9B] at hs
   have:=D9y hk;subst this;subst hs
   exact h.1
  | false=>rw [hk] at hs;exact ih h.2 f s hs
def A9 (P:Program) (T:TT) (l:List (Nat×E7)) (fu d f:Nat):E7:=B8N P T (B3M l) fu d f
theorem B3 (hm:P.follows .mixedOrders=true) (hT:H2 T P) {l:List (Nat×E7)} (h:D8 P T l) {fu d f:Nat}:B2 P T f (A9 P T l fu d f):=by
 rw [A9,B8O]
 exact B5T hm hT (B7v h) (fun f n0 fn code _ _=>D2 code) d f
variable {T:TT} {P:Program} {c:F6} {e eb:B6} {of of':Nat→Option Ob}
def B6.got (e:B6) (w':World) (id g ty ln:Nat):B6:={ w:=w',ι:=D9 e.ι id (some (g,0)),S:=e.S,bn:=D9 e.bn id 1,U:=fun j=>j=id∨e.U j,ty:=D9 e.ty id ty,ln:=D9 e.ln id ln,G:=e.G }
theorem A8.le_got (h:A8 T c e of) {w':World} (hb:Below e.w.heap.size e.w w') {id:Nat} (hu:¬ e.U id) (g ty ln:Nat):e.le (e.got w' id g ty ln):=by
 have hne:∀ j,e.U j→j≠id:=fun j hj he=>hu (he ▸ hj)
 refine ⟨fun b i hs=>⟨hs,fun x hx=>?_⟩,fun _ hj=>.inr hj,fun j hj _=>⟨A2 _ _ (hne j hj),A2 _ _ (hne j hj),fun b o hb'=>D0 (hb.block _ (h.lt _ _ _ hj hb'))⟩,fun j hj h0=>?_,fun j hj=>?_,fun j hj=>A2 _ _ (hne j hj),hb.size,fun b hlt=>D0 (hb.block _ hlt)⟩
 ·rw [← hx];exact E1 (hb.block _ (h.slt _ _ hs))
 ·show D9 e.bn id 1 j=0
  rw [A2 _ _ (hne j hj)];exact h0
 ·show _≤D9 e.bn id 1 j
  rw [A2 _ _ (hne j hj)];exact Nat.le_refl _
theorem A8.got (h:A8 T c e of) {w':World} (hb:Below e.w.heap.size e.w w') {id:Nat} (hu:¬ e.U id) {g ty ln:Nat} (hg:e.w.heap.size≤g) (hg2:g < w'.heap.size) {o:Ob} (ho:OK T (e.got w' id g ty ln) id o) :
  A8 T c (e.got w' id g ty ln) (D9 of id (some o)):=by
 have hle:=h.le_got hb hu g ty ln
 have ιne:∀ j,j≠id→(e.got w' id g ty ln).ι j=e.ι j:=fun j hj=>A2 _ _ hj
 have ιid:(e.got w' id g ty ln).ι id=some (g,0):=upd_same _ _ _
 have obne:∀ j,j≠id→D9 of id (some o) j=of j:=fun j hj=>A2 _ _ hj
 have old:∀ j b q,(of j).isSome→e.ι j=some (b,q)→b < e.w.heap.size:=fun j b q hj hb=>by
  obtain ⟨x,hx⟩:=D9D.1 hj
  exact h.lt _ _ _ (h.ok _ _ hx).use hb
 refine ⟨fun j x hj=>?_,fun j k b q b' q' hj hk hb1 hb' hne=>?_,fun j b q hj hb1=>?_,fun j b q hj hb1=>?_,fun b i hs=>?_,h.s0,h.snew,hb.os.trans h.os,hb.tape.trans h.tape,hb.output.trans h.output,Nat.le_trans h.size hb.size,fun k hk hm=>?_,?_⟩
 ·by_cases he:j=id
  ·subst he;rw [upd_same] at hj;cases hj;exact ho
  ·rw [obne _ he] at hj
   exact (h.ok _ _ hj).keep hle (A2 _ _ he) (fun b q hb1=>hb.block _ (old _ _ _ (by rw [hj];rfl) hb1)) (fun _ _ _ _ hs=>hs) (fun a o' b _ hG=>⟨hG,hb.block _ (h.g.lt _ _ hG),fun i hs=>hs⟩)
 ·by_cases h1:j=id
  ·subst h1
   have hk':k≠j:=Ne.symm hne
   rw [obne _ hk'] at hk;rw [ιne _ hk'] at hb'
   have:=old _ _ _ hk hb'
   rw [ιid] at hb1;cases hb1;omega
  ·by_cases h2:k=id
   ·subst h2
    rw [obne _ h1] at hj;rw [ιne _ h1] at hb1
    have:=old _ _ _ hj hb1
    rw [ιid] at hb';cases hb';omega
   ·rw [obne _ h1] at hj;rw [obne _ h2] at hk;rw [ιne _ h1] at hb1;rw [ιne _ h2] at hb'
    exact h.sep _ _ _ _ _ _ hj hk hb1 hb' hne
 ·by_cases h1:j=id
  ·subst h1
   rw [ιid] at hb1;cases hb1;exact .inl (Nat.le_trans h.size hg)
  ·rw [obne _ h1] at hj;rw [ιne _ h1] at hb1
   exact h.own _ _ _ hj hb1
 ·show b < w'.heap.size
  by_cases h1:j=id
  ·subst h1
   rw [ιid] at hb1;cases hb1;exact hg2
  ·rw [ιne _ h1] at hb1
   rcases hj with hj | hj
   ·exact absurd hj h1
   ·exact Nat.lt_of_lt_of_le (h.lt _ _ _ hj hb1) hb.size
 ·exact Nat.lt_of_lt_of_le (h.slt _ _ hs) hb.size
 ·exact (hb.block _ (Nat.lt_of_lt_of_le hk h.size)).trans (h.block k hk hm)
 ·refine h.g.mono (fun _ _ q=>q) rfl (fun _ q=>q) hb.size (fun j b o hj hb1=>?_)
  by_cases h1:j=id
  ·subst h1
   rw [ιid] at hb1;cases hb1;exact .inr hg
  ·rw [obne _ h1] at hj;rw [ιne _ h1] at hb1
   exact .inl ⟨j,o,hj,hb1⟩
theorem A8.below (h:A8 T c e of) {w':World} (hb:Below e.w.heap.size e.w w'):A8 T c { e with w:=w' } of∧e.le { e with w:=w' }:=by
 have hle:e.le { e with w:=w' }:=⟨fun b i hs=>⟨hs,fun x hx=>by rw [← hx];exact E1 (hb.block _ (h.slt _ _ hs))⟩,fun _ hj=>hj,fun j hj _=>⟨rfl,rfl,fun b o hb'=>D0 (hb.block _ (h.lt _ _ _ hj hb'))⟩,fun _ _ h0=>h0,fun _ _=>Nat.le_refl _,fun _ _=>rfl,hb.size,fun b hlt=>D0 (hb.block _ hlt)⟩
 refine ⟨⟨fun j x hj=>(h.ok _ _ hj).keep hle rfl (fun b q hb1=>hb.block _ (h.lt _ _ _ (h.ok _ _ hj).use hb1)) (fun _ _ _ _ hs=>hs) (fun a o' b _ hG=>⟨hG,hb.block _ (h.g.lt _ _ hG),fun i hs=>hs⟩),h.sep,h.own,fun j b q hj hb1=>Nat.lt_of_lt_of_le (h.lt _ _ _ hj hb1) hb.size,fun b i hs=>Nat.lt_of_lt_of_le (h.slt _ _ hs) hb.size,h.s0,h.snew,hb.os.trans h.os,hb.tape.trans h.tape,hb.output.trans h.output,Nat.le_trans h.size hb.size,fun k hk hm=>(hb.block _ (Nat.lt_of_lt_of_le hk h.size)).trans (h.block k hk hm),h.g.mono (fun _ _ q=>q) rfl (fun _ q=>q) hb.size (fun j b o hj hb1=>.inl ⟨j,o,hj,hb1⟩)⟩,hle⟩
open Go.RowKit Go.Maps
variable {T:TT} {P:Program} {c:F6} {e eb:B6} {of of':Nat→Option Ob}
variable {P:Program} {T:TT} {c:F6} {e eb:B6} {of of':Nat→Option Ob}
def B15:E7:=fun args of nx =>
 match args with
 | [.m id]=>match of id with
  | some (.map kt et es)=>some ⟨.m nx,[(nx,.map kt et es)],[id],nx+1⟩
  | some (.vm kt et es)=>some ⟨.m nx,[(nx,.vm kt et es)],[id],nx+1⟩
  | _=>none
 | _=>none
def A25 (P:Program) (f:Nat):Prop:=∀ (b:Nat) (es:Array MapEntry) (clock:Nat) (w:World),w.heap[b]? = some (.map es clock)→Calls P f #[.map (some b)] w fun e w'=>e=.returned (.map (some w.heap.size))∧w'=w.alloc (.map es clock)
theorem B5a {f:Nat} (hC:A25 P f) (hen:∀ args w,(callFunc f args).run P w=.ok (.enter f args) w):B2 P T f B15:=by
 intro c e of of' as0 vals nx out hos hs hro hu hvals
 unfold B15 at hs
 split at hs<;>try (cases hs;done)
 rename_i id
 split at hs<;>try (cases hs;done)
 all_goals rename_i kt et es hof
 all_goals
  injection hs with hs;subst hs
  have hof':=(hro id (by simp)).trans hof
  obtain ⟨h1,h2,b,ms,clock,h3,h4,h5,es',h6,h7⟩:=hos.ok _ _ hof'
  obtain ⟨x,hv,hx⟩:∃ x,vals.toList=[x]∧B9 T e (.m id) x:=by
   cases hvals':vals.toList with
   | nil=>rw [hvals'] at hvals;cases hvals
   | cons x r =>
    rw [hvals'] at hvals
    cases hvals with
    | cons g1 g2=>cases g2;exact ⟨x,rfl,g1⟩
  obtain ⟨b',_,_,k3,k4⟩:=G9 hx
  rw [h3] at k3;cases k3
  have hva:vals=#[.map (some b)]:=by rw [← k4];exact A8O hv
  subst hva
  have hun:¬ e.U nx:=hu nx (Nat.le_refl _) (Nat.lt_succ_self _)
  refine .inr (.inr (.inl ⟨f,_,e.w,hen _ _,(hC b ms clock e.w h4).mono fun en w' ⟨g1,g2⟩=>⟨_,g1,?_⟩⟩))
  have hle:=hos.le_newM hun (.map ms clock)
  refine ⟨e.newM nx (.map ms clock),g2.symm,hos.newM hun ?_,hle,fun j hj=>hj.elim (fun q=>.inr (by subst q;exact ⟨Nat.le_refl _,Nat.lt_succ_self _⟩)) .inl,?_⟩
  ·exact ⟨.inl rfl,upd_same _ _ _,e.w.heap.size,ms,clock,upd_same _ _ _,G7 _ _,h5,es',h6,h7.mono hle⟩
  ·exact RA.r ⟨e.w.heap.size,.inl rfl,upd_same _ _ _,upd_same _ _ _,rfl⟩ rfl .nil
variable {P:Program} {T:TT} {R:Type}
def vI (b:V):Int→Bool:=@V.rec (fun _=>Int→Bool) (fun _=>Unit) (fun m n=>eqQ n m) (fun _ _=>false) (fun _ _ _=>false) (fun _ _ _=>false) (fun _=>false) (fun _ _=>false) () (fun _ _ _ _=>()) b
def vB (b:V):Bool→Bool:=@V.rec (fun _=>Bool→Bool) (fun _=>Unit) (fun _ _=>false) (fun y x=>@Bool.rec (fun _=>Bool→Bool) (fun y=>@Bool.rec (fun _=>Bool) true false y) (fun y=>y) x y) (fun _ _ _=>false) (fun _ _ _=>false) (fun _=>false) (fun _ _=>false) () (fun _ _ _ _=>()) b
def vS (b:V):(List V→Bool)→Bool:=@V.rec (fun _=>(List V→Bool)→Bool) (fun _=>Unit) (fun _ _=>false) (fun _ _=>false) (fun m _ f=>f m) (fun _ _ _=>false) (fun _=>false) (fun _ _=>false) () (fun _ _ _ _=>()) b
def vL (b:V):(List V→Bool)→Bool:=@V.rec (fun _=>(List V→Bool)→Bool) (fun _=>Unit) (fun _ _=>false) (fun _ _=>false) (fun _ _ _=>false) (fun m _ f=>f m) (fun _=>false) (fun _ _=>false) () (fun _ _ _ _=>()) b
def vN (b:V):Bool:=@V.rec (fun _=>Bool) (fun _=>Unit) (fun _=>false) (fun _=>false) (fun _ _=>false) (fun _ _=>false) true (fun _=>false) () (fun _ _ _ _=>()) b
def vF (b:V):Nat→Bool:=@V.rec (fun _=>Nat→Bool) (fun _=>Unit) (fun _ _=>false) (fun _ _=>false) (fun _ _ _=>false) (fun _ _ _=>false) (fun _=>false) (fun m n=>Nat.beq n m) () (fun _ _ _ _=>()) b
def onC (f:V→Bool) (g:List V→Bool) (l:List V):Bool:=@List.rec V (fun _=>(V→Bool)→(List V→Bool)→Bool) (fun _ _=>false) (fun b s _ f g=>@Bool.rec (fun _=>Bool) false (g s) (f b)) l f g
def D32 (l:List V):Bool:=@List.rec V (fun _=>Bool) true (fun _ _ _=>false) l
def eqV (a:V):V→Bool:=@V.rec (fun _=>V→Bool) (fun _=>List V→Bool) (fun n b=>vI b n) (fun x b=>vB b x) (fun _ f b=>vS b f) (fun _ f b=>vL b f) (fun b=>vN b) (fun n b=>vF b n) D32 (fun _ _ f g=>onC f g) a
def B0y (a:List V):List V→Bool:=@V.rec_1 (fun _=>V→Bool) (fun _=>List V→Bool) (fun n b=>vI b n) (fun x b=>vB b x) (fun _ f b=>vS b f) (fun _ f b=>vL b f) (fun b=>vN b) (fun n b=>vF b n) D32 (fun _ _ f g=>onC f g) a
mutual
theorem C0H:∀ (a b:V),eqV a b=true→a=b:=by
 intro a b h
 cases a with
 | i n =>
  cases b with
  | i m=>rw [show m=n from (Y4.1 ((B8u n m).symm.trans h)).symm]
  | _=>cases h
 | b x =>
  cases b with
  | b y=>cases x<;>cases y<;>first | rfl | cases h
  | _=>cases h
 | s l =>
  cases b with
  | s m=>rw [A3C l m h]
  | _=>cases h
 | l l =>
  cases b with
  | l m=>rw [A3C l m h]
  | _=>cases h
 | n=>cases b<;>first | rfl | cases h
 | f n =>
  cases b with
  | f m=>rw [D9y h]
  | _=>cases h
theorem A3C:∀ (a b:List V),B0y a b=true→a=b:=by
 intro a b h
 cases a with
 | nil=>cases b<;>first | rfl | cases h
 | cons x r =>
  cases b with
  | nil=>cases h
  | cons y s =>
   have h:@Bool.rec (fun _=>Bool) false (B0y r s) (eqV x y)=true:=h
   cases hx:eqV x y with
   | false=>rw [hx] at h;cases h
   | true=>rw [hx] at h;rw [C0H x y hx,A3C r s h]
end
def B16 {R:Type} (tab:List (List V×List Rs)):List V→(List Rs→Option R)→Option R :=
 @List.rec (List V×List Rs) (fun _=>List V→(List Rs→Option R)→Option R) (fun _ _=>none) (fun p _ ih xs k=>@Bool.rec (fun _=>Option R) (ih xs k) (k p.2) (B0y p.1 xs)) tab
def B7 (tab:List (List V×List Rs)):FC:=fun R xs k=>B16 tab xs k
theorem B7w (tab:List (List V×List Rs)):FC.nat (B7 tab):=by
 intro R xs k
 show B16 tab xs k=ob (B16 tab xs some) k
 induction tab with
 | nil=>rfl
 | cons p r ih =>
  show @Bool.rec (fun _=>Option R) (B16 r xs k) (k p.2) (B0y p.1 xs)=ob (@Bool.rec (fun _=>Option (List Rs)) (B16 r xs some) (some p.2) (B0y p.1 xs)) k
  cases B0y p.1 xs
  ·exact ih
  ·rfl
theorem C0I {tab:List (List V×List Rs)} {xs:List V} {rs:List Rs} (h:B16 tab xs some=some rs):(xs,rs)∈tab:=by
 induction tab with
 | nil=>cases h
 | cons p r ih =>
  have h:@Bool.rec (fun _=>Option (List Rs)) (B16 r xs some) (some p.2) (B0y p.1 xs)=some rs:=h
  cases he:B0y p.1 xs with
  | false=>rw [he] at h;exact List.mem_cons_of_mem _ (ih h)
  | true =>
   rw [he] at h
   simp only [D9B] at h
   have:=A3C _ _ he
   subst h;subst this
   exact List.mem_cons_self ..
def C9w (s:E7):H4:=fun R args of nx k=>ob (s args of nx) k
theorem B0z (s:E7):(C9w s).dir=s:=by
 funext args of nx
 show ob (s args of nx) some=_
 cases s args of nx<;>rfl
theorem B7x (s:E7):(C9w s).nat:=by
 intro R args of nx k
 rw [B0z];rfl
def B3N (T:TT) (s:E7) (sh:Bool) (ts:List Nat) (rk:List RK):List (List V×List Rs)→Prop
 | []=>True
 | p::r=>ob (s (A6 T ts p.1) (fun _=>none) 0) (fun out=>A7 T sh rk out)=some p.2∧B3N T s sh ts rk r
theorem B3N.at {s:E7} {sh:Bool} {ts:List Nat} {rk:List RK}:∀ {tab:List (List V×List Rs)},B3N T s sh ts rk tab→∀ p∈tab,ob (s (A6 T ts p.1) (fun _=>none) 0) (fun out=>A7 T sh rk out)=some p.2:=by
 intro tab
 induction tab with
 | nil=>intro _ p h;cases h
 | cons q r ih =>
  intro h p hp
  rcases List.mem_cons.1 hp with rfl | hp
  ·exact h.1
  ·exact ih h.2 p hp
theorem B4 {f:FuncId} {s:E7} (hs:B2 P T f s) {sh:Bool} {ts:List Nat} {rk:List RK} {tab:List (List V×List Rs)} (hts:ts.all (fun t=>(T t).isSome)=true) (h:B3N T s sh ts rk tab):B2 P T f (A5 T sh ts (B7 tab)).dir :=
 A9l (s:=C9w s) (B7x s) (by rw [B0z];exact hs) (B7w tab) hts (fun xs rs _ hrs=>h.at (xs,rs) (C0I hrs))
def bl (l:List Nat):V:=.l (l.map fun n=>.i (n:Nat))
variable {R:Type}
def Lee (x y:Option R):Prop:=∀ r,x=some r→y=some r
theorem Lee.rfl' (x:Option R):Lee x x:=fun _ h=>h
theorem A0a {c:Bool} {a b a' b':Option R} (h1:Lee a a') (h2:Lee b b'):Lee (bif c then a else b) (bif c then a' else b'):=by
 cases c
 ·exact h2
 ·exact h1
theorem A26 {n:Nat} {a a':Option R} (h:Lee a a'):Lee (ln n a) (ln n a'):=A0a h (Lee.rfl' _)
theorem C0J {n:Nat} {a a':Option R} (h:Lee a a'):Lee (lim n a) (lim n a'):=A0a h (Lee.rfl' _)
theorem B17 {i:Int} {n:Nat} {a a':Option R} (h:Lee a a'):Lee (ck i n a) (ck i n a'):=A0a h (Lee.rfl' _)
theorem B0A {p q:Type} {B:p→(p→Option R)→(q→Option R)→Option R} (hB:∀ x K K' kx,(∀ y,Lee (K y) (K' y))→Lee (B x K kx) (B x K' kx)):∀ (n m:Nat) (x:p) (kx:q→Option R),n≤m→Lee (Z9 B n x kx) (Z9 B m x kx):=by
 intro n
 induction n with
 | zero=>intro m x kx _ r h;cases h
 | succ n ih =>
  intro m x kx hm
  cases m with
  | zero=>omega
  | succ m=>exact hB x _ _ kx (fun y=>ih m y kx (by omega))
theorem C2q {S:Type} {n:Nat} {a:Option S} {k:S→Option R}:ob (ln n a) k=ln n (ob a k):=by unfold ln;cases Nat.ble n 9223372036854775807<;>rfl
theorem B7y {S:Type} {c:Bool} {a b:Option S} {k:S→Option R}:ob (bif c then a else b) k=bif c then ob a k else ob b k:=by cases c<;>rfl
theorem B0B {S:Type} {k:S→Option R}:ob (none:Option S) k=none:=rfl
theorem B3O {p q S:Type} {B:(R:Type)→p→(p→Option R)→(q→Option R)→Option R} (hB:∀ (R S:Type) (k:S→Option R) (x:p) (K:p→Option S) (kx:q→Option S),ob (B S x K kx) k=B R x (fun y=>ob (K y) k) (fun z=>ob (kx z) k)) (k:S→Option R):∀ (n:Nat) (x:p) (kx:q→Option S),ob (Z9 (B S) n x kx) k=Z9 (B R) n x (fun z=>ob (kx z) k):=by
 intro n
 induction n with
 | zero=>intro x kx;rfl
 | succ n ih =>
  intro x kx
  show ob (B S x (fun x'=>Z9 (B S) n x' kx) kx) k=B R x (fun x'=>Z9 (B R) n x' (fun z=>ob (kx z) k)) (fun z=>ob (kx z) k)
  rw [hB R S]
  congr 1
  funext y
  exact ih y kx
abbrev FQ:Nat:=5000
theorem C2r:FQ≤A4 FU:=by rw [A9m];decide
inductive PAd where
 | m (a b:V) (xs:List V) (c i:Int)
inductive QAd where
 | o (a b:V) (xs:List V) (c i:Int)
def ad3 {R:Type} (a b:V) (xs:List V) (i:Int) (K:PAd→Option R) (c:Int):Option R :=
 lim (xs.length+1) <| K (.m a b (xs++[.i (c.tmod 65536)]) (WU (c.tdiv 65536)) (J2 (i+1)))
def ad2 {R:Type} (a b:V) (xs:List V) (i:Int) (K:PAd→Option R) (c:Int):Option R :=
 ln b.els.length <| bif H8 i b.els.length then ck i b.els.length (ad3 a b xs i K (WU (c+elV b i))) else ad3 a b xs i K c
def ad1 {R:Type} (a b:V) (xs:List V) (i:Int) (K:PAd→Option R) (c:Int):Option R :=
 ln a.els.length <| bif H8 i a.els.length then ck i a.els.length (ad2 a b xs i K (WU (c+elV a i))) else ad2 a b xs i K c
def BAd (R:Type) (p:PAd) (K:PAd→Option R) (kx:QAd→Option R):Option R :=
 match p with
 | .m a b xs c i =>
  ln a.els.length <| bif H8 i a.els.length then ad1 a b xs i K c else
   ln b.els.length <| bif H8 i b.els.length then ad1 a b xs i K c else
    bif H8 0 c then ad1 a b xs i K c else kx (.o a b xs c i)
theorem B7z (x:PAd) (K K':PAd→Option R) (kx:QAd→Option R) (h:∀ y,Lee (K y) (K' y)):Lee (BAd R x K kx) (BAd R x K' kx):=by
 obtain ⟨a,b,xs,c,i⟩:=x
 have h3:∀ c,Lee (ad3 a b xs i K c) (ad3 a b xs i K' c):=fun c=>C0J (h _)
 have h2:∀ c,Lee (ad2 a b xs i K c) (ad2 a b xs i K' c):=fun c=>A26 (A0a (B17 (h3 _)) (h3 _))
 have h1:∀ c,Lee (ad1 a b xs i K c) (ad1 a b xs i K' c):=fun c=>A26 (A0a (B17 (h2 _)) (h2 _))
 exact A26 (A0a (h1 _) (A26 (A0a (h1 _) (A0a (h1 _) (Lee.rfl' _)))))
theorem C0K (R S:Type) (k:S→Option R) (x:PAd) (K:PAd→Option S) (kx:QAd→Option S):ob (BAd S x K kx) k=BAd R x (fun y=>ob (K y) k) (fun z=>ob (kx z) k):=by
 obtain ⟨a,b,xs,c,i⟩:=x
 simp only [BAd,ad1,ad2,ad3,B7y,B0B]
inductive PCp where
 | m (a b:V) (r i:Int)
inductive QCp where
 | r (a b:V) (r i:Int)
 | o (a b:V) (r i:Int)
def dgC {R:Type} (a:V) (i:Int) (k:Int→Option R):Option R:=ln a.els.length <| bif H8 i a.els.length then ck i a.els.length (k (elV a i)) else k 0
def BCp (R:Type) (p:PCp) (K:PCp→Option R) (kx:QCp→Option R):Option R :=
 match p with
 | .m a b r i=>bif M6 0 i then
   (dgC a i fun p=>dgC b i fun q=>bif H8 p q then kx (.r a b (-1) i) else
    dgC a i fun p=>dgC b i fun q=>bif H8 q p then kx (.r a b 1 i) else K (.m a b r (J2 (i - 1))))
  else kx (.o a b r i)
theorem A9i {a:V} {i:Int} {k k':Int→Option R} (h:∀ c,Lee (k c) (k' c)):Lee (dgC a i k) (dgC a i k'):=A26 (A0a (B17 (h _)) (h _))
theorem B7A (x:PCp) (K K':PCp→Option R) (kx:QCp→Option R) (h:∀ y,Lee (K y) (K' y)):Lee (BCp R x K kx) (BCp R x K' kx):=by
 obtain ⟨a,b,r,i⟩:=x
 exact A0a (A9i fun p=>A9i fun q=>A0a (Lee.rfl' _) (A9i fun p=>A9i fun q=>A0a (Lee.rfl' _) (h _))) (Lee.rfl' _)
theorem C0L (R S:Type) (k:S→Option R) (x:PCp) (K:PCp→Option S) (kx:QCp→Option S):ob (BCp S x K kx) k=BCp R x (fun y=>ob (K y) k) (fun z=>ob (kx z) k):=by
 obtain ⟨a,b,r,i⟩:=x
 simp only [BCp,dgC,B7y,B0B]
def adK {R:Type} (el:Nat) (k:List Rs→Option R):QAd→Option R
 | .o _ _ xs _ _=>k [.r el xs false]
theorem C0M (el:Nat) (k:List Rs→Option R):(fun z=>ob (adK el some z) k)=adK el k:=by
 funext z;cases z;rfl
def Gad (el:Nat):FC:=fun R xs k=>match xs with
 | [a,b]=>Z9 (BAd R) (A4 FU) (.m a b [] 0 0) (adK el k)
 | _=>none
def Fad (el:Nat):FC:=fun R xs k=>match xs with
 | [a,b]=>Z9 (BAd R) FQ (.m a b [] 0 0) (adK el k)
 | _=>none
theorem C0N (el:Nat):FC.nat (Fad el):=by
 intro R xs k
 unfold Fad
 split
 ·rw [B3O C0K,C0M]
 ·rfl
theorem C9x (el:Nat) {xs:List V} {rs:List Rs} (h:Fad el (List Rs) xs some=some rs):Gad el (List Rs) xs some=some rs:=by
 unfold Fad at h
 split at h
 ·exact B0A B7z FQ (A4 FU) _ _ C2r _ h
 ·cases h
def cpI (a b:V):Int:=J2 ((bif (H8 (a.els.length:Nat) (b.els.length:Nat)) then (b.els.length:Nat) else (a.els.length:Nat):Int) - 1)
def cpK {R:Type} (t:Nat) (k:List Rs→Option R):QCp→Option R
 | .r _ _ r _=>k [.d t (.i r)]
 | .o _ _ _ _=>k [.d t (.i 0)]
theorem C0O (t:Nat) (k:List Rs→Option R):(fun z=>ob (cpK t some z) k)=cpK t k:=by
 funext z;cases z<;>rfl
def Gcp (t:Nat):FC:=fun R xs k=>match xs with
 | [a,b]=>ln a.els.length <| ln b.els.length <| Z9 (BCp R) (A4 FU) (.m a b 0 (cpI a b)) (cpK t k)
 | _=>none
def Fcp (t:Nat):FC:=fun R xs k=>match xs with
 | [a,b]=>ln a.els.length <| ln b.els.length <| Z9 (BCp R) FQ (.m a b 0 (cpI a b)) (cpK t k)
 | _=>none
theorem C0P (t:Nat):FC.nat (Fcp t):=by
 intro R xs k
 unfold Fcp
 split
 ·rw [C2q,C2q,B3O C0L,C0O]
 ·rfl
theorem C9y (t:Nat) {xs:List V} {rs:List Rs} (h:Fcp t (List Rs) xs some=some rs):Gcp t (List Rs) xs some=some rs:=by
 unfold Fcp at h
 split at h
 ·exact A26 (A26 (B0A B7A FQ (A4 FU) _ _ C2r)) _ h
 ·cases h
variable {P:Program} {T:TT} {R:Type} {e:B6}
variable {P:Program} {T:TT} {R:Type} {c:F6} {e:B6} {of:Nat→Option Ob}
variable {P:Program} {T:TT} {R:Type} {c:F6} {e:B6} {of:Nat→Option Ob}
theorem A39:∀ (l:List (Nat×Ob)) {f g:Nat→Option Ob} {id:Nat},f id=g id→put f l id=put g l id:=by
 intro l
 induction l with
 | nil=>intro f g id h;exact h
 | cons p r ih =>
  intro f g id h
  refine ih ?_
  simp only [D9]
  split
  ·rfl
  ·exact h
variable {P:Program} {T:TT} {R:Type}
variable {P:Program} {T:TT} {R:Type}
variable {P:Program} {T:TT} {R:Type}
variable {P:Program} {T:TT} {R:Type}
variable {P:Program} {T:TT} {R:Type}
variable {P:Program} {T:TT} {R:Type}
variable {P:Program} {T:TT} {R:Type}
variable {P:Program} {T:TT}
variable {R:Type}
variable {P:Program} {T:TT} {R:Type}
variable {P:Program} {T:TT} {R:Type}
variable {P:Program} {T:TT} {R:Type}
def gF (g:List V→Bool) (r:List V→List Rs):FC:=fun R xs k=>bif g xs then k (r xs) else none
theorem B7B (g:List V→Bool) (r:List V→List Rs):FC.nat (gF g r):=by
 intro R xs k
 unfold gF
 cases g xs<;>rfl
theorem D33 {g:List V→Bool} {r:List V→List Rs} {xs:List V} {rs:List Rs} (h:gF g r (List Rs) xs some=some rs):g xs=true∧rs=r xs:=by
 unfold gF at h
 cases hg:g xs with
 | false=>rw [hg] at h;cases h
 | true=>rw [hg] at h;simp only [cond_true,D9B] at h;exact ⟨rfl,h.symm⟩
variable {P:Program} {T:TT} {R:Type}
variable {P:Program} {T:TT} {R:Type}
variable {P:Program} {T:TT}
variable {R:Type}
variable {R:Type}
end Go.Vm
namespace Go.Vm.Wd
open Go.RowKit
end Go.Vm.Wd
namespace Go.Vm.Wd
open Go.RowKit
variable {R:Type}
end Go.Vm.Wd
namespace Go.Vm.Wd
open Go.RowKit
variable {R:Type}
end Go.Vm.Wd
namespace Go.Vm.Wd
open Go.RowKit
variable {R:Type}
end Go.Vm.Wd
namespace Go.Vm.Wd
open Go.RowKit
variable {R:Type}
end Go.Vm.Wd
namespace Go.Vm
open Go.RowKit
variable {P:Program} {T:TT} {R:Type} {c:F6} {e e':B6} {of:Nat→Option Ob}
section
variable (ρ:Nat→Nat) (τ:Nat→Nat→Option Nat)
def rnV (id ver:Nat) (k:Nat→A):A :=
 match τ id ver with
 | some v=>k v
 | none=>.x
mutual
def rnA:A→A
 | .p id t path=>.p (ρ id) t path
 | .e id ver i t path=>rnV τ id ver fun v=>.e (ρ id) v i t path
 | .o id ver=>rnV τ id ver fun v=>.o (ρ id) v
 | .w id ver off n=>rnV τ id ver fun v=>.w (ρ id) v off n
 | .a id t path lo m=>.a (ρ id) t path lo m
 | .m id=>.m (ρ id)
 | .y id=>.y (ρ id)
 | .f fn l=>.f fn (rnL l)
 | .g t l=>.g t (rnL l)
 | .t l=>.t (rnL l)
 | a=>a
def rnL:List A→List A
 | []=>[]
 | a::r=>rnA a::rnL r
end
def rnE:List (V×A)→List (V×A)
 | []=>[]
 | p::r=>(p.1,rnA ρ τ p.2)::rnE r
def rnO (id:Nat):Ob→Ob
 | .box t a sh=>.box t (rnA ρ τ a) sh
 | .row el ver xs nl sh=>.row el (match τ id ver with | some v=>v | none=>0) xs nl sh
 | .map kt et es=>.map kt et (rnE ρ τ es)
 | .vm kt et es=>.vm kt et es
 | .sm kt st el es ho=>.sm kt st el es ho
 | .it (some m)=>.it (some (ρ m))
 | .it none=>.it none
 | .lp q=>.lp none
end
def okT:Ob→Bool
 | .lp (some _)=>false
 | _=>true
structure REN (e e':B6) (ρ:Nat→Nat) (τ:Nat→Nat→Option Nat) (D:Nat→Prop):Prop where
 w:e'.w=e.w
 S:∀ b i,e'.S b i↔e.S b i
 use:∀ id,D id→e.U id→e'.U (ρ id)
 ι:∀ id,D id→e.U id→e'.ι (ρ id)=e.ι id
 ty:∀ id,D id→e.U id→e'.ty (ρ id)=e.ty id
 ln:∀ id,D id→e.U id→e'.ln (ρ id)=e.ln id
 bn0:∀ id,D id→e.U id→e.bn id=0→e'.bn (ρ id)=0
 ver:∀ id ver v,D id→e.U id→τ id ver=some v→0 < ver→ver≤e.bn id→0 < v∧v≤e'.bn (ρ id)∧(e'.bn (ρ id)=v→e.bn id=ver)
 G:∀ id a o b,D id→e.U id→e.ι id=some (a,o)→e.G a b→e'.G a b
variable {ρ:Nat→Nat} {τ:Nat→Nat→Option Nat} {D:Nat→Prop}
theorem REN.fz (h:REN e e' ρ τ D) {a:Addr} {ds:List Value} (q:Fz e a ds):Fz e' a ds:=⟨q.1,fun j y hj=>by
 obtain ⟨p1,p2⟩:=q.2 j y hj
 rw [h.w];exact ⟨p1,(h.S _ _).2 p2⟩⟩
theorem REN.rv (h:REN e e' ρ τ D) {ts:List Nat} {xs:List V} {cs:List Value} (q:RV T e ts xs cs):RV T e' ts xs cs:=q.change fun _ _=>h.fz
theorem R1.ren (h:REN e e' ρ τ D) {a:A} {v:Value} (q:R1 T e a v) (ho:one v=true) (hd:∀ id∈C9 a,D id):R1 T e' (rnA ρ τ a) v:=by
 cases a with
 | x=>exact q
 | p id t path =>
  obtain ⟨b,off,h1,h2,h3,h4,h5⟩:=q
  have d:=hd id (by simp [C9])
  exact ⟨b,off,h.use _ d h1,h.bn0 _ d h1 h2,(h.ι _ d h1).trans h3,by rw [h.ty _ d h1];exact h4,h5⟩
 | a id t path lo m =>
  obtain ⟨b,off,n,el,k,cap,h1,h2,h3,h4,h5⟩:=q
  have d:=hd id (by simp [C9])
  exact ⟨b,off,n,el,k,cap,h.use _ d h1,h.bn0 _ d h1 h2,(h.ι _ d h1).trans h3,by rw [h.ty _ d h1];exact h4,h5⟩
 | m id =>
  obtain ⟨b,h1,h2,h3,h4⟩:=q
  have d:=hd id (by simp [C9])
  exact ⟨b,h.use _ d h1,h.bn0 _ d h1 h2,(h.ι _ d h1).trans h3,h4⟩
 | f fn cap =>
  obtain ⟨id,t,path,rfl,b,off,h1,h2,h3,h4,h5⟩:=A05 q
  have d:=hd id (by simp [C9,D6])
  exact ⟨b,off,h.use _ d h1,h.bn0 _ d h1 h2,(h.ι _ d h1).trans h3,by rw [h.ty _ d h1];exact h4,h5⟩
 | y id =>
  obtain ⟨b,h1,h2,h3,h4⟩:=q
  have d:=hd id (by simp [C9])
  exact ⟨b,h.use _ d h1,h.bn0 _ d h1 h2,(h.ι _ d h1).trans h3,h4⟩
 | e id ver i t path =>
  obtain ⟨h0,h1,h2,h3,h4⟩:=q
  have d:=hd id (by simp [C9])
  simp only [rnA,rnV]
  cases hv:τ id ver with
  | none=>exact ho
  | some v' =>
   obtain ⟨v1,v2,v3⟩:=h.ver _ _ _ d h1 hv h3 h2
   refine ⟨h0,h.use _ d h1,v2,v1,fun hb=>?_⟩
   obtain ⟨b,o,off,g1,g2,g3,g4⟩:=h4 (v3 hb)
   exact ⟨b,o,off,(h.ι _ d h1).trans g1,by rw [h.ty _ d h1];exact g2,by rw [h.ln _ d h1];exact g3,by rw [h.ty _ d h1];exact g4⟩
 | o id ver =>
  obtain ⟨h0,h1,h2,h3,h4⟩:=q
  have d:=hd id (by simp [C9])
  simp only [rnA,rnV]
  cases hv:τ id ver with
  | none=>exact ho
  | some v' =>
   obtain ⟨v1,v2,v3⟩:=h.ver _ _ _ d h1 hv h3 h2
   refine ⟨h0,h.use _ d h1,v2,v1,fun hb=>?_⟩
   rcases h4 (v3 hb) with ⟨g1,g2,g3⟩ | ⟨b,o,cap,k,g1,g2,g3,g5,g4⟩
   ·exact .inl ⟨(h.ι _ d h1).trans g1,by rw [h.ln _ d h1];exact g2,g3⟩
   ·exact .inr ⟨b,o,cap,k,(h.ι _ d h1).trans g1,by rw [h.ln _ d h1];exact g2,by rw [h.ty _ d h1,h.w];exact g3,g5,by rw [h.ln _ d h1];exact g4⟩
 | w id ver off n =>
  obtain ⟨h0,h1,h2,h3,h4⟩:=q
  have d:=hd id (by simp [C9])
  simp only [rnA,rnV]
  cases hv:τ id ver with
  | none=>exact ho
  | some v' =>
   obtain ⟨v1,v2,v3⟩:=h.ver _ _ _ d h1 hv h3 h2
   refine ⟨h0,h.use _ d h1,v2,v1,fun hb=>?_⟩
   obtain ⟨b,o,cap,k,g1,g2,g3,g4,g5,g6⟩:=h4 (v3 hb)
   exact ⟨b,o,cap,k,(h.ι _ d h1).trans g1,g2,by rw [h.ln _ d h1];exact g3,by rw [h.ty _ d h1,h.w];exact g4,by rw [h.ty _ d h1];exact g5,g6⟩
 | _=>exact q.elim
theorem A9j {t:Nat} {a:A}:C7 T t a=true→C7 T t (rnA ρ τ a)=true:=by
 cases a with
 | e id ver i t' path=>intro h;simp only [rnA,rnV];cases τ id ver<;>exact h
 | o id ver=>intro h;simp only [rnA,rnV];cases τ id ver<;>exact h
 | w id ver off n=>intro h;simp only [rnA,rnV];cases τ id ver<;>exact h
 | _=>exact fun h=>h
theorem C0Q:∀ {ts:List Nat} {l:List A},X6 T ts l=true→X6 T ts (rnL ρ τ l)=true:=by
 intro ts
 induction ts with
 | nil=>intro l h;cases l with
  | nil=>rfl
  | cons _ _=>cases h
 | cons t ts ih=>intro l h;cases l with
  | nil=>cases h
  | cons a l =>
   simp only [rnL,X6,D9z] at h ⊢
   exact ⟨A9j h.1,ih h.2⟩
theorem RA.ren (h:REN e e' ρ τ D) {l:List A} {cs:List Value} (q:RA T e l cs):(∀ id∈D6 l,D id)→RA T e' (rnL ρ τ l) cs:=by
 induction q with
 | nil=>intro _;exact .nil
 | i hr _ ih=>intro hd;exact .i hr (ih fun id A4=>hd id (by simpa [D6,C9] using A4))
 | b _ ih=>intro hd;exact .b (ih fun id A4=>hd id (by simpa [D6,C9] using A4))
 | s _ ih=>intro hd;exact .s (ih fun id A4=>hd id (by simpa [D6,C9] using A4))
 | z h1 _ ih=>intro hd;exact .z h1 (ih fun id A4=>hd id (by simpa [D6,C9] using A4))
 | v h1 _ ih=>intro hd;exact .v (h.rv h1) (ih fun id A4=>hd id (by simpa [D6,C9] using A4))
 | c h1 h2 _ ih=>intro hd;exact .c (h.rv h1) (h.fz h2) (ih fun id A4=>hd id (by simpa [D6,C9] using A4))
 | q h1 _ ih=>intro hd;exact .q (h.rv h1) (ih fun id A4=>hd id (by simpa [D6,C9] using A4))
 | f _ _ ih1 ih=>intro hd;exact .f (ih1 fun id A4=>hd id (by simp [D6,C9,A4])) (ih fun id A4=>hd id (by simp [D6,A4]))
 | g h1 h2 h3 _ _ ih1 ih=>intro hd;exact .g h1 (C0Q h2) h3 (ih1 fun id A4=>hd id (by simp [D6,C9,A4])) (ih fun id A4=>hd id (by simp [D6,A4]))
 | r h1 h2 _ ih=>intro hd;exact .r (h1.ren h h2 fun id A4=>hd id (by simp [D6,A4])) h2 (ih fun id A4=>hd id (by simp [D6,A4]))
theorem F0.ren (h:REN e e' ρ τ D) {a:A} {v:Value} (q:F0 T e a v) (hd:∀ id∈C9 a,D id):F0 T e' (rnA ρ τ a) v:=by
 have one:∀ {b:A},RA T e [b] [v]→(∀ id∈C9 b,D id)→RA T e' [rnA ρ τ b] [v]:=fun g hb=>RA.ren h g fun id A4=>hb id (by simpa [D6] using A4)
 cases a with
 | x=>trivial
 | t l=>exact q.elim
 | v t y=>exact ⟨h.rv q.1,q.2⟩
 | g t l=>exact ⟨RA.ren h q.1 fun id A4=>hd id (by simpa [D6] using A4),q.2⟩
 | e id ver i t path =>
  have:=one (b:=.e id ver i t path) q hd
  simp only [rnA,rnV] at this ⊢
  cases hv:τ id ver with
  | none=>trivial
  | some v'=>rw [hv] at this;exact this
 | o id ver =>
  have:=one (b:=.o id ver) q hd
  simp only [rnA,rnV] at this ⊢
  cases hv:τ id ver with
  | none=>trivial
  | some v'=>rw [hv] at this;exact this
 | w id ver off n =>
  have:=one (b:=.w id ver off n) q hd
  simp only [rnA,rnV] at this ⊢
  cases hv:τ id ver with
  | none=>trivial
  | some v'=>rw [hv] at this;exact this
 | i k n=>exact one (b:=.i k n) q hd
 | b y=>exact one (b:=.b y) q hd
 | s l=>exact one (b:=.s l) q hd
 | z y=>exact one (b:=.z y) q hd
 | p id t path=>exact one (b:=.p id t path) q hd
 | c t y=>exact one (b:=.c t y) q hd
 | q t y=>exact one (b:=.q t y) q hd
 | a id t path lo m=>exact one (b:=.a id t path lo m) q hd
 | m id=>exact one (b:=.m id) q hd
 | y id=>exact one (b:=.y id) q hd
 | f fn l=>exact one (b:=.f fn l) q hd
theorem C0R:∀ {l:List A} {k:Nat} {v:A},(rnL ρ τ l)[k]? = some v→∃ a,l[k]? = some a∧v=rnA ρ τ a:=by
 intro l
 induction l with
 | nil=>intro k v h;simp [rnL] at h
 | cons a l ih =>
  intro k v h
  cases k with
  | zero=>simp [rnL] at h;exact ⟨a,rfl,h.symm⟩
  | succ k=>exact ih (by simpa [rnL] using h)
theorem C0S:∀ {l:List A},(rnL ρ τ l).length=l.length:=by
 intro l
 induction l with
 | nil=>rfl
 | cons a l ih=>simp [rnL,ih]
theorem B7C:∀ {l:List A} {k:Nat} {a:A},l[k]? = some a→∀ id∈C9 a,id∈D6 l:=by
 intro l
 induction l with
 | nil=>intro k a h;simp at h
 | cons b l ih =>
  intro k a h id A4
  cases k with
  | zero=>simp at h;subst h;simp [D6,A4]
  | succ k=>simp [D6,ih (by simpa using h) id A4]
theorem B7D {e:B6} {a:A} {v:Value} (h:F0 T e a v):B9 T e a v:=by
 cases a with
 | t l=>exact h.elim
 | _=>exact h
theorem B9.ren (h:REN e e' ρ τ D) {a:A} {v:Value} (q:B9 T e a v) (hd:∀ id∈C9 a,D id):B9 T e' (rnA ρ τ a) v:=by
 by_cases ht:∃ l,a=.t l
 ·obtain ⟨l,rfl⟩:=ht
  obtain ⟨xs,rfl,h2,h3⟩:=q
  refine ⟨xs,rfl,by rw [C0S];exact h2,fun k v x hv hx=>?_⟩
  obtain ⟨b,hb,rfl⟩:=C0R hv
  exact (h3 k b x hb hx).ren h fun id A4=>hd id (by simp only [C9];exact B7C hb id A4)
 ·exact B7D ((A5e q fun l hl=>ht ⟨l,hl⟩).ren h hd)
theorem Q1.ren (h:REN e e' ρ τ D) {l:List A} {vs:List Value} (q:Q1 T e l vs):(∀ id∈D6 l,D id)→Q1 T e' (rnL ρ τ l) vs:=by
 induction q with
 | nil=>intro _;exact .nil
 | cons h1 _ ih=>intro hd;exact .cons (h1.ren h fun id A4=>hd id (by simp [D6,A4])) (ih fun id A4=>hd id (by simp [D6,A4]))
theorem MR.ren (h:REN e e' ρ τ D) {kt et:Nat} {es:List (V×A)} {ms:List MapEntry} (q:MR T e kt et es ms):(∀ id∈A17 es,D id)→MR T e' kt et (rnE ρ τ es) ms:=by
 induction q with
 | nil=>intro _;exact .nil
 | cons h1 h2 h3 _ ih =>
  intro hd
  exact .cons (show F0 T e' (.v _ _) _ from ⟨h.rv h1.1,h1.2⟩) (h2.ren h fun id A4=>hd id (by simp [A17,A4])) (A9j h3) (ih fun id A4=>hd id (by simp [A17,A4]))
theorem A3D:∀ l:List (V×A),rnE ρ τ l=l.map fun p=>(p.1,rnA ρ τ p.2):=by
 intro l
 induction l with
 | nil=>rfl
 | cons p r ih=>simp [rnE,ih]
theorem B7E {et:Nat}:∀ es:List (V×V),A17 (vms et es)=[]:=by
 intro es
 induction es with
 | nil=>rfl
 | cons p r ih=>simp only [vms,A17,C9,ih,List.nil_append]
theorem C0T {et:Nat}:∀ es:List (V×V),rnE ρ τ (vms et es)=vms et es:=by
 intro es
 induction es with
 | nil=>rfl
 | cons p r ih=>simp only [vms,rnE,ih];rfl
theorem OK.ren (h:REN e e' ρ τ D) {id:Nat} {o:Ob} (q:OK T e id o) (di:D id) (hd:∀ k∈A04 o,D k) (ho:okT o=true)
  (hv:∀ el ver xs nl sh,o=.row el ver xs nl sh→∃ v,τ id ver=some v∧e'.bn (ρ id)=v):OK T e' (ρ id) (rnO ρ τ id o):=by
 cases o with
 | box t a sh =>
  obtain ⟨h1,h2,h2',h2'',b,cs,ty,fz,h3,h4,h5,h5',h6,h7⟩:=q
  refine ⟨h.use _ di h1,h.bn0 _ di h1 h2,(h.ty _ di h1).trans h2',A9j h2'',b,cs,ty,fz,(h.ι _ di h1).trans h3,by rw [h.w];exact h4,?_,h5',RA.ren h h6 (fun k hk=>hd k (by simpa [D6,A04] using hk)),fun hh i hc=>h7.1 hh i ((h.S _ _).1 hc),h7.2⟩
  unfold A06 at h5 ⊢;rw [h.w];exact h5
 | row el ver xs nl sh =>
  obtain ⟨h1,h2,h3,h4,h4',h5,h6⟩:=q
  obtain ⟨v,hτ,hbv⟩:=hv _ _ _ _ _ rfl
  obtain ⟨v1,v2,v3⟩:=h.ver _ _ _ di h1 hτ h2 (by omega)
  simp only [rnO,hτ]
  refine ⟨h.use _ di h1,v1,hbv,(h.ty _ di h1).trans h4,(h.ln _ di h1).trans h4',h5,?_⟩
  rcases h6 with ⟨g1,g2,g3⟩ | ⟨nn',b,o,cs,t,fz,pre,ys,post,g1,g2,g3,g4,g5,g6,g7,g8⟩
  ·exact .inl ⟨g1,(h.ι _ di h1).trans g2,g3⟩
  ·refine .inr ⟨nn',b,o,cs,t,fz,pre,ys,post,(h.ι _ di h1).trans g1,by rw [h.w];exact g2,?_,g4,g5,h.rv g6,fun i hi hc=>g7 i hi ((h.S _ _).1 hc),fun hh i hi hc=>g8 hh i hi ((h.S _ _).1 hc)⟩
   unfold A06 at g3 ⊢;rw [h.w];exact g3
 | map kt et es =>
  obtain ⟨h1,h2,b,ms,clock,h3,h4,⟨h5,h5'⟩,es',h6,h7⟩:=q
  refine ⟨h.use _ di h1,h.bn0 _ di h1 h2,b,ms,clock,(h.ι _ di h1).trans h3,by rw [h.w];exact h4,⟨by rw [A3D,List.map_map];exact h5,h5'⟩,rnE ρ τ es',by rw [A3D,A3D];exact h6.map _,h7.ren h fun k hk=>hd k (A3X h6.symm k hk)⟩
 | vm kt et es =>
  obtain ⟨h1,h2,b,ms,clock,h3,h4,⟨h5,h5'⟩,es',h6,h7⟩:=q
  refine ⟨h.use _ di h1,h.bn0 _ di h1 h2,b,ms,clock,(h.ι _ di h1).trans h3,by rw [h.w];exact h4,⟨h5,h5'⟩,rnE ρ τ es',by rw [← C0T (ρ:=ρ) (τ:=τ) es,A3D,A3D];exact h6.map _,h7.ren h fun k hk=>by
   have:=A3X h6.symm k hk
   rw [B7E] at this;cases this⟩
 | sm kt st el es ho' =>
  obtain ⟨h1,h2,ha,hb',hc,b,ms,clock,h3,h4,h5,es',bs,h6,h7⟩:=q
  refine ⟨h.use _ di h1,h.bn0 _ di h1 h2,ha,hb',hc,b,ms,clock,(h.ι _ di h1).trans h3,by rw [h.w];exact h4,h5,es',bs,h6,SR.move (e:=e) (e':=e') (fun a ds=>h.fz) h.w (fun b i=>(h.S b i).1) (fun b' hG=>h.G id b 0 b' di h1 h3 hG) h7⟩
 | lp q' =>
  cases q' with
  | none =>
   obtain ⟨h1,h2,b,h3,h4⟩:=q
   exact ⟨h.use _ di h1,h.bn0 _ di h1 h2,b,(h.ι _ di h1).trans h3,by rw [h.w];exact h4⟩
  | some r=>cases ho
 | it q' =>
  cases q' with
  | none =>
   obtain ⟨h1,h2,b,x,y,z,h3,h4⟩:=q
   exact ⟨h.use _ di h1,h.bn0 _ di h1 h2,b,x,y,z,(h.ι _ di h1).trans h3,by rw [h.w];exact h4⟩
  | some m =>
   obtain ⟨h1,h2,b,bm,x,z,h3,h4,h5,h6,h7⟩:=q
   have dm:=hd m (by simp [A04])
   exact ⟨h.use _ di h1,h.bn0 _ di h1 h2,b,bm,x,z,(h.ι _ di h1).trans h3,by rw [h.w];exact h4,h.use _ dm h5,h.bn0 _ dm h5 h6,(h.ι _ dm h5).trans h7⟩
variable {P:Program} {T:TT} {R:Type} {c:F6} {e:B6} {of:Nat→Option Ob}
def A1N (of:Nat→Option Ob):Nat→List Nat→List Nat→List Nat
 | 0,_,acc=>acc
 | _+1,[],acc=>acc
 | f+1,id::r,acc=>bif mem id acc then A1N of f r acc else
  match of id with
  | some o=>A1N of f (A04 o++r) (acc++[id])
  | none=>acc
def J8:List Nat→Nat→Nat
 | [],_=>0
 | k::r,id=>bif Nat.beq k id then 0 else J8 r id+1
def P3 (of:Nat→Option Ob) (id:Nat):Nat :=
 match of id with
 | some (.row _ v _ _ _)=>v
 | _=>0
def A1O:List Nat→Bool
 | []=>true
 | k::r=>!mem k r&&A1O r
def A6U (L:List Nat):List Nat→Bool
 | []=>true
 | k::r=>mem k L&&A6U L r
def A9k (of:Nat→Option Ob) (L:List Nat):List Nat→Bool
 | []=>true
 | id::r=>(match of id with
  | some o=>okT o&&A6U L (A04 o)
  | none=>false)&&A9k of L r
def A4a (of:Nat→Option Ob) (id ver:Nat):Option Nat:=bif Nat.beq (P3 of id) ver then some 1 else none
def S3 (of:Nat→Option Ob) (L:List Nat):List Nat→List Ob
 | []=>[]
 | id::r=>(match of id with
  | some o=>rnO (J8 L) (A4a of) id o
  | none=>.lp none)::S3 of L r
def ofL:List Ob→Nat→Option Ob
 | [],_=>none
 | o::_,0=>some o
 | _::r,n+1=>ofL r n
def A3E:List Nat→Nat→Option Nat
 | [],_=>none
 | k::_,0=>some k
 | _::r,n+1=>A3E r n
def G2 (L:List Nat) (nx:Nat) (j:Nat):Nat :=
 match A3E L j with
 | some id=>id
 | none=>nx+(j - L.length)
def A4R (of:Nat→Option Ob) (L:List Nat) (j ver:Nat):Option Nat :=
 match A3E L j with
 | some id=>some (ver+(P3 of id - 1))
 | none=>some ver
def X2 (of:Nat→Option Ob) (L:List Nat) (nx:Nat):List (Nat×Ob)→List (Nat×Ob)
 | []=>[]
 | p::r=>(G2 L nx p.1,rnO (G2 L nx) (A4R of L) p.1 p.2)::X2 of L nx r
def B0C:List (Nat×Ob)→Bool
 | []=>true
 | p::r=>okT p.2&&B0C r
def A1b:Nat→List Ob→List (Nat×Ob)
 | _,[]=>[]
 | j,o::r=>(j,o)::A1b (j+1) r
def trS (s:H4):H4:=fun R args of nx k =>
 (fun L:List Nat=>bif A1O L&&(A9k of L L&&A6U L (D6 args)) then
  s R (rnL (J8 L) (A4a of) args) (ofL (S3 of L L)) L.length fun out=>bif Nat.ble L.length out.nx&&B0C out.wo then
   k ⟨rnA (G2 L nx) (A4R of L) out.val,X2 of L nx (A1b 0 (S3 of L L)++out.wo),L,nx+(out.nx - L.length)⟩ else none
  else none) (A1N of 64 (D6 args) [])
theorem A7h {L:List Nat}:∀ {l:List Nat},A6U L l=true→∀ id∈l,id∈L:=by
 intro l
 induction l with
 | nil=>intro _ id h;cases h
 | cons k r ih =>
  intro h id A4
  simp only [A6U,D9z,mem_iff] at h
  rcases List.mem_cons.1 A4 with rfl | A4
  ·exact h.1
  ·exact ih h.2 id A4
theorem B0D:∀ {l:List Nat},A1O l=true→l.Nodup:=by
 intro l
 induction l with
 | nil=>intro _;exact .nil
 | cons k r ih =>
  intro h
  simp only [A1O,D9z,Bool.not_eq_true'] at h
  refine List.nodup_cons.2 ⟨fun hk=>?_,ih h.2⟩
  rw [mem_iff.2 hk] at h;cases h.1
theorem B5b {L:List Nat}:∀ {l:List Nat},A9k of L l=true→∀ id∈l,∃ o,of id=some o∧okT o=true∧∀ k∈A04 o,k∈L:=by
 intro l
 induction l with
 | nil=>intro _ id h;cases h
 | cons k r ih =>
  intro h id A4
  simp only [A9k,D9z] at h
  rcases List.mem_cons.1 A4 with rfl | A4
  ·obtain ⟨h1,_⟩:=h
   split at h1
   ·rename_i o ho
    simp only [D9z] at h1
    exact ⟨o,ho,h1.1,A7h h1.2⟩
   ·cases h1
  ·exact ih h.2 id A4
theorem A7i {l:List Nat}:∀ {j:Nat},j < l.length→∃ id,A3E l j=some id∧id∈l:=by
 induction l with
 | nil=>intro j h;cases h
 | cons k r ih =>
  intro j h
  cases j with
  | zero=>exact ⟨k,rfl,by simp⟩
  | succ j=>obtain ⟨id,h1,h2⟩:=ih (j:=j) (by simpa using h);exact ⟨id,h1,by simp [h2]⟩
theorem A0x {l:List Nat}:∀ {j:Nat},l.length≤j→A3E l j=none:=by
 induction l with
 | nil=>intro j _;rfl
 | cons k r ih=>intro j h;cases j with
  | zero=>cases h
  | succ j=>exact ih (by simpa using h)
theorem B3P {l:List Nat}:∀ {j id:Nat},A3E l j=some id→j < l.length:=by
 intro j id h
 by_cases hj:j < l.length
 ·exact hj
 ·rw [A0x (by omega)] at h;cases h
theorem C0U {l:List Nat} (hn:l.Nodup):∀ {j id:Nat},A3E l j=some id→J8 l id=j:=by
 induction l with
 | nil=>intro j id h;cases h
 | cons k r ih =>
  intro j id h
  obtain ⟨n1,n2⟩:=List.nodup_cons.1 hn
  cases j with
  | zero=>cases h;unfold J8;rw [Nat.beq_refl];rfl
  | succ j =>
   have h':A3E r j=some id:=h
   have A4:id∈r:=by
    obtain ⟨id',h1,h2⟩:=A7i (B3P h')
    rw [h'] at h1;cases h1;exact h2
   have:k≠id:=fun q=>n1 (q ▸ A4)
   unfold J8;rw [A5u this]
   show J8 r id+1=j+1
   rw [ih n2 h']
theorem B3Q {l:List Nat}:∀ {id:Nat},id∈l→A3E l (J8 l id)=some id∧J8 l id < l.length:=by
 induction l with
 | nil=>intro id h;cases h
 | cons k r ih =>
  intro id h
  unfold J8
  by_cases hk:k=id
  ·subst hk;rw [Nat.beq_refl];exact ⟨rfl,by simp⟩
  ·rw [A5u hk]
   obtain ⟨h1,h2⟩:=ih ((List.mem_cons.1 h).resolve_left (fun q=>hk q.symm))
   exact ⟨h1,by show J8 r id+1 < _;simp;omega⟩
theorem B3R {L:List Nat}:∀ {l:List Nat} {j:Nat},ofL (S3 of L l) j=(A3E l j).map fun id=>match of id with
  | some o=>rnO (J8 L) (A4a of) id o
  | none=>.lp none:=by
 intro l
 induction l with
 | nil=>intro j;rfl
 | cons k r ih=>intro j;cases j with
  | zero=>rfl
  | succ j=>exact ih
theorem B3S:∀ (l:List Ob) (n:Nat) (f:Nat→Option Ob) (j:Nat),put f (A1b n l) j=if n≤j then (match ofL l (j - n) with | some o=>some o | none=>f j) else f j:=by
 intro l
 induction l with
 | nil=>intro n f j;simp [A1b,put,ofL]
 | cons o r ih =>
  intro n f j
  simp only [A1b,put]
  rw [ih]
  by_cases h1:n+1≤j
  ·rw [if_pos h1,if_pos (by omega),show j - n=(j - (n+1))+1 by omega]
   simp only [ofL]
   cases ofL r (j - (n+1)) with
   | some _=>rfl
   | none=>simp only;rw [A2 _ _ (by omega)]
  ·rw [if_neg h1]
   by_cases h2:n≤j
   ·have:j=n:=by omega
    subst this
    rw [if_pos (Nat.le_refl _),Nat.sub_self,upd_same];rfl
   ·rw [if_neg h2,A2 _ _ (by omega)]
theorem A5R {L:List Nat} {nx:Nat}:∀ (l:List (Nat×Ob)) (f g:Nat→Option Ob) (j:Nat),(∀ i∈T5 l,G2 L nx i=G2 L nx j→i=j) →
  g (G2 L nx j)=(f j).map (rnO (G2 L nx) (A4R of L) j)→put g (X2 of L nx l) (G2 L nx j)=(put f l j).map (rnO (G2 L nx) (A4R of L) j):=by
 intro l
 induction l with
 | nil=>intro f g j _ h;exact h
 | cons p r ih =>
  intro f g j hi h
  obtain ⟨k,o⟩:=p
  simp only [X2,put]
  refine ih _ _ j (fun i A4=>hi i (by simp only [T5,List.map_cons,List.mem_cons];exact .inr A4)) ?_
  by_cases hk:j=k
  ·subst hk;rw [upd_same,upd_same];rfl
  ·have hne:G2 L nx j≠G2 L nx k:=fun q=>hk (hi k (by simp [T5]) q.symm).symm
   rw [A2 _ _ hne,A2 _ _ hk];exact h
theorem C0V {L:List Nat} {nx:Nat}:∀ (l:List (Nat×Ob)) (g:Nat→Option Ob) (id:Nat),(∀ i∈T5 l,G2 L nx i≠id)→put g (X2 of L nx l) id=g id:=by
 intro l
 induction l with
 | nil=>intro g id _;rfl
 | cons p r ih =>
  intro g id hi
  simp only [X2,put]
  rw [ih _ id (fun i A4=>hi i (by simp only [T5,List.map_cons,List.mem_cons];exact .inr A4))]
  exact A2 _ _ fun q=>hi p.1 (by simp [T5]) q.symm
theorem B18:∀ (l:List (Nat×Ob)) (f:Nat→Option Ob) (j:Nat),(j∈T5 l∨(f j).isSome)→(put f l j).isSome:=by
 intro l
 induction l with
 | nil=>intro f j h;exact h.resolve_left (fun q=>by cases q)
 | cons p r ih =>
  intro f j h
  refine ih _ j ?_
  by_cases hj:j=p.1
  ·right;subst hj;rw [upd_same];rfl
  ·rcases h with h | h
   ·left;simp only [T5,List.map_cons,List.mem_cons] at h;exact h.resolve_left hj
   ·right;rw [A2 _ _ hj];exact h
theorem B7F:∀ (l:List (Nat×Ob)) (f:Nat→Option Ob),B0C l=true→(∀ j o,f j=some o→okT o=true)→∀ j o,put f l j=some o→okT o=true:=by
 intro l
 induction l with
 | nil=>intro f _ h j o;exact h j o
 | cons p r ih =>
  intro f ha h j o hj
  simp only [B0C,D9z] at ha
  refine ih _ ha.2 (fun j o hj=>?_) j o hj
  by_cases hk:j=p.1
  ·subst hk;rw [upd_same] at hj;cases hj;exact ha.1
  ·rw [A2 _ _ hk] at hj;exact h j o hj
theorem C9z {ρ:Nat→Nat} {τ:Nat→Nat→Option Nat} {id:Nat} {o:Ob}:okT (rnO ρ τ id o)=true:=by
 cases o with
 | lp q=>rfl
 | it q=>cases q<;>rfl
 | _=>rfl
theorem B9.usedR {a:A} {v:Value} (h:B9 T e a v):∀ id∈C9 a,e.U id:=by
 by_cases ht:∃ l,a=.t l
 ·obtain ⟨l,rfl⟩:=ht
  obtain ⟨xs,rfl,h2,h3⟩:=h
  have key:∀ (l:List A) (k0:Nat),(∀ (i:Nat) v,l[i]? = some v→∃ x,F0 T e v x)→∀ id∈D6 l,e.U id:=by
   intro l
   induction l with
   | nil=>intro _ _ id A4;cases A4
   | cons a r ih =>
    intro k0 h id A4
    simp only [D6,D9J] at A4
    rcases A4 with A4 | A4
    ·obtain ⟨x,hx⟩:=h 0 a rfl;exact hx.used id A4
    ·exact ih 0 (fun i v hv=>h (i+1) v (by simpa using hv)) id A4
  intro id A4
  refine key l 0 (fun i v hv=>?_) id (by simpa [C9] using A4)
  have hi:i < xs.size:=by
   have:=(List.getElem?_eq_some_iff.1 hv).1;omega
  exact ⟨xs[i],h3 i v _ hv (by simp [hi])⟩
 ·exact (A5e h fun l hl=>ht ⟨l,hl⟩).used
def A5S (P:Program) (T:TT) (f:FuncId) (s:E7):Prop :=
 ∀ (c:F6) (e:B6) (of:Nat→Option Ob) (args:List A) (vals:Array Value) (nx:Nat) (out:J7),A8 T c e of→s args of nx=some out→(∀ id,nx≤id→id < out.nx→¬ e.U id)→Q1 T e args vals.toList→C8 P (callFunc f vals) e.w (P7 T c e of nx out)
theorem B2.at_ {f:FuncId} {s:E7} (h:B2 P T f s):A5S P T f s:=fun c e of args vals nx out hos hr hu hv=>h c e of of args vals nx out hos hr (fun _ _=>rfl) hu hv
theorem B7G {f:FuncId} {s:H4} (hn:s.nat) (hs:A5S P T f s.dir):B2 P T f (trS s).dir:=by
 intro c e of of' args vals nx out hos hrun hro hu hvals
 unfold H4.dir trS at hrun
 simp only at hrun
 generalize A1N of 64 (D6 args) []=L at hrun
 cases hc:(A1O L&&(A9k of L L&&A6U L (D6 args))) with
 | false=>rw [hc] at hrun;cases hrun
 | true =>
 rw [hc] at hrun
 simp only [cond_true] at hrun
 rw [hn J7] at hrun
 obtain ⟨out0,hout0,hk⟩:=A45 hrun
 cases hc2:(Nat.ble L.length out0.nx&&B0C out0.wo) with
 | false=>rw [hc2] at hk;cases hk
 | true =>
 rw [hc2] at hk
 simp only [cond_true,D9B] at hk
 subst hk
 simp only [D9z] at hc hc2
 obtain ⟨hnd,hck,hsa⟩:=hc
 obtain ⟨hm,hat⟩:=hc2
 have hm:=D9E hm
 have hnd:=B0D hnd
 have hck:=B5b hck
 have hsa:=A7h hsa
 have hobj:∀ id∈L,∃ o,of id=some o∧of' id=some o∧okT o=true∧(∀ k∈A04 o,k∈L)∧OK T e id o:=fun id A4=>by
  obtain ⟨o,h1,h2,h3⟩:=hck id A4
  have h4:of' id=some o:=(hro id A4).trans h1
  exact ⟨o,h1,h4,h2,h3,hos.ok id o h4⟩
 have hbn:∀ id∈L,e.bn id=P3 of id:=fun id A4=>by
  obtain ⟨o,h1,h2,h3,h4,h5⟩:=hobj id A4
  unfold P3
  rw [h1]
  cases o with
  | row el ver xs nl sh=>exact h5.2.2.1
  | box t a sh=>exact h5.2.1
  | map kt et es=>exact h5.2.1
  | vm kt et es=>exact h5.2.1
  | sm kt st el es ho=>exact h5.2.1
  | lp q=>cases q<;>exact h5.2.1
  | it q=>cases q<;>exact h5.2.1
 have hU:∀ id∈L,e.U id:=fun id A4=>by
  obtain ⟨o,_,_,_,_,h5⟩:=hobj id A4;exact h5.use
 have hpos:∀ id∈L,∀ el ver xs nl sh,of id=some (.row el ver xs nl sh)→0 < ver:=fun id A4 el ver xs nl sh h=>by
  obtain ⟨o,h1,_,_,_,h5⟩:=hobj id A4
  rw [h1] at h;cases h;exact h5.2.1
 let g:Nat→Nat:=fun j=>(A3E L j).getD 0
 have hg:∀ j,j < L.length→A3E L j=some (g j)∧g j∈L:=fun j hj=>by
  obtain ⟨id,h1,h2⟩:=A7i hj
  simp only [g,h1];exact ⟨rfl,h2⟩
 let e0:B6:={ w:=e.w,ι:=fun j=>if j < L.length then e.ι (g j) else none,S:=e.S,bn:=fun j=>if P3 of (g j)=0 then 0 else 1,U:=fun j=>j < L.length,ty:=fun j=>e.ty (g j),ln:=fun j=>e.ln (g j),G:=fun a b=>e.G a b∧∃ id∈L,∃ o,e.ι id=some (a,o) }
 let c0:F6:={ w0:=e.w,M:=fun b=>(∃ id∈L,∃ o,e.ι id=some (b,o))∨∃ a,e.G a b∧∃ id∈L,∃ o,e.ι id=some (a,o),S0:=e.S }
 have hgi:∀ id∈L,g (J8 L id)=id∧J8 L id < L.length:=fun id A4=>by
  obtain ⟨h1,h2⟩:=B3Q A4
  simp only [g,h1];exact ⟨rfl,h2⟩
 have hig:∀ j,j < L.length→J8 L (g j)=j:=fun j hj=>C0U hnd (hg j hj).1
 have ren0:REN e e0 (J8 L) (A4a of) (fun id=>id∈L):=by
  refine ⟨rfl,fun _ _=>Iff.rfl,fun id A4 _=>(hgi id A4).2,fun id A4 _=>?_,fun id A4 _=>?_,fun id A4 _=>?_,fun id A4 _ hb=>?_,fun id ver v A4 _ hτ h0 hle=>?_,fun id a o b A4 _ hι hG=>⟨hG,id,A4,o,hι⟩⟩
  ·show (if J8 L id < L.length then e.ι (g (J8 L id)) else none)=_
   rw [if_pos (hgi id A4).2,(hgi id A4).1]
  ·show e.ty (g (J8 L id))=_;rw [(hgi id A4).1]
  ·show e.ln (g (J8 L id))=_;rw [(hgi id A4).1]
  ·show (if P3 of (g (J8 L id))=0 then 0 else 1)=0
   rw [(hgi id A4).1,← hbn id A4,if_pos hb]
  ·unfold A4a at hτ
   cases hq:Nat.beq (P3 of id) ver with
   | false=>rw [hq] at hτ;cases hτ
   | true =>
    rw [hq] at hτ;cases hτ
    have hq:=D9y hq
    refine ⟨by omega,?_,fun _=>by rw [hbn id A4,hq]⟩
    show 1≤(if P3 of (g (J8 L id))=0 then 0 else 1)
    rw [(hgi id A4).1,hq,if_neg (by omega)];exact Nat.le_refl 1
 have hcan:∀ j o,ofL (S3 of L L) j=some o→j < L.length∧∃ o1,of (g j)=some o1∧o=rnO (J8 L) (A4a of) (g j) o1:=fun j o hj=>by
  rw [B3R] at hj
  cases hgj:A3E L j with
  | none=>rw [hgj] at hj;cases hj
  | some id =>
   have hlt:=B3P hgj
   obtain ⟨h1,h2⟩:=hg j hlt
   rw [h1] at hj
   obtain ⟨o1,p1,_⟩:=hobj _ h2
   simp only [Option.map_some,D9B,p1] at hj
   exact ⟨hlt,o1,p1,hj.symm⟩
 have hcan1:∀ j,j < L.length→(ofL (S3 of L L) j).isSome:=fun j hj=>by
  rw [B3R,(hg j hj).1];rfl
 have hsome':∀ id∈L,(of' id).isSome:=fun id A4=>by
  obtain ⟨o,_,h2,_⟩:=hobj id A4;rw [h2];rfl
 have hos0:A8 T c0 e0 (ofL (S3 of L L)):=by
  refine ⟨fun j o hj=>?_,fun i j b o b' o' hi hj hbi hbj hne=>?_,fun j b o hj hb=>?_,fun j b o hj hb=>?_,fun b i h=>hos.slt b i h,fun _ _ h=>h,fun _ _ h=>.inl h,rfl,rfl,rfl,Nat.le_refl _,fun _ _ _=>rfl,⟨fun a b hG j b' o hj hb=>?_,fun a a' b h1 h2=>hos.g.uniq a a' b h1.1 h2.1,fun a b hG=>.inr (.inr ⟨a,hG.1,hG.2⟩),fun a b hG=>hos.g.lt a b hG.1⟩⟩
  ·obtain ⟨hlt,o1,h1,rfl⟩:=hcan j o hj
   obtain ⟨o2,p1,p2,p3,p4,p5⟩:=hobj _ (hg j hlt).2
   rw [h1] at p1;cases p1
   have:=p5.ren ren0 (hg j hlt).2 p4 p3 (fun el ver xs nl sh he=>by
    subst he
    have hv:P3 of (g j)=ver:=by unfold P3;rw [h1]
    have hp:=hpos _ (hg j hlt).2 _ _ _ _ _ h1
    refine ⟨1,by unfold A4a;rw [hv,Nat.beq_refl];rfl,?_⟩
    show (if P3 of (g (J8 L (g j)))=0 then 0 else 1)=1
    rw [hig j hlt,hv,if_neg (by omega)])
   rw [hig j hlt] at this
   exact this
  ·obtain ⟨oi,hi⟩:=D9D.1 hi
   obtain ⟨oj,hj⟩:=D9D.1 hj
   obtain ⟨li,_⟩:=hcan i oi hi
   obtain ⟨lj,_⟩:=hcan j oj hj
   have hbi:(if i < L.length then e.ι (g i) else none)=some (b,o):=hbi
   have hbj:(if j < L.length then e.ι (g j) else none)=some (b',o'):=hbj
   rw [if_pos li] at hbi;rw [if_pos lj] at hbj
   exact hos.sep _ _ _ _ _ _ (hsome' _ (hg i li).2) (hsome' _ (hg j lj).2) hbi hbj (fun q=>hne (by rw [← hig i li,q,hig j lj]))
  ·obtain ⟨oj,hj⟩:=D9D.1 hj
   obtain ⟨lj,_⟩:=hcan j oj hj
   have hb:(if j < L.length then e.ι (g j) else none)=some (b,o):=hb
   rw [if_pos lj] at hb
   exact .inr (.inl ⟨g j,(hg j lj).2,o,hb⟩)
  ·have lj:j < L.length:=hj
   have hb:(if j < L.length then e.ι (g j) else none)=some (b,o):=hb
   rw [if_pos lj] at hb
   exact hos.lt _ _ _ (hU _ (hg j lj).2) hb
  ·obtain ⟨oj,hj⟩:=D9D.1 hj
   obtain ⟨lj,_⟩:=hcan j oj hj
   have hb:(if j < L.length then e.ι (g j) else none)=some (b',o):=hb
   rw [if_pos lj] at hb
   exact hos.g.sep a b hG.1 (g j) b' o (hsome' _ (hg j lj).2) hb
 have hreps0:Q1 T e0 (rnL (J8 L) (A4a of) args) vals.toList:=hvals.ren ren0 hsa
 refine E0 (hs c0 e0 (ofL (S3 of L L)) _ vals L.length out0 hos0 hout0 (fun j h1 _ (h:j < L.length)=>by omega) hreps0) ?_
 rintro x w' ⟨e1,rfl,k1,k2,k3,k4⟩
 have k3:∀ j,e1.U j→j < out0.nx:=fun j hj=>by
  rcases k3 j hj with h | h
  ·have h:j < L.length:=h;omega
  ·exact h.2
 have k3':∀ j,j < L.length→e1.U j:=fun j hj=>k2.use j hj
 let img:Nat→Prop:=fun id=>id∈L∨(nx≤id∧id < nx+(out0.nx - L.length))
 let inv:Nat→Nat:=fun id=>if id∈L then J8 L id else L.length+(id - nx)
 let dl:Nat→Nat:=fun j=>if j < L.length then P3 of (g j) - 1 else 0
 haveI:∀ id,Decidable (img id):=fun id=>inferInstanceAs (Decidable (id∈L∨(nx≤id∧id < nx+(out0.nx - L.length))))
 let e2:B6:={ w:=e1.w,S:=e1.S,ι:=fun id=>if img id then e1.ι (inv id) else e.ι id,bn:=fun id=>if img id then e1.bn (inv id)+dl (inv id) else e.bn id,U:=fun id=>if img id then e1.U (inv id) else e.U id,ty:=fun id=>if img id then e1.ty (inv id) else e.ty id,ln:=fun id=>if img id then e1.ln (inv id) else e.ln id,G:=fun a b=>e1.G a b∨(e.G a b∧¬ ∃ id∈L,∃ o,e.ι id=some (a,o)) }
 have hnew:∀ id,nx≤id→id < nx+(out0.nx - L.length)→id ∉ L:=fun id h1 h2 A4=>hu id h1 h2 (hU id A4)
 have hrho:∀ j,j < out0.nx→img (G2 L nx j)∧inv (G2 L nx j)=j:=fun j hj=>by
  by_cases hl:j < L.length
  ·obtain ⟨h1,h2⟩:=hg j hl
   have:G2 L nx j=g j:=by unfold G2;rw [h1]
   rw [this]
   refine ⟨.inl h2,?_⟩
   simp only [inv];rw [if_pos h2,hig j hl]
  ·have:G2 L nx j=nx+(j - L.length):=by unfold G2;rw [A0x (by omega)]
   rw [this]
   have hlt:nx+(j - L.length) < nx+(out0.nx - L.length):=by omega
   refine ⟨.inr ⟨by omega,hlt⟩,?_⟩
   simp only [inv];rw [if_neg (hnew _ (by omega) hlt)];omega
 have hinv:∀ id,img id→inv id < out0.nx∧G2 L nx (inv id)=id:=fun id A4=>by
  by_cases hl:id∈L
  ·obtain ⟨h1,h2⟩:=B3Q hl
   simp only [inv];rw [if_pos hl]
   refine ⟨by omega,?_⟩
   unfold G2;rw [h1]
  ·have A4:=A4.resolve_left hl
   simp only [inv];rw [if_neg hl]
   refine ⟨by omega,?_⟩
   unfold G2;rw [A0x (by omega)];simp only;omega
 have hrinj:∀ i j,i < out0.nx→j < out0.nx→G2 L nx i=G2 L nx j→i=j:=fun i j hi hj h=>by
  rw [← (hrho i hi).2,← (hrho j hj).2,h]
 have ren1:REN e1 e2 (G2 L nx) (A4R of L) (fun j=>e1.U j):=by
  refine ⟨rfl,fun _ _=>Iff.rfl,fun j _ hj=>?_,fun j _ hj=>?_,fun j _ hj=>?_,fun j _ hj=>?_,fun j _ hj hb=>?_,fun j ver v _ hj hτ h0 hle=>?_,fun _ _ _ _ _ _ _ hG=>.inl hG⟩
  ·show if img (G2 L nx j) then e1.U (inv (G2 L nx j)) else e.U (G2 L nx j)
   obtain ⟨h1,h2⟩:=hrho j (k3 j hj)
   rw [if_pos h1,h2];exact hj
  ·show (if img (G2 L nx j) then e1.ι (inv (G2 L nx j)) else e.ι (G2 L nx j))=_
   obtain ⟨h1,h2⟩:=hrho j (k3 j hj)
   rw [if_pos h1,h2]
  ·show (if img (G2 L nx j) then e1.ty (inv (G2 L nx j)) else e.ty (G2 L nx j))=_
   obtain ⟨h1,h2⟩:=hrho j (k3 j hj)
   rw [if_pos h1,h2]
  ·show (if img (G2 L nx j) then e1.ln (inv (G2 L nx j)) else e.ln (G2 L nx j))=_
   obtain ⟨h1,h2⟩:=hrho j (k3 j hj)
   rw [if_pos h1,h2]
  ·show (if img (G2 L nx j) then e1.bn (inv (G2 L nx j))+dl (inv (G2 L nx j)) else e.bn (G2 L nx j))=0
   obtain ⟨h1,h2⟩:=hrho j (k3 j hj)
   rw [if_pos h1,h2,hb]
   simp only [dl]
   by_cases hl:j < L.length
   ·rw [if_pos hl]
    have:=k2.up j hl
    have hq:(if P3 of (g j)=0 then 0 else 1)≤e1.bn j:=this
    by_cases hv:P3 of (g j)=0
    ·omega
    ·rw [if_neg hv] at hq;omega
   ·rw [if_neg hl]
  ·have e2bn:e2.bn (G2 L nx j)=e1.bn j+dl j:=by
    show (if img (G2 L nx j) then e1.bn (inv (G2 L nx j))+dl (inv (G2 L nx j)) else e.bn (G2 L nx j))=_
    obtain ⟨h1,h2⟩:=hrho j (k3 j hj)
    rw [if_pos h1,h2]
   have hv:v=ver+dl j:=by
    unfold A4R at hτ
    simp only [dl]
    by_cases hl:j < L.length
    ·rw [(hg j hl).1] at hτ;rw [if_pos hl];simpa using hτ.symm
    ·rw [A0x (by omega)] at hτ;rw [if_neg hl];simpa using hτ.symm
   rw [e2bn,hv]
   exact ⟨by omega,by omega,fun h=>by omega⟩
 have imgU:∀ id,img id→e.U id→id∈L:=fun id A4 hU'=>by
  rcases A4 with h | h
  ·exact h
  ·exact absurd hU' (hu id h.1 h.2)
 have le2:e.le e2:=by
  refine ⟨fun b i h=>⟨(k2.S b i h).1,fun y hy=>(k2.S b i h).2 y hy⟩,fun id A4=>?_,fun id A4 hbe=>?_,fun id A4 hb=>?_,fun id A4=>?_,fun id A4=>?_,k2.grow,k2.keep⟩
  ·show if img id then e1.U (inv id) else e.U id
   by_cases hi:img id
   ·have hl:=imgU id hi A4
    rw [if_pos hi]
    refine k3' _ ?_
    simp only [inv];rw [if_pos hl];exact (hgi id hl).2
   ·rw [if_neg hi];exact A4
  ·by_cases hi:img id
   ·have hl:=imgU id hi A4
    have hiv:inv id=J8 L id:=by simp only [inv];rw [if_pos hl]
    have hbe:(if img id then e1.bn (inv id)+dl (inv id) else e.bn id)=e.bn id:=hbe
    rw [if_pos hi,hiv] at hbe
    have hlt:=(hgi id hl).2
    have hdl:dl (J8 L id)=P3 of id - 1:=by simp only [dl];rw [if_pos hlt,(hgi id hl).1]
    have hb0:e0.bn (J8 L id)=if P3 of id=0 then 0 else 1:=by
     show (if P3 of (g (J8 L id))=0 then 0 else 1)=_
     rw [(hgi id hl).1]
    have hup:=k2.up _ hlt
    rw [hbn id hl,hdl] at hbe
    have heq:e1.bn (J8 L id)=e0.bn (J8 L id):=by
     rw [hb0] at hup ⊢
     by_cases hv:P3 of id=0
     ·rw [if_pos hv] at hup ⊢;omega
     ·rw [if_neg hv] at hup ⊢;omega
    obtain ⟨q1,q2,q3⟩:=k2.obj _ hlt heq
    have i0:e0.ι (J8 L id)=e.ι id:=by
     show (if J8 L id < L.length then e.ι (g (J8 L id)) else none)=_
     rw [if_pos hlt,(hgi id hl).1]
    refine ⟨?_,?_,fun b o hb=>?_⟩
    ·show (if img id then e1.ι (inv id) else e.ι id)=_
     rw [if_pos hi,hiv,q1,i0]
    ·show (if img id then e1.ln (inv id) else e.ln id)=_
     rw [if_pos hi,hiv,q2]
     show e.ln (g (J8 L id))=_
     rw [(hgi id hl).1]
    ·exact q3 b o (by rw [i0];exact hb)
   ·refine ⟨?_,?_,fun b o hb=>k2.keep b (hos.lt _ _ _ A4 hb)⟩
    ·show (if img id then e1.ι (inv id) else e.ι id)=_;rw [if_neg hi]
    ·show (if img id then e1.ln (inv id) else e.ln id)=_;rw [if_neg hi]
  ·show (if img id then e1.bn (inv id)+dl (inv id) else e.bn id)=0
   by_cases hi:img id
   ·have hl:=imgU id hi A4
    have hiv:inv id=J8 L id:=by simp only [inv];rw [if_pos hl]
    have hlt:=(hgi id hl).2
    have hv:P3 of id=0:=by rw [← hbn id hl];exact hb
    rw [if_pos hi,hiv]
    have hb0:e0.bn (J8 L id)=0:=by
     show (if P3 of (g (J8 L id))=0 then 0 else 1)=0
     rw [(hgi id hl).1,if_pos hv]
    have:=k2.box _ hlt hb0
    have hdl:dl (J8 L id)=0:=by simp only [dl];rw [if_pos hlt,(hgi id hl).1];omega
    omega
   ·rw [if_neg hi];exact hb
  ·show e.bn id≤(if img id then e1.bn (inv id)+dl (inv id) else e.bn id)
   by_cases hi:img id
   ·have hl:=imgU id hi A4
    have hiv:inv id=J8 L id:=by simp only [inv];rw [if_pos hl]
    have hlt:=(hgi id hl).2
    rw [if_pos hi,hiv,hbn id hl]
    have hup:=k2.up _ hlt
    have hb0:e0.bn (J8 L id)=if P3 of id=0 then 0 else 1:=by
     show (if P3 of (g (J8 L id))=0 then 0 else 1)=_
     rw [(hgi id hl).1]
    have hdl:dl (J8 L id)=P3 of id - 1:=by simp only [dl];rw [if_pos hlt,(hgi id hl).1]
    rw [hb0] at hup
    by_cases hv:P3 of id=0
    ·omega
    ·rw [if_neg hv] at hup;omega
   ·rw [if_neg hi];exact Nat.le_refl _
  ·show (if img id then e1.ty (inv id) else e.ty id)=_
   by_cases hi:img id
   ·have hl:=imgU id hi A4
    have hiv:inv id=J8 L id:=by simp only [inv];rw [if_pos hl]
    have hlt:=(hgi id hl).2
    rw [if_pos hi,hiv,k2.ty _ hlt]
    show e.ty (g (J8 L id))=_
    rw [(hgi id hl).1]
   ·rw [if_neg hi]
 have hfin:∀ j,put (ofL (S3 of L L)) out0.wo j=put (put (fun _=>none) (A1b 0 (S3 of L L))) out0.wo j:=fun j=>by
  refine A39 _ ?_
  rw [B3S,if_pos (Nat.zero_le _),Nat.sub_zero]
  cases ofL (S3 of L L) j<;>rfl
 have hids:∀ i∈T5 (A1b 0 (S3 of L L)++out0.wo),i < out0.nx:=fun i hi=>by
  have hs1:(put (ofL (S3 of L L)) out0.wo i).isSome:=by
   rw [hfin,← F1]
   exact B18 _ _ _ (.inl hi)
  obtain ⟨o,ho⟩:=D9D.1 hs1
  exact k3 _ (k1.ok _ _ ho).use
 have hput1:∀ j,j < out0.nx→put of' (X2 of L nx (A1b 0 (S3 of L L)++out0.wo)) (G2 L nx j)=(put (ofL (S3 of L L)) out0.wo j).map (rnO (G2 L nx) (A4R of L) j):=fun j hj=>by
  rw [hfin,← F1]
  by_cases hl:j < L.length
  ·-- overwritten by its own
   have:put of' (X2 of L nx (A1b 0 (S3 of L L)++out0.wo)) (G2 L nx j)=put (fun _=>none) (X2 of L nx (A1b 0 (S3 of L L)++out0.wo)) (G2 L nx j):=by
    have happ:X2 of L nx (A1b 0 (S3 of L L)++out0.wo)=X2 of L nx (A1b 0 (S3 of L L))++X2 of L nx out0.wo:=by
     generalize A1b 0 (S3 of L L)=l1
     induction l1 with
     | nil=>rfl
     | cons p r ih=>simp only [List.cons_append,X2,ih]
    rw [happ,F1,F1]
    refine A39 _ ?_
    have hsomeN:(put (fun _=>none) (A1b 0 (S3 of L L)) j).isSome:=by
     rw [B3S,if_pos (Nat.zero_le _),Nat.sub_zero]
     obtain ⟨o,ho⟩:=D9D.1 (hcan1 j hl)
     rw [ho];rfl
    have hin:∀ i∈T5 (A1b 0 (S3 of L L)),G2 L nx i=G2 L nx j→i=j:=fun i hi h=>hrinj i j (hids i (by simp only [T5,List.map_append,D9J];exact .inl hi)) hj h
    have key:∀ (l:List (Nat×Ob)) (f g:Nat→Option Ob) (id:Nat),(put (fun _=>none) l id).isSome∨f id=g id→put f l id=put g l id:=by
     intro l
     induction l with
     | nil=>intro f g id h;rcases h with h | h
            ·cases h
            ·exact h
     | cons p r ih =>
      intro f g id h
      refine ih _ _ id ?_
      by_cases A4:id=p.1
      ·right;subst A4;rw [upd_same,upd_same]
      ·rw [A2 _ _ A4,A2 _ _ A4]
       rcases h with h | h
       ·left
        have:put (D9 (fun _=>none) p.1 (some p.2)) r id=put (fun _=>none) r id:=A39 r (A2 _ _ A4)
        rw [← this];exact h
       ·exact .inr h
    refine key _ _ _ _ (.inl ?_)
    rw [A5R (of:=of) (A1b 0 (S3 of L L)) (fun _=>none) (fun _=>none) j hin rfl]
    obtain ⟨o,ho⟩:=D9D.1 hsomeN
    rw [ho];rfl
   rw [this]
   exact A5R (of:=of) _ _ _ j (fun i hi h=>hrinj i j (hids i hi) hj h) rfl
  ·refine A5R (of:=of) _ _ _ j (fun i hi h=>hrinj i j (hids i hi) hj h) ?_
   have hr:G2 L nx j=nx+(j - L.length):=by unfold G2;rw [A0x (by omega)]
   cases hq:of' (G2 L nx j) with
   | none=>rfl
   | some o =>
    have:=(hos.ok _ _ hq).use
    rw [hr] at this
    exact absurd this (hu _ (by omega) (by show nx+(j - L.length) < nx+(out0.nx - L.length);omega))
 have hput2:∀ id,¬ img id→put of' (X2 of L nx (A1b 0 (S3 of L L)++out0.wo)) id=of' id:=fun id A4=>C0V _ _ _ (fun i hi h=>A4 (h ▸ (hrho i (hids i hi)).1))
 have hall:∀ j o,put (ofL (S3 of L L)) out0.wo j=some o→okT o=true:=B7F _ _ hat (fun j o hj=>by
  obtain ⟨_,o1,_,rfl⟩:=hcan j o hj;exact C9z)
 have himgO:∀ id o,img id→put of' (X2 of L nx (A1b 0 (S3 of L L)++out0.wo)) id=some o→∃ o1,put (ofL (S3 of L L)) out0.wo (inv id)=some o1∧o=rnO (G2 L nx) (A4R of L) (inv id) o1:=fun id o A4 ho=>by
  obtain ⟨h1,h2⟩:=hinv id A4
  rw [← h2,hput1 _ h1] at ho
  cases hq:put (ofL (S3 of L L)) out0.wo (inv id) with
  | none=>rw [hq] at ho;cases ho
  | some o1=>rw [hq] at ho;exact ⟨o1,rfl,by simpa using ho.symm⟩
 have hι2:∀ id,img id→e2.ι id=e1.ι (inv id):=fun id A4=>by
  show (if img id then e1.ι (inv id) else e.ι id)=_;rw [if_pos A4]
 have hι2':∀ id,¬ img id→e2.ι id=e.ι id:=fun id A4=>by
  show (if img id then e1.ι (inv id) else e.ι id)=_;rw [if_neg A4]
 have hM:∀ b,c0.M b→c.w0.heap.size≤b∨c.M b:=fun b hb=>by
  rcases hb with ⟨id,A4,o,hb⟩ | ⟨a,hG,_⟩
  ·exact hos.own id b o (hsome' id A4) hb
  ·exact hos.g.own a b hG
 have hGM:∀ a b,e.G a b→(¬ ∃ id∈L,∃ o,e.ι id=some (a,o))→¬ c0.M b:=fun a b hG hn hb=>by
  rcases hb with ⟨id,A4,o,hb⟩ | ⟨a',hG',hL⟩
  ·exact hos.g.sep a b hG id b o (hsome' id A4) hb rfl
  ·exact hn (hos.g.uniq _ _ _ hG hG' ▸ hL)
 have hnM:∀ id b o,¬ img id→(of' id).isSome→e.ι id=some (b,o)→¬ c0.M b∧b < e.w.heap.size:=fun id b o A4 hs1 hb=>by
  obtain ⟨o1,ho1⟩:=D9D.1 hs1
  refine ⟨fun hMb=>?_,hos.lt _ _ _ (hos.ok _ _ ho1).use hb⟩
  rcases hMb with ⟨id',hid',o',hb'⟩ | ⟨a,hG,_⟩
  ·exact absurd rfl (hos.sep id id' b o b o' hs1 (hsome' id' hid') hb hb' (fun q=>A4 (.inl (q ▸ hid'))))
  ·exact hos.g.sep a b hG id b o hs1 hb rfl
 refine ⟨e2,rfl,?_,le2,fun id A4=>?_,?_⟩
 ·show A8 T c e2 (put of' (X2 of L nx (A1b 0 (S3 of L L)++out0.wo)))
  refine ⟨fun id o ho=>?_,fun i j b o b' o' hi hj hbi hbj hne=>?_,fun id b o A4 hb=>?_,fun id b o A4 hb=>?_,fun b i h=>k1.slt b i h,fun b i h=>(k2.S b i (hos.s0 b i h)).1,fun b i h=>?_,k1.os.trans hos.os,k1.tape.trans hos.tape,k1.output.trans hos.output,Nat.le_trans hos.size k1.size,fun k hk hm'=>?_,⟨fun a b hG j b' o hj hb=>?_,fun a a' b h1 h2=>?_,fun a b hG=>?_,fun a b hG=>?_⟩⟩
  ·by_cases hi:img id
   ·obtain ⟨o1,h1,rfl⟩:=himgO id o hi ho
    have hok1:=k1.ok _ _ h1
    have:=hok1.ren ren1 hok1.use (fun k hk=>hok1.used k hk) (hall _ _ h1) (fun el ver xs nl sh he=>by
     subst he
     have hj:=k3 _ hok1.use
     have hτ:A4R of L (inv id) ver=some (ver+dl (inv id)):=by
      unfold A4R
      simp only [dl]
      by_cases hl:inv id < L.length
      ·rw [(hg _ hl).1,if_pos hl]
      ·rw [A0x (by omega),if_neg hl];rfl
     refine ⟨_,hτ,?_⟩
     show (if img (G2 L nx (inv id)) then e1.bn (inv (G2 L nx (inv id)))+dl (inv (G2 L nx (inv id))) else e.bn (G2 L nx (inv id)))=_
     obtain ⟨q1,q2⟩:=hrho _ hj
     rw [if_pos q1,q2,hok1.2.2.1])
    rw [(hinv id hi).2] at this
    exact this
   ·rw [hput2 id hi] at ho
    refine (hos.ok id o ho).keep le2 (by show (if img id then e1.bn (inv id)+dl (inv id) else e.bn id)=_;rw [if_neg hi]) (fun b o' hb=>?_) (fun b o' i hb hs'=>?_) (fun a o' b hb hG=>?_)
    ·obtain ⟨h1,h2⟩:=hnM id b o' hi (by rw [ho];rfl) hb
     exact k1.block b h2 h1
    ·obtain ⟨h1,h2⟩:=hnM id b o' hi (by rw [ho];rfl) hb
     rcases k1.snew b i hs' with h | h | h
     ·exact h
     ·have h:e.w.heap.size≤b:=h;omega
     ·exact absurd h h1
    ·obtain ⟨h1,h2⟩:=hnM id a o' hi (by rw [ho];rfl) hb
     have hn:¬ ∃ id∈L,∃ o,e.ι id=some (a,o):=fun q=>h1 (.inl q)
     have hb1:=hGM a b hG hn
     have hlt:=hos.g.lt a b hG
     refine ⟨.inr ⟨hG,hn⟩,k1.block b hlt hb1,fun i hs'=>?_⟩
     rcases k1.snew b i hs' with h | h | h
     ·exact h
     ·have h:e.w.heap.size≤b:=h;omega
     ·exact absurd h hb1
  ·by_cases h1:img i<;>by_cases h2:img j
   ·rw [hι2 i h1] at hbi;rw [hι2 j h2] at hbj
    obtain ⟨oi,hi⟩:=D9D.1 hi
    obtain ⟨oj,hj⟩:=D9D.1 hj
    obtain ⟨o1,p1,_⟩:=himgO i oi h1 hi
    obtain ⟨o2,p2,_⟩:=himgO j oj h2 hj
    exact k1.sep _ _ _ _ _ _ (by rw [p1];rfl) (by rw [p2];rfl) hbi hbj (fun q=>hne (by rw [← (hinv i h1).2,q,(hinv j h2).2]))
   ·rw [hι2 i h1] at hbi;rw [hι2' j h2] at hbj
    obtain ⟨oi,hi⟩:=D9D.1 hi
    obtain ⟨o1,p1,_⟩:=himgO i oi h1 hi
    rw [hput2 j h2] at hj
    obtain ⟨q1,q2⟩:=hnM j b' o' h2 hj hbj
    rcases k1.own _ b o (by rw [p1];rfl) hbi with h | h
    ·have h:e.w.heap.size≤b:=h;intro q;omega
    ·intro q;exact q1 (q ▸ h)
   ·rw [hι2' i h1] at hbi;rw [hι2 j h2] at hbj
    obtain ⟨oj,hj⟩:=D9D.1 hj
    obtain ⟨o2,p2,_⟩:=himgO j oj h2 hj
    rw [hput2 i h1] at hi
    obtain ⟨q1,q2⟩:=hnM i b o h1 hi hbi
    rcases k1.own _ b' o' (by rw [p2];rfl) hbj with h | h
    ·have h:e.w.heap.size≤b':=h;intro q;omega
    ·intro q;exact q1 (q ▸ h)
   ·rw [hι2' i h1] at hbi;rw [hι2' j h2] at hbj
    rw [hput2 i h1] at hi;rw [hput2 j h2] at hj
    exact hos.sep _ _ _ _ _ _ hi hj hbi hbj hne
  ·by_cases h1:img id
   ·rw [hι2 id h1] at hb
    obtain ⟨o1,A4⟩:=D9D.1 A4
    obtain ⟨o2,p1,_⟩:=himgO id o1 h1 A4
    rcases k1.own _ b o (by rw [p1];rfl) hb with h | h
    ·have h:e.w.heap.size≤b:=h
     have:=hos.size;exact .inl (by omega)
    ·exact hM b h
   ·rw [hι2' id h1] at hb;rw [hput2 id h1] at A4
    exact hos.own id b o A4 hb
  ·by_cases h1:img id
   ·rw [hι2 id h1] at hb
    have A4:if img id then e1.U (inv id) else e.U id:=A4
    rw [if_pos h1] at A4
    exact k1.lt _ _ _ A4 hb
   ·rw [hι2' id h1] at hb
    have A4:if img id then e1.U (inv id) else e.U id:=A4
    rw [if_neg h1] at A4
    have:=hos.lt _ _ _ A4 hb
    have:=k2.grow
    have:e.w.heap.size≤e1.w.heap.size:=this
    show b < e1.w.heap.size;omega
  ·rcases k1.snew b i h with h | h | h
   ·exact hos.snew b i h
   ·have h:e.w.heap.size≤b:=h
    have:=hos.size;exact .inr (.inl (by omega))
   ·exact .inr (hM b h)
  ·have hnm:¬ c0.M k:=fun h=>by
    rcases hM k h with h | h
    ·omega
    ·exact hm' h
   exact (k1.block k (Nat.lt_of_lt_of_le hk hos.size) hnm).trans (hos.block k hk hm')
  ·have hG:e1.G a b∨(e.G a b∧¬ ∃ id∈L,∃ o,e.ι id=some (a,o)):=hG
   by_cases h1:img j
   ·rw [hι2 j h1] at hb
    obtain ⟨o1,hj⟩:=D9D.1 hj
    obtain ⟨o2,p1,_⟩:=himgO j o1 h1 hj
    rcases hG with hG | ⟨hG,hn⟩
    ·exact k1.g.sep a b hG (inv j) b' o (by rw [p1];rfl) hb
    ·have hlt:=hos.g.lt a b hG
     rcases k1.own _ b' o (by rw [p1];rfl) hb with h | h
     ·have h:e.w.heap.size≤b':=h;intro q;omega
     ·intro q;exact hGM a b hG hn (q ▸ h)
   ·rw [hι2' j h1] at hb
    rw [hput2 j h1] at hj
    obtain ⟨q1,q2⟩:=hnM j b' o h1 hj hb
    rcases hG with hG | ⟨hG,hn⟩
    ·rcases k1.g.own a b hG with h | h
     ·have h:e.w.heap.size≤b:=h;intro q;omega
     ·intro q;exact q1 (q ▸ h)
    ·exact hos.g.sep a b hG j b' o hj hb
  ·have h1:e1.G a b∨(e.G a b∧¬ ∃ id∈L,∃ o,e.ι id=some (a,o)):=h1
   have h2:e1.G a' b∨(e.G a' b∧¬ ∃ id∈L,∃ o,e.ι id=some (a',o)):=h2
   have cross:∀ a a',e1.G a b→e.G a' b→(¬ ∃ id∈L,∃ o,e.ι id=some (a',o))→False:=fun a a' g1 g2 hn=>by
    have hlt:=hos.g.lt a' b g2
    rcases k1.g.own a b g1 with h | h
    ·have h:e.w.heap.size≤b:=h;omega
    ·exact hGM a' b g2 hn h
   rcases h1 with h1 | ⟨h1,n1⟩<;>rcases h2 with h2 | ⟨h2,n2⟩
   ·exact k1.g.uniq _ _ _ h1 h2
   ·exact (cross a a' h1 h2 n2).elim
   ·exact (cross a' a h2 h1 n1).elim
   ·exact hos.g.uniq _ _ _ h1 h2
  ·have hG:e1.G a b∨(e.G a b∧¬ ∃ id∈L,∃ o,e.ι id=some (a,o)):=hG
   rcases hG with hG | ⟨hG,_⟩
   ·rcases k1.g.own a b hG with h | h
    ·have h:e.w.heap.size≤b:=h
     have:=hos.size;exact .inl (by omega)
    ·exact hM b h
   ·exact hos.g.own a b hG
  ·have hG:e1.G a b∨(e.G a b∧¬ ∃ id∈L,∃ o,e.ι id=some (a,o)):=hG
   rcases hG with hG | ⟨hG,_⟩
   ·exact k1.g.lt a b hG
   ·have:=hos.g.lt a b hG
    have:=k2.grow
    have:e.w.heap.size≤e1.w.heap.size:=this
    show b < e1.w.heap.size;omega
 ·have A4:if img id then e1.U (inv id) else e.U id:=A4
  by_cases h1:img id
  ·rcases h1 with h | h
   ·exact .inl (hU id h)
   ·exact .inr h
  ·rw [if_neg h1] at A4;exact .inl A4
 ·exact k4.ren ren1 (fun id A4=>k4.usedR id A4)
variable {P:Program} {T:TT} {c:F6} {e eb:B6} {of of':Nat→Option Ob}
def B7H (of:Nat→Option Ob):Nat→List (Nat×Ob)
 | 0=>[]
 | n+1=>match of n with
  | some o=>(n,o)::B7H of n
  | none=>B7H of n
def dnL:Nat→List Nat
 | 0=>[]
 | n+1=>n::dnL n
def B19 (of:Nat→Option Ob) (n:Nat):Tr:=Z0 .e (B7H of n)
theorem C0W {n id:Nat} (h:id < n):id∈dnL n:=by
 induction n with
 | zero=>cases h
 | succ n ih =>
  simp only [dnL,List.mem_cons]
  by_cases A4:id=n
  ·exact .inl A4
  ·exact .inr (ih (by omega))
theorem B7I {n:Nat}:(∀ id,id < n→of' id=of id)→put of' (B7H of n)=of':=by
 induction n with
 | zero=>intro _;rfl
 | succ n ih =>
  intro h
  have e:=ih (fun id A4=>h id (by omega))
  simp only [B7H]
  cases ho:of n with
  | none=>exact e
  | some o =>
   simp only [put]
   have:D9 of' n (some o)=of':=by
    funext k
    by_cases hk:k=n
    ·subst hk;rw [upd_same,h k (by omega),ho]
    ·rw [A2 _ _ hk]
   rw [this];exact e
theorem B5c {n:Nat} (h:∀ id,id < n→of' id=of id):B5 (B19 of n) of'=of':=by
 unfold B19
 rw [X3]
 have:B5 Tr.e of'=of':=by funext id;unfold B5;rw [Tr.get_e]
 rw [this];exact B7I h
def B5d (P:Program) (T:TT) (K:KS) (Lo:Nat→A4w) (fu f:Nat):E7:=fun args of nx =>
 match P.funcs[f]? with
 | some fn=>match fn.body with
  | some code=>if !(fn.name == "runtime.NumGoroutine")&&Nat.ble args.length fn.ntmps then
    (match H5 T K (Lo nx) fu fn.ntmps of code ⟨A1U 0 args,B19 of nx,dnL nx,nx,some []⟩ with
    | some (ex,σ)=>if A60 ex then
      (match σ.mks with
      | some ms=>if A4z nx σ.nx σ.ob.get ms then
       (match A13 T (C4 σ.sl) (B5 σ.ob of) fn.results.toList with
       | some (v,ro)=>some (A0i ms (A0p nx v σ ro))
       | none=>none) else none
      | none=>none) else none
    | none=>none) else none
  | none=>none
 | none=>none
theorem C0X (hm:P.follows .mixedOrders=true) (hT:H2 T P) {K:KS} (hK:KOK P T K) {Lo:Nat→A4w} {fu f:Nat} (hL:∀ n0 fn code,P.funcs[f]? = some fn→fn.body=some code→M2 P T fn.ntmps n0 (Lo n0) code):B2 P T f (B5d P T K Lo fu f):=by
 intro c e of of' args vals nx out hos hr hro hu hvals
 unfold B5d at hr
 split at hr<;>try (cases hr;done)
 rename_i fn hf
 split at hr<;>try (cases hr;done)
 rename_i code hb
 split at hr<;>try (cases hr;done)
 rename_i hcc
 simp only [D9z,Bool.not_eq_true'] at hcc
 obtain ⟨hn,hargs⟩:=hcc
 have hargs:=D9E hargs
 split at hr<;>try (cases hr;done)
 rename_i ex σ hx
 split at hr<;>try (cases hr;done)
 rename_i hend
 split at hr<;>try (cases hr;done)
 rename_i ms hmk
 split at hr<;>try (cases hr;done)
 rename_i hmb
 obtain ⟨hms,hnd⟩:=A4B _ hmb
 split at hr<;>try (cases hr;done)
 rename_i v ro hres
 injection hr with hr
 obtain ⟨q1,q2,q3,q4⟩:=A1V ms (A0p nx v σ ro)
 obtain ⟨o1,o2,o3,o4⟩:=A0z nx v σ ro
 rw [hr] at q1 q2 q3 q4
 have o1:=q1.trans o1
 have o2:=q2.trans o2
 have o3:=q3.trans o3
 have hcall:(callFunc f vals).run P e.w=.ok (.enter f vals) e.w:=by
  have hn':¬ fn.name="runtime.NumGoroutine":=by simpa using hn
  simp [callFunc,hf,hn',hb]
 refine .inr (.inr (.inl ⟨f,vals,e.w,hcall,?_⟩))
 refine (callsIn_wide (n:=0)).1 (callsIn_of_wp_marks (F:=WF none) hf hb trivial ?_ rfl)
 have hlen:=hvals.get.1
 rw [D9F] at hlen
 obtain ⟨l1,k1⟩:=A00 (of:=of) (n0:=nx) hm hT hK code (hL nx fn code hf hb) _ _ _ hx
 have hsim:X1 T { c with rd:=none } e of' nx fn.ntmps ⟨A1U 0 args,B19 of nx,dnL nx,nx,some []⟩ { tmps:=vals++Array.replicate (fn.ntmps - vals.size) undef,defers:=[] } e.w:=by
  refine ⟨e,rfl,?_,B6.le.refl e,fun id A4=>.inl A4,fun t=>?_,⟨rfl,.nil⟩,by simp;omega⟩
  ·have:B5 (B19 of nx) of'=of':=B5c fun id A4=>hro id (by rw [o2];exact L4 _ _ _ _ (l1.1 _ (C0W A4)))
   rw [this];exact hos.ctx none
  ·show B9 T e (C4 (A1U 0 args) t) _
   rw [A4A,if_neg (by omega),Nat.sub_zero]
   by_cases ht:t < args.length
   ·have h1:args[t]? = some args[t]:=D9L ht
    have h2:vals.toList[t]? = some vals[t]:=by rw [Array.getElem?_toList];exact Array.getElem?_eq_getElem (by omega)
    have:=hvals.get.2 t _ _ h1 h2
    have e1:args.getD t .x=args[t]:=by simp [List.getD,h1]
    have e2:(vals++Array.replicate (fn.ntmps - vals.size) undef).getD t undef=vals[t]:=by
     have:t < vals.size:=by omega
     simp [Array.getD,Array.getElem_append_left this]
     omega
    rw [e1]
    show B9 T e _ ((vals++Array.replicate (fn.ntmps - vals.size) undef).getD t undef)
    rw [e2];exact this
   ·rw [show args.getD t .x=.x by simp [List.getD,List.getElem?_eq_none (by omega:args.length≤t)]]
    trivial
 have hfit:A0d of of' e nx σ:=⟨fun id A4=>hro id (by rw [o2];exact L4 _ _ _ _ A4),fun id h1 h2=>hu id h1 (by rw [o3];exact h2)⟩
 refine H9 ?_ (k1 0 of' { c with rd:=none } e _ _ (Nat.le_refl _) hfit hos.ok hsim)
 rintro ex' a w ⟨rfl,e',rfl,hst⟩
 have hmarks:=hst.def_
 rw [hmk] at hmarks
 have hms':∀ id∈ms,B5 σ.ob of' id=some (.lp none):=fun id A4=>A0Z (hms id A4).1
 have fin:LeavesInM (WF none) 0 P fn a.tmps (fun en w'=>∃ x,en=.returned x∧P7 T c e of' nx out x w') a.defers .returning e'.w:=by
  refine A1W ms a.defers e' (B5 σ.ob of') hmarks.2 hms' hnd hst.os (fun e2 hle hu2 hos2=>?_)
  have hst2:H0 T { c with rd:=none } e (C4 σ.sl) (U9 ms (B5 σ.ob of')) (fun id=>e.U id∨(nx≤id∧id < σ.nx)) fn.ntmps σ.mks a e2 :=
   ⟨hos2,hst.le.trans hle,fun id A4=>hst.U id (hu2 id A4),fun t=>(hst.sl t).mono hle,hst.def_.mono hle,hst.nt⟩
  have hres2:A13 T (C4 σ.sl) (U9 ms (B5 σ.ob of)) fn.results.toList=some (v,ro):=by
   refine A3g (fun id t b sh A4=>?_) hres
   unfold U9
   have:mem id ms=false:=by
    rw [← Bool.not_eq_true];intro q
    rw [A0Z (of:=of) (hms id (mem_iff.1 q)).1] at A4;cases A4
   rw [this];exact A4
  have hagree:=N8 (ob:=σ.ob) (rd:=out.ro) (ro:=ro) (l:=σ.rd) (of:=of) (of':=of') (fun id A4=>hro id A4) (by rw [o2];exact fun _ h=>h)
  obtain ⟨x,g1,g2⟩:=A9P hT fn hst2 hres2 (fun id A4=>by
   unfold U9
   rw [hagree id A4])
  refine ⟨x,g1,x,rfl,e2,rfl,?_,hst2.le,fun id A4=>by rw [o3];exact hst2.U id A4,by rw [o1];exact g2⟩
  refine (hos2.unctx).sub (fun id o ho=>?_)
  rcases q4 of' id o ho with ⟨h1,h2⟩ | ⟨h1,h2⟩
  ·obtain ⟨_,h3,h4⟩:=hms id h1
   exact absurd (hos.ok _ _ h2).use (hfit.fr id h3 h4)
  ·have:=A3T (of':=of') hos.ok hfit.fr id o h2
   unfold U9
   have hm':mem id ms=false:=by
    rw [← Bool.not_eq_true];intro q;exact h1 (mem_iff.1 q)
   rw [hm'];exact this
 cases ex' with
 | ret=>exact fin
 | normal=>exact fin
 | _=>cases hend
variable {R:Type}
def A3F (P:Program) (T:TT) (K:KC) (Lo:Nat→LC) (fl:Bool) (fu f:Nat):H4:=fun R args of nx k =>
 match P.funcs[f]? with
 | some fn=>match fn.body with
  | some code=>bif !(fn.name == "runtime.NumGoroutine")&&Nat.ble args.length fn.ntmps then
    T6 T K (Lo nx) fl fu fn.ntmps of R code ⟨A1U 0 args,B19 of nx,dnL nx,nx,some []⟩ fun ex σ=>bif A60 ex then
     (match σ.mks with
     | some ms=>bif A4z nx σ.nx σ.ob.get ms then
      (match A13 T (C4 σ.sl) (B5 σ.ob of) fn.results.toList with
      | some p=>k (A0i ms (A0p nx p.1 σ p.2))
      | none=>none) else none
     | none=>none) else none
    else none
  | none=>none
 | none=>none
theorem B7J {P:Program} {K:KC} (hK:K.nat) {Lo:Nat→LC} (hL:∀ n0,A2k (Lo n0)) {fl:Bool} {fu f:Nat} (R:Type) (args:List A) (of:Nat→Option Ob) (nx:Nat) (k:J7→Option R) :
  A3F P T K Lo fl fu f R args of nx k=ob (B5d P T K.dir (fun n0=>W8 (Lo n0)) fu f args of nx) k:=by
 unfold A3F B5d
 cases hf:P.funcs[f]? with
 | none=>rfl
 | some fn =>
  simp only
  cases hb:fn.body with
  | none=>rfl
  | some code =>
   simp only [M5]
   cases (!(fn.name == "runtime.NumGoroutine")&&Nat.ble args.length fn.ntmps)
   ·rfl
   ·simp only [cond_true]
    rw [A2l hK (hL nx) of R code]
    cases H5 T K.dir (W8 (Lo nx)) fu fn.ntmps of code ⟨A1U 0 args,B19 of nx,dnL nx,nx,some []⟩ with
    | none=>rfl
    | some p =>
     obtain ⟨ex,σ⟩:=p
     simp only [ob2,M5]
     cases A60 ex
     ·rfl
     ·simp only [cond_true]
      cases σ.mks with
      | none=>rfl
      | some ms =>
       simp only [M5]
       cases A4z nx σ.nx σ.ob.get ms
       ·rfl
       ·simp only [cond_true]
        cases A13 T (C4 σ.sl) (B5 σ.ob of) fn.results.toList<;>rfl
theorem B7K {P:Program} (hm:P.follows .mixedOrders=true) (hT:H2 T P) {K:KC} (hK:K.nat) (hS:KOK P T K.dir) {Lo:Nat→LC} (hL:∀ n0,A2k (Lo n0)) {fl:Bool} {fu f:Nat} (hO:∀ n0 fn code,P.funcs[f]? = some fn→fn.body=some code→M2 P T fn.ntmps n0 (W8 (Lo n0)) code):B2 P T f (A3F P T K Lo fl fu f).dir:=by
 have:(A3F P T K Lo fl fu f).dir=B5d P T K.dir (fun n0=>W8 (Lo n0)) fu f:=by
  funext args of nx
  show A3F P T K Lo fl fu f J7 args of nx some=_
  rw [B7J hK hL]
  cases B5d P T K.dir (fun n0=>W8 (Lo n0)) fu f args of nx<;>rfl
 rw [this]
 exact C0X hm hT hS hO
variable {R:Type}
variable {R:Type}
variable {R:Type}
variable {R:Type}
variable {R:Type}
variable {R:Type}
variable {R:Type}
namespace Wd
end Wd
namespace Wd
end Wd
namespace Wd
end Wd
variable {T:TT} {P:Program} {c:F6} {e eb:B6} {of of':Nat→Option Ob}
variable {R:Type}
variable {R:Type}
variable {R:Type}
variable {T:TT} {P:Program} {c:F6} {e:B6} {of of':Nat→Option Ob}
variable {R:Type}
variable {R:Type}
variable {R:Type}
variable {R:Type}
variable {R:Type}
variable {R:Type}
variable {T:TT} {P:Program}
variable {R:Type}
variable {R:Type}
variable {R:Type}
variable {R:Type}
variable {R:Type}
variable {P:Program} {T:TT} {c:F6} {e:B6} {of:Nat→Option Ob}
variable {a kt st el:Nat} {es es':List (V×V×Bool)} {bs:List Nat}
theorem B7L (h:A8 T c e of) {id b clock:Nat} {ms:Array MapEntry} (hof:of id=some (.sm kt st el es none)) (v3:e.ι id=some (b,0)) (v4:e.w.heap[b]? = some (.map ms clock)) (vb:StB ms clock) (v6:es'.Perm es) (v5:(es.map (·.1)).Nodup) (v7:SR T e b kt st el none es' ms.toList bs)
  {i:Nat} {k x:V} {q:Bool} {m:MapEntry} (hm2:es'[i]? = some (k,x,q)) (hm1:ms.toList[i]? = some m) :
  ∃ S':Nat→Nat→Prop,A8 T c { e with S:=S' } of∧e.le { e with S:=S' }∧RV T { e with S:=S' } [st] [x] [m.val]∧∃ bs',SR T { e with S:=S' } b kt st el none es' ms.toList bs':=by
 obtain ⟨u1,u2,hks,hz,hz3,_⟩:=A4D h hof
 obtain ⟨bs0,cs,k1,k2,k3,k4⟩:=v7.pull hm2 hm1
 cases k1 with
 | lent _ _ h3=>cases h3
 | data j1 j2=>exact ⟨e.S,h,B6.le.refl e,j2,bs,v7⟩
 | @own _ xs _ bb o j cap cells t' fz pre ys post j1 j2 j0 j3 j5 j6 j7 j8 j9 j10 j11 j12 =>
  have hle:=J1 e bb o (o+ys.length)
  have hne':∀ b'∈cs,e.G b b'→(e.share bb o (o+ys.length)).G b b'∧(e.share bb o (o+ys.length)).w.heap[b']? = e.w.heap[b']? ∧ ∀ i,(e.share bb o (o+ys.length)).S b' i→e.S b' i:=fun b' hb' hG'=>⟨hG',rfl,fun i hs=>hs.elim (fun q=>q) (fun ⟨q',_⟩=>absurd (q' ▸ hb') (k3 bb (by simp)))⟩
  have hent:A0S T (e.share bb o (o+ys.length)) b kt st el none (k,.l xs,true) m [bb]:=.own (j1.mono hle) j2 j0 j3 j5 j6 j7 j8 (j9.mono hle) j10 j11 (fun i hi hs=>hs.elim (j12 i hi) (fun ⟨_,_,q⟩=>by omega))
  obtain ⟨bs',q1,_⟩:=SR.putAt hm2 hm1 (k2.keep' hle hne') hent k3
  rw [show es'.set i (k,.l xs,true)=es' from A1i hm2,show ms.toList.set i m=ms.toList from A1i hm1] at q1
  have hok:OK T (e.share bb o (o+ys.length)) id (.sm kt st el es none):=⟨u1,u2,hks,hz,hz3,b,ms,clock,v3,v4,⟨v5,vb⟩,es',bs',v6,q1⟩
  refine ⟨(e.share bb o (o+ys.length)).S,h.shareG hof v3 j3 hok,hle,?_,bs',q1⟩
  rw [j2]
  refine .slice hks hz rfl j10 ⟨fun _=>rfl,fun jj y' hj=>?_⟩ (j9.mono hle) .nil
  have hjl:=(List.getElem?_eq_some_iff.1 hj).1
  have hcap:0 < cap:=by
   rcases Nat.eq_zero_or_pos cap with h0 | h0
   ·have:xs=[]:=List.eq_nil_of_length_eq_zero (by omega)
    subst this
    have:=j9.length.1
    simp [szs] at this
    subst this;simp at hjl
   ·exact h0
  have:=j0 hcap
  subst this
  refine ⟨?_,.inr ⟨rfl,by show j≤j+jj;omega,by show j+jj < _;omega⟩⟩
  show e.w.cell? _=_
  rw [D1,F4 j5,j7,← j8,List.append_assoc]
  exact N0 hj
def B0E (T:TT) (e:B6) (kt st:Nat) (es:List (V×V×Bool)) (ms:List MapEntry):Prop :=
 es.length=ms.length∧∀ (i:Nat) k x q (m:MapEntry),es[i]? = some (k,x,q)→ms[i]? = some m→F0 T e (.v kt k) m.key∧RV T e [st] [x] [m.val]
theorem B5e (h:A8 T c e of) {id b clock:Nat} {ms:Array MapEntry} (hof:of id=some (.sm kt st el es none)) (v3:e.ι id=some (b,0)) (v4:e.w.heap[b]? = some (.map ms clock)) (vb:StB ms clock) (v6:es'.Perm es) (v5:(es.map (·.1)).Nodup) (v7:SR T e b kt st el none es' ms.toList bs) :
  ∃ S':Nat→Nat→Prop,A8 T c { e with S:=S' } of∧e.le { e with S:=S' }∧B0E T { e with S:=S' } kt st es' ms.toList:=by
 have key:∀ n,∃ S':Nat→Nat→Prop,A8 T c { e with S:=S' } of∧e.le { e with S:=S' }∧(∃ bs',SR T { e with S:=S' } b kt st el none es' ms.toList bs')∧∀ (i:Nat),i < n→∀ k x q (m:MapEntry),es'[i]? = some (k,x,q)→ms.toList[i]? = some m→RV T { e with S:=S' } [st] [x] [m.val]:=by
  intro n
  induction n with
  | zero=>exact ⟨e.S,h,B6.le.refl e,⟨bs,v7⟩,fun i hi=>absurd hi (Nat.not_lt_zero _)⟩
  | succ n ih =>
   obtain ⟨S',h1,h2,⟨bs',h3⟩,h4⟩:=ih
   by_cases hn:∃ k x q m,es'[n]? = some (k,x,q)∧ms.toList[n]? = some m
   ·obtain ⟨k,x,q,m,g1,g2⟩:=hn
    obtain ⟨S2,k1,k2,k3,bs2,k4⟩:=B7L h1 hof v3 v4 vb v6 v5 h3 g1 g2
    refine ⟨S2,k1,h2.trans k2,⟨bs2,k4⟩,fun i hi k' x' q' m' p1 p2=>?_⟩
    by_cases he:i=n
    ·subst he
     rw [g1] at p1;rw [g2] at p2
     cases p1;cases p2
     exact k3
    ·exact (h4 i (by omega) k' x' q' m' p1 p2).mono k2
   ·refine ⟨S',h1,h2,⟨bs',h3⟩,fun i hi k' x' q' m' p1 p2=>?_⟩
    by_cases he:i=n
    ·subst he;exact absurd ⟨k',x',q',m',p1,p2⟩ hn
    ·exact h4 i (by omega) k' x' q' m' p1 p2
 obtain ⟨S',h1,h2,⟨bs',h3⟩,h4⟩:=key (es'.length)
 refine ⟨S',h1,h2,h3.length,fun i k x q m p1 p2=>?_⟩
 obtain ⟨b0,cs,g1,_⟩:=h3.pull p1 p2
 exact ⟨g1.key,h4 i (List.getElem?_eq_some_iff.1 p1).1 k x q m p1 p2⟩
variable {P:Program} {T:TT} {c:F6} {e:B6} {of:Nat→Option Ob}
def F6.here (e:B6) (of:Nat→Option Ob) (rd:Option Nat):F6:={ w0:=e.w,M:=fun b=>(∃ id o,(of id).isSome∧e.ι id=some (b,o))∨∃ a,e.G a b,S0:=e.S,rd:=rd }
theorem A8.here (h:A8 T c e of) (rd:Option Nat):A8 T (F6.here e of rd) e of :=
 ⟨h.ok,h.sep,fun id b o hi hb=>.inr (.inl ⟨id,o,hi,hb⟩),h.lt,h.slt,fun _ _ q=>q,fun _ _ q=>.inl q,rfl,rfl,rfl,Nat.le_refl _,fun _ _ _=>rfl,⟨h.g.sep,h.g.uniq,fun a b hG=>.inr (.inr ⟨a,hG⟩),h.g.lt⟩⟩
theorem A8.back_here (h:A8 T c e of) {rd:Option Nat} {e':B6} {of':Nat→Option Ob} (h':A8 T (F6.here e of rd) e' of'):A8 T c e' of':=by
 have hM:∀ b,(F6.here e of rd).M b→c.w0.heap.size≤b∨c.M b:=fun b hb=>by
  rcases hb with ⟨id,o,hi,hb⟩ | ⟨a,hG⟩
  ·exact h.own _ _ _ hi hb
  ·exact h.g.own _ _ hG
 have hsz:c.w0.heap.size≤e.w.heap.size:=h.size
 have hown:∀ b,((F6.here e of rd).w0.heap.size≤b∨(F6.here e of rd).M b)→c.w0.heap.size≤b∨c.M b:=fun b hb=>hb.elim (fun q=>.inl (Nat.le_trans hsz q)) (hM b)
 refine ⟨h'.ok,h'.sep,fun id b o hi hb=>hown b (h'.own id b o hi hb),h'.lt,h'.slt,fun b i hs=>h'.s0 b i (h.s0 b i hs),fun b i hs=>?_,h'.os.trans h.os,h'.tape.trans h.tape,h'.output.trans h.output,Nat.le_trans hsz h'.size,fun k hk hm=>?_,⟨h'.g.sep,h'.g.uniq,fun a b hG=>hown b (h'.g.own a b hG),h'.g.lt⟩⟩
 ·rcases h'.snew b i hs with hs | hs
  ·exact h.snew b i hs
  ·exact .inr (hown b hs)
 ·have hnm:¬ (F6.here e of rd).M k:=fun q=>by
   rcases hM k q with h1 | h1
   ·omega
   ·exact hm h1
  exact (h'.block k (Nat.lt_of_lt_of_le hk hsz) hnm).trans (h.block k hk hm)
def B6.bare (w:World) (S:Nat→Nat→Prop):B6:={ w:=w,ι:=fun _=>none,S:=S,bn:=fun _=>0,U:=fun _=>False,ty:=fun _=>0,ln:=fun _=>0,G:=fun _ _=>False }
open Classical in
variable {P:Program} {T:TT} {c:F6} {e:B6} {of:Nat→Option Ob}
variable {P:Program} {T:TT} {c:F6} {e:B6} {of:Nat→Option Ob}
variable {P:Program} {T:TT} {c:F6} {e:B6} {of:Nat→Option Ob}
theorem A5T {α β:Type} [DecidableEq β] (f:α→β) (p p':α→Bool):∀ (L:List α) (a:α),(L.map f).Nodup→a∈L→p a=false→(∀ y∈L,p' y=(p y||decide (f y=f a)))→(L.filter p').Perm (a::L.filter p):=by
 intro L
 induction L with
 | nil=>intro a _ h;cases h
 | cons y r ih =>
  intro a hn ha hp hp'
  simp only [List.map_cons,List.nodup_cons] at hn
  rcases List.mem_cons.1 ha with rfl | ha
  ·have h1:p' a=true:=by rw [hp' a (by simp)];simp
   have h2:r.filter p'=r.filter p:=by
    refine List.filter_congr (fun z hz=>?_)
    rw [hp' z (by simp [hz])]
    have:¬ f z=f a:=fun q=>hn.1 (by rw [← q];exact List.mem_map_of_mem hz)
    simp [this]
   rw [List.filter_cons_of_pos h1,List.filter_cons_of_neg (by simp [hp]),h2]
  ·have hne:¬ f y=f a:=fun q=>hn.1 (by rw [q];exact List.mem_map_of_mem ha)
   have h1:p' y=p y:=by rw [hp' y (by simp)];simp [hne]
   have ih:=ih a hn.2 ha hp (fun z hz=>hp' z (by simp [hz]))
   cases hpy:p y with
   | true =>
    rw [List.filter_cons_of_pos (by rw [h1,hpy]),List.filter_cons_of_pos hpy]
    exact (ih.cons y).trans (List.Perm.swap _ _ _)
   | false =>
    rw [List.filter_cons_of_neg (by rw [h1,hpy];simp),List.filter_cons_of_neg (by rw [hpy];simp)]
    exact ih
open Go.RowKit Go.Sort
variable {R:Type}
open Go.RowKit Go.Sort
variable {R:Type}
open Go.RowKit Go.Sort
variable {R:Type}
end Go.Vm
end