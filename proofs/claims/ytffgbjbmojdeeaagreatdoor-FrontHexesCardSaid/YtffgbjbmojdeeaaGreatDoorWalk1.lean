/- What functions compute, and the law run. -/
import Derived.Test.YtffgbjbmojdeeaaGreatDoorTy
import Derived.Test.YtffgbjbmojdeeaaGreatDoorVm9
import Derived.Test.YtffgbjbmojdeeaaGreatDoorVm10
import Derived.Shelf.RegionOpenPlain
import Derived.Lib.Builder
import Derived.Lib.UnsafeStr
import Derived.Lib.Walk
import Derived.WalkKit
import Derived.Laws.Externs
set_option linter.constructorNameAsVariable false
set_option linter.unusedVariables false
set_option linter.unusedSimpArgs false
set_option linter.unnecessarySimpa false
noncomputable section
namespace Go.Proofs.YtffgbjbmojdeeaaGreatDoor
open Go.Vm
set_option maxRecDepth 100000
set_option linter.unusedVariables false
abbrev nT (f:Nat):Nat:=C0f Tryz.prog f
abbrev cT (f i:Nat):Code:=lp (A66 Tryz.prog f) i
def B9e:List (Nat×J4):=[]
theorem A6v:M3 Tryz.prog T B9e:=B2k
def K1:KC:=U3 Tryz.prog T B9e false FU 4
theorem hK1:K1.nat:=H3 A6v 4
theorem hS1:KOK Tryz.prog T K1.dir:=T8 follows H4 A6v 4
def B0n:B7t→Vm.St
 | .m x z i w=>⟨[(0,.v 22 x),(2,.p 0 517 []),(3,.p 1 517 []),(8,.i .i64 i)],(.n (some (.box 517 (.v 517 z) false)) (.n (some (.box 517 (.v 517 w) false)) .e .e) .e),[],2,some []⟩
def B7R (R:Type) (kx:Exit→Vm.St→Option R):C0k→Option R
 | .o x z i w=>kx (.exit 0) { B0n (.m x z i w) with nx:=16 }
def A9c:Vm.St→Option B7t
 | ⟨[(0,.v 22 x),(2,.p 0 517 []),(3,.p 1 517 []),(8,.i .i64 i)],(.n (some (.box 517 (.v 517 z) false)) (.n (some (.box 517 (.v 517 w) false)) .e .e) .e),[],2,some []⟩=>some (.m x z i w)
 | _=>none
theorem B1B:B2l A9c B0n:=by
 intro _ _ h
 unfold A9c at h
 split at h<;>first | (cases h;rfl) | cases h
theorem B6i:A6a T K1 (fun _=>none) (nT 362) (cT 362 0) 0 [0,2,3,8] 16 B0n B5d B7R:=by
 intro R of x K kx
 cases x<;>kernel_rfl
def B9f:LS:=A2A T K1 (fun _=>none) (nT 362) (cT 362 0) 0 [0,2,3,8] 16 A9c B5d B7R
theorem B0o:A0f Tryz.prog T (nT 362) 0 (cT 362 0) B9f :=
 A0I follows H4 hK1 hS1 G0 (D7 _) B0n B1B B6i
def B0p:B7u→Vm.St
 | .m z i w=>⟨[(2,.p 0 517 []),(3,.p 1 517 []),(5,.i .i64 i)],(.n (some (.box 517 (.v 517 z) false)) (.n (some (.box 517 (.v 517 w) false)) .e .e) .e),[],2,some []⟩
def B7S (R:Type) (kx:Exit→Vm.St→Option R):C0l→Option R
 | .o z i w=>kx (.exit 2) { B0p (.m z i w) with nx:=16 }
def A9d:Vm.St→Option B7u
 | ⟨[(2,.p 0 517 []),(3,.p 1 517 []),(5,.i .i64 i)],(.n (some (.box 517 (.v 517 z) false)) (.n (some (.box 517 (.v 517 w) false)) .e .e) .e),[],2,some []⟩=>some (.m z i w)
 | _=>none
theorem B1C:B2l A9d B0p:=by
 intro _ _ h
 unfold A9d at h
 split at h<;>first | (cases h;rfl) | cases h
theorem B6j:A6a T K1 (fun _=>none) (nT 362) (cT 362 1) 0 [2,3,5] 16 B0p B2n B7S:=by
 intro R of x K kx
 cases x<;>kernel_rfl
def B9g:LS:=A2A T K1 (fun _=>none) (nT 362) (cT 362 1) 0 [2,3,5] 16 A9d B2n B7S
theorem B0q:A0f Tryz.prog T (nT 362) 0 (cT 362 1) B9g :=
 A0I follows H4 hK1 hS1 G0 (D7 _) B0p B1C B6j
def B9h:Nat→LC:=atN 0 [(3,B9f),(8,B9g)]
theorem B6k:A0e Tryz.prog T 362 B9h:=A1E 0 (List.forall_mem_cons.2 ⟨B0o.1,List.forall_mem_cons.2 ⟨B0q.1,fun _ h=>by cases h⟩⟩) 2 (by kernel_rfl) ⟨⟨trivial,loI (s0:=B9f) (by kernel_rfl) B0o⟩,loI (s0:=B9g) (by kernel_rfl) B0q⟩
def Gsp:FC:=fun R xs k=>match xs with
 | [x]=>lpC (B5d R) (A7 FU) (.m x z64 0 z64) (fun | .o _ z _ w=>lpC (B2n R) (A7 FU) (.m z 16 w) (fun | .o _ _ w=>k [.d 517 w]))
 | _=>none
theorem B9i (R:Type) (x:V) (k:List Rs→Option R):P4 Tryz.prog T K1 B9h false FU 362 R (E0 T [22] [x]) (fun _=>none) 0 (fun out=>ob (E7 T false [.d 517] out) k)=Gsp R [x] k:=by kernel_rfl
def B9j:List (Nat×J4):=(362,C1 T false [22] (Fsp 517))::B9e
theorem A6w:M3 Tryz.prog T B9j:=by
 refine A8t (sh:=false) (rk:=[.d 517]) (d:=4) (fu:=FU) (Lo:=B9h) (G:=Gsp) follows H4 A6v (B7A 517) (by kernel_rfl) B6k (fun R xs k htv=>?_) (fun xs rs htv hrs=>?_)
 ·match xs,htv.len with
  | [x],_=>exact B9i R x k
 ·match xs,htv,htv.len with
  | [x],htv,_ =>
   obtain ⟨e,cs,hx⟩:=htv.head
   obtain ⟨bs,h1,h2⟩:=A8s (T:=T) (el:=5) (kd:=.u8) (by kernel_rfl) (by kernel_rfl) rfl hx
   simp only [Fsp] at hrs
   cases hl:Nat.ble 64 x.els.length with
   | false=>rw [hl] at hrs;cases hrs
   | true =>
    rw [hl] at hrs
    have hl:=C3t hl
    rw [h1,C3r] at hl
    exact (A93 h1 (B5i h2) hl HID (fun w=>some [Rs.d 517 w])).trans hrs
def K2:KC:=U3 Tryz.prog T B9j false FU 4
theorem hK2:K2.nat:=H3 A6w 4
theorem hS2:KOK Tryz.prog T K2.dir:=T8 follows H4 A6w 4
def B0r:B7v→Vm.St
 | .m s z w k x i=>⟨[(2,.p 0 479 []),(4,.p 1 479 []),(5,.p 3 517 []),(6,.p 4 517 []),(7,.p 5 479 []),(18,.i .i64 i)],(.n (some (.box 479 (.v 479 s) false)) (.n (some (.box 479 (.v 479 z) false)) (.n (some (.box 517 (.v 517 w) false)) .e .e) (.n (some (.box 479 (.v 479 x) false)) .e .e)) (.n none (.n (some (.box 517 (.v 517 k) false)) .e .e) .e)),[],6,some []⟩
def B7T (R:Type) (kx:Exit→Vm.St→Option R):C0m→Option R
 | .o s z w k x i=>kx (.exit 0) { B0r (.m s z w k x i) with nx:=16 }
def A9e:Vm.St→Option B7v
 | ⟨[(2,.p 0 479 []),(4,.p 1 479 []),(5,.p 3 517 []),(6,.p 4 517 []),(7,.p 5 479 []),(18,.i .i64 i)],(.n (some (.box 479 (.v 479 s) false)) (.n (some (.box 479 (.v 479 z) false)) (.n (some (.box 517 (.v 517 w) false)) .e .e) (.n (some (.box 479 (.v 479 x) false)) .e .e)) (.n none (.n (some (.box 517 (.v 517 k) false)) .e .e) .e)),[],6,some []⟩=>some (.m s z w k x i)
 | _=>none
theorem B1D:B2l A9e B0r:=by
 intro _ _ h
 unfold A9e at h
 split at h<;>first | (cases h;rfl) | cases h
theorem B6l:A6a T K2 (fun _=>none) (nT 331) (cT 331 0) 0 [2,4,5,6,7,18] 16 B0r B5e B7T:=by
 intro R of x K kx
 cases x<;>kernel_rfl
def B9k:LS:=A2A T K2 (fun _=>none) (nT 331) (cT 331 0) 0 [2,4,5,6,7,18] 16 A9e B5e B7T
theorem B0s:A0f Tryz.prog T (nT 331) 0 (cT 331 0) B9k :=
 A0I follows H4 hK2 hS2 G0 (D7 _) B0r B1D B6l
def B0t:B7w→Vm.St
 | .m s z x i=>⟨[(2,.p 0 479 []),(4,.p 1 479 []),(7,.p 5 479 []),(98,.i .i64 i)],(.n (some (.box 479 (.v 479 s) false)) (.n (some (.box 479 (.v 479 z) false)) .e (.n (some (.box 479 (.v 479 x) false)) .e .e)) .e),[],6,some []⟩
def B7U (R:Type) (kx:Exit→Vm.St→Option R):C0n→Option R
 | .o s z x i=>kx (.exit 2) { B0t (.m s z x i) with nx:=16 }
def A9f:Vm.St→Option B7w
 | ⟨[(2,.p 0 479 []),(4,.p 1 479 []),(7,.p 5 479 []),(98,.i .i64 i)],(.n (some (.box 479 (.v 479 s) false)) (.n (some (.box 479 (.v 479 z) false)) .e (.n (some (.box 479 (.v 479 x) false)) .e .e)) .e),[],6,some []⟩=>some (.m s z x i)
 | _=>none
theorem B1E:B2l A9f B0t:=by
 intro _ _ h
 unfold A9f at h
 split at h<;>first | (cases h;rfl) | cases h
theorem B6m:A6a T K2 (fun _=>none) (nT 331) (cT 331 1) 0 [2,4,7,98] 16 B0t A91 B7U:=by
 intro R of x K kx
 cases x<;>kernel_rfl
def B9l:LS:=A2A T K2 (fun _=>none) (nT 331) (cT 331 1) 0 [2,4,7,98] 16 A9f A91 B7U
theorem B0u:A0f Tryz.prog T (nT 331) 0 (cT 331 1) B9l :=
 A0I follows H4 hK2 hS2 G0 (D7 _) B0t B1E B6m
def B9m:Nat→LC:=atN 0 [(3,B9k),(11,B9l)]
theorem B6n:A0e Tryz.prog T 331 B9m:=A1E 0 (List.forall_mem_cons.2 ⟨B0s.1,List.forall_mem_cons.2 ⟨B0u.1,fun _ h=>by cases h⟩⟩) 2 (by kernel_rfl) ⟨⟨trivial,loI (s0:=B9k) (by kernel_rfl) B0s⟩,loI (s0:=B9l) (by kernel_rfl) B0u⟩
def Gmx:FC:=fun R xs k=>match xs with
 | [s,b]=>bif Nat.ble 64 b.els.length then lpC (B5e R) (A7 FU) (.m s z8 (spW b) B8x s 0) (fun | .o s z _ _ x _=>lpC (A91 R) (A7 FU) (.m s z x 0) (fun | .o s _ _ _=>k [.d 479 s])) else none
 | _=>none
theorem B9n (R:Type) (s b:V) (k:List Rs→Option R):P4 Tryz.prog T K2 B9m false FU 331 R (E0 T [479,22] [s,b]) (fun _=>none) 0 (fun out=>ob (E7 T false [.d 479] out) k)=Gmx R [s,b] k:=by kernel_rfl
def B9o:List (Nat×J4):=(331,C1 T false [479,22] (Fmx 479))::B9j
theorem A3E:M3 Tryz.prog T B9o:=by
 refine A8t (sh:=false) (rk:=[.d 479]) (d:=4) (fu:=FU) (Lo:=B9m) (G:=Gmx) follows H4 A6w (B7B 479) (by kernel_rfl) B6n (fun R xs k htv=>?_) (fun xs rs htv hrs=>?_)
 ·match xs,htv.len with
  | [s,b],_=>exact B9n R s b k
 ·match xs,htv,htv.len with
  | [s,b],htv,_ =>
   obtain ⟨e,cs,hs⟩:=htv.head
   obtain ⟨e2,cs2,hx⟩:=htv.tail.head
   obtain ⟨bs,h1,h2⟩:=A8s (T:=T) (el:=5) (kd:=.u8) (by kernel_rfl) (by kernel_rfl) rfl hx
   obtain ⟨ns,rfl,n1,n2⟩:=C0p (T:=T) (n:=8) (el:=108) (kd:=.u32) (by kernel_rfl) (by kernel_rfl) rfl hs
   obtain ⟨s8,hs8,hok⟩:=C0s n1 n2
   rw [hs8] at hrs ⊢
   simp only [Fmx] at hrs
   cases hl:Nat.ble 64 b.els.length with
   | false=>rw [hl] at hrs;cases hrs
   | true =>
    rw [hl] at hrs
    simp only [Gmx,hl,cond_true]
    have hl:=C3t hl
    rw [h1,C3r] at hl
    exact (B7C hok h1 (B5i h2) hl HID (fun w=>some [Rs.d 479 w])).trans hrs
def K3:KC:=U3 Tryz.prog T B9o false FU 4
theorem hK3:K3.nat:=H3 A3E 4
theorem hS3:KOK Tryz.prog T K3.dir:=T8 follows H4 A3E 4
end Go.Proofs.YtffgbjbmojdeeaaGreatDoor
namespace Go.Proofs.YtffgbjbmojdeeaaGreatDoor
open Go.Shelf Go.RowKit Go.Vm
set_option linter.unusedVariables false
set_option maxHeartbeats 1000000 in
set_option maxRecDepth 100000 in
theorem B6o (b:Nat) (w:World) (h0:w.cell? ⟨b,0,none⟩=some (.pointer (some ⟨b,0,none⟩))) :
  Calls Tryz.prog 17 #[.pointer (some ⟨b,0,none⟩)] w fun e w'=>e=.returned (.tuple #[])∧w'=w:=by
 obtain ⟨j,hj,_⟩:∃ j,Tryz.prog.info? 31=some j∧j.size=2:=⟨Tryz.t31,by kernel_rfl,by kernel_rfl⟩
 go_enter Tryz.func17,Tryz.ntmps17
 go_wp2
 rw [Lib.run_neq_ptr_same w _ Tryz.underlying29 hj]
 go_wp2
 go_end0
 exact ⟨rfl,rfl⟩
set_option maxHeartbeats 1000000 in
set_option maxRecDepth 100000 in
theorem B3S (b:Nat) (w:World) (t0 cells:Nat) (h0:w.cell? ⟨b,0,none⟩=some (.pointer none)) (hsh:w.shape? b=some (t0,cells)) (hpos:0 < cells) (hlies:liesAt Tryz.prog Tryz.prog.depth t0 (cells / Tryz.prog.cellsOf t0) 0 31 1=true) (hfz:w.frozen? ⟨b,0,none⟩=false) :
  Calls Tryz.prog 17 #[.pointer (some ⟨b,0,none⟩)] w fun e w'=>e=.returned (.tuple #[])∧w'=w.setCell ⟨b,0,none⟩ (.pointer (some ⟨b,0,none⟩)):=by
 obtain ⟨j,hj,hjs⟩:∃ j,Tryz.prog.info? 31=some j∧j.size=2:=⟨Tryz.t31,by kernel_rfl,by kernel_rfl⟩
 go_enter Tryz.func17,Tryz.ntmps17
 go_wp2
 rw [Lib.run_to_unsafe w ⟨b,0,none⟩ Tryz.underlying29 Tryz.underlying86 hj (by rw [hjs];decide) hsh hpos]
 simp only [Result.andThen]
 rw [Oper.upon_value]
 go_wp2
 rw [run_callFunc_extern Tryz.func34 (by kernel_rfl) (by kernel_rfl) (by kernel_rfl) (e:=Extern.AbiNoEscape.same) (by kernel_rfl)]
 rw [Lib.run_noEscape]
 simp only [Result.andThen]
 rw [Oper.upon_value]
 go_wp2
 rw [Lib.run_from_unsafe w ⟨b,0,none⟩ Tryz.underlying86 Tryz.underlying29 hj hsh hlies]
 simp only [Result.andThen]
 rw [Oper.upon_value]
 go_wp2
 go_end0
 exact ⟨rfl,rfl⟩
set_option maxHeartbeats 2000000 in
set_option maxRecDepth 100000 in
theorem B6p (b g k cap cnt:Nat) (l:List UInt8) (w:World) (h1:w.cell? ⟨b,1,none⟩=some (.slice (some ⟨g,k,none⟩) l.length cap)) (hcap:cap≠0) (h0:l≠[]) (h63:l.length≤9223372036854775807) (hsh:w.shape? g=some (5,cnt)) (hn:k+l.length≤cnt)
  (hcell:∀ j x,l[j]? = some x→w.cell? ((⟨g,k,none⟩:Addr).add j)=some (.int .u8 x.toNat)) :
  Calls Tryz.prog 9 #[.pointer (some ⟨b,0,none⟩)] w fun e w'=>e=.returned (.string ⟨l.toArray⟩)∧w'=w.drew.freeze ⟨g,k,none⟩ l.length:=by
 have c1:w.drew.cell? ⟨b,1,none⟩=some (.slice (some ⟨g,k,none⟩) l.length cap):=h1
 have hSD:(Builtin.unsafeSliceData_ #[22] 55 #[.slice (some ⟨g,k,none⟩) l.length cap]).run Tryz.prog w.drew=.ok (.pointer (some ⟨g,k,none⟩)) w.drew :=
  Lib.run_unsafeSliceData_row _ _ _ _ _ _ hcap
 have hUS:(Builtin.unsafeString_ #[55,3] 9 #[.pointer (some ⟨g,k,none⟩),.int .i64 l.length]).run Tryz.prog w.drew=.ok (.string ⟨l.toArray⟩) (w.drew.freeze ⟨g,k,none⟩ l.length) :=
  A1H w.drew 55 3 9 5 Tryz.underlying55 (by kernel_rfl) g k cnt hsh l h0 hn h63 hcell
 clear hsh hcell h1 hcap
 have mixed:Tryz.prog.follows Departure.mixedOrders=true:=by kernel_rfl
 go_enter Tryz.func9,Tryz.ntmps9
 go_wp2
 go_region_o
 all_goals (go_wp2;go_ret;exact ⟨rfl,rfl⟩)
set_option maxHeartbeats 2000000 in
set_option maxRecDepth 100000 in
theorem B6q (b:Nat) (w:World) (h1:w.cell? ⟨b,1,none⟩=some (.slice none 0 0)) :
  Calls Tryz.prog 9 #[.pointer (some ⟨b,0,none⟩)] w fun e w'=>e=.returned (.string ⟨#[]⟩)∧w'=w.drew:=by
 have c1:w.drew.cell? ⟨b,1,none⟩=some (.slice none 0 0):=h1
 have hSD:(Builtin.unsafeSliceData_ #[22] 55 #[.slice none 0 0]).run Tryz.prog w.drew=.ok (.pointer none) w.drew:=rfl
 have hUS:(Builtin.unsafeString_ #[55,3] 9 #[.pointer none,.int .i64 0]).run Tryz.prog w.drew=.ok (.string .empty) w.drew:=Lib.run_unsafeString_none _ _ _ _ _
 have mixed:Tryz.prog.follows Departure.mixedOrders=true:=by kernel_rfl
 go_enter Tryz.func9,Tryz.ntmps9
 go_wp2
 go_region_o
 all_goals (go_wp2;go_ret;exact ⟨rfl,rfl⟩)
def B3T (t0:Nat):Bool:=liesAt Tryz.prog Tryz.prog.depth t0 (B1 T t0 / Tryz.prog.cellsOf t0) 0 31 1
theorem B9p:B3T 31=true:=by kernel_rfl
theorem B9q:B3T 41=true:=by kernel_rfl
theorem C0O:∀ t0:Nat,[31,41].contains t0=true→liesAt Tryz.prog Tryz.prog.depth t0 (B1 T t0 / Tryz.prog.cellsOf t0) 0 31 1=true:=by
 intro t0 h
 show B3T t0=true
 have h:t0=31∨t0=41:=by simpa using h
 rcases h with rfl | rfl
 ·exact B9p
 ·exact B9q
theorem A7M:C0 Tryz.prog T 17 (A2c T [31,41] 31 29) :=
 A8P H4 (bt:=22) (by kernel_rfl) (by kernel_rfl) (by kernel_rfl) (fun b w h=>B6o b w h) (fun b w t0 cells h1 h2 h3 h4 h5=>B3S b w t0 cells h1 h2 h3 h4 h5) C0O (enters_of Tryz.func17 (by kernel_rfl) rfl)
theorem B3U:C0 Tryz.prog T 9 (A3d T 31 22 5) :=
 B2U H4 (pt:=29) (by kernel_rfl) (by kernel_rfl) (by kernel_rfl) (by kernel_rfl) (by kernel_rfl) (fun b g k cap cnt l w h1 h2 h3 h4 h5 h6 h7=>B6p b g k cap cnt l w h1 h2 h3 h4 h5 h6 h7) (fun b w h=>B6q b w h) (enters_of Tryz.func9 (by kernel_rfl) rfl)
theorem B6r:C0 Tryz.prog T 84 A7b:=B2V Tryz.func84 (by kernel_rfl) (by kernel_rfl) (by kernel_rfl) (by kernel_rfl)
theorem B0v:C0 Tryz.prog T 35 A28:=B2W Tryz.func35 (by kernel_rfl) (by kernel_rfl) (by kernel_rfl) (by kernel_rfl)
end Go.Proofs.YtffgbjbmojdeeaaGreatDoor
namespace Go.Proofs.YtffgbjbmojdeeaaGreatDoor
open Go.Vm
set_option maxRecDepth 100000
set_option linter.unusedVariables false
def A2m:List (Nat×N9):=[(331,(C1 T false [479,22] (B7E (Fmx 479))).dir),(214,C0t T 22),(332,A6L),(296,A4t),(17,A2c T [31,41] 31 29),(9,A3d T 31 22 5),(84,A7b),(35,A28)]
theorem A7N:U0 Tryz.prog T A2m:=⟨M3.see (M3.at A3E (by kernel_rfl)),C0u (u8:=5) (by kernel_rfl) (by kernel_rfl) Tryz.func214 (by kernel_rfl) (by kernel_rfl) (by kernel_rfl) (by kernel_rfl),A9D Tryz.func332 (by kernel_rfl) (by kernel_rfl) (by kernel_rfl) (by kernel_rfl),A77 Tryz.func296 (by kernel_rfl) (by kernel_rfl) (by kernel_rfl) (by kernel_rfl),A7M,B3U,B6r,B0v,trivial⟩
def C0P:List V:=[.l [bl [66,89,78,65,77,69,48,49,0,0,0,0,0,0,0,0]]]
def C0Q:List Rs:=[.d 80 (bl [71,66,67,0,176,13,250,203,11,148,245,98,82,20,154,254,250,249,227,81,47,171,162,140,8,214,161,174,225,191,151,8])]
theorem C0R:ob (H1 Tryz.prog T A2m 100000 60 204 (E0 T [210] C0P) (fun _=>none) 0) (fun out=>E7 T false [.d 80] out)=some C0Q:=by kernel_rfl
def C0S:List V:=[.l [bl [66,89,78,65,77,69,48,49,1,0,0,0,0,0,0,0]]]
def C0T:List Rs:=[.d 80 (bl [179,131,144,54,252,253,66,41,208,173,43,136,173,134,160,110,75,169,135,124,160,72,58,186,177,179,10,195,54,68,158,250])]
theorem C0U:ob (H1 Tryz.prog T A2m 100000 60 204 (E0 T [210] C0S) (fun _=>none) 0) (fun out=>E7 T false [.d 80] out)=some C0T:=by kernel_rfl
def C0V:List V:=[.l [bl [179,131,144,54,252,253,66,41,208,173,43,136,173,134,160,110,75,169,135,124,160,72,58,186,177,179,10,195,54,68,158,250],bl [1,0,0,0,1,0]]]
def C0W:List Rs:=[.d 80 (bl [19,50,224,205,10,199,4,162,2,23,157,220,228,35,189,112,155,109,234,237,62,254,160,34,187,214,247,142,233,178,85,121])]
theorem C0X:ob (H1 Tryz.prog T A2m 100000 60 204 (E0 T [210] C0V) (fun _=>none) 0) (fun out=>E7 T false [.d 80] out)=some C0W:=by kernel_rfl
def C0Y:List V:=[.l [bl [1,0,0,0,1,0,0,0,0,0,0,0,0,0,0,0,0,0,0,0,0,0,0,0,0,0,0,0,0,0,0,0,0,0,0,0,0,255,255,255,255,6,98,121,110,97,109,101,0,0,0,0,1,0,0,0,0,0,0,0,0,1,106,0,0,0,0]]]
def C0Z:List Rs:=[.d 80 (bl [164,185,97,247,26,133,138,169,23,177,220,56,79,124,5,84,3,78,40,106,254,139,168,156,129,38,228,241,249,101,157,231])]
theorem C00:ob (H1 Tryz.prog T A2m 100000 60 204 (E0 T [210] C0Y) (fun _=>none) 0) (fun out=>E7 T false [.d 80] out)=some C0Z:=by kernel_rfl
def C01:List V:=[.l [bl [164,185,97,247,26,133,138,169,23,177,220,56,79,124,5,84,3,78,40,106,254,139,168,156,129,38,228,241,249,101,157,231]]]
def C02:List Rs:=[.d 80 (bl [27,228,96,192,24,233,156,161,112,96,39,161,242,105,12,172,218,72,254,74,38,146,230,38,152,188,212,98,137,78,137,234])]
theorem C03:ob (H1 Tryz.prog T A2m 100000 60 204 (E0 T [210] C01) (fun _=>none) 0) (fun out=>E7 T false [.d 80] out)=some C02:=by kernel_rfl
def C04:List V:=[.l [bl [1,0,0,0,0,0,0,0,0,0,0,0,0,0,0,0,0,0,0,0,0,0,0,0,0,0,0,0,0,0,0,0,0,0,0,0,27,228,96,192,24,233,156,161,112,96,39,161,242,105,12,172,218,72,254,74,38,146,230,38,152,188,212,98,137,78,137,234,0,202,154,59,255,255,127,32,0,0,0,0]]]
def C05:List Rs:=[.d 80 (bl [30,142,222,220,65,59,120,14,231,129,242,81,22,124,166,126,57,108,10,92,117,197,61,184,88,189,119,47,216,235,59,136])]
theorem C06:ob (H1 Tryz.prog T A2m 100000 60 204 (E0 T [210] C04) (fun _=>none) 0) (fun out=>E7 T false [.d 80] out)=some C05:=by kernel_rfl
def C07:List V:=[.l [bl [30,142,222,220,65,59,120,14,231,129,242,81,22,124,166,126,57,108,10,92,117,197,61,184,88,189,119,47,216,235,59,136]]]
def C08:List Rs:=[.d 80 (bl [5,255,175,132,180,223,70,118,53,239,142,198,68,68,87,192,226,0,188,189,184,250,48,242,15,177,159,234,32,101,91,46])]
theorem C09:ob (H1 Tryz.prog T A2m 100000 60 204 (E0 T [210] C07) (fun _=>none) 0) (fun out=>E7 T false [.d 80] out)=some C08:=by kernel_rfl
def tb0:List (List V×List Rs):=[(C0P,C0Q),(C0S,C0T),(C0V,C0W),(C0Y,C0Z),(C01,C02),(C04,C05),(C07,C08)]
theorem C28:C0 Tryz.prog T 204 (C1 T false [210] (G8 tb0)).dir:=E3 (rk:=[.d 80]) (D8 (fu:=100000) (d:=60) follows H4 A7N) (by kernel_rfl) ⟨C0R,C0U,C0X,C00,C03,C06,C09,trivial⟩
def B0w:List (Nat×N9):=(204,(C1 T false [210] (G8 tb0)).dir)::A2m
theorem A7O:U0 Tryz.prog T B0w:=⟨C28,A7N⟩
def C1a:List V:=[.l [bl [1,0,0,0,1,0,0,0,0,0,0,0,0,0,0,0,0,0,0,0,0,0,0,0,0,0,0,0,0,0,0,0,0,0,0,0,0,255,255,255,255,6,98,121,110,97,109,101,0,0,0,0,1,0,0,0,0,0,0,0,0,1,106,0,0,0,0]]]
def C1b:List Rs:=[.d 80 (bl [27,228,96,192,24,233,156,161,112,96,39,161,242,105,12,172,218,72,254,74,38,146,230,38,152,188,212,98,137,78,137,234])]
theorem C1c:ob (H1 Tryz.prog T B0w 100000 60 154 (E0 T [210] C1a) (fun _=>none) 0) (fun out=>E7 T false [.d 80] out)=some C1b:=by kernel_rfl
def C1d:List V:=[.l [bl [1,0,0,0,0,0,0,0,0,0,0,0,0,0,0,0,0,0,0,0,0,0,0,0,0,0,0,0,0,0,0,0,0,0,0,0,27,228,96,192,24,233,156,161,112,96,39,161,242,105,12,172,218,72,254,74,38,146,230,38,152,188,212,98,137,78,137,234,0,202,154,59,255,255,127,32,0,0,0,0]]]
def C1e:List Rs:=[.d 80 (bl [5,255,175,132,180,223,70,118,53,239,142,198,68,68,87,192,226,0,188,189,184,250,48,242,15,177,159,234,32,101,91,46])]
theorem C1f:ob (H1 Tryz.prog T B0w 100000 60 154 (E0 T [210] C1d) (fun _=>none) 0) (fun out=>E7 T false [.d 80] out)=some C1e:=by kernel_rfl
def tb1:List (List V×List Rs):=[(C1a,C1b),(C1d,C1e)]
theorem C29:C0 Tryz.prog T 154 (C1 T false [210] (G8 tb1)).dir:=E3 (rk:=[.d 80]) (D8 (fu:=100000) (d:=60) follows H4 A7O) (by kernel_rfl) ⟨C1c,C1f,trivial⟩
def B0x:List (Nat×N9):=(154,(C1 T false [210] (G8 tb1)).dir)::B0w
theorem A7P:U0 Tryz.prog T B0x:=⟨C29,A7O⟩
def C1g:List V:=[.i 8388607]
def C1h:List Rs:=[.d 188 (bl [8388607,0,0,0])]
theorem C1i:ob (H1 Tryz.prog T B0x 100000 60 225 (E0 T [127] C1g) (fun _=>none) 0) (fun out=>E7 T false [.d 188] out)=some C1h:=by kernel_rfl
def C1j:List V:=[.i 1]
def C1k:List Rs:=[.d 188 (bl [1,0,0,0])]
theorem C1l:ob (H1 Tryz.prog T B0x 100000 60 225 (E0 T [127] C1j) (fun _=>none) 0) (fun out=>E7 T false [.d 188] out)=some C1k:=by kernel_rfl
def tb2:List (List V×List Rs):=[(C1g,C1h),(C1j,C1k)]
theorem C3a:C0 Tryz.prog T 225 (C1 T false [127] (G8 tb2)).dir:=E3 (rk:=[.d 188]) (D8 (fu:=100000) (d:=60) follows H4 A7P) (by kernel_rfl) ⟨C1i,C1l,trivial⟩
def A7Q:List (Nat×N9):=(225,(C1 T false [127] (G8 tb2)).dir)::B0x
theorem A7R:U0 Tryz.prog T A7Q:=⟨C3a,A7P⟩
def C1m:List V:=[bl [8388607,0,0,0],.i 232]
def C1n:List Rs:=[.d 188 (bl [0,0,0,9223370937343148032])]
theorem C1o:ob (H1 Tryz.prog T A7Q 100000 60 227 (E0 T [188,3] C1m) (fun _=>none) 0) (fun out=>E7 T false [.d 188] out)=some C1n:=by kernel_rfl
def C1p:List V:=[bl [1,0,0,9223370937343148032],.i 1]
def C1q:List Rs:=[.d 188 (bl [2,0,0,18446741874686296064])]
theorem C1r:ob (H1 Tryz.prog T A7Q 100000 60 227 (E0 T [188,3] C1p) (fun _=>none) 0) (fun out=>E7 T false [.d 188] out)=some C1q:=by kernel_rfl
def C1s:List V:=[bl [1,0,0,9223370937343148032],.i 0]
def C1t:List Rs:=[.d 188 (bl [1,0,0,9223370937343148032])]
theorem C1u:ob (H1 Tryz.prog T A7Q 100000 60 227 (E0 T [188,3] C1s) (fun _=>none) 0) (fun out=>E7 T false [.d 188] out)=some C1t:=by kernel_rfl
def tb3:List (List V×List Rs):=[(C1m,C1n),(C1p,C1q),(C1s,C1t)]
theorem C3b:C0 Tryz.prog T 227 (C1 T false [188,3] (G8 tb3)).dir:=E3 (rk:=[.d 188]) (D8 (fu:=100000) (d:=60) follows H4 A7R) (by kernel_rfl) ⟨C1o,C1r,C1u,trivial⟩
def B3V:List (Nat×N9):=(227,(C1 T false [188,3] (G8 tb3)).dir)::A7Q
theorem A7S:U0 Tryz.prog T B3V:=⟨C3b,A7R⟩
def C1v:List V:=[bl [8388607,0,0,0],.i (-232)]
def C1w:List Rs:=[.d 188 (bl [8388607,0,0,0])]
theorem C1x:ob (H1 Tryz.prog T B3V 100000 60 226 (E0 T [188,3] C1v) (fun _=>none) 0) (fun out=>E7 T false [.d 188] out)=some C1w:=by kernel_rfl
def tb4:List (List V×List Rs):=[(C1v,C1w)]
theorem C3c:C0 Tryz.prog T 226 (C1 T false [188,3] (G8 tb4)).dir:=E3 (rk:=[.d 188]) (D8 (fu:=100000) (d:=60) follows H4 A7S) (by kernel_rfl) ⟨C1x,trivial⟩
def A4g:List (Nat×N9):=(226,(C1 T false [188,3] (G8 tb4)).dir)::B3V
theorem A7T:U0 Tryz.prog T A4g:=⟨C3c,A7S⟩
def C1y:List V:=[bl [0,0,0,9223370937343148032],bl [0,0,0,9223370937343148032]]
def C1z:List Rs:=[.d 188 (bl [0,0,0,0]),.d 4 (.b false)]
theorem C1A:ob (H1 Tryz.prog T A4g 100000 60 230 (E0 T [188,188] C1y) (fun _=>none) 0) (fun out=>E7 T false [.d 188,.d 4] out)=some C1z:=by kernel_rfl
def C1B:List V:=[bl [0,0,0,0],bl [1,0,0,9223370937343148032]]
def C1C:List Rs:=[.d 188 (bl [18446744073709551615,18446744073709551615,18446744073709551615,9223373136366403583]),.d 4 (.b true)]
theorem C1D:ob (H1 Tryz.prog T A4g 100000 60 230 (E0 T [188,188] C1B) (fun _=>none) 0) (fun out=>E7 T false [.d 188,.d 4] out)=some C1C:=by kernel_rfl
def C1E:List V:=[bl [18446744073709551615,18446744073709551615,18446744073709551615,9223373136366403583],bl [2,0,0,18446741874686296064]]
def C1F:List Rs:=[.d 188 (bl [18446744073709551613,18446744073709551615,18446744073709551615,9223375335389659135]),.d 4 (.b true)]
theorem C1G:ob (H1 Tryz.prog T A4g 100000 60 230 (E0 T [188,188] C1E) (fun _=>none) 0) (fun out=>E7 T false [.d 188,.d 4] out)=some C1F:=by kernel_rfl
def C1H:List V:=[bl [18446744073709551615,18446744073709551615,18446744073709551615,9223373136366403583],bl [1,0,0,9223370937343148032]]
def C1I:List Rs:=[.d 188 (bl [18446744073709551614,18446744073709551615,18446744073709551615,2199023255551]),.d 4 (.b false)]
theorem C1J:ob (H1 Tryz.prog T A4g 100000 60 230 (E0 T [188,188] C1H) (fun _=>none) 0) (fun out=>E7 T false [.d 188,.d 4] out)=some C1I:=by kernel_rfl
def C1K:List V:=[bl [2,0,0,0],bl [2,0,0,0]]
def C1L:List Rs:=[.d 188 (bl [0,0,0,0]),.d 4 (.b false)]
theorem C1M:ob (H1 Tryz.prog T A4g 100000 60 230 (E0 T [188,188] C1K) (fun _=>none) 0) (fun out=>E7 T false [.d 188,.d 4] out)=some C1L:=by kernel_rfl
def tb5:List (List V×List Rs):=[(C1y,C1z),(C1B,C1C),(C1E,C1F),(C1H,C1I),(C1K,C1L)]
theorem C3d:C0 Tryz.prog T 230 (C1 T false [188,188] (G8 tb5)).dir:=E3 (rk:=[.d 188,.d 4]) (D8 (fu:=100000) (d:=60) follows H4 A7T) (by kernel_rfl) ⟨C1A,C1D,C1G,C1J,C1M,trivial⟩
def B0y:List (Nat×N9):=(230,(C1 T false [188,188] (G8 tb5)).dir)::A4g
theorem A7U:U0 Tryz.prog T B0y:=⟨C3d,A7T⟩
def C1N:List V:=[bl [0,0,0,9223370937343148032],bl [1,0,0,0]]
def C1O:List Rs:=[.d 188 (bl [1,0,0,9223370937343148032]),.d 4 (.b false)]
theorem C1P:ob (H1 Tryz.prog T B0y 100000 60 288 (E0 T [188,188] C1N) (fun _=>none) 0) (fun out=>E7 T false [.d 188,.d 4] out)=some C1O:=by kernel_rfl
def C1Q:List V:=[bl [1,0,0,0],bl [1,0,0,0]]
def C1R:List Rs:=[.d 188 (bl [2,0,0,0]),.d 4 (.b false)]
theorem C1S:ob (H1 Tryz.prog T B0y 100000 60 288 (E0 T [188,188] C1Q) (fun _=>none) 0) (fun out=>E7 T false [.d 188,.d 4] out)=some C1R:=by kernel_rfl
def tb6:List (List V×List Rs):=[(C1N,C1O),(C1Q,C1R)]
theorem C3e:C0 Tryz.prog T 288 (C1 T false [188,188] (G8 tb6)).dir:=E3 (rk:=[.d 188,.d 4]) (D8 (fu:=100000) (d:=60) follows H4 A7U) (by kernel_rfl) ⟨C1P,C1S,trivial⟩
def A5A:List (Nat×N9):=(288,(C1 T false [188,188] (G8 tb6)).dir)::B0y
theorem A7V:U0 Tryz.prog T A5A:=⟨C3e,A7U⟩
def C1T:List V:=[bl [0,0,0,9223370937343148032],bl [0,0,0,9223370937343148032]]
def C1U:List Rs:=[.d 4 (.b false)]
theorem C1V:ob (H1 Tryz.prog T A5A 100000 60 139 (E0 T [188,188] C1T) (fun _=>none) 0) (fun out=>E7 T false [.d 4] out)=some C1U:=by kernel_rfl
def C1W:List V:=[bl [18446744073709551615,18446744073709551615,18446744073709551615,9223373136366403583],bl [2,0,0,18446741874686296064]]
def C1X:List Rs:=[.d 4 (.b true)]
theorem C1Y:ob (H1 Tryz.prog T A5A 100000 60 139 (E0 T [188,188] C1W) (fun _=>none) 0) (fun out=>E7 T false [.d 4] out)=some C1X:=by kernel_rfl
def C1Z:List V:=[bl [18446744073709551615,18446744073709551615,18446744073709551615,9223373136366403583],bl [1,0,0,9223370937343148032]]
def C10:List Rs:=[.d 4 (.b false)]
theorem C11:ob (H1 Tryz.prog T A5A 100000 60 139 (E0 T [188,188] C1Z) (fun _=>none) 0) (fun out=>E7 T false [.d 4] out)=some C10:=by kernel_rfl
def C12:List V:=[bl [2,0,0,0],bl [2,0,0,0]]
def C13:List Rs:=[.d 4 (.b false)]
theorem C14:ob (H1 Tryz.prog T A5A 100000 60 139 (E0 T [188,188] C12) (fun _=>none) 0) (fun out=>E7 T false [.d 4] out)=some C13:=by kernel_rfl
def tb7:List (List V×List Rs):=[(C1T,C1U),(C1W,C1X),(C1Z,C10),(C12,C13)]
theorem C3f:C0 Tryz.prog T 139 (C1 T false [188,188] (G8 tb7)).dir:=E3 (rk:=[.d 4]) (D8 (fu:=100000) (d:=60) follows H4 A7V) (by kernel_rfl) ⟨C1V,C1Y,C11,C14,trivial⟩
def A7W:List (Nat×N9):=(139,(C1 T false [188,188] (G8 tb7)).dir)::A5A
theorem A7X:U0 Tryz.prog T A7W:=⟨C3f,A7V⟩
def C15:List V:=[bl [8388607,0,0,0]]
def C16:List Rs:=[.d 3 (.i 23)]
theorem C17:ob (H1 Tryz.prog T A7W 100000 60 228 (E0 T [188] C15) (fun _=>none) 0) (fun out=>E7 T false [.d 3] out)=some C16:=by kernel_rfl
def C18:List V:=[bl [18446744073709551615,18446744073709551615,18446744073709551615,9223373136366403583]]
def C19:List Rs:=[.d 3 (.i 256)]
theorem C2a:ob (H1 Tryz.prog T A7W 100000 60 228 (E0 T [188] C18) (fun _=>none) 0) (fun out=>E7 T false [.d 3] out)=some C19:=by kernel_rfl
def C2b:List V:=[bl [1,0,0,9223370937343148032]]
def C2c:List Rs:=[.d 3 (.i 255)]
theorem C2d:ob (H1 Tryz.prog T A7W 100000 60 228 (E0 T [188] C2b) (fun _=>none) 0) (fun out=>E7 T false [.d 3] out)=some C2c:=by kernel_rfl
def tb8:List (List V×List Rs):=[(C15,C16),(C18,C19),(C2b,C2c)]
theorem C3g:C0 Tryz.prog T 228 (C1 T false [188] (G8 tb8)).dir:=E3 (rk:=[.d 3]) (D8 (fu:=100000) (d:=60) follows H4 A7X) (by kernel_rfl) ⟨C17,C2a,C2d,trivial⟩
def B3W:List (Nat×N9):=(228,(C1 T false [188] (G8 tb8)).dir)::A7W
theorem A7Y:U0 Tryz.prog T B3W:=⟨C3g,A7X⟩
def C2e:List V:=[bl [18446744073709551615,18446744073709551615,18446744073709551615,9223373136366403583],bl [1,0,0,9223370937343148032]]
def C2f:List Rs:=[.d 188 (bl [1,0,0,0]),.d 188 (bl [18446744073709551614,18446744073709551615,18446744073709551615,2199023255551])]
theorem C2g:ob (H1 Tryz.prog T B3W 100000 60 289 (E0 T [188,188] C2e) (fun _=>none) 0) (fun out=>E7 T false [.d 188,.d 188] out)=some C2f:=by kernel_rfl
def tb9:List (List V×List Rs):=[(C2e,C2f)]
theorem C3h:C0 Tryz.prog T 289 (C1 T false [188,188] (G8 tb9)).dir:=E3 (rk:=[.d 188,.d 188]) (D8 (fu:=100000) (d:=60) follows H4 A7Y) (by kernel_rfl) ⟨C2g,trivial⟩
def A9g:List (Nat×N9):=(289,(C1 T false [188,188] (G8 tb9)).dir)::B3W
theorem A5B:U0 Tryz.prog T A9g:=⟨C3h,A7Y⟩
def B7V:List V:=[]
def B7W:List Rs:=[.d 188 (bl [0,0,0,9223370937343148032])]
theorem B9r:ob (H1 Tryz.prog T A9g 100000 60 229 (E0 T [] B7V) (fun _=>none) 0) (fun out=>E7 T false [.d 188] out)=some B7W:=by kernel_rfl
def C2h:List (List V×List Rs):=[(B7V,B7W)]
theorem C2i:C0 Tryz.prog T 229 (C1 T false [] (G8 C2h)).dir:=E3 (rk:=[.d 188]) (D8 (fu:=100000) (d:=60) follows H4 A5B) (by kernel_rfl) ⟨B9r,trivial⟩
def A9h:List (Nat×N9):=(229,(C1 T false [] (G8 C2h)).dir)::A9g
theorem A5C:U0 Tryz.prog T A9h:=⟨C2i,A5B⟩
def B7X:List V:=[.i 545259519]
def B7Y:List Rs:=[.d 188 (bl [0,0,0,9223370937343148032]),.d 43 (.i 0)]
theorem B9s:ob (H1 Tryz.prog T A9h 100000 60 137 (E0 T [108] B7X) (fun _=>none) 0) (fun out=>E7 T false [.d 188,.d 43] out)=some B7Y:=by kernel_rfl
def C2j:List (List V×List Rs):=[(B7X,B7Y)]
theorem C2k:C0 Tryz.prog T 137 (C1 T false [108] (G8 C2j)).dir:=E3 (rk:=[.d 188,.d 43]) (D8 (fu:=100000) (d:=60) follows H4 A5C) (by kernel_rfl) ⟨B9s,trivial⟩
def A9i:List (Nat×N9):=(137,(C1 T false [108] (G8 C2j)).dir)::A9h
theorem A5D:U0 Tryz.prog T A9i:=⟨C2k,A5C⟩
def B7Z:List V:=[.i 545259519]
def B70:List Rs:=[.d 188 (bl [2,0,0,0])]
theorem B9t:ob (H1 Tryz.prog T A9i 100000 60 208 (E0 T [108] B7Z) (fun _=>none) 0) (fun out=>E7 T false [.d 188] out)=some B70:=by kernel_rfl
def C2l:List (List V×List Rs):=[(B7Z,B70)]
theorem C2m:C0 Tryz.prog T 208 (C1 T false [108] (G8 C2l)).dir:=E3 (rk:=[.d 188]) (D8 (fu:=100000) (d:=60) follows H4 A5D) (by kernel_rfl) ⟨B9t,trivial⟩
def A9j:List (Nat×N9):=(208,(C1 T false [108] (G8 C2l)).dir)::A9i
theorem A5E:U0 Tryz.prog T A9j:=⟨C2m,A5D⟩
def B71:List V:=[.l [.i 1,.l [.l [.l [bl [0,0,0,0,0,0,0,0,0,0,0,0,0,0,0,0,0,0,0,0,0,0,0,0,0,0,0,0,0,0,0,0],.i 4294967295],bl [98,121,110,97,109,101],.i 0]],.l [.l [.i 0,.l [.i 106]]],.i 0]]
def B72:List Rs:=[.r 5 (bl [1,0,0,0,1,0,0,0,0,0,0,0,0,0,0,0,0,0,0,0,0,0,0,0,0,0,0,0,0,0,0,0,0,0,0,0,0,255,255,255,255,6,98,121,110,97,109,101,0,0,0,0,1,0,0,0,0,0,0,0,0,1,106,0,0,0,0]:V).els false]
theorem B9u:ob (H1 Tryz.prog T A9j 100000 60 167 (E0 T [172] B71) (fun _=>none) 0) (fun out=>E7 T false [.r 5] out)=some B72:=by kernel_rfl
def C2n:List (List V×List Rs):=[(B71,B72)]
theorem C2o:C0 Tryz.prog T 167 (C1 T false [172] (G8 C2n)).dir:=E3 (rk:=[.r 5]) (D8 (fu:=100000) (d:=60) follows H4 A5E) (by kernel_rfl) ⟨B9u,trivial⟩
def A9k:List (Nat×N9):=(167,(C1 T false [172] (G8 C2n)).dir)::A9j
theorem A5F:U0 Tryz.prog T A9k:=⟨C2o,A5E⟩
def B73:List V:=[.l [.i 1,.l [.l [.l [bl [0,0,0,0,0,0,0,0,0,0,0,0,0,0,0,0,0,0,0,0,0,0,0,0,0,0,0,0,0,0,0,0],.i 4294967295],bl [98,121,110,97,109,101],.i 0]],.l [.l [.i 0,.l [.i 106]]],.i 0]]
def B74:List Rs:=[.d 80 (bl [27,228,96,192,24,233,156,161,112,96,39,161,242,105,12,172,218,72,254,74,38,146,230,38,152,188,212,98,137,78,137,234])]
theorem B9v:ob (H1 Tryz.prog T A9k 100000 60 209 (E0 T [172] B73) (fun _=>none) 0) (fun out=>E7 T false [.d 80] out)=some B74:=by kernel_rfl
def C2p:List (List V×List Rs):=[(B73,B74)]
theorem C2q:C0 Tryz.prog T 209 (C1 T false [172] (G8 C2p)).dir:=E3 (rk:=[.d 80]) (D8 (fu:=100000) (d:=60) follows H4 A5F) (by kernel_rfl) ⟨B9v,trivial⟩
def A9l:List (Nat×N9):=(209,(C1 T false [172] (G8 C2p)).dir)::A9k
theorem A5G:U0 Tryz.prog T A9l:=⟨C2q,A5F⟩
def B75:List V:=[.l [bl [0,0,0,0,0,0,0,0,0,0,0,0,0,0,0,0,0,0,0,0,0,0,0,0,0,0,0,0,0,0,0,0],.i 4294967295]]
def B76:List Rs:=[.r 5 (bl [0,0,0,0,0,0,0,0,0,0,0,0,0,0,0,0,0,0,0,0,0,0,0,0,0,0,0,0,0,0,0,0,255,255,255,255]:V).els false]
theorem B9w:ob (H1 Tryz.prog T A9l 100000 60 264 (E0 T [177] B75) (fun _=>none) 0) (fun out=>E7 T false [.r 5] out)=some B76:=by kernel_rfl
def C2r:List (List V×List Rs):=[(B75,B76)]
theorem C2s:C0 Tryz.prog T 264 (C1 T false [177] (G8 C2r)).dir:=E3 (rk:=[.r 5]) (D8 (fu:=100000) (d:=60) follows H4 A5G) (by kernel_rfl) ⟨B9w,trivial⟩
def A9m:List (Nat×N9):=(264,(C1 T false [177] (G8 C2r)).dir)::A9l
theorem A5H:U0 Tryz.prog T A9m:=⟨C2s,A5G⟩
def B77:List V:=[.l [.i 0,.l [.i 106]]]
def B78:List Rs:=[.r 5 (bl [0,0,0,0,0,0,0,0,1,106]:V).els false]
theorem B9x:ob (H1 Tryz.prog T A9m 100000 60 265 (E0 T [288] B77) (fun _=>none) 0) (fun out=>E7 T false [.r 5] out)=some B78:=by kernel_rfl
def C2t:List (List V×List Rs):=[(B77,B78)]
theorem C2u:C0 Tryz.prog T 265 (C1 T false [288] (G8 C2t)).dir:=E3 (rk:=[.r 5]) (D8 (fu:=100000) (d:=60) follows H4 A5H) (by kernel_rfl) ⟨B9x,trivial⟩
def A9n:List (Nat×N9):=(265,(C1 T false [288] (G8 C2t)).dir)::A9m
theorem A5I:U0 Tryz.prog T A9n:=⟨C2u,A5H⟩
def B79:List V:=[.l [.i 1,bl [0,0,0,0,0,0,0,0,0,0,0,0,0,0,0,0,0,0,0,0,0,0,0,0,0,0,0,0,0,0,0,0],bl [27,228,96,192,24,233,156,161,112,96,39,161,242,105,12,172,218,72,254,74,38,146,230,38,152,188,212,98,137,78,137,234],.i 1000000000,.i 545259519,.i 0]]
def B8a:List Rs:=[.r 5 (bl [1,0,0,0,0,0,0,0,0,0,0,0,0,0,0,0,0,0,0,0,0,0,0,0,0,0,0,0,0,0,0,0,0,0,0,0,27,228,96,192,24,233,156,161,112,96,39,161,242,105,12,172,218,72,254,74,38,146,230,38,152,188,212,98,137,78,137,234,0,202,154,59,255,255,127,32,0,0,0,0]:V).els false]
theorem B9y:ob (H1 Tryz.prog T A9n 100000 60 155 (E0 T [110] B79) (fun _=>none) 0) (fun out=>E7 T false [.r 5] out)=some B8a:=by kernel_rfl
def C2v:List (List V×List Rs):=[(B79,B8a)]
theorem C2w:C0 Tryz.prog T 155 (C1 T false [110] (G8 C2v)).dir:=E3 (rk:=[.r 5]) (D8 (fu:=100000) (d:=60) follows H4 A5I) (by kernel_rfl) ⟨B9y,trivial⟩
def A9o:List (Nat×N9):=(155,(C1 T false [110] (G8 C2v)).dir)::A9n
theorem A5J:U0 Tryz.prog T A9o:=⟨C2w,A5I⟩
def B8b:List V:=[.l [.i 1,bl [0,0,0,0,0,0,0,0,0,0,0,0,0,0,0,0,0,0,0,0,0,0,0,0,0,0,0,0,0,0,0,0],bl [27,228,96,192,24,233,156,161,112,96,39,161,242,105,12,172,218,72,254,74,38,146,230,38,152,188,212,98,137,78,137,234],.i 1000000000,.i 545259519,.i 0]]
def B8c:List Rs:=[.d 80 (bl [5,255,175,132,180,223,70,118,53,239,142,198,68,68,87,192,226,0,188,189,184,250,48,242,15,177,159,234,32,101,91,46])]
theorem B9z:ob (H1 Tryz.prog T A9o 100000 60 73 (E0 T [110] B8b) (fun _=>none) 0) (fun out=>E7 T false [.d 80] out)=some B8c:=by kernel_rfl
def C2x:List (List V×List Rs):=[(B8b,B8c)]
theorem C2y:C0 Tryz.prog T 73 (C1 T false [110] (G8 C2x)).dir:=E3 (rk:=[.d 80]) (D8 (fu:=100000) (d:=60) follows H4 A5J) (by kernel_rfl) ⟨B9z,trivial⟩
def A9p:List (Nat×N9):=(73,(C1 T false [110] (G8 C2x)).dir)::A9o
theorem A5K:U0 Tryz.prog T A9p:=⟨C2y,A5J⟩
def B8d:List V:=[]
def B8e:List Rs:=[.d 112 (.l [.l [.i 1,bl [0,0,0,0,0,0,0,0,0,0,0,0,0,0,0,0,0,0,0,0,0,0,0,0,0,0,0,0,0,0,0,0],bl [27,228,96,192,24,233,156,161,112,96,39,161,242,105,12,172,218,72,254,74,38,146,230,38,152,188,212,98,137,78,137,234],.i 1000000000,.i 545259519,.i 0],.l [.l [.i 1,.l [.l [.l [bl [0,0,0,0,0,0,0,0,0,0,0,0,0,0,0,0,0,0,0,0,0,0,0,0,0,0,0,0,0,0,0,0],.i 4294967295],bl [98,121,110,97,109,101],.i 0]],.l [.l [.i 0,.l [.i 106]]],.i 0]]])]
theorem B9A:ob (H1 Tryz.prog T A9p 100000 60 109 (E0 T [] B8d) (fun _=>none) 0) (fun out=>E7 T true [.d 112] out)=some B8e:=by kernel_rfl
def C2z:List (List V×List Rs):=[(B8d,B8e)]
theorem C2A:C0 Tryz.prog T 109 (C1 T true [] (G8 C2z)).dir:=E3 (rk:=[.d 112]) (D8 (fu:=100000) (d:=60) follows H4 A5K) (by kernel_rfl) ⟨B9A,trivial⟩
def A9q:List (Nat×N9):=(109,(C1 T true [] (G8 C2z)).dir)::A9p
theorem A5L:U0 Tryz.prog T A9q:=⟨C2A,A5K⟩
def B8f:List V:=[.n]
def B8g:List Rs:=[.r 5 [.i 0] false,.d 43 (.i 0)]
theorem B9B:ob (H1 Tryz.prog T A9q 100000 60 59 (E0 T [133] B8f) (fun _=>none) 0) (fun out=>E7 T false [.r 5,.d 43] out)=some B8g:=by kernel_rfl
def C2B:List (List V×List Rs):=[(B8f,B8g)]
theorem C2C:C0 Tryz.prog T 59 (C1 T false [133] (G8 C2B)).dir:=E3 (rk:=[.r 5,.d 43]) (D8 (fu:=100000) (d:=60) follows H4 A5L) (by kernel_rfl) ⟨B9B,trivial⟩
def A6x:List (Nat×N9):=(59,(C1 T false [133] (G8 C2B)).dir)::A9q
theorem A5M:U0 Tryz.prog T A6x:=⟨C2C,A5L⟩
def B8h:List V:=[.i 0]
def B8i:List Rs:=[.d 22 (bl [66,89,78,65,77,69,48,49,0,0,0,0,0,0,0,0,71,66,67,0,176,13,250,203,11,148,245,98,82,20,154,254,250,249,227,81,47,171,162,140,8,214,161,174,225,191,151,8]),.d 80 (bl [71,66,67,0,176,13,250,203,11,148,245,98,82,20,154,254,250,249,227,81,47,171,162,140,8,214,161,174,225,191,151,8])]
theorem B9C:ob (H1 Tryz.prog T A6x 100000 60 103 (E0 T [127] B8h) (fun _=>none) 0) (fun out=>E7 T true [.d 22,.d 80] out)=some B8i:=by kernel_rfl
def B8j:List V:=[.i 1]
def B8k:List Rs:=[.d 22 (bl [66,89,78,65,77,69,48,49,1,0,0,0,0,0,0,0,179,131,144,54,252,253,66,41,208,173,43,136,173,134,160,110,75,169,135,124,160,72,58,186,177,179,10,195,54,68,158,250]),.d 80 (bl [179,131,144,54,252,253,66,41,208,173,43,136,173,134,160,110,75,169,135,124,160,72,58,186,177,179,10,195,54,68,158,250])]
theorem B9D:ob (H1 Tryz.prog T A6x 100000 60 103 (E0 T [127] B8j) (fun _=>none) 0) (fun out=>E7 T true [.d 22,.d 80] out)=some B8k:=by kernel_rfl
def C2D:List (List V×List Rs):=[(B8h,B8i),(B8j,B8k)]
theorem C2E:C0 Tryz.prog T 103 (C1 T true [127] (G8 C2D)).dir:=E3 (rk:=[.d 22,.d 80]) (D8 (fu:=100000) (d:=60) follows H4 A5M) (by kernel_rfl) ⟨B9C,B9D,trivial⟩
def A9r:List (Nat×N9):=(103,(C1 T true [127] (G8 C2D)).dir)::A6x
theorem A5N:U0 Tryz.prog T A9r:=⟨C2E,A5M⟩
def B8l:List V:=[bl [0,0,0,0,0,0,0,0,0,0,0,0,0,0,0,0,0,0,0,0,0,0,0,0,0,0,0,0,0,0,0,0,0,0,0,0,0,0,0,0,0,0,0,0,0,0,0,0,0,0,0,0,0,0,0,0,0,0,0,0,0,0,0,0,0,0,0,0,0,0,0,0,0,0,0,0,0,0,0,0,0,0,0,0,0,0,0,0,0,0,0,0,0,0,0,0,0,0,0,0,0,0,0,0,0,0,0,0,0,0,0,0,0,0,0,0,0,0,0,0,0,0,0,0,0,0,0,0]]
def B8m:List Rs:=[.d 127 (.i 0)]
theorem B9E:ob (H1 Tryz.prog T A9r 100000 60 203 (E0 T [184] B8l) (fun _=>none) 0) (fun out=>E7 T false [.d 127] out)=some B8m:=by kernel_rfl
def C2F:List (List V×List Rs):=[(B8l,B8m)]
theorem C2G:C0 Tryz.prog T 203 (C1 T false [184] (G8 C2F)).dir:=E3 (rk:=[.d 127]) (D8 (fu:=100000) (d:=60) follows H4 A5N) (by kernel_rfl) ⟨B9E,trivial⟩
def A9s:List (Nat×N9):=(203,(C1 T false [184] (G8 C2F)).dir)::A9r
theorem A5O:U0 Tryz.prog T A9s:=⟨C2G,A5N⟩
def B8n:List V:=[.i 1,.l [.i 0],bl [179,131,144,54,252,253,66,41,208,173,43,136,173,134,160,110,75,169,135,124,160,72,58,186,177,179,10,195,54,68,158,250]]
def B8o:List Rs:=[.d 22 (bl [1,0,0,0,1,0,19,50,224,205,10,199,4,162,2,23,157,220,228,35,189,112,155,109,234,237,62,254,160,34,187,214,247,142,233,178,85,121]),.d 80 (bl [19,50,224,205,10,199,4,162,2,23,157,220,228,35,189,112,155,109,234,237,62,254,160,34,187,214,247,142,233,178,85,121])]
theorem B9F:ob (H1 Tryz.prog T A9s 100000 60 104 (E0 T [5,22,80] B8n) (fun _=>none) 0) (fun out=>E7 T true [.d 22,.d 80] out)=some B8o:=by kernel_rfl
def C2H:List (List V×List Rs):=[(B8n,B8o)]
theorem C2I:C0 Tryz.prog T 104 (C1 T true [5,22,80] (G8 C2H)).dir:=E3 (rk:=[.d 22,.d 80]) (D8 (fu:=100000) (d:=60) follows H4 A5O) (by kernel_rfl) ⟨B9F,trivial⟩
def B3X:List (Nat×N9):=(104,(C1 T true [5,22,80] (G8 C2H)).dir)::A9s
theorem B1F:U0 Tryz.prog T B3X:=⟨C2I,A5O⟩
abbrev B9G:List (Nat×N9):=B3X
theorem B6s:U0 Tryz.prog T B9G:=B1F
end Go.Proofs.YtffgbjbmojdeeaaGreatDoor
namespace Go.Proofs.YtffgbjbmojdeeaaGreatDoor
open Go.Vm
set_option maxRecDepth 100000
set_option linter.unusedVariables false
theorem B1G:ob (H1 Tryz.prog T B9G 100000 60 4 (E0 T [] []) (fun _=>none) 0) (fun out=>E7 T true [.d 4] out)=some [.d 4 (.b true)]:=by kernel_rfl
def A9t:J4:=C1 T true [] (gF (fun _=>true) (fun _=>[.d 4 (.b true)]))
theorem A9u:A9t.nat:=A58 (A8I _ _)
theorem C2J:C0 Tryz.prog T 4 A9t.dir :=
 A65 (s:=A4d (H1 Tryz.prog T B9G 100000 60 4)) (A2Q _) (by rw [A2R];exact D8 follows H4 B6s) (rk:=[.d 4]) (A8I _ _) rfl (fun xs rs htv hrs=>by
  have hl:=htv.len
  cases xs with
  | cons _ _=>cases hl
  | nil =>
   obtain ⟨_,rfl⟩:=B7K hrs
   exact B1G)
end Go.Proofs.YtffgbjbmojdeeaaGreatDoor
namespace Go.Proofs.YtffgbjbmojdeeaaGreatDoor
open Go.Vm
set_option maxRecDepth 100000
set_option linter.unusedVariables false
theorem B3Y:C0 Tryz.prog T 35 A6k:=by rw [B1f];exact B0v
def B9H:List (Nat×J4):=(17,A4d (A2c T [31,41] 31 29))::(9,A5n T 31 22 5)::(35,A4d A6k)::B9o
theorem A6y:M3 Tryz.prog T B9H:=(((A3E).cons (A2Q _) (by rw [A2R];exact B3Y)).cons (B1g _ _ _) (by rw [A5o];exact B3U)).cons (A2Q _) (by rw [A2R];exact A7M)
def K4:KC:=U3 Tryz.prog T B9H false FU 4
theorem hK4:K4.nat:=H3 A6y 4
theorem hS4:KOK Tryz.prog T K4.dir:=T8 follows H4 A6y 4
end Go.Proofs.YtffgbjbmojdeeaaGreatDoor
namespace Go.Proofs.YtffgbjbmojdeeaaGreatDoor
open Go.Vm
set_option maxRecDepth 100000
set_option linter.unusedVariables false
set_option linter.constructorNameAsVariable false
def B3Z:PHe→Vm.St
 | .n bs n i=>⟨[(3,.p 0 31 []),(9,.v 22 (.l bs)),(10,.i .i64 n),(11,.i .i64 i)],(.n (some (.box 31 (.v 31 (.l [.n,.n])) false)) .e .e),[],1,some []⟩
 | .r a r bs n i=>⟨[(3,.p 0 31 []),(9,.v 22 (.l bs)),(10,.i .i64 n),(11,.i .i64 i)],(.n (some (.box 31 (.g 31 [.p 0 31 [],.o 1 1]) false)) (.n (some (.row 5 1 (a::r) false false)) .e .e) .e),[],2,some []⟩
def C2K (R:Type) (kx:Exit→Vm.St→Option R):QHe→Option R
 | .n bs n i=>kx (.exit 0) { B3Z (.n bs n i) with nx:=64 }
 | .o a r bs n i=>kx (.exit 0) { B3Z (.r a r bs n i) with nx:=64 }
def B30:Vm.St→Option PHe
 | ⟨[(3,.p 0 31 []),(9,.v 22 (.l bs)),(10,.i .i64 n),(11,.i .i64 i)],(.n (some (.box 31 (.v 31 (.l [.n,.n])) false)) .e .e),[],1,some []⟩=>some (.n bs n i)
 | ⟨[(3,.p 0 31 []),(9,.v 22 (.l bs)),(10,.i .i64 n),(11,.i .i64 i)],(.n (some (.box 31 (.g 31 [.p 0 31 [],.o 1 1]) false)) (.n (some (.row 5 1 (a::r) false false)) .e .e) .e),[],2,some []⟩=>some (.r a r bs n i)
 | _=>none
theorem B31:B2l B30 B3Z:=by
 intro _ _ h
 unfold B30 at h
 split at h<;>first | (cases h;rfl) | cases h
theorem B9I:A6a T K4 (fun _=>none) (nT 5) (cT 5 0) 0 [999999,3,9,10,11] 64 B3Z BHe C2K:=by
 intro R of x K kx
 cases x<;>kernel_rfl
def HHe:LS:=A2A T K4 (fun _=>none) (nT 5) (cT 5 0) 0 [999999,3,9,10,11] 64 B30 BHe C2K
theorem B32:A0f Tryz.prog T (nT 5) 0 (cT 5 0) HHe :=
 A0I follows H4 hK4 hS4 G0 (D7 _) B3Z B31 B9I
def B6t:Nat→LC:=atN 0 [(5,HHe)]
theorem B6u:A0e Tryz.prog T 5 B6t:=A1E 0 (List.forall_mem_cons.2 ⟨B32.1,fun _ h=>by cases h⟩) 1 (by kernel_rfl) ⟨trivial,loI (s0:=HHe) (by kernel_rfl) B32⟩
theorem B9J (bs:List V):P4 Tryz.prog T K4 B6t false FU 5 (List Rs) (E0 T [22] [.l bs]) (fun _=>none) 0 (fun out=>E7 T true [.d 9] out)=hxG 9 bs:=by kernel_rfl
theorem B6v  : P4 Tryz.prog T K4 B6t false FU 5 (List Rs) (E0 T [22] [.n]) (fun _=>none) 0 (fun out=>E7 T true [.d 9] out)=some [.d 9 (.s [V.i (45:Nat)])]:=by kernel_rfl
def B9K:List (Nat×J4):=(5,C1 T true [22] (gF hxg (hxr 9)))::B9H
theorem A6z:M3 Tryz.prog T B9K:=by
 refine A5h (sh:=true) (rk:=[.d 9]) (d:=4) (fu:=FU) (Lo:=B6t) (ds:=[.slice (.int .u8)]) follows H4 A6y (by kernel_rfl) B6u 40 (by kernel_rfl) (fun xs hd hg=>?_)
 obtain ⟨a,rfl,ha⟩:=B7J hd
 have hl:a.els.length≤1000000:=C3t hg
 rcases ha with rfl | ⟨ys,rfl,hy⟩
 ·refine B6v.trans ?_
  show _=some [Rs.d _ (.s (A42 .n))]
  rw [A1s];rfl
 ·obtain ⟨ns,rfl,hn⟩:=Vm.u8s hy
  refine (B9J _).trans ((B5z hn (by rw [← C3r (f:=nv)];exact hl)).trans ?_)
  show _=some [Rs.d _ (.s (A42 _))]
  rw [A1s,P2 (x:=.l (ns.map nv)) rfl]
def K5:KC:=U3 Tryz.prog T B9K false FU 4
theorem hK5:K5.nat:=H3 A6z 4
theorem hS5:KOK Tryz.prog T K5.dir:=T8 follows H4 A6z 4
def B33:PUh→Vm.St
 | .m xs nl s i=>⟨[(0,.s s),(2,.o 0 1),(3,.b false),(4,.o 1 1),(5,.i .i64 i)],(.n (some (.row 5 1 [] true false)) (.n (some (.row 5 1 xs nl false)) .e .e) .e),[],2,some []⟩
def C2L (R:Type) (kx:Exit→Vm.St→Option R):QUh→Option R
 | .o xs nl s i=>kx (.exit 0) { B33 (.m xs nl s i) with nx:=64 }
 | .b xs nl s i=>kx (.ret) { B33 (.m xs nl s i) with nx:=64 }
def B34:Vm.St→Option PUh
 | ⟨[(0,.s s),(2,.o 0 1),(3,.b false),(4,.o 1 1),(5,.i .i64 i)],(.n (some (.row 5 1 [] true false)) (.n (some (.row 5 1 xs nl false)) .e .e) .e),[],2,some []⟩=>some (.m xs nl s i)
 | _=>none
theorem B35:B2l B34 B33:=by
 intro _ _ h
 unfold B34 at h
 split at h<;>first | (cases h;rfl) | cases h
theorem B9L:A6a T K5 (fun _=>none) (nT 6) (cT 6 0) 0 [999999,0,2,3,4,5] 64 B33 BUh C2L:=by
 intro R of x K kx
 cases x<;>kernel_rfl
def HUh:LS:=A2A T K5 (fun _=>none) (nT 6) (cT 6 0) 0 [999999,0,2,3,4,5] 64 B34 BUh C2L
theorem B36:A0f Tryz.prog T (nT 6) 0 (cT 6 0) HUh :=
 A0I follows H4 hK5 hS5 G0 (D7 _) B33 B35 B9L
def B9M:Nat→LC:=atN 0 [(7,HUh)]
theorem B6w:A0e Tryz.prog T 6 B9M:=A1E 0 (List.forall_mem_cons.2 ⟨B36.1,fun _ h=>by cases h⟩) 1 (by kernel_rfl) ⟨trivial,loI (s0:=HUh) (by kernel_rfl) B36⟩
theorem B9N (s:List V):P4 Tryz.prog T K5 B9M false FU 6 (List Rs) (E0 T [9] [.s s]) (fun _=>none) 0 (fun out=>E7 T true [.r 5,.d 4] out)=uhG 5 4 s:=by kernel_rfl
def B9O:List (Nat×J4):=(6,C1 T true [9] (gF hxg (uhr 5 4)))::B9K
theorem A6A:M3 Tryz.prog T B9O:=by
 refine A5h (sh:=true) (rk:=[.r 5,.d 4]) (d:=4) (fu:=FU) (Lo:=B9M) (ds:=[.str]) follows H4 A6z (by kernel_rfl) B6w 40 (by kernel_rfl) (fun xs hd hg=>?_)
 obtain ⟨a,rfl,ha⟩:=B7J hd
 have hl:a.els.length≤1000000:=C3t hg
 obtain ⟨ns,rfl,hn⟩:=ha
 refine (B9N _).trans ((B5A hn (by rw [← C3r (f:=nv)];exact hl)).trans ?_)
 show _=some [Rs.r _ (uhL _) (uhE _),Rs.d _ (.b (uhB _))]
 rw [A8Q,B2Z,B2Y,P2 (x:=.s (ns.map nv)) rfl]
def K6:KC:=U3 Tryz.prog T B9O false FU 4
theorem hK6:K6.nat:=H3 A6A 4
theorem hS6:KOK Tryz.prog T K6.dir:=T8 follows H4 A6A 4
end Go.Proofs.YtffgbjbmojdeeaaGreatDoor
namespace Go.Proofs.YtffgbjbmojdeeaaGreatDoor
open Go.Vm
set_option maxRecDepth 100000
set_option linter.unusedVariables false
set_option linter.constructorNameAsVariable false
def C2M:List (Nat×J4):=(4,A9t)::B9O
theorem B0z:M3 Tryz.prog T C2M:=A6A.cons A9u C2J
def K7:KC:=U3 Tryz.prog T C2M false FU 4
theorem hK7:K7.nat:=H3 B0z 4
theorem hS7:KOK Tryz.prog T K7.dir:=T8 follows H4 B0z 4
theorem B6x (a c:V) (s:List V):P4 Tryz.prog T K7 (fun _ _=>none) false FU 3 Unit (E0 T [22,22,9] [a,c,.s s]) (fun _=>none) 0 A7p=fhG a c s:=by kernel_rfl
theorem law_run (xs:List V) (hd:D.hasL [.slice (.int .u8),.slice (.int .u8),.str] xs) (hm:D.smL [.slice (.int .u8),.slice (.int .u8),.str] xs):P4 Tryz.prog T K7 (fun _ _=>none) false FU 3 Unit (E0 T [22,22,9] xs) (fun _=>none) 0 A7p=some ():=by
 obtain ⟨a,b,c,rfl,ha,hb,hc⟩:=C0y hd
 obtain ⟨s,rfl,_⟩:=hc
 obtain ⟨m1,m2,m3,_⟩:=hm
 have m3:(s.map nv).length≤9223372036854775807:=m3
 obtain ⟨na,h1,h2,h3⟩:=A5p ha m1
 obtain ⟨nb,h4,h5,h6⟩:=A5p hb m2
 exact (B6x a b _).trans (B5F h1 h4 h2 h5 h3 h6 (by simpa using m3))
theorem A9v:A0e Tryz.prog T 3 (fun _ _=>none):=A8p
theorem law_nat:(P4 Tryz.prog T K7 (fun _ _=>none) false FU 3).nat:=A1v hK7 A9v.nat
theorem law_ok:C0 Tryz.prog T 3 (P4 Tryz.prog T K7 (fun _ _=>none) false FU 3).dir:=A2l follows H4 hK7 hS7 A9v.nat A9v.ok
end Go.Proofs.YtffgbjbmojdeeaaGreatDoor
end