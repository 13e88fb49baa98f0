/- What functions compute, and the law run. -/
import Derived.Test.YtadjkmffodhmbaaGreatWalk1
import Derived.Test.YtadjkmffodhmbaaGreatVm10
import Derived.Test.YtadjkmffodhmbaaGreatVm12
import Derived.Test.YtadjkmffodhmbaaGreatVm9
import Derived.Test.YtadjkmffodhmbaaGreatVm13
set_option linter.constructorNameAsVariable false
set_option linter.unusedVariables false
set_option linter.unusedSimpArgs false
noncomputable section
namespace Go.Proofs.YtadjkmffodhmbaaGreat
open Go.Vm
set_option maxRecDepth 100000
set_option linter.unusedVariables false
set_option linter.constructorNameAsVariable false
def B6y:List (Nat×E5):=(63,F6 T true [119] (gF dsg (dtr 34)))::C1p
theorem A5B:D2 Tryz.prog T B6y:=by
 refine B8 (sh:=true) (rk:=[.d 34]) (d:=4) (fu:=FU) (Lo:=(fun _ _=>none)) (ds:=[.slice (.slice (.int .u8))]) follows B6 A7g (by kernel_rfl) E3 40 (by kernel_rfl) (fun xs hd hg=>?_)
 obtain ⟨a,rfl,ha⟩:=S4 hd
 obtain ⟨l,rfl⟩:=C5H hg
 refine (C5t l).trans ?_
 rw [hg];rfl
def K30:KC:=E9 Tryz.prog T B6y false FU 4
theorem D1Y:K30.nat:=A8 A5B 4
theorem D1Z:W5 Tryz.prog T K30.dir:=B4 follows B6 A5B 4
theorem C6J (l:List V):C4 Tryz.prog T K30 (fun _ _=>none) false FU 49 (List Rs) (G2 T [37] [.l l]) (fun _=>none) 0 (fun out=>H2 T true [.d 34] out)=bif Nat.ble l.length 1000000000 then some [.d 34 (A8z (A8z (.l l)))] else none:=by kernel_rfl
def B6z:List (Nat×E5):=(49,F6 T true [37] (gF dwg (dwr 34)))::B6y
theorem A5C:D2 Tryz.prog T B6z:=by
 refine B8 (sh:=true) (rk:=[.d 34]) (d:=4) (fu:=FU) (Lo:=(fun _ _=>none)) (ds:=[.slice (.int .u8)]) follows B6 A5B (by kernel_rfl) E3 40 (by kernel_rfl) (fun xs hd hg=>?_)
 obtain ⟨a,rfl,ha⟩:=S4 hd
 obtain ⟨l,rfl,hl⟩:=D0i hg
 refine (C6J l).trans ?_
 rw [hl]
 show some [Rs.d _ (A8z (A8z (.l l)))]=some [Rs.d _ (A5z (A3d (H0 (.l l))))]
 rw [show A8z (A8z (.l l))=A5z (A3d (H0 (.l l))) by unfold A8z A5z;rw [J1 (x:=.l _) rfl]]
def K31:KC:=E9 Tryz.prog T B6z false FU 4
theorem D1E:K31.nat:=A8 A5C 4
theorem D1F:W5 Tryz.prog T K31.dir:=B4 follows B6 A5C 4
end Go.Proofs.YtadjkmffodhmbaaGreat
namespace Go.Proofs.YtadjkmffodhmbaaGreat
open Go.Vm
set_option maxRecDepth 100000
set_option linter.unusedVariables false
set_option linter.constructorNameAsVariable false
def B2V:B44→Vm.St
 | .m z u v d a l n i=>⟨[(2,.p 0 49 []),(3,.i .i64 u),(4,.i .i64 v),(5,.p 1 49 []),(6,.i .i64 a),(13,.v 25 l),(14,.i .i64 n),(15,.i .i64 i)],(.n (some (.box 49 (.v 49 z) false)) (.n (some (.box 49 (.v 49 d) false)) .e .e) .e),[],2,some []⟩
def C5O (R:Type) (kx:Exit→Vm.St→Option R):C7V→Option R
 | .o z u v d a l n i=>kx (.exit 0) ⟨[(2,.p 0 49 []),(3,.i .i64 u),(4,.i .i64 v),(5,.p 1 49 []),(6,.i .i64 a),(13,.v 25 l),(14,.i .i64 n),(15,.i .i64 i)],(.n (some (.box 49 (.v 49 z) false)) (.n (some (.box 49 (.v 49 d) false)) .e .e) .e),[],64,some []⟩
 | .r z u v d a l n i=>kx (.ret) ⟨[(2,.p 0 49 []),(3,.i .i64 u),(4,.i .i64 v),(5,.p 1 49 []),(6,.i .i64 a),(13,.v 25 l),(14,.i .i64 n),(15,.i .i64 i)],(.n (some (.box 49 (.v 49 z) false)) (.n (some (.box 49 (.v 49 d) false)) .e .e) .e),[],64,some []⟩
def B02:Vm.St→Option B44
 | ⟨[(2,.p 0 49 []),(3,.i .i64 u),(4,.i .i64 v),(5,.p 1 49 []),(6,.i .i64 a),(13,.v 25 l),(14,.i .i64 n),(15,.i .i64 i)],(.n (some (.box 49 (.v 49 z) false)) (.n (some (.box 49 (.v 49 d) false)) .e .e) .e),[],2,some []⟩=>some (.m z u v d a l n i)
 | _=>none
theorem B4g (τ:Vm.St) (x:B44) (h:B02 τ=some x):τ=B2V x:=by
 unfold B02 at h
 split at h<;>first | (cases h;rfl) | cases h
theorem C1N (R:Type) (of:Nat→Option Ob) (x:B44) (K:Vm.St→Option R) (kx:Exit→Vm.St→Option R):E8 T K31 (fun _=>none) false FU (C2 Tryz.prog 13) of R (lp (A4 Tryz.prog 13) 0) (B2V x) (H4 0 [999999,2,3,4,5,6,13,14,15] 64 K kx)=B8E R x (fun x'=>K (B2V x')) (C5O R kx):=by
 cases x with
 | m _ _ _ _ _ _ _ _=>kernel_rfl
def C6K:LS:=H9 T K31 (fun _=>none) (C2 Tryz.prog 13) (lp (A4 Tryz.prog 13) 0) 0 [999999,2,3,4,5,6,13,14,15] 64 B02 B8E C5O
theorem B2W:F0 Tryz.prog T (C2 Tryz.prog 13) 0 (lp (A4 Tryz.prog 13) 0) C6K :=
 C5 follows B6 D1E D1F B2 (A6 _) B2V B4g C1N
def B6A:Nat→LC:=atN 0 [(4,C6K)]
theorem B6B:H8 Tryz.prog T 13 B6A:=E7 0 (List.forall_mem_cons.2 ⟨B2W.1,fun _ h=>by cases h⟩) 1 (by kernel_rfl) ⟨trivial,loI (s0:=C6K) (by kernel_rfl) B2W⟩
theorem C1O (v u:Int) (x y:V):C4 Tryz.prog T K31 B6A false FU 13 (List Rs) (G2 T [27] [.l [.i v,x,y,.i u]]) (fun _=>none) 0 (fun out=>H2 T true [.d 49,.d 3,.d 50] out)=C71 49 3 50 y:=by kernel_rfl
def B6C:List (Nat×E5):=(13,F6 T true [27] (gF tdg (tdr 49 3 50)))::B6z
theorem A5D:D2 Tryz.prog T B6C:=by
 refine B8 (sh:=true) (rk:=[.d 49,.d 3,.d 50]) (d:=4) (fu:=FU) (Lo:=B6A) (ds:=[DTx]) follows B6 A5C (by kernel_rfl) B6B 40 (by kernel_rfl) (fun xs hd hg=>?_)
 obtain ⟨a,rfl,ha⟩:=S4 hd
 obtain ⟨v,x,y,u,rfl,_⟩:=A5A ha
 exact (C1O v u x y).trans (B3t hg).1
def K32:KC:=E9 Tryz.prog T B6C false FU 4
theorem D1G:K32.nat:=A8 A5D 4
theorem D1H:W5 Tryz.prog T K32.dir:=B4 follows B6 A5D 4
def B2X:B45→Vm.St
 | .m z u v d a m l n i=>⟨[(2,.p 0 49 []),(3,.i .i64 u),(4,.i .i64 v),(5,.p 1 49 []),(6,.i .i64 a),(7,.i .i64 m),(15,.v 25 l),(16,.i .i64 n),(17,.i .i64 i)],(.n (some (.box 49 (.v 49 z) false)) (.n (some (.box 49 (.v 49 d) false)) .e .e) .e),[],2,some []⟩
def C5P (R:Type) (kx:Exit→Vm.St→Option R):B8G→Option R
 | .o z u v d a m l n i=>kx (.exit 0) ⟨[(2,.p 0 49 []),(3,.i .i64 u),(4,.i .i64 v),(5,.p 1 49 []),(6,.i .i64 a),(7,.i .i64 m),(15,.v 25 l),(16,.i .i64 n),(17,.i .i64 i)],(.n (some (.box 49 (.v 49 z) false)) (.n (some (.box 49 (.v 49 d) false)) .e .e) .e),[],64,some []⟩
 | .r z u v d a m l n i=>kx (.ret) ⟨[(2,.p 0 49 []),(3,.i .i64 u),(4,.i .i64 v),(5,.p 1 49 []),(6,.i .i64 a),(7,.i .i64 m),(15,.v 25 l),(16,.i .i64 n),(17,.i .i64 i)],(.n (some (.box 49 (.v 49 z) false)) (.n (some (.box 49 (.v 49 d) false)) .e .e) .e),[],64,some []⟩
def B03:Vm.St→Option B45
 | ⟨[(2,.p 0 49 []),(3,.i .i64 u),(4,.i .i64 v),(5,.p 1 49 []),(6,.i .i64 a),(7,.i .i64 m),(15,.v 25 l),(16,.i .i64 n),(17,.i .i64 i)],(.n (some (.box 49 (.v 49 z) false)) (.n (some (.box 49 (.v 49 d) false)) .e .e) .e),[],2,some []⟩=>some (.m z u v d a m l n i)
 | _=>none
theorem B4h (τ:Vm.St) (x:B45) (h:B03 τ=some x):τ=B2X x:=by
 unfold B03 at h
 split at h<;>first | (cases h;rfl) | cases h
theorem C1P (R:Type) (of:Nat→Option Ob) (x:B45) (K:Vm.St→Option R) (kx:Exit→Vm.St→Option R):E8 T K32 (fun _=>none) false FU (C2 Tryz.prog 14) of R (lp (A4 Tryz.prog 14) 0) (B2X x) (H4 0 [999999,2,3,4,5,6,7,15,16,17] 64 K kx)=B46 R x (fun x'=>K (B2X x')) (C5P R kx):=by
 cases x with
 | m _ _ _ _ _ _ _ _ _=>kernel_rfl
def C6L:LS:=H9 T K32 (fun _=>none) (C2 Tryz.prog 14) (lp (A4 Tryz.prog 14) 0) 0 [999999,2,3,4,5,6,7,15,16,17] 64 B03 B46 C5P
theorem B2Y:F0 Tryz.prog T (C2 Tryz.prog 14) 0 (lp (A4 Tryz.prog 14) 0) C6L :=
 C5 follows B6 D1G D1H B2 (A6 _) B2X B4h C1P
def B6D:Nat→LC:=atN 0 [(3,C6L)]
theorem B6E:H8 Tryz.prog T 14 B6D:=E7 0 (List.forall_mem_cons.2 ⟨B2Y.1,fun _ h=>by cases h⟩) 1 (by kernel_rfl) ⟨trivial,loI (s0:=C6L) (by kernel_rfl) B2Y⟩
theorem C1Q (v u:Int) (x y:V):C4 Tryz.prog T K32 B6D false FU 14 (List Rs) (G2 T [27] [.l [.i v,x,y,.i u]]) (fun _=>none) 0 (fun out=>H2 T true [.d 49,.d 3,.d 3] out)=C72 49 3 3 y:=by kernel_rfl
def B6F:List (Nat×E5):=(14,F6 T true [27] (gF tdg (tdr 49 3 3)))::B6C
theorem A5E:D2 Tryz.prog T B6F:=by
 refine B8 (sh:=true) (rk:=[.d 49,.d 3,.d 3]) (d:=4) (fu:=FU) (Lo:=B6D) (ds:=[DTx]) follows B6 A5D (by kernel_rfl) B6E 40 (by kernel_rfl) (fun xs hd hg=>?_)
 obtain ⟨a,rfl,ha⟩:=S4 hd
 obtain ⟨v,x,y,u,rfl,_⟩:=A5A ha
 exact (C1Q v u x y).trans (B3t hg).2
def K33:KC:=E9 Tryz.prog T B6F false FU 4
theorem D0k:K33.nat:=A8 A5E 4
theorem D0l:W5 Tryz.prog T K33.dir:=B4 follows B6 A5E 4
def B2Z:B47→Vm.St
 | .m t l n i=>⟨[(1,.p 0 27 []),(2,.b false),(18,.v 25 l),(19,.i .i64 n),(20,.i .i64 i)],(.n (some (.box 27 (.v 27 t) false)) .e .e),[],1,some []⟩
def C5Q (R:Type) (kx:Exit→Vm.St→Option R):C7W→Option R
 | .o t l n i=>kx (.exit 0) ⟨[(1,.p 0 27 []),(2,.b false),(18,.v 25 l),(19,.i .i64 n),(20,.i .i64 i)],(.n (some (.box 27 (.v 27 t) false)) .e .e),[],64,some []⟩
 | .r t l n i=>kx (.ret) ⟨[(1,.p 0 27 []),(2,.b true),(18,.v 25 l),(19,.i .i64 n),(20,.i .i64 i)],(.n (some (.box 27 (.v 27 t) false)) .e .e),[],64,some []⟩
def B04:Vm.St→Option B47
 | ⟨[(1,.p 0 27 []),(2,.b false),(18,.v 25 l),(19,.i .i64 n),(20,.i .i64 i)],(.n (some (.box 27 (.v 27 t) false)) .e .e),[],1,some []⟩=>some (.m t l n i)
 | _=>none
theorem B4i (τ:Vm.St) (x:B47) (h:B04 τ=some x):τ=B2Z x:=by
 unfold B04 at h
 split at h<;>first | (cases h;rfl) | cases h
theorem C1R (R:Type) (of:Nat→Option Ob) (x:B47) (K:Vm.St→Option R) (kx:Exit→Vm.St→Option R):E8 T K33 (fun _=>none) false FU (C2 Tryz.prog 9) of R (lp (A4 Tryz.prog 9) 0) (B2Z x) (H4 0 [999999,1,2,18,19,20] 64 K kx)=B8H R x (fun x'=>K (B2Z x')) (C5Q R kx):=by
 cases x with
 | m _ _ _ _=>kernel_rfl
def C6M:LS:=H9 T K33 (fun _=>none) (C2 Tryz.prog 9) (lp (A4 Tryz.prog 9) 0) 0 [999999,1,2,18,19,20] 64 B04 B8H C5Q
theorem B20:F0 Tryz.prog T (C2 Tryz.prog 9) 0 (lp (A4 Tryz.prog 9) 0) C6M :=
 C5 follows B6 D0k D0l B2 (A6 _) B2Z B4i C1R
def B21:B48→Vm.St
 | .m t l n i=>⟨[(1,.p 0 27 []),(2,.b false),(30,.v 24 l),(31,.i .i64 n),(32,.i .i64 i)],(.n (some (.box 27 (.v 27 t) false)) .e .e),[],1,some []⟩
def C5R (R:Type) (kx:Exit→Vm.St→Option R):C7X→Option R
 | .o t l n i=>kx (.exit 2) ⟨[(1,.p 0 27 []),(2,.b false),(30,.v 24 l),(31,.i .i64 n),(32,.i .i64 i)],(.n (some (.box 27 (.v 27 t) false)) .e .e),[],128,some []⟩
 | .r t l n i=>kx (.ret) ⟨[(1,.p 0 27 []),(2,.b true),(30,.v 24 l),(31,.i .i64 n),(32,.i .i64 i)],(.n (some (.box 27 (.v 27 t) false)) .e .e),[],128,some []⟩
def B05:Vm.St→Option B48
 | ⟨[(1,.p 0 27 []),(2,.b false),(30,.v 24 l),(31,.i .i64 n),(32,.i .i64 i)],(.n (some (.box 27 (.v 27 t) false)) .e .e),[],1,some []⟩=>some (.m t l n i)
 | _=>none
theorem B4j (τ:Vm.St) (x:B48) (h:B05 τ=some x):τ=B21 x:=by
 unfold B05 at h
 split at h<;>first | (cases h;rfl) | cases h
theorem C1S (R:Type) (of:Nat→Option Ob) (x:B48) (K:Vm.St→Option R) (kx:Exit→Vm.St→Option R):E8 T K33 (fun _=>none) false FU (C2 Tryz.prog 9) of R (lp (A4 Tryz.prog 9) 1) (B21 x) (H4 0 [999999,1,2,30,31,32] 128 K kx)=B49 R x (fun x'=>K (B21 x')) (C5R R kx):=by
 cases x with
 | m _ _ _ _=>kernel_rfl
def C6N:LS:=H9 T K33 (fun _=>none) (C2 Tryz.prog 9) (lp (A4 Tryz.prog 9) 1) 0 [999999,1,2,30,31,32] 128 B05 B49 C5R
theorem B22:F0 Tryz.prog T (C2 Tryz.prog 9) 0 (lp (A4 Tryz.prog 9) 1) C6N :=
 C5 follows B6 D0k D0l B2 (A6 _) B21 B4j C1S
def B6G:Nat→LC:=atN 0 [(4,C6M),(10,C6N)]
theorem B6H:H8 Tryz.prog T 9 B6G:=E7 0 (List.forall_mem_cons.2 ⟨B20.1,List.forall_mem_cons.2 ⟨B22.1,fun _ h=>by cases h⟩⟩) 2 (by kernel_rfl) ⟨⟨trivial,loI (s0:=C6M) (by kernel_rfl) B20⟩,loI (s0:=C6N) (by kernel_rfl) B22⟩
theorem C1T (v u:Int) (x y:V):C4 Tryz.prog T K33 B6G false FU 9 (List Rs) (G2 T [27] [.l [.i v,x,y,.i u]]) (fun _=>none) 0 (fun out=>H2 T true [.d 4] out)=gkG 4 v u x y:=by kernel_rfl
def B6I:List (Nat×E5):=(9,F6 T true [27] (gF gkg (gkr 4)))::B6F
theorem A5F:D2 Tryz.prog T B6I:=by
 refine B8 (sh:=true) (rk:=[.d 4]) (d:=4) (fu:=FU) (Lo:=B6G) (ds:=[DTx]) follows B6 A5E (by kernel_rfl) B6H 40 (by kernel_rfl) (fun xs hd hg=>?_)
 obtain ⟨a,rfl,ha⟩:=S4 hd
 obtain ⟨v,x,y,u,rfl,_⟩:=A5A ha
 exact (C1T v u x y).trans (C3w hg)
def K34:KC:=E9 Tryz.prog T B6I false FU 4
theorem D10:K34.nat:=A8 A5F 4
theorem D11:W5 Tryz.prog T K34.dir:=B4 follows B6 A5F 4
end Go.Proofs.YtadjkmffodhmbaaGreat
namespace Go.Proofs.YtadjkmffodhmbaaGreat
open Go.Vm
set_option maxRecDepth 100000
set_option linter.unusedVariables false
set_option linter.constructorNameAsVariable false
theorem C1U (bs:List V) (n:Int):C4 Tryz.prog T K34 (fun _ _=>none) false FU 82 (List Rs) (G2 T [37,133,3] [.l bs,.i n,.i 8]) (fun _=>none) 0 (fun out=>H2 T true [.r 5] out)=(N0 (0+bs.length) <| A7s 8 n bs (fun xs=>some [.r 5 xs false])):=by kernel_rfl
theorem B6J (n:Int):C4 Tryz.prog T K34 (fun _ _=>none) false FU 82 (List Rs) (G2 T [37,133,3] [.n,.i n,.i 8]) (fun _=>none) 0 (fun out=>H2 T true [.r 5] out)=some [.r 5 (Z1 8 n) false]:=by kernel_rfl
theorem C1V (bs:List V) (n:Int):C4 Tryz.prog T K34 (fun _ _=>none) false FU 82 (List Rs) (G2 T [37,133,3] [.l bs,.i n,.i 4]) (fun _=>none) 0 (fun out=>H2 T true [.r 5] out)=(N0 (0+bs.length) <| A7s 4 n bs (fun xs=>some [.r 5 xs false])):=by kernel_rfl
theorem B6K (n:Int):C4 Tryz.prog T K34 (fun _ _=>none) false FU 82 (List Rs) (G2 T [37,133,3] [.n,.i n,.i 4]) (fun _=>none) 0 (fun out=>H2 T true [.r 5] out)=some [.r 5 (Z1 4 n) false]:=by kernel_rfl
def B6L:List (Nat×E5):=(82,F6 T true [37,133,3] (gF A58 (A9H 5)))::B6I
theorem A5G:D2 Tryz.prog T B6L:=by
 refine B8 (sh:=true) (rk:=[.r 5]) (d:=4) (fu:=FU) (Lo:=(fun _ _=>none)) (ds:=[.slice (.int .u8),.int .u64,.int .i64]) follows B6 A5F (by kernel_rfl) E3 40 (by kernel_rfl) (fun xs hd hg=>?_)
 obtain ⟨a,b,c,rfl,ha,hb,hc⟩:=B3i hd
 obtain ⟨n,rfl,_⟩:=hb
 obtain ⟨s,rfl,_⟩:=hc
 obtain ⟨hs,hg⟩:=C2H hg
 rcases hs with rfl | rfl
 ·
  ·rcases A2C ha with rfl | ⟨ys,rfl⟩
   ·rw [B3k];exact B6J n
   ·rw [B3k]
    have hl:ys.length≤268435456:=A2h hg
    refine (C1U ys n).trans ?_
    rw [B3 (by omega),A56 _ _ _ _ (by show ys.length+8≤1073741824;omega)];rfl
 ·
  ·rcases A2C ha with rfl | ⟨ys,rfl⟩
   ·rw [B3l];exact B6K n
   ·rw [B3l]
    have hl:ys.length≤268435456:=A2h hg
    refine (C1V ys n).trans ?_
    rw [B3 (by omega),A56 _ _ _ _ (by show ys.length+4≤1073741824;omega)];rfl
def K35:KC:=E9 Tryz.prog T B6L false FU 4
theorem D12:K35.nat:=A8 A5G 4
theorem D13:W5 Tryz.prog T K35.dir:=B4 follows B6 A5G 4
theorem C6O (bs xs:List V):C4 Tryz.prog T K35 (fun _ _=>none) false FU 84 (List Rs) (G2 T [37,119] [.l bs,.l [.l xs]]) (fun _=>none) 0 (fun out=>H2 T true [.r 5] out)=(N0 (0+bs.length) <| B4E bs xs (fun ys=>some [.r 5 ys false])):=by kernel_rfl
theorem C1W (bs:List V):C4 Tryz.prog T K35 (fun _ _=>none) false FU 84 (List Rs) (G2 T [37,119] [.l bs,.l [.n]]) (fun _=>none) 0 (fun out=>H2 T true [.r 5] out)=(N0 (0+bs.length) <| B4E bs [] (fun ys=>some [.r 5 ys false])):=by kernel_rfl
theorem C1X (xs:List V):C4 Tryz.prog T K35 (fun _ _=>none) false FU 84 (List Rs) (G2 T [37,119] [.n,.l [.l xs]]) (fun _=>none) 0 (fun out=>H2 T true [.r 5] out)=(B4E [] xs (fun ys=>some [.r 5 ys false])):=by kernel_rfl
theorem B6M  : C4 Tryz.prog T K35 (fun _ _=>none) false FU 84 (List Rs) (G2 T [37,119] [.n,.l [.n]]) (fun _=>none) 0 (fun out=>H2 T true [.r 5] out)=(B4E [] [] (fun ys=>some [.r 5 ys false])):=by kernel_rfl
def B6N:List (Nat×E5):=(84,F6 T true [37,119] (gF A9I (D0H 5)))::B6L
theorem A5H:D2 Tryz.prog T B6N:=by
 refine B8 (sh:=true) (rk:=[.r 5]) (d:=4) (fu:=FU) (Lo:=(fun _ _=>none)) (ds:=[.slice (.int .u8),.slice (.slice (.int .u8))]) follows B6 A5G (by kernel_rfl) E3 40 (by kernel_rfl) (fun xs hd hg=>?_)
 obtain ⟨a,b,rfl,ha,hb⟩:=A14 hd
 rcases hb with rfl | ⟨l,rfl,hl⟩
 ·exact absurd (show false=true from hg) (by decide)
 match l,hl,hg with
 | [x],hl,hg =>
  have hg:=(D2I _ _).mp (show (shb a&&shb x)=true from hg)
  rcases A2C ha with rfl | ⟨ys,rfl⟩<;>rcases A2C (hl x (List.mem_singleton.2 rfl)) with rfl | ⟨zs,rfl⟩
  ·exact (B6M).trans (A3q (by simp) (by simp))
  ·
   have hl2:zs.length≤268435456:=A2h hg.2
   refine (C1X zs).trans ?_
   rw [A3q (by simp) (by omega)];rfl
  ·
   have hl1:ys.length≤268435456:=A2h hg.1
   refine (C1W ys ).trans ?_
   rw [B3 (by omega),A3q (by omega) (by simp)];rfl
  ·
   have hl1:ys.length≤268435456:=A2h hg.1
   have hl2:zs.length≤268435456:=A2h hg.2
   refine (C6O ys zs).trans ?_
   rw [B3 (by omega),A3q (by omega) (by omega)];rfl
def K36:KC:=E9 Tryz.prog T B6N false FU 4
theorem D14:K36.nat:=A8 A5H 4
theorem D15:W5 Tryz.prog T K36.dir:=B4 follows B6 A5H 4
theorem C6P (bs:List V) (n:Int):C4 Tryz.prog T K36 (fun _ _=>none) false FU 81 (List Rs) (G2 T [37,133] [.l bs,.i n]) (fun _=>none) 0 (fun out=>H2 T true [.r 5] out)=C7u n bs (fun ys=>some [.r 5 ys false]):=by kernel_rfl
theorem C1Y (n:Int):C4 Tryz.prog T K36 (fun _ _=>none) false FU 81 (List Rs) (G2 T [37,133] [.n,.i n]) (fun _=>none) 0 (fun out=>H2 T true [.r 5] out)=B7M n [] (fun ys=>some [.r 5 ys false]):=by kernel_rfl
def B6O:List (Nat×E5):=(81,F6 T true [37,133] (gF D0I (D0J 5)))::B6N
theorem A5I:D2 Tryz.prog T B6O:=by
 refine B8 (sh:=true) (rk:=[.r 5]) (d:=4) (fu:=FU) (Lo:=(fun _ _=>none)) (ds:=[.slice (.int .u8),.int .u64]) follows B6 A5H (by kernel_rfl) E3 40 (by kernel_rfl) (fun xs hd hg=>?_)
 obtain ⟨a,b,rfl,ha,hb⟩:=A14 hd
 obtain ⟨n,rfl,_⟩:=hb
 rcases A2C ha with rfl | ⟨ys,rfl⟩
 ·refine (C1Y n).trans ?_
  rw [A57 (by simp)];rfl
 ·have hl:ys.length≤268435456:=A2h hg
  refine (C6P ys n).trans ?_
  rw [B7O (by omega)];rfl
def K37:KC:=E9 Tryz.prog T B6O false FU 4
theorem D16:K37.nat:=A8 A5I 4
theorem D17:W5 Tryz.prog T K37.dir:=B4 follows B6 A5I 4
theorem C6Q (hs:List V) (n:Int):C4 Tryz.prog T K37 (fun _ _=>none) false FU 83 (List Rs) (G2 T [36] [.l [.l hs,.i n]]) (fun _=>none) 0 (fun out=>H2 T true [.r 5] out)=bif shb (.l ((hs.drop 0).take 32)) then some [.r 5 ((hs.drop 0).take 32++Z1 4 (WU n)) false] else none:=by kernel_rfl
def B6P:List (Nat×E5):=(83,F6 T true [36] (gF C50 (C51 5)))::B6O
theorem A5J:D2 Tryz.prog T B6P:=by
 refine B8 (sh:=true) (rk:=[.r 5]) (d:=4) (fu:=FU) (Lo:=(fun _ _=>none)) (ds:=[.struct [.arr 32 (.int .u8),.int .u32]]) follows B6 A5I (by kernel_rfl) E3 40 (by kernel_rfl) (fun xs hd hg=>?_)
 obtain ⟨a,rfl,ha⟩:=S4 hd
 obtain ⟨hs,n,rfl,hl,h1,h2⟩:=B7Q ha
 obtain ⟨m,rfl⟩:=Int.eq_ofNat_of_zero_le h1
 refine (C6Q hs _).trans ?_
 rw [show (hs.drop 0).take 32=hs from List.take_of_length_le (by simp;omega),D5 (by omega),show shb (.l hs)=true from D2R (by show hs.length≤268435456;omega)];rfl
def K38:KC:=E9 Tryz.prog T B6P false FU 4
theorem D18:K38.nat:=A8 A5J 4
theorem D19:W5 Tryz.prog T K38.dir:=B4 follows B6 A5J 4
theorem C6R (n:Int):C4 Tryz.prog T K38 (fun _ _=>none) false FU 69 (List Rs) (G2 T [133] [.i n]) (fun _=>none) 0 (fun out=>H2 T true [.r 5] out)=C7t n (fun ys=>some [.r 5 ys false]):=by kernel_rfl
def B6Q:List (Nat×E5):=(69,F6 T true [133] (gF D0K (D0L 5)))::B6P
theorem A5K:D2 Tryz.prog T B6Q:=by
 refine B8 (sh:=true) (rk:=[.r 5]) (d:=4) (fu:=FU) (Lo:=(fun _ _=>none)) (ds:=[.int .u64]) follows B6 A5J (by kernel_rfl) E3 40 (by kernel_rfl) (fun xs hd hg=>?_)
 obtain ⟨a,rfl,ha⟩:=S4 hd
 obtain ⟨n,rfl,h1,h2⟩:=ha
 simp only [lo,hi] at h1 h2
 refine (C6R n).trans ?_
 rw [B7N h1 (by omega)];rfl
def K39:KC:=E9 Tryz.prog T B6Q false FU 4
theorem D2a:K39.nat:=A8 A5K 4
theorem D2b:W5 Tryz.prog T K39.dir:=B4 follows B6 A5K 4
theorem C6S (xs:List V):C4 Tryz.prog T K39 (fun _ _=>none) false FU 71 (List Rs) (G2 T [37] [.l xs]) (fun _=>none) 0 (fun out=>H2 T true [.r 5] out)=(ln xs.length <| N0 ((Y8 (WU (xs.length:Nat))).length+xs.length) <| some [.r 5 (Y8 (WU (xs.length:Nat))++xs) false]):=by kernel_rfl
theorem C1Z  : C4 Tryz.prog T K39 (fun _ _=>none) false FU 71 (List Rs) (G2 T [37] [.n]) (fun _=>none) 0 (fun out=>H2 T true [.r 5] out)=some [.r 5 (A0w []) false]:=by kernel_rfl
def B6R:List (Nat×E5):=(71,F6 T true [37] (gF A9K (D0M 5)))::B6Q
theorem A5L:D2 Tryz.prog T B6R:=by
 refine B8 (sh:=true) (rk:=[.r 5]) (d:=4) (fu:=FU) (Lo:=(fun _ _=>none)) (ds:=[.slice (.int .u8)]) follows B6 A5K (by kernel_rfl) E3 40 (by kernel_rfl) (fun xs hd hg=>?_)
 obtain ⟨a,rfl,ha⟩:=S4 hd
 rcases A2C ha with rfl | ⟨ys,rfl⟩
 ·exact C1Z
 ·have hl:ys.length≤268435456:=A2h hg
  have hc:=A0N (ys.length:Nat)
  refine (C6S ys).trans ?_
  rw [B7 (by omega),D5 (by omega),B3 (by omega)];rfl
def K40:KC:=E9 Tryz.prog T B6R false FU 4
theorem D2c:K40.nat:=A8 A5L 4
theorem D2d:W5 Tryz.prog T K40.dir:=B4 follows B6 A5L 4
theorem C10 (n:Int):C4 Tryz.prog T K40 (fun _ _=>none) false FU 68 (List Rs) (G2 T [133,3] [.i n,.i 8]) (fun _=>none) 0 (fun out=>H2 T true [.r 5] out)=some [.r 5 (leD 8 n) false]:=by kernel_rfl
theorem C11 (n:Int):C4 Tryz.prog T K40 (fun _ _=>none) false FU 68 (List Rs) (G2 T [133,3] [.i n,.i 4]) (fun _=>none) 0 (fun out=>H2 T true [.r 5] out)=some [.r 5 (leD 4 n) false]:=by kernel_rfl
def B6S:List (Nat×E5):=(68,F6 T true [133,3] (gF B7P (A9J 5)))::B6R
theorem A5M:D2 Tryz.prog T B6S:=by
 refine B8 (sh:=true) (rk:=[.r 5]) (d:=4) (fu:=FU) (Lo:=(fun _ _=>none)) (ds:=[.int .u64,.int .i64]) follows B6 A5L (by kernel_rfl) E3 40 (by kernel_rfl) (fun xs hd hg=>?_)
 obtain ⟨a,b,rfl,ha,hb⟩:=A14 hd
 obtain ⟨n,rfl,h1,h2⟩:=ha
 obtain ⟨s,rfl,_⟩:=hb
 simp only [lo,hi] at h1 h2
 rcases C2I hg with rfl | rfl
 ·rw [C2J]
  refine (C10 n).trans ?_
  rw [A3r 8 h1 (by omega)]
 ·rw [C2K]
  refine (C11 n).trans ?_
  rw [A3r 4 h1 (by omega)]
def K41:KC:=E9 Tryz.prog T B6S false FU 4
theorem D2e:K41.nat:=A8 A5M 4
theorem D2f:W5 Tryz.prog T K41.dir:=B4 follows B6 A5M 4
theorem C6T (hs:List V) (n:Int):C4 Tryz.prog T K41 (fun _ _=>none) false FU 70 (List Rs) (G2 T [36] [.l [.l hs,.i n]]) (fun _=>none) 0 (fun out=>H2 T true [.r 5] out)=(N0 (0+((hs.drop 0).take 32).length) <| N0 (((hs.drop 0).take 32).length+4) <| some [.r 5 ((hs.drop 0).take 32++Z1 4 (WU n)) false]):=by kernel_rfl
def B6T:List (Nat×E5):=(70,F6 T true [36] (gF C50 (C51 5)))::B6S
theorem A5N:D2 Tryz.prog T B6T:=by
 refine B8 (sh:=true) (rk:=[.r 5]) (d:=4) (fu:=FU) (Lo:=(fun _ _=>none)) (ds:=[.struct [.arr 32 (.int .u8),.int .u32]]) follows B6 A5M (by kernel_rfl) E3 40 (by kernel_rfl) (fun xs hd hg=>?_)
 obtain ⟨a,rfl,ha⟩:=S4 hd
 obtain ⟨hs,n,rfl,hl,h1,h2⟩:=B7Q ha
 obtain ⟨m,rfl⟩:=Int.eq_ofNat_of_zero_le h1
 refine (C6T hs _).trans ?_
 rw [show (hs.drop 0).take 32=hs from List.take_of_length_le (by simp;omega),D5 (by omega),B3 (by omega),B3 (by omega)];rfl
def K42:KC:=E9 Tryz.prog T B6T false FU 4
theorem D0m:K42.nat:=A8 A5N 4
theorem D0n:W5 Tryz.prog T K42.dir:=B4 follows B6 A5N 4
end Go.Proofs.YtadjkmffodhmbaaGreat
namespace Go.Proofs.YtadjkmffodhmbaaGreat
open Go.Vm
set_option maxRecDepth 100000
set_option linter.unusedVariables false
set_option linter.constructorNameAsVariable false
def C12:PTi→Vm.St
 | .m t l bs n i=>⟨[(1,.p 0 27 []),(3,.o 1 1),(18,.v 24 l),(19,.i .i64 n),(20,.i .i64 i)],(.n (some (.box 27 (.v 27 t) false)) (.n (some (.row 5 1 bs false false)) .e .e) .e),[],2,some []⟩
def D0o (R:Type) (kx:Exit→Vm.St→Option R):QTi→Option R
 | .o t l bs n i=>kx (.exit 0) ⟨[(1,.p 0 27 []),(3,.o 1 1),(18,.v 24 l),(19,.i .i64 n),(20,.i .i64 i)],(.n (some (.box 27 (.v 27 t) false)) (.n (some (.row 5 1 bs false false)) .e .e) .e),[],64,some []⟩
def B6U:Vm.St→Option PTi
 | ⟨[(1,.p 0 27 []),(3,.o 1 1),(18,.v 24 l),(19,.i .i64 n),(20,.i .i64 i)],(.n (some (.box 27 (.v 27 t) false)) (.n (some (.row 5 1 bs false false)) .e .e) .e),[],2,some []⟩=>some (.m t l bs n i)
 | _=>none
theorem B6V (τ:Vm.St) (x:PTi) (h:B6U τ=some x):τ=C12 x:=by
 unfold B6U at h
 split at h<;>first | (cases h;rfl) | cases h
theorem C6U (R:Type) (of:Nat→Option Ob) (x:PTi) (K:Vm.St→Option R) (kx:Exit→Vm.St→Option R):E8 T K42 (fun _=>none) false FU (C2 Tryz.prog 64) of R (lp (A4 Tryz.prog 64) 0) (C12 x) (H4 0 [999999,1,3,18,19,20] 64 K kx)=BTi R x (fun x'=>K (C12 x')) (D0o R kx):=by
 cases x with
 | m _ _ _ _ _=>kernel_rfl
def HTi:LS:=H9 T K42 (fun _=>none) (C2 Tryz.prog 64) (lp (A4 Tryz.prog 64) 0) 0 [999999,1,3,18,19,20] 64 B6U BTi D0o
theorem B6W:F0 Tryz.prog T (C2 Tryz.prog 64) 0 (lp (A4 Tryz.prog 64) 0) HTi :=
 C5 follows B6 D0m D0n B2 (A6 _) C12 B6V C6U
def C13:PTo→Vm.St
 | .m t l bs n i=>⟨[(1,.p 0 27 []),(3,.o 1 1),(46,.v 25 l),(47,.i .i64 n),(48,.i .i64 i)],(.n (some (.box 27 (.v 27 t) false)) (.n (some (.row 5 1 bs false false)) .e .e) .e),[],2,some []⟩
def D0p (R:Type) (kx:Exit→Vm.St→Option R):QTo→Option R
 | .o t l bs n i=>kx (.exit 2) ⟨[(1,.p 0 27 []),(3,.o 1 1),(46,.v 25 l),(47,.i .i64 n),(48,.i .i64 i)],(.n (some (.box 27 (.v 27 t) false)) (.n (some (.row 5 1 bs false false)) .e .e) .e),[],128,some []⟩
def B6X:Vm.St→Option PTo
 | ⟨[(1,.p 0 27 []),(3,.o 1 1),(46,.v 25 l),(47,.i .i64 n),(48,.i .i64 i)],(.n (some (.box 27 (.v 27 t) false)) (.n (some (.row 5 1 bs false false)) .e .e) .e),[],2,some []⟩=>some (.m t l bs n i)
 | _=>none
theorem B6Y (τ:Vm.St) (x:PTo) (h:B6X τ=some x):τ=C13 x:=by
 unfold B6X at h
 split at h<;>first | (cases h;rfl) | cases h
theorem C6V (R:Type) (of:Nat→Option Ob) (x:PTo) (K:Vm.St→Option R) (kx:Exit→Vm.St→Option R):E8 T K42 (fun _=>none) false FU (C2 Tryz.prog 64) of R (lp (A4 Tryz.prog 64) 1) (C13 x) (H4 0 [999999,1,3,46,47,48] 128 K kx)=BTo R x (fun x'=>K (C13 x')) (D0p R kx):=by
 cases x with
 | m _ _ _ _ _=>kernel_rfl
def HTo:LS:=H9 T K42 (fun _=>none) (C2 Tryz.prog 64) (lp (A4 Tryz.prog 64) 1) 0 [999999,1,3,46,47,48] 128 B6X BTo D0p
theorem B6Z:F0 Tryz.prog T (C2 Tryz.prog 64) 0 (lp (A4 Tryz.prog 64) 1) HTo :=
 C5 follows B6 D0m D0n B2 (A6 _) C13 B6Y C6V
def C6W:Nat→LC:=atN 0 [(3,HTi),(10,HTo)]
theorem C14:H8 Tryz.prog T 64 C6W:=E7 0 (List.forall_mem_cons.2 ⟨B6W.1,List.forall_mem_cons.2 ⟨B6Z.1,fun _ h=>by cases h⟩⟩) 2 (by kernel_rfl) ⟨⟨trivial,loI (s0:=HTi) (by kernel_rfl) B6W⟩,loI (s0:=HTo) (by kernel_rfl) B6Z⟩
theorem C15 (v u:Int) (a b:V):C4 Tryz.prog T K42 C6W false FU 64 (List Rs) (G2 T [27] [.l [.i v,a,b,.i u]]) (fun _=>none) 0 (fun out=>H2 T true [.r 5] out)=txW v u a b (fun xs=>some [.r 5 xs false]):=by kernel_rfl
def B60:List (Nat×E5):=(64,F6 T true [27] (gF txg (txr 5)))::B6T
theorem A5O:D2 Tryz.prog T B60:=by
 refine B8 (sh:=true) (rk:=[.r 5]) (d:=4) (fu:=FU) (Lo:=C6W) (ds:=[DTx]) follows B6 A5N (by kernel_rfl) C14 40 (by kernel_rfl) (fun xs hd hg=>?_)
 obtain ⟨a,rfl,ha⟩:=S4 hd
 obtain ⟨v,x,y,u,rfl,_,hx,hy,_⟩:=A5A ha
 exact (C15 v u x y).trans (B2T _ hx hy hg).1
def K43:KC:=E9 Tryz.prog T B60 false FU 4
theorem D0q:K43.nat:=A8 A5O 4
theorem D0r:W5 Tryz.prog T K43.dir:=B4 follows B6 A5O 4
def C16:PXi→Vm.St
 | .m t l bs n i=>⟨[(1,.p 0 27 []),(3,.o 1 1),(20,.v 24 l),(21,.i .i64 n),(22,.i .i64 i)],(.n (some (.box 27 (.v 27 t) false)) (.n (some (.row 5 1 bs false false)) .e .e) .e),[],2,some []⟩
def D0s (R:Type) (kx:Exit→Vm.St→Option R):QXi→Option R
 | .o t l bs n i=>kx (.exit 0) ⟨[(1,.p 0 27 []),(3,.o 1 1),(20,.v 24 l),(21,.i .i64 n),(22,.i .i64 i)],(.n (some (.box 27 (.v 27 t) false)) (.n (some (.row 5 1 bs false false)) .e .e) .e),[],64,some []⟩
def B61:Vm.St→Option PXi
 | ⟨[(1,.p 0 27 []),(3,.o 1 1),(20,.v 24 l),(21,.i .i64 n),(22,.i .i64 i)],(.n (some (.box 27 (.v 27 t) false)) (.n (some (.row 5 1 bs false false)) .e .e) .e),[],2,some []⟩=>some (.m t l bs n i)
 | _=>none
theorem B62 (τ:Vm.St) (x:PXi) (h:B61 τ=some x):τ=C16 x:=by
 unfold B61 at h
 split at h<;>first | (cases h;rfl) | cases h
theorem C6X (R:Type) (of:Nat→Option Ob) (x:PXi) (K:Vm.St→Option R) (kx:Exit→Vm.St→Option R):E8 T K43 (fun _=>none) false FU (C2 Tryz.prog 50) of R (lp (A4 Tryz.prog 50) 0) (C16 x) (H4 0 [999999,1,3,20,21,22] 64 K kx)=BXi R x (fun x'=>K (C16 x')) (D0s R kx):=by
 cases x with
 | m _ _ _ _ _=>kernel_rfl
def HXi:LS:=H9 T K43 (fun _=>none) (C2 Tryz.prog 50) (lp (A4 Tryz.prog 50) 0) 0 [999999,1,3,20,21,22] 64 B61 BXi D0s
theorem B63:F0 Tryz.prog T (C2 Tryz.prog 50) 0 (lp (A4 Tryz.prog 50) 0) HXi :=
 C5 follows B6 D0q D0r B2 (A6 _) C16 B62 C6X
def C17:PXo→Vm.St
 | .m t l bs n i=>⟨[(1,.p 0 27 []),(3,.o 1 1),(51,.v 25 l),(52,.i .i64 n),(53,.i .i64 i)],(.n (some (.box 27 (.v 27 t) false)) (.n (some (.row 5 1 bs false false)) .e .e) .e),[],2,some []⟩
def D0t (R:Type) (kx:Exit→Vm.St→Option R):QXo→Option R
 | .o t l bs n i=>kx (.exit 2) ⟨[(1,.p 0 27 []),(3,.o 1 1),(51,.v 25 l),(52,.i .i64 n),(53,.i .i64 i)],(.n (some (.box 27 (.v 27 t) false)) (.n (some (.row 5 1 bs false false)) .e .e) .e),[],128,some []⟩
def B64:Vm.St→Option PXo
 | ⟨[(1,.p 0 27 []),(3,.o 1 1),(51,.v 25 l),(52,.i .i64 n),(53,.i .i64 i)],(.n (some (.box 27 (.v 27 t) false)) (.n (some (.row 5 1 bs false false)) .e .e) .e),[],2,some []⟩=>some (.m t l bs n i)
 | _=>none
theorem B65 (τ:Vm.St) (x:PXo) (h:B64 τ=some x):τ=C17 x:=by
 unfold B64 at h
 split at h<;>first | (cases h;rfl) | cases h
theorem C6Y (R:Type) (of:Nat→Option Ob) (x:PXo) (K:Vm.St→Option R) (kx:Exit→Vm.St→Option R):E8 T K43 (fun _=>none) false FU (C2 Tryz.prog 50) of R (lp (A4 Tryz.prog 50) 1) (C17 x) (H4 0 [999999,1,3,51,52,53] 128 K kx)=BXo R x (fun x'=>K (C17 x')) (D0t R kx):=by
 cases x with
 | m _ _ _ _ _=>kernel_rfl
def HXo:LS:=H9 T K43 (fun _=>none) (C2 Tryz.prog 50) (lp (A4 Tryz.prog 50) 1) 0 [999999,1,3,51,52,53] 128 B64 BXo D0t
theorem B66:F0 Tryz.prog T (C2 Tryz.prog 50) 0 (lp (A4 Tryz.prog 50) 1) HXo :=
 C5 follows B6 D0q D0r B2 (A6 _) C17 B65 C6Y
def C6Z:Nat→LC:=atN 0 [(4,HXi),(12,HXo)]
theorem C18:H8 Tryz.prog T 50 C6Z:=E7 0 (List.forall_mem_cons.2 ⟨B63.1,List.forall_mem_cons.2 ⟨B66.1,fun _ h=>by cases h⟩⟩) 2 (by kernel_rfl) ⟨⟨trivial,loI (s0:=HXi) (by kernel_rfl) B63⟩,loI (s0:=HXo) (by kernel_rfl) B66⟩
theorem C19 (v u:Int) (a b:V):C4 Tryz.prog T K43 C6Z false FU 50 (List Rs) (G2 T [27] [.l [.i v,a,b,.i u]]) (fun _=>none) 0 (fun out=>H2 T true [.r 5] out)=txD v u a b (fun xs=>some [.r 5 xs false]):=by kernel_rfl
def B67:List (Nat×E5):=(50,F6 T true [27] (gF txg (txr 5)))::B60
theorem A5P:D2 Tryz.prog T B67:=by
 refine B8 (sh:=true) (rk:=[.r 5]) (d:=4) (fu:=FU) (Lo:=C6Z) (ds:=[DTx]) follows B6 A5O (by kernel_rfl) C18 40 (by kernel_rfl) (fun xs hd hg=>?_)
 obtain ⟨a,rfl,ha⟩:=S4 hd
 obtain ⟨v,x,y,u,rfl,_,hx,hy,_⟩:=A5A ha
 exact (C19 v u x y).trans (B2T _ hx hy hg).2
def K44:KC:=E9 Tryz.prog T B67 false FU 4
theorem D2g:K44.nat:=A8 A5P 4
theorem D2h:W5 Tryz.prog T K44.dir:=B4 follows B6 A5P 4
theorem B68 (t:V):C4 Tryz.prog T K44 (fun _ _=>none) false FU 47 (List Rs) (G2 T [27] [t]) (fun _=>none) 0 (fun out=>H2 T true [.d 34] out)=B6w 34 t:=by kernel_rfl
def B69:List (Nat×E5):=(47,F6 T true [27] (gF txg (C1L 34)))::B67
theorem A5Q:D2 Tryz.prog T B69:=by
 refine B8 (sh:=true) (rk:=[.d 34]) (d:=4) (fu:=FU) (Lo:=(fun _ _=>none)) (ds:=[DTx]) follows B6 A5P (by kernel_rfl) E3 40 (by kernel_rfl) (fun xs hd hg=>?_)
 obtain ⟨a,rfl,ha⟩:=S4 hd
 exact (B68 a).trans (B2U ha hg).1
def K45:KC:=E9 Tryz.prog T B69 false FU 4
theorem D2i:K45.nat:=A8 A5Q 4
theorem D2j:W5 Tryz.prog T K45.dir:=B4 follows B6 A5Q 4
theorem B7a (t:V):C4 Tryz.prog T K45 (fun _ _=>none) false FU 34 (List Rs) (G2 T [27] [t]) (fun _=>none) 0 (fun out=>H2 T true [.d 34] out)=B6x 34 t:=by kernel_rfl
def B7b:List (Nat×E5):=(34,F6 T true [27] (gF txg (C1L 34)))::B69
theorem A5R:D2 Tryz.prog T B7b:=by
 refine B8 (sh:=true) (rk:=[.d 34]) (d:=4) (fu:=FU) (Lo:=(fun _ _=>none)) (ds:=[DTx]) follows B6 A5Q (by kernel_rfl) E3 40 (by kernel_rfl) (fun xs hd hg=>?_)
 obtain ⟨a,rfl,ha⟩:=S4 hd
 exact (B7a a).trans (B2U ha hg).2
def K46:KC:=E9 Tryz.prog T B7b false FU 4
theorem D1I:K46.nat:=A8 A5R 4
theorem D1J:W5 Tryz.prog T K46.dir:=B4 follows B6 A5R 4
end Go.Proofs.YtadjkmffodhmbaaGreat
namespace Go.Proofs.YtadjkmffodhmbaaGreat
open Go.Vm
set_option maxRecDepth 100000
set_option linter.unusedVariables false
set_option linter.constructorNameAsVariable false
def B23:B5b→Vm.St
 | .m l d a e n i=>⟨[(0,.v 22 l),(5,.p 0 49 []),(8,.i .i64 a),(17,.v 22 e),(18,.i .i64 n),(19,.i .i64 i)],(.n (some (.box 49 (.v 49 d) false)) .e .e),[],1,some []⟩
def C5S (R:Type) (kx:Exit→Vm.St→Option R):C77→Option R
 | .o l d a e n i=>kx (.exit 0) ⟨[(0,.v 22 l),(5,.p 0 49 []),(8,.i .i64 a),(17,.v 22 e),(18,.i .i64 n),(19,.i .i64 i)],(.n (some (.box 49 (.v 49 d) false)) .e .e),[],64,some []⟩
def B06:Vm.St→Option B5b
 | ⟨[(0,.v 22 l),(5,.p 0 49 []),(8,.i .i64 a),(17,.v 22 e),(18,.i .i64 n),(19,.i .i64 i)],(.n (some (.box 49 (.v 49 d) false)) .e .e),[],1,some []⟩=>some (.m l d a e n i)
 | _=>none
theorem B4k (τ:Vm.St) (x:B5b) (h:B06 τ=some x):τ=B23 x:=by
 unfold B06 at h
 split at h<;>first | (cases h;rfl) | cases h
theorem C2a (R:Type) (of:Nat→Option Ob) (x:B5b) (K:Vm.St→Option R) (kx:Exit→Vm.St→Option R):E8 T K46 (fun _=>none) false FU (C2 Tryz.prog 31) of R (lp (A4 Tryz.prog 31) 0) (B23 x) (H4 0 [999999,0,5,8,17,18,19] 64 K kx)=B8L R x (fun x'=>K (B23 x')) (C5S R kx):=by
 cases x with
 | m _ _ _ _ _ _=>kernel_rfl
def C60:LS:=H9 T K46 (fun _=>none) (C2 Tryz.prog 31) (lp (A4 Tryz.prog 31) 0) 0 [999999,0,5,8,17,18,19] 64 B06 B8L C5S
theorem B24:F0 Tryz.prog T (C2 Tryz.prog 31) 0 (lp (A4 Tryz.prog 31) 0) C60 :=
 C5 follows B6 D1I D1J B2 (A6 _) B23 B4k C2a
def B7c:Nat→LC:=atN 0 [(4,C60)]
theorem B7d:H8 Tryz.prog T 31 B7c:=E7 0 (List.forall_mem_cons.2 ⟨B24.1,fun _ h=>by cases h⟩) 1 (by kernel_rfl) ⟨trivial,loI (s0:=C60) (by kernel_rfl) B24⟩
theorem C2b (l x y:V) (v u:Int):C4 Tryz.prog T K46 B7c false FU 31 (List Rs) (G2 T [22,27] [l,.l [.i v,x,y,.i u]]) (fun _=>none) 0 (fun out=>H2 T true [.d 22] out)=C8a 22 l v u x y:=by kernel_rfl
def B7e:List (Nat×E5):=(31,F6 T true [22,27] (gF D0U (D0V 22)))::B7b
theorem A5S:D2 Tryz.prog T B7e:=by
 refine B8 (sh:=true) (rk:=[.d 22]) (d:=4) (fu:=FU) (Lo:=B7c) (ds:=[.slice A2X,DTx]) follows B6 A5R (by kernel_rfl) B7d 40 (by kernel_rfl) (fun xs hd hg=>?_)
 obtain ⟨a,b,rfl,ha,hb⟩:=A14 hd
 obtain ⟨v,x,y,u,rfl,_⟩:=A5A hb
 exact (C2b a x y v u).trans (B8P hg)
def K47:KC:=E9 Tryz.prog T B7e false FU 4
theorem D2k:K47.nat:=A8 A5S 4
theorem D2l:W5 Tryz.prog T K47.dir:=B4 follows B6 A5S 4
theorem C2c (l x y:V) (v u h:Int):C4 Tryz.prog T K47 (fun _ _=>none) false FU 29 (List Rs) (G2 T [22,27,2] [l,.l [.i v,x,y,.i u],.i h]) (fun _=>none) 0 (fun out=>H2 T true [.d 22] out)=C78 22 l v u h x y:=by kernel_rfl
def B7f:List (Nat×E5):=(29,F6 T true [22,27,2] (gF D0S (D0T 22)))::B7e
theorem A5T:D2 Tryz.prog T B7f:=by
 refine B8 (sh:=true) (rk:=[.d 22]) (d:=4) (fu:=FU) (Lo:=(fun _ _=>none)) (ds:=[.slice A2X,DTx,.int .i64]) follows B6 A5S (by kernel_rfl) E3 40 (by kernel_rfl) (fun xs hd hg=>?_)
 obtain ⟨a,b,c,rfl,ha,hb,hc⟩:=B3i hd
 obtain ⟨v,x,y,u,rfl,_⟩:=A5A hb
 obtain ⟨h,rfl,_⟩:=hc
 exact (C2c a x y v u h).trans (B8N hg)
def K48:KC:=E9 Tryz.prog T B7f false FU 4
theorem D2m:K48.nat:=A8 A5T 4
theorem D2n:W5 Tryz.prog T K48.dir:=B4 follows B6 A5T 4
end Go.Proofs.YtadjkmffodhmbaaGreat
namespace Go.Proofs.YtadjkmffodhmbaaGreat
open Go.Vm
set_option maxRecDepth 100000
set_option linter.unusedVariables false
set_option linter.constructorNameAsVariable false
def C5T:List (Nat×E5):=(27,A4F 93 9 22 65)::B7f
theorem B7g:D2 Tryz.prog T C5T:=A5T.cons (B2J _ _ _ _) C9x
def A9x:List (Nat×E5):=(7,B2t)::C5T
theorem A2f:D2 Tryz.prog T A9x:=B7g.cons B2u D1o
def K50:KC:=E9 Tryz.prog T A9x false FU 4
theorem D0u:K50.nat:=A8 A2f 4
theorem D0v:W5 Tryz.prog T K50.dir:=B4 follows B6 A2f 4
def B25:B5d→Vm.St
 | .m l x h es ek w y n i=>⟨[(0,.v 22 l),(1,.v 78 x),(2,.i .i64 h),(6,.b false),(7,.p 0 93 []),(8,.p 2 93 []),(9,.v 22 w),(36,.v 78 y),(37,.i .i64 n),(38,.i .i64 i)],(.n (some (.box 93 (.g 93 [.m 1]) false)) (.n (some (.sm 9 22 65 es none)) (.n (some (.sm 9 22 65 ek none)) .e .e) .e) (.n (some (.box 93 (.g 93 [.m 3]) false)) .e .e)),[],4,some []⟩
def C5U (R:Type) (kx:Exit→Vm.St→Option R):C8b→Option R
 | .o l x h es ek w y n i=>kx (.exit 0) ⟨[(0,.v 22 l),(1,.v 78 x),(2,.i .i64 h),(6,.b false),(7,.p 0 93 []),(8,.p 2 93 []),(9,.v 22 w),(36,.v 78 y),(37,.i .i64 n),(38,.i .i64 i)],(.n (some (.box 93 (.g 93 [.m 1]) false)) (.n (some (.sm 9 22 65 es none)) (.n (some (.sm 9 22 65 ek none)) .e .e) .e) (.n (some (.box 93 (.g 93 [.m 3]) false)) .e .e)),[],4096,some []⟩
 | .r l x h es ek w y n i=>kx (.ret) ⟨[(0,.v 22 l),(1,.v 78 x),(2,.i .i64 h),(6,.b true),(7,.p 0 93 []),(8,.p 2 93 []),(9,.v 22 w),(36,.v 78 y),(37,.i .i64 n),(38,.i .i64 i)],(.n (some (.box 93 (.g 93 [.m 1]) false)) (.n (some (.sm 9 22 65 es none)) (.n (some (.sm 9 22 65 ek none)) .e .e) .e) (.n (some (.box 93 (.g 93 [.m 3]) false)) .e .e)),[],4096,some []⟩
 | .s l x h es ek w y n i=>kx (.ret) ⟨[(0,.v 22 l),(1,.v 78 x),(2,.i .i64 h),(6,.b false),(7,.p 0 93 []),(8,.p 2 93 []),(9,.v 22 w),(36,.v 78 y),(37,.i .i64 n),(38,.i .i64 i)],(.n (some (.box 93 (.g 93 [.m 1]) false)) (.n (some (.sm 9 22 65 es none)) (.n (some (.sm 9 22 65 ek none)) .e .e) .e) (.n (some (.box 93 (.g 93 [.m 3]) false)) .e .e)),[],4096,some []⟩
def B07:Vm.St→Option B5d
 | ⟨[(0,.v 22 l),(1,.v 78 x),(2,.i .i64 h),(6,.b false),(7,.p 0 93 []),(8,.p 2 93 []),(9,.v 22 w),(36,.v 78 y),(37,.i .i64 n),(38,.i .i64 i)],(.n (some (.box 93 (.g 93 [.m 1]) false)) (.n (some (.sm 9 22 65 es none)) (.n (some (.sm 9 22 65 ek none)) .e .e) .e) (.n (some (.box 93 (.g 93 [.m 3]) false)) .e .e)),[],4,some []⟩=>some (.m l x h es ek w y n i)
 | _=>none
theorem B4l (τ:Vm.St) (x:B5d) (h:B07 τ=some x):τ=B25 x:=by
 unfold B07 at h
 split at h<;>first | (cases h;rfl) | cases h
theorem C2d (R:Type) (of:Nat→Option Ob) (x:B5d) (K:Vm.St→Option R) (kx:Exit→Vm.St→Option R):E8 T K50 (fun _=>none) false FU (C2 Tryz.prog 5) of R (lp (A4 Tryz.prog 5) 0) (B25 x) (H4 0 [999999,0,1,2,6,7,8,9,36,37,38] 4096 K kx)=A7y R x (fun x'=>K (B25 x')) (C5U R kx):=by
 cases x with
 | m _ _ _ _ _ _ _ _ _=>kernel_rfl
def C61:LS:=H9 T K50 (fun _=>none) (C2 Tryz.prog 5) (lp (A4 Tryz.prog 5) 0) 0 [999999,0,1,2,6,7,8,9,36,37,38] 4096 B07 A7y C5U
theorem B26:F0 Tryz.prog T (C2 Tryz.prog 5) 0 (lp (A4 Tryz.prog 5) 0) C61 :=
 C5 follows B6 D0u D0v B2 (A6 _) B25 B4l C2d
def B27:B5e→Vm.St
 | .m l x es ek w i=>⟨[(0,.v 22 l),(1,.v 78 x),(6,.b false),(7,.p 0 93 []),(8,.p 2 93 []),(9,.v 22 w),(12,.i .i64 i)],(.n (some (.box 93 (.g 93 [.m 1]) false)) (.n (some (.sm 9 22 65 es none)) (.n (some (.sm 9 22 65 ek none)) .e .e) .e) (.n (some (.box 93 (.g 93 [.m 3]) false)) .e .e)),[],4,some []⟩
def C5V (R:Type) (kx:Exit→Vm.St→Option R):C8c→Option R
 | .o l x es ek w i=>kx (.exit 2) ⟨[(0,.v 22 l),(1,.v 78 x),(6,.b false),(7,.p 0 93 []),(8,.p 2 93 []),(9,.v 22 w),(12,.i .i64 i)],(.n (some (.box 93 (.g 93 [.m 1]) false)) (.n (some (.sm 9 22 65 es none)) (.n (some (.sm 9 22 65 ek none)) .e .e) .e) (.n (some (.box 93 (.g 93 [.m 3]) false)) .e .e)),[],8192,some []⟩
 | .s l x es ek w i=>kx (.ret) ⟨[(0,.v 22 l),(1,.v 78 x),(6,.b false),(7,.p 0 93 []),(8,.p 2 93 []),(9,.v 22 w),(12,.i .i64 i)],(.n (some (.box 93 (.g 93 [.m 1]) false)) (.n (some (.sm 9 22 65 es none)) (.n (some (.sm 9 22 65 ek none)) .e .e) .e) (.n (some (.box 93 (.g 93 [.m 3]) false)) .e .e)),[],8192,some []⟩
def B08:Vm.St→Option B5e
 | ⟨[(0,.v 22 l),(1,.v 78 x),(6,.b false),(7,.p 0 93 []),(8,.p 2 93 []),(9,.v 22 w),(12,.i .i64 i)],(.n (some (.box 93 (.g 93 [.m 1]) false)) (.n (some (.sm 9 22 65 es none)) (.n (some (.sm 9 22 65 ek none)) .e .e) .e) (.n (some (.box 93 (.g 93 [.m 3]) false)) .e .e)),[],4,some []⟩=>some (.m l x es ek w i)
 | _=>none
theorem B4m (τ:Vm.St) (x:B5e) (h:B08 τ=some x):τ=B27 x:=by
 unfold B08 at h
 split at h<;>first | (cases h;rfl) | cases h
theorem C2e (R:Type) (of:Nat→Option Ob) (x:B5e) (K:Vm.St→Option R) (kx:Exit→Vm.St→Option R):E8 T K50 (fun _=>none) false FU (C2 Tryz.prog 5) of R (lp (A4 Tryz.prog 5) 1) (B27 x) (H4 0 [999999,0,1,6,7,8,9,12] 8192 K kx)=A7z R x (fun x'=>K (B27 x')) (C5V R kx):=by
 cases x with
 | m _ _ _ _ _ _=>kernel_rfl
def C62:LS:=H9 T K50 (fun _=>none) (C2 Tryz.prog 5) (lp (A4 Tryz.prog 5) 1) 0 [999999,0,1,6,7,8,9,12] 8192 B08 A7z C5V
theorem B28:F0 Tryz.prog T (C2 Tryz.prog 5) 0 (lp (A4 Tryz.prog 5) 1) C62 :=
 C5 follows B6 D0u D0v B2 (A6 _) B27 B4m C2e
def B7h:Nat→LC:=atN 0 [(9,C61),(19,C62)]
theorem A8u:H8 Tryz.prog T 5 B7h:=E7 0 (List.forall_mem_cons.2 ⟨B26.1,List.forall_mem_cons.2 ⟨B28.1,fun _ h=>by cases h⟩⟩) 2 (by kernel_rfl) ⟨⟨trivial,loI (s0:=C61) (by kernel_rfl) B26⟩,loI (s0:=C62) (by kernel_rfl) B28⟩
theorem B7i (l x:V) (h:Int):C4 Tryz.prog T K50 B7h false FU 5 Unit (G2 T [22,78,2] [l,x,.i h]) (fun _=>none) 0 A9M=B8Q l x h:=by kernel_rfl
theorem law_run (xs:List V) (hd:D.hasL [.slice A2X,.slice DTx,.int .i64] xs) (hm:D.smL [.slice A2X,.slice DTx,.int .i64] xs):C4 Tryz.prog T (E9 Tryz.prog T A9x false FU 4) B7h false FU 5 Unit (G2 T [22,78,2] xs) (fun _=>none) 0 A9M=some ():=by
 obtain ⟨l,x,c,rfl,hl,hx,n,rfl,_⟩:=B3i hd
 obtain ⟨h1,h2,_⟩:=hm
 exact (B7i l x n).trans (B9M hl h1 hx h2)
theorem law_nat:(C4 Tryz.prog T (E9 Tryz.prog T A9x false FU 4) B7h false FU 5).nat:=A4m (A8 A2f 4) A8u.nat
theorem law_ok:N4 Tryz.prog T 5 (C4 Tryz.prog T (E9 Tryz.prog T A9x false FU 4) B7h false FU 5).dir:=A6n follows B6 (A8 A2f 4) (B4 follows B6 A2f 4) A8u.nat A8u.ok
end Go.Proofs.YtadjkmffodhmbaaGreat
end