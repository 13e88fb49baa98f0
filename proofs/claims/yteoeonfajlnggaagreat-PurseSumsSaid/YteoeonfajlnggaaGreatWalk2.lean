/- What functions compute, and the law run. -/
import Derived.Test.YteoeonfajlnggaaGreatWalk1
import Derived.Test.YteoeonfajlnggaaGreatVm13
set_option linter.constructorNameAsVariable false
set_option linter.unusedVariables false
set_option linter.unusedSimpArgs false
noncomputable section
namespace Go.Proofs.YteoeonfajlnggaaGreat
open Go.Vm
set_option maxRecDepth 100000
set_option linter.unusedVariables false
set_option linter.constructorNameAsVariable false
noncomputable def tab35 : List (Nat × SymC) := (6, aliveC) :: tab34
theorem tab35_ok : TabOK Tryz.prog T tab35 := tab34_ok.cons aliveC_nat alive
noncomputable def K35 : KC := runAC Tryz.prog T tab35 false FU 4
theorem hK35 : K35.nat := runAC_nat tab35_ok 4
theorem hS35 : KOK Tryz.prog T K35.dir := runAC_ok follows T_ok tab35_ok 4
noncomputable def tmSu : PSu → Vm.St
  | .m es t l h d n i => ⟨[(2, .i .i64 h), (4, .p 0 27 []), (6, .b false), (7, .p 1 81 []), (8, .p 3 35 []), (45, .v 22 l), (46, .i .i64 n), (47, .i .i64 i)], (.n (some (.box 27 (.v 27 t) false)) (.n (some (.box 81 (.g 81 [.m 2]) false)) (.n (some (.box 35 (.v 35 d) false)) .e .e) .e) (.n (some (.vm 38 43 es)) .e .e)), [], 4, some []⟩
noncomputable def ekSu (R : Type) (kx : Exit → Vm.St → Option R) : QSu → Option R
  | .o es t l h d n i => kx (.exit 0) ⟨[(2, .i .i64 h), (4, .p 0 27 []), (6, .b false), (7, .p 1 81 []), (8, .p 3 35 []), (45, .v 22 l), (46, .i .i64 n), (47, .i .i64 i)], (.n (some (.box 27 (.v 27 t) false)) (.n (some (.box 81 (.g 81 [.m 2]) false)) (.n (some (.box 35 (.v 35 d) false)) .e .e) .e) (.n (some (.vm 38 43 es)) .e .e)), [], 1024, some []⟩
  | .r es t l h d n i => kx (.ret) ⟨[(2, .i .i64 h), (4, .p 0 27 []), (6, .b true), (7, .p 1 81 []), (8, .p 3 35 []), (45, .v 22 l), (46, .i .i64 n), (47, .i .i64 i)], (.n (some (.box 27 (.v 27 t) false)) (.n (some (.box 81 (.g 81 [.m 2]) false)) (.n (some (.box 35 (.v 35 d) false)) .e .e) .e) (.n (some (.vm 38 43 es)) .e .e)), [], 1024, some []⟩
noncomputable def extSu : Vm.St → Option PSu
  | ⟨[(2, .i .i64 h), (4, .p 0 27 []), (6, .b false), (7, .p 1 81 []), (8, .p 3 35 []), (45, .v 22 l), (46, .i .i64 n), (47, .i .i64 i)], (.n (some (.box 27 (.v 27 t) false)) (.n (some (.box 81 (.g 81 [.m 2]) false)) (.n (some (.box 35 (.v 35 d) false)) .e .e) .e) (.n (some (.vm 38 43 es)) .e .e)), [], 4, some []⟩ => some (.m es t l h d n i)
  | _ => none
theorem extSu_ok (τ : Vm.St) (x : PSu) (h : extSu τ = some x) : τ = tmSu x := by
  unfold extSu at h
  split at h <;> first | (cases h; rfl) | cases h
theorem stepSu (R : Type) (of : Nat → Option Ob) (x : PSu) (K : Vm.St → Option R) (kx : Exit → Vm.St → Option R) : execC T K35 (fun _ => none) false FU (ntOf Tryz.prog 3) of R (lp (codeOf Tryz.prog 3) 0) (tmSu x) (sortN 0 [999999, 2, 4, 6, 7, 8, 45, 46, 47] 1024 K kx) = BSu R x (fun x' => K (tmSu x')) (ekSu R kx) := by
  cases x with
  | m _ _ _ _ _ _ _ => kernel_rfl
noncomputable def HSu : LS := loopH T K35 (fun _ => none) (ntOf Tryz.prog 3) (lp (codeOf Tryz.prog 3) 0) 0 [999999, 2, 4, 6, 7, 8, 45, 46, 47] 1024 extSu BSu ekSu
theorem HSu_ok : LoopTk Tryz.prog T (ntOf Tryz.prog 3) 0 (lp (codeOf Tryz.prog 3) 0) HSu :=
  loopH_ok follows T_ok hK35 hS35 loNat_none (loopsOK_none _) tmSu extSu_ok stepSu
noncomputable def LoSu : Nat → LC := atN 0 [(8, HSu)]
theorem LoSu_ok : LoopsC Tryz.prog T 3 LoSu := loopsC_at 0 (List.forall_mem_cons.2 ⟨HSu_ok.1, fun _ h => by cases h⟩) 1 (by kernel_rfl) ⟨trivial, loI (s0 := HSu) (by kernel_rfl) HSu_ok⟩
theorem run_Su (v u h : Int) (x y l : V) : runFC Tryz.prog T K35 LoSu false FU 3 Unit (mkAs T [22, 27, 2] [l, .l [.i v, x, y, .i u], .i h]) (fun _ => none) 0 tellT = suG v u h x y l := by kernel_rfl
theorem law_run (xs : List V) (hd : D.hasL [.slice DSpent, DTx, .int .i64] xs) (hm : D.smL [.slice DSpent, DTx, .int .i64] xs) : runFC Tryz.prog T (runAC Tryz.prog T tab35 false FU 4) LoSu false FU 3 Unit (mkAs T [22, 27, 2] xs) (fun _ => none) 0 tellT = some () := by
  obtain ⟨l, t, c, rfl, hl, ht, h, rfl, hh⟩ := hasL3 hd
  obtain ⟨v, x, y, u, rfl, hv, hx, hy, hu⟩ := tx_v ht
  exact (run_Su v u h x y l).trans (suG_law hl hx hy hv hu hm)
theorem law_nat : (runFC Tryz.prog T (runAC Tryz.prog T tab35 false FU 4) LoSu false FU 3).nat := runFC_nat (runAC_nat tab35_ok 4) LoSu_ok.nat
theorem law_ok : SymOK Tryz.prog T 3 (runFC Tryz.prog T (runAC Tryz.prog T tab35 false FU 4) LoSu false FU 3).dir := runFC_ok follows T_ok (runAC_nat tab35_ok 4) (runAC_ok follows T_ok tab35_ok 4) LoSu_ok.nat LoSu_ok.ok
end Go.Proofs.YteoeonfajlnggaaGreat
end
