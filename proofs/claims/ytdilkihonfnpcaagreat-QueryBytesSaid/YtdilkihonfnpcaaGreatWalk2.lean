/- What functions compute, and the law run. -/
import Derived.Test.YtdilkihonfnpcaaGreatWalk1
import Derived.Test.YtdilkihonfnpcaaGreatVm13
set_option linter.constructorNameAsVariable false
set_option linter.unusedVariables false
set_option linter.unusedSimpArgs false
noncomputable section
namespace Go.Proofs.YtdilkihonfnpcaaGreat
open Go.Vm
set_option maxRecDepth 100000
set_option linter.unusedVariables false
set_option linter.constructorNameAsVariable false
noncomputable def tab32 : List (Nat × SymC) := (5, al.aliveC) :: tab31
theorem tab32_ok : TabOK Tryz.prog T tab32 := tab31_ok.cons al.aliveC_nat al.alive
noncomputable def K32 : KC := runAC Tryz.prog T tab32 false FU 4
theorem hK32 : K32.nat := runAC_nat tab32_ok 4
theorem hS32 : KOK Tryz.prog T K32.dir := runAC_ok follows T_ok tab32_ok 4
theorem run_law1 (k n m : Int) (hs rh nm : List V) (bs : List V) : runFC Tryz.prog T K32 (fun _ _ => none) false FU 3 Unit (mkAs T [28, 29] [.l [.i k, .l hs, .l [.l rh, .i n], .s nm, .i m], .l bs]) (fun _ => none) 0 tellT = qbN (rqv k (.l hs) (.l [.l rh, .i n]) nm m) nm (qbL (rqv k (.l hs) (.l [.l rh, .i n]) nm m) bs) := by kernel_rfl
theorem run_law2 (k n m : Int) (hs rh nm : List V) : runFC Tryz.prog T K32 (fun _ _ => none) false FU 3 Unit (mkAs T [28, 29] [.l [.i k, .l hs, .l [.l rh, .i n], .s nm, .i m], .n]) (fun _ => none) 0 tellT = qbN (rqv k (.l hs) (.l [.l rh, .i n]) nm m) nm (qbP (rqv k (.l hs) (.l [.l rh, .i n]) nm m) .n) := by kernel_rfl
theorem law_run (xs : List V) (hd : D.hasL [DReq, .slice (.int .u8)] xs) (hm : D.smL [DReq, .slice (.int .u8)] xs) : runFC Tryz.prog T (runAC Tryz.prog T tab32 false FU 4) (fun _ _ => none) false FU 3 Unit (mkAs T [28, 29] xs) (fun _ => none) 0 tellT = some () := by
  obtain ⟨a, b, rfl, ha, hb⟩ := hasL2 hd
  obtain ⟨m1, m2, _⟩ := hm
  have g1 := smN_ofB ha m1
  have hq := ha
  obtain ⟨k, hs, rh, n1, nm, m, rfl, _⟩ := req_v ha
  have hn : nm.length ≤ 9223372036854775807 := Nat.le_of_ble_eq_true g1
  rcases hb with rfl | ⟨ys, rfl, hys⟩
  · exact (run_law2 ..).trans (qbN_law hn (qbP_law hq g1 (by show 0 ≤ 500; omega)))
  · exact (run_law1 ..).trans (qbN_law hn (qbL_law hq g1 m2.1))
theorem law_lo : LoopsC Tryz.prog T 3 (fun _ _ => none) := loopsC_none
theorem law_nat : (runFC Tryz.prog T (runAC Tryz.prog T tab32 false FU 4) (fun _ _ => none) false FU 3).nat := runFC_nat (runAC_nat tab32_ok 4) law_lo.nat
theorem law_ok : SymOK Tryz.prog T 3 (runFC Tryz.prog T (runAC Tryz.prog T tab32 false FU 4) (fun _ _ => none) false FU 3).dir := runFC_ok follows T_ok (runAC_nat tab32_ok 4) (runAC_ok follows T_ok tab32_ok 4) law_lo.nat law_lo.ok
end Go.Proofs.YtdilkihonfnpcaaGreat
end
