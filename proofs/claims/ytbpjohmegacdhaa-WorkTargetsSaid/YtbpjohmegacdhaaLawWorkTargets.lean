/- For every input the law WorkTargets returns true and its arguments read as they did: no condition. -/
import Derived.Test.YtbpjohmegacdhaaWalk5
import Derived.Test.YtbpjohmegacdhaaEng5
import Derived.Test.YtbpjohmegacdhaaRows
import Derived.WalkKit
import Derived.ProofKit
import Derived.OpenShut
import Derived.JoinedOf
namespace Go.Proofs.Ytbpjohmegacdhaa
open Go.Eng Go.ChangeShapes Go.WideShapes Go.ChangeAt Go.RowKit
set_option linter.unusedVariables false
set_option maxRecDepth 100000
theorem own : ownKnob Try.prog.godebug = none := by kernel_rfl
def R : List TypeId := [22, 25, 23]
theorem R_ok : closedB Try.prog R = true := by kernel_rfl
theorem cellsW : Try.prog.cellsOf 25 = 4 := by kernel_rfl
theorem cells64 : Try.prog.cellsOf 23 = 1 := by kernel_rfl

theorem contract3 (H : Type) (enc : TypeId × Value → H) (W : World) (base : Nat) (args : Array Value) (ds gs : List (DataW H)) (before : List MemPlace)
    (hval : ∀ (j : Nat) t v, Try.f3.params[j]? = some t → args[j]? = some v → Value.okWide Try.prog W .any base t v)
    (hW : DataW.Whole enc Try.prog Try.f3.params.toList Rows.workTargetsSpec.vars false W args.toList ds gs before) :
    Calls Try.prog 3 args W fun e W' => ∃ v, e = .returned v ∧ Rows.workTargetsSpec.post enc Try.prog Try.f3 false true false false W args v W' := by
  have hW' := hW
  obtain ⟨p, q, hA0, hV, rfl, hfz, hnd⟩ := hW
  have hA : DataW.TrodAll enc Try.prog W 0 (fun _ => true) true Try.f3.params.toList args.toList ds p := hA0
  rw [Try.params3] at hA hval
  obtain ⟨v0, vs0, d0, ds0, p0, q0, hargs, rfl, rfl, h0, r0⟩ := trodAll_cons hA
  obtain ⟨v1, vs1, d1, ds1, p1, q1, rfl, rfl, rfl, h1, r1⟩ := trodAll_cons r0
  obtain ⟨rfl, rfl, rfl⟩ := trodAll_nil r1
  obtain rfl : args = #[v0, v1] := by cases args; simp_all
  obtain ⟨rfl, rfl⟩ := trodVars_none hV
  obtain ⟨b, hb, R0⟩ := open_nat Try.underlying22 rfl (hval 0 22 v0 rfl rfl) h0
  obtain ⟨a, ha, R1⟩ := open_wide Try.underlying25 Try.underlying23 cellsW cells64 (hval 1 25 v1 rfl rfl) h1
  have m32 : IntKind.u32.max = 4294967295 := rfl
  rw [m32] at hb
  refine (calls_of_sym Try.func3 rfl (by kernel_rfl) (law_WorkTargets b a (by omega) ha) (w := W) (.cons (R0 _) (.cons (R1 _) .nil))).mono fun e W' ⟨he, hs⟩ => ?_
  subst he
  exact ⟨_, rfl, post_true R_ok (by kernel_rfl) hW' hs rfl (t := 4) (by kernel_rfl) Try.underlying4 rfl⟩

theorem lifted3 (os : Os) (started : os.Started) (H : Type) (enc : TypeId × Value → H) :
    ReturnsInHanded {} Try.checked os 3 .any (Rows.workTargetsSpec.pre6 enc Try.prog Try.f3 Rows.workTargetsRow.domain false) (Rows.workTargetsSpec.post enc Try.prog Try.f3 false true false false) := by
  refine returnsInHanded_of_change (C := Try.checked) own started (by kernel_rfl) Try.func3
    (ChangeSpec.witness6 (enc := enc) (C := Try.checked) false ⟨#[], #[.int .u32 0, .agg #[.int .u64 0, .int .u64 0, .int .u64 0, .int .u64 0]], []⟩ 8 (by kernel_rfl) (by kernel_rfl) (by kernel_rfl) (by kernel_rfl)) ?_
  intro W base args ds gs before hval hW _ _
  exact contract3 H enc W base args ds gs before hval hW

theorem proved : Rows.WorkTargetsSaid :=
  OpenClaim.holds_of_wide 3 Try.f3 rfl rfl rfl rfl rfl rfl rfl ⟨rfl, rfl, rfl, rfl, rfl⟩ rfl rfl rfl rfl rfl (by kernel_rfl) Try.func3 (by kernel_rfl)
    (of_decide_eq_true (by kernel_rfl)) (by unfold Func.isWrapper; first | (rw [if_pos (by decide +kernel)]; kernel_rfl) | (rw [if_neg (by decide +kernel)]; exact ⟨rfl, rfl⟩))
    (fun os started H enc _ => lifted3 os started H enc)

end Go.Proofs.Ytbpjohmegacdhaa
