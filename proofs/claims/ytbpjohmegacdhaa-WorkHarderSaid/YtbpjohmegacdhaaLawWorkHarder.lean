/- For every input the law WorkHarder returns true and its arguments read as they did: no condition. -/
import Derived.Test.YtbpjohmegacdhaaWalk9
import Derived.Test.YtbpjohmegacdhaaEng5
import Derived.Test.YtbpjohmegacdhaaRows
import Derived.WalkKit
import Derived.ProofKit
import Derived.OpenShut
import Derived.JoinedOf
namespace Go.Proofs.Ytbpjohmegacdhaa.workHarder
open Go.Eng Go.ChangeShapes Go.WideShapes Go.ChangeAt Go.RowKit
set_option linter.unusedVariables false
set_option maxRecDepth 100000
theorem own : ownKnob Try.prog.godebug = none := by kernel_rfl
def R : List TypeId := [22, 48]
theorem R_ok : closedB Try.prog R = true := by kernel_rfl
theorem cellsP : Try.prog.cellsOf 48 = 2 := by kernel_rfl
theorem cells32 : Try.prog.cellsOf 22 = 1 := by kernel_rfl
theorem contract (H : Type) (enc : TypeId × Value → H) (W : World) (base : Nat) (args : Array Value) (ds gs : List (DataW H)) (before : List MemPlace)
    (hval : ∀ (j : Nat) t v, Try.f6.params[j]? = some t → args[j]? = some v → Value.okWide Try.prog W .any base t v)
    (hW : DataW.Whole enc Try.prog Try.f6.params.toList Rows.workHarderSpec.vars false W args.toList ds gs before) :
    Calls Try.prog 6 args W fun e W' => ∃ v, e = .returned v ∧ Rows.workHarderSpec.post enc Try.prog Try.f6 false true false false W args v W' := by
  have hW' := hW
  obtain ⟨p, q, hA0, hV, rfl, hfz, hnd⟩ := hW
  have hA : DataW.TrodAll enc Try.prog W 0 (fun _ => true) true Try.f6.params.toList args.toList ds p := hA0
  rw [Try.params6] at hA hval
  obtain ⟨v0, vs0, d0, ds0, p0, q0, hargs, rfl, rfl, h0, r0⟩ := trodAll_cons hA
  obtain ⟨v1, vs1, d1, ds1, p1, q1, rfl, rfl, rfl, h1, r1⟩ := trodAll_cons r0
  obtain ⟨v2, vs2, d2, ds2, p2, q2, rfl, rfl, rfl, h2, r2⟩ := trodAll_cons r1
  obtain ⟨rfl, rfl, rfl⟩ := trodAll_nil r2
  obtain rfl : args = #[v0, v1, v2] := by cases args; simp_all
  obtain ⟨rfl, rfl⟩ := trodVars_none hV
  obtain ⟨n0, b0, R0⟩ := open_nat Try.underlying22 rfl (hval 0 22 v0 rfl rfl) h0
  have m0 : IntKind.u32.max = 4294967295 := rfl
  rw [m0] at b0
  obtain ⟨n1, b1, R1⟩ := open_nat Try.underlying22 rfl (hval 1 22 v1 rfl rfl) h1
  have m1 : IntKind.u32.max = 4294967295 := rfl
  rw [m1] at b1
  obtain ⟨n2, o2, b2, c2, R2⟩ := open_two Try.underlying48 Try.underlying22 rfl cellsP cells32 (hval 2 48 v2 rfl rfl) h2
  have m2 : IntKind.u32.max = 4294967295 := rfl
  rw [m2] at b2 c2
  refine (calls_of_sym Try.func6 rfl (by kernel_rfl) (law_WorkHarder n0 n1 n2 o2 (by omega) (by omega) (by omega) (by omega)) (w := W) (.cons (R0 _) (.cons (R1 _) (.cons (R2 _) .nil)))).mono fun e W' ⟨he, hs⟩ => ?_
  subst he
  exact ⟨_, rfl, post_true R_ok (by kernel_rfl) hW' hs rfl (t := 4) (by kernel_rfl) Try.underlying4 rfl⟩
theorem lifted (os : Os) (started : os.Started) (H : Type) (enc : TypeId × Value → H) :
    ReturnsInHanded {} Try.checked os 6 .any (Rows.workHarderSpec.pre6 enc Try.prog Try.f6 Rows.workHarderRow.domain false) (Rows.workHarderSpec.post enc Try.prog Try.f6 false true false false) := by
  refine returnsInHanded_of_change (C := Try.checked) own started (by kernel_rfl) Try.func6
    (ChangeSpec.witness6 (enc := enc) (C := Try.checked) false ⟨#[], #[.int .u32 0, .int .u32 0, .agg #[.int .u32 0, .int .u32 0]], []⟩ 8 (by kernel_rfl) (by kernel_rfl) (by kernel_rfl) (by kernel_rfl)) ?_
  intro W base args ds gs before hval hW _ _
  exact contract H enc W base args ds gs before hval hW
theorem proved : Rows.WorkHarderSaid :=
  OpenClaim.holds_of_wide 6 Try.f6 rfl rfl rfl rfl rfl rfl rfl ⟨rfl, rfl, rfl, rfl, rfl⟩ rfl rfl rfl rfl rfl (by kernel_rfl) Try.func6 (by kernel_rfl)
    (of_decide_eq_true (by kernel_rfl)) (by unfold Func.isWrapper; first | (rw [if_pos (by decide +kernel)]; kernel_rfl) | (rw [if_neg (by decide +kernel)]; exact ⟨rfl, rfl⟩))
    (fun os started H enc _ => lifted os started H enc)
end Go.Proofs.Ytbpjohmegacdhaa.workHarder
