/- For every input the law NamingChecks returns true and its arguments read as they did: no condition. -/
import Derived.Test.YtadjkmffodhmbaaGreatWalk2
import Derived.Test.YtadjkmffodhmbaaGreatRows
import Derived.WalkKit
import Derived.ProofKit
import Derived.OpenShut
import Derived.JoinedOf
set_option linter.constructorNameAsVariable false
set_option linter.unusedVariables false
set_option linter.unusedSimpArgs false
namespace Go.Proofs.YtadjkmffodhmbaaGreat.namingChecks
open Go.Vm Go.ChangeShapes Go.WideShapes Go.ChangeAt Go.RowKit
set_option linter.unusedVariables false
set_option maxRecDepth 100000
theorem own : ownKnob Tryz.prog.godebug = none := by kernel_rfl
def R : List TypeId := [28, 43, 41, 4, 2, 39, 37, 5, 36, 23, 34, 27, 25, 24, 90, 22, 65, 9]
theorem C99 : A4K Tryz.prog R = true := by kernel_rfl
theorem contract (H : Type) (enc : TypeId × Value → H) (W : World) (Q8 : Nat) (args : Array Value) (ds gs : List (DataW H)) (before : List MemPlace)
  (hval : ∀ (j : Nat) t v, Tryz.f3.params[j]? = some t → args[j]? = some v → Value.okWide Tryz.prog W .any Q8 t v)
  (hW : DataW.Whole enc Tryz.prog Tryz.f3.params.toList Rows.namingChecksSpec.vars false W args.toList ds gs before) :
  Calls Tryz.prog 3 args W fun e W' => ∃ v, e = .returned v ∧ Rows.namingChecksSpec.post enc Tryz.prog Tryz.f3 false true false false W args v W' := by
 have hW' := hW
 obtain ⟨p, q, hA0, hV, rfl, hfz, hnd⟩ := hW
 have hA : DataW.TrodAll enc Tryz.prog W 0 (fun _ => true) true Tryz.f3.params.toList args.toList ds p := hA0
 rw [Tryz.params3] at hA hval
 have ho := B3W B9 [22, 27, 28] (n := 40) (Ds := [.slice A1d, DTx, .slice A3S]) args.toList (by kernel_rfl) hA (fun j t v h1 h2 => hval j t v (by simpa using h1) (by simpa using h2))
 obtain ⟨v0, vs0, d0, ds0, p0, q0, hargs, rfl, rfl, h0, r0⟩ := trodAll_cons hA
 obtain ⟨v1, vs1, d1, ds1, p1, q1, rfl, rfl, rfl, h1, r1⟩ := trodAll_cons r0
 obtain ⟨v2, vs2, d2, ds2, p2, q2, rfl, rfl, rfl, h2, r2⟩ := trodAll_cons r1
 obtain ⟨rfl, rfl, rfl⟩ := trodAll_nil r2
 obtain ⟨rfl, rfl⟩ := trodVars_none hV
 refine (B3X B9 Tryz.func3 rfl (by kernel_rfl) law_ok law_nat (ts := [22, 27, 28]) (by kernel_rfl) 40 (Ds := [.slice A1d, DTx, .slice A3S]) (by kernel_rfl) law_run (w := W) ho).mono fun e W' ⟨he, hs⟩ => ?_
 subst he
 exact ⟨_, rfl, B3T C99 (by kernel_rfl) hW' hs rfl (t := 4) (by kernel_rfl) Tryz.underlying4 rfl⟩
theorem lifted (os : Os) (started : os.Started) (H : Type) (enc : TypeId × Value → H) :
  ReturnsInHanded {} Tryz.checked os 3 .any (Rows.namingChecksSpec.pre6 enc Tryz.prog Tryz.f3 Rows.namingChecksRow.domain false) (Rows.namingChecksSpec.post enc Tryz.prog Tryz.f3 false true false false) := by
 refine returnsInHanded_of_change (C := Tryz.checked) own started (by kernel_rfl) Tryz.func3
  (ChangeSpec.witness6 (enc := enc) (C := Tryz.checked) false ⟨#[], #[.slice none 0 0, .agg #[.int .u32 0, .slice none 0 0, .slice none 0 0, .int .u32 0], .slice none 0 0], []⟩ 8 (by kernel_rfl) (by kernel_rfl) (by kernel_rfl) (by kernel_rfl)) ?_
 intro W Q8 args ds gs before hval hW _ _
 exact contract H enc W Q8 args ds gs before hval hW
theorem proved : Rows.NamingChecksSaid :=
 OpenClaim.holds_of_wide 3 Tryz.f3 rfl rfl rfl rfl rfl rfl rfl ⟨rfl, rfl, rfl, rfl, rfl⟩ rfl rfl rfl rfl rfl (by kernel_rfl) Tryz.func3 (by kernel_rfl)
  (of_decide_eq_true (by kernel_rfl)) (by unfold Func.isWrapper; first | (rw [if_pos (by decide +kernel)]; kernel_rfl) | (rw [if_neg (by decide +kernel)]; exact ⟨rfl, rfl⟩))
  (fun os started H enc _ => lifted os started H enc)
end Go.Proofs.YtadjkmffodhmbaaGreat.namingChecks