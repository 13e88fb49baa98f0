/- For every input the law WorkMedian returns true and its arguments read as they did: no condition. -/
import Derived.Test.YtgnfgafiegimoaaWalk1
import Derived.Test.YtgnfgafiegimoaaRows
import Derived.WalkKit
import Derived.ProofKit
import Derived.OpenShut
import Derived.JoinedOf
set_option linter.constructorNameAsVariable false
set_option linter.unusedVariables false
set_option linter.unusedSimpArgs false
namespace Go.Proofs.Ytgnfgafiegimoaa.workMedian
open Go.Vm Go.ChangeShapes Go.WideShapes Go.ChangeAt Go.RowKit
set_option linter.unusedVariables false
set_option maxRecDepth 100000
theorem own:ownKnob Try.prog.godebug=none:=by kernel_rfl
def R:List TypeId:=[29,22]
theorem C6B:A4g Try.prog R=true:=by kernel_rfl
theorem contract (H:Type) (enc:TypeId×Value→H) (W:World) (P1:Nat) (args:Array Value) (ds gs:List (DataW H)) (before:List MemPlace)
  (hval:∀ (j:Nat) t v,Try.f4.params[j]? = some t→args[j]? = some v→Value.okWide Try.prog W .any P1 t v)
  (hW:DataW.Whole enc Try.prog Try.f4.params.toList Rows.workMedianSpec.vars false W args.toList ds gs before) :
  Calls Try.prog 4 args W fun e W'=>∃ v,e=.returned v∧Rows.workMedianSpec.post enc Try.prog Try.f4 false true false false W args v W':=by
 have hW':=hW
 obtain ⟨p,q,hA0,hV,rfl,hfz,hnd⟩:=hW
 have hA:DataW.TrodAll enc Try.prog W 0 (fun _=>true) true Try.f4.params.toList args.toList ds p:=hA0
 rw [Try.params4] at hA hval
 have ho:=B4N E6 [29] (n:=40) (Ds:=[.slice (.int .u32)]) args.toList (by kernel_rfl) hA (fun j t v h1 h2=>hval j t v (by simpa using h1) (by simpa using h2))
 obtain ⟨v0,vs0,d0,ds0,p0,q0,hargs,rfl,rfl,h0,r0⟩:=trodAll_cons hA
 obtain ⟨rfl,rfl,rfl⟩:=trodAll_nil r0
 obtain ⟨rfl,rfl⟩:=trodVars_none hV
 refine (B4O E6 Try.func4 rfl (by kernel_rfl) law_ok law_nat (ts:=[29]) (by kernel_rfl) 40 (Ds:=[.slice (.int .u32)]) (by kernel_rfl) law_run (w:=W) ho).mono fun e W' ⟨he,hs⟩=>?_
 subst he
 exact ⟨_,rfl,B4K C6B (by kernel_rfl) hW' hs rfl (t:=4) (by kernel_rfl) Try.underlying4 rfl⟩
theorem lifted (os:Os) (started:os.Started) (H:Type) (enc:TypeId×Value→H) :
  ReturnsInHanded {} Try.checked os 4 .any (Rows.workMedianSpec.pre6 enc Try.prog Try.f4 Rows.workMedianRow.domain false) (Rows.workMedianSpec.post enc Try.prog Try.f4 false true false false):=by
 refine returnsInHanded_of_change (C:=Try.checked) own started (by kernel_rfl) Try.func4
  (ChangeSpec.witness6 (enc:=enc) (C:=Try.checked) false ⟨#[],#[.slice none 0 0],[]⟩ 8 (by kernel_rfl) (by kernel_rfl) (by kernel_rfl) (by kernel_rfl)) ?_
 intro W P1 args ds gs before hval hW _ _
 exact contract H enc W P1 args ds gs before hval hW
theorem proved:Rows.WorkMedianSaid :=
 OpenClaim.holds_of_wide 4 Try.f4 rfl rfl rfl rfl rfl rfl rfl ⟨rfl,rfl,rfl,rfl,rfl⟩ rfl rfl rfl rfl rfl (by kernel_rfl) Try.func4 (by kernel_rfl)
  (of_decide_eq_true (by kernel_rfl)) (by unfold Func.isWrapper;first | (rw [if_pos (by decide +kernel)];kernel_rfl) | (rw [if_neg (by decide +kernel)];exact ⟨rfl,rfl⟩))
  (fun os started H enc _=>lifted os started H enc)
end Go.Proofs.Ytgnfgafiegimoaa.workMedian