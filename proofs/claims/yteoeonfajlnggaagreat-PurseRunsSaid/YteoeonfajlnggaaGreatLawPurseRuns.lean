/- For every input the law PurseRuns returns true and its arguments read as they did: no condition. -/
import Derived.Test.YteoeonfajlnggaaGreatWalk2
import Derived.Test.YteoeonfajlnggaaGreatRows
import Derived.WalkKit
import Derived.ProofKit
import Derived.OpenShut
import Derived.JoinedOf
set_option linter.constructorNameAsVariable false
set_option linter.unusedVariables false
set_option linter.unusedSimpArgs false
namespace Go.Proofs.YteoeonfajlnggaaGreat.purseRuns
open Go.Vm Go.ChangeShapes Go.WideShapes Go.ChangeAt Go.RowKit
set_option linter.unusedVariables false
set_option maxRecDepth 100000
theorem own:ownKnob Tryz.prog.godebug=none:=by kernel_rfl
def R:List TypeId:=[2,53,27,23,25,41,39,5,24,71,38,35,22,45,43,4]
theorem D9r:A6K Tryz.prog R=true:=by kernel_rfl
theorem contract (H:Type) (enc:TypeId×Value→H) (W:World) (T4:Nat) (args:Array Value) (ds gs:List (DataW H)) (before:List MemPlace)
  (hval:∀ (j:Nat) t v,Tryz.f4.params[j]? = some t→args[j]? = some v→Value.okWide Tryz.prog W .any T4 t v)
  (hW:DataW.Whole enc Tryz.prog Tryz.f4.params.toList Rows.purseRunsSpec.vars false W args.toList ds gs before) :
  Calls Tryz.prog 4 args W fun e W'=>∃ v,e=.returned v∧Rows.purseRunsSpec.post enc Tryz.prog Tryz.f4 false true false false W args v W':=by
 have hW':=hW
 obtain ⟨p,q,hA0,hV,rfl,hfz,hnd⟩:=hW
 have hA:DataW.TrodAll enc Tryz.prog W 0 (fun _=>true) true Tryz.f4.params.toList args.toList ds p:=hA0
 rw [Tryz.params4] at hA hval
 have ho:=C0q B4 [22,53,2] (n:=40) (Ds:=[.slice R7,.slice DTx,.int .i64]) args.toList (by kernel_rfl) hA (fun j t v h1 h2=>hval j t v (by simpa using h1) (by simpa using h2))
 obtain ⟨v0,vs0,d0,ds0,p0,q0,hargs,rfl,rfl,h0,r0⟩:=trodAll_cons hA
 obtain ⟨v1,vs1,d1,ds1,p1,q1,rfl,rfl,rfl,h1,r1⟩:=trodAll_cons r0
 obtain ⟨v2,vs2,d2,ds2,p2,q2,rfl,rfl,rfl,h2,r2⟩:=trodAll_cons r1
 obtain ⟨rfl,rfl,rfl⟩:=trodAll_nil r2
 obtain ⟨rfl,rfl⟩:=trodVars_none hV
 refine (C0r B4 Tryz.func4 rfl (by kernel_rfl) law_ok law_nat (ts:=[22,53,2]) (by kernel_rfl) 40 (Ds:=[.slice R7,.slice DTx,.int .i64]) (by kernel_rfl) law_run (w:=W) ho).mono fun e W' ⟨he,hs⟩=>?_
 subst he
 exact ⟨_,rfl,C0l D9r (by kernel_rfl) hW' hs rfl (t:=4) (by kernel_rfl) Tryz.underlying4 rfl⟩
theorem lifted (os:Os) (started:os.Started) (H:Type) (enc:TypeId×Value→H) :
  ReturnsInHanded {} Tryz.checked os 4 .any (Rows.purseRunsSpec.pre6 enc Tryz.prog Tryz.f4 Rows.purseRunsRow.domain false) (Rows.purseRunsSpec.post enc Tryz.prog Tryz.f4 false true false false):=by
 refine returnsInHanded_of_change (C:=Tryz.checked) own started (by kernel_rfl) Tryz.func4
  (ChangeSpec.witness6 (enc:=enc) (C:=Tryz.checked) false ⟨#[],#[.slice none 0 0,.slice none 0 0,.int .i64 0],[]⟩ 8 (by kernel_rfl) (by kernel_rfl) (by kernel_rfl) (by kernel_rfl)) ?_
 intro W T4 args ds gs before hval hW _ _
 exact contract H enc W T4 args ds gs before hval hW
theorem proved:Rows.PurseRunsSaid :=
 OpenClaim.holds_of_wide 4 Tryz.f4 rfl rfl rfl rfl rfl rfl rfl ⟨rfl,rfl,rfl,rfl,rfl⟩ rfl rfl rfl rfl rfl (by kernel_rfl) Tryz.func4 (by kernel_rfl)
  (of_decide_eq_true (by kernel_rfl)) (by unfold Func.isWrapper;first | (rw [if_pos (by decide +kernel)];kernel_rfl) | (rw [if_neg (by decide +kernel)];exact ⟨rfl,rfl⟩))
  (fun os started H enc _=>lifted os started H enc)
end Go.Proofs.YteoeonfajlnggaaGreat.purseRuns