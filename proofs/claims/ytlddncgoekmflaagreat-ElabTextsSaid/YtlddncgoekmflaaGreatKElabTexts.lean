/-
 For all inputs the law intarsialaw15.ElabTexts returns true, and its arguments read afterwards as before.
 Conditions: those of the given row, and no others.
-/
import Derived.OpenShut
import Derived.Test.YtlddncgoekmflaaGreatKElabTextsD
namespace Go.Proofs.YtlddncgoekmflaaGreat
open Go.ChangeShapes Go.WideShapes Go.ChangeAt Go.RowKit Go.Pm
set_option linter.unusedVariables false

theorem elabTexts_pure (dss:List Dat) (h:TyAs Tryz.prog 9223372036854775807 Tryz.f3.params.toList dss):PureCall Tryz.prog 3 dss (Qo true):=by
 rw [Tryz.params3] at h
 obtain ⟨d1,d2,rfl,g1,g2⟩:=TyAs_two h
 obtain ⟨x1,rfl,h1⟩:=Tryz.ty22 g1
 obtain ⟨x2,rfl,h2⟩:=Tryz.ty9 g2
 exact Tryz.pure_of rfl (Tryz.w_law15_ElabTexts _ _ (Tryz.ElabTexts_ok x1 x2) [])

theorem elabTexts_own:ownKnob Tryz.prog.godebug=none:=by kernel_rfl
set_option maxRecDepth 100000 in
theorem elabTexts_lifted (os:Os) (started:os.Started) (H:Type) (enc:TypeId × Value→H) :
  ReturnsInHanded {} Tryz.checked os 3 .any (Rows.elabTextsSpec.pre6 enc Tryz.prog Tryz.f3 Rows.elabTextsRow.domain false) (Rows.elabTextsSpec.post enc Tryz.prog Tryz.f3 false true false false):=by
 refine returnsInHanded_of_change (C:=Tryz.checked) elabTexts_own started (by kernel_rfl) Tryz.func3
  (ChangeSpec.witness6 (enc:=enc) (C:=Tryz.checked) false ⟨#[],#[.slice none 0 0,.string ByteArray.empty],[]⟩ 8 (by kernel_rfl) (by kernel_rfl) (by kernel_rfl) (by kernel_rfl)) ?_
 intro W base args ds gs before hval hW _ _
 exact law_calls (P:=Tryz.prog) (B:=9223372036854775807) (bt:=4) Tryz.argTs_closed Tryz.laidOut (by kernel_rfl) (by kernel_rfl) (by kernel_rfl) Tryz.ua4 rfl (fun ds h=>by
   match ds,h with
   | [d1,d2],_=>rfl) elabTexts_pure W base args ds gs before hval hW (Or.inl (Nat.le_refl _))

theorem ElabTexts_holds : Rows.ElabTextsSaid :=
 OpenClaim.holds_of_wide 3 Tryz.f3 rfl rfl rfl rfl rfl rfl rfl ⟨rfl,rfl,rfl,rfl,rfl⟩ rfl rfl rfl rfl rfl (by kernel_rfl) Tryz.func3 (by kernel_rfl)
  (of_decide_eq_true (by kernel_rfl)) (by unfold Func.isWrapper; first|(rw [if_pos (by decide +kernel)]; kernel_rfl)|(rw [if_neg (by decide +kernel)]; exact ⟨rfl,rfl⟩))
  (fun os started H enc _=>elabTexts_lifted os started H enc)
end Go.Proofs.YtlddncgoekmflaaGreat
