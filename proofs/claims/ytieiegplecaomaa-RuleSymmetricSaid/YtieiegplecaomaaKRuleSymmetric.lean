/-
  For all inputs the law intarsialaw13.RuleSymmetric returns true, and its arguments read afterwards as before.
  Conditions: those of the given row, and no others.
-/
import Derived.OpenShut
import Derived.Test.YtieiegplecaomaaKRuleSymmetricB
namespace Go.Proofs.Ytieiegplecaomaa
open Go.ChangeShapes Go.WideShapes Go.ChangeAt Go.RowKit Go.Pm
set_option linter.unusedVariables false

theorem ruleSymmetric_pure (dss : List Dat) (h : TyAs Try.prog 9223372036854775807 Try.f3.params.toList dss) : PureCall Try.prog 3 dss (boolPV true) := by
  rw [Try.params3] at h
  obtain ⟨d1, ds1, rfl, g1, q1⟩ := TyAs_cons h
  obtain ⟨d2, ds2, rfl, g2, q2⟩ := TyAs_cons q1
  obtain ⟨d3, ds3, rfl, g3, q3⟩ := TyAs_cons q2
  obtain ⟨d4, ds4, rfl, g4, q4⟩ := TyAs_cons q3
  obtain rfl := TyAs_nil q4
  obtain ⟨x1, rfl, h1⟩ := Try.ty3 g1
  obtain ⟨x2, rfl, h2⟩ := Try.ty22 g2
  obtain ⟨x3, rfl, h3⟩ := Try.ty22 g3
  obtain ⟨x4, rfl, h4⟩ := Try.ty23 g4
  exact Try.pure_of rfl (Try.w_law13_RuleSymmetric _ _ (Try.RuleSymmetric_ok x1 x2 x3 x4 h2.1 h3.1) [])

theorem ruleSymmetric_own : ownKnob Try.prog.godebug = none := by kernel_rfl
set_option maxRecDepth 100000 in
theorem ruleSymmetric_lifted (os : Os) (started : os.Started) (H : Type) (enc : TypeId × Value → H) :
    ReturnsInHanded {} Try.checked os 3 .any (Rows.ruleSymmetricSpec.pre6 enc Try.prog Try.f3 Rows.ruleSymmetricRow.domain false) (Rows.ruleSymmetricSpec.post enc Try.prog Try.f3 false true false false) := by
  refine returnsInHanded_of_change (C := Try.checked) ruleSymmetric_own started (by kernel_rfl) Try.func3
    (ChangeSpec.witness6 (enc := enc) (C := Try.checked) false ⟨#[], #[.int .i64 0, .slice none 0 0, .slice none 0 0, .slice none 0 0], []⟩ 8 (by kernel_rfl) (by kernel_rfl) (by kernel_rfl) (by kernel_rfl)) ?_
  intro W base args ds gs before hval hW _ _
  exact law_calls (P := Try.prog) (B := 9223372036854775807) (bt := 4) Try.argTs_closed Try.laidOut (by kernel_rfl) (by kernel_rfl) (by kernel_rfl) Try.ua4 rfl (fun ds h => by
      match ds, h with
      | [d1, d2, d3, d4], _ => rfl) ruleSymmetric_pure W base args ds gs before hval hW (Or.inl (Nat.le_refl _))

theorem RuleSymmetric_holds : Rows.RuleSymmetricSaid :=
  OpenClaim.holds_of_wide 3 Try.f3 rfl rfl rfl rfl rfl rfl rfl ⟨rfl, rfl, rfl, rfl, rfl⟩ rfl rfl rfl rfl rfl (by kernel_rfl) Try.func3 (by kernel_rfl)
    (of_decide_eq_true (by kernel_rfl)) (by unfold Func.isWrapper; first | (rw [if_pos (by decide +kernel)]; kernel_rfl) | (rw [if_neg (by decide +kernel)]; exact ⟨rfl, rfl⟩))
    (fun os started H enc _ => ruleSymmetric_lifted os started H enc)
end Go.Proofs.Ytieiegplecaomaa
