/-
  For all inputs the law intarsialaw13.RuleRight returns true, and its arguments read afterwards as before.
  Conditions: those of the given row, and no others.
-/
import Derived.OpenShut
import Derived.Test.YtieiegplecaomaaKRuleRightB
namespace Go.Proofs.Ytieiegplecaomaa
open Go.ChangeShapes Go.WideShapes Go.ChangeAt Go.RowKit Go.Pm
set_option linter.unusedVariables false

theorem ruleRight_pure (dss : List Dat) (h : TyAs Try.prog 9223372036854775807 Try.f5.params.toList dss) : PureCall Try.prog 5 dss (boolPV true) := by
  rw [Try.params5] at h
  obtain ⟨d1, d2, d3, rfl, g1, g2, g3⟩ := TyAs_three h
  obtain ⟨x1, rfl, h1⟩ := Try.ty23 g1
  obtain ⟨x2, rfl, h2⟩ := Try.ty22 g2
  obtain ⟨x3, rfl, h3⟩ := Try.ty22 g3
  exact Try.pure_of rfl (Try.w_law13_RuleRight _ _ (Try.RuleRight_ok x1 x2 x3 h2.1 h3.1) [])

theorem ruleRight_own : ownKnob Try.prog.godebug = none := by kernel_rfl
set_option maxRecDepth 100000 in
theorem ruleRight_lifted (os : Os) (started : os.Started) (H : Type) (enc : TypeId × Value → H) :
    ReturnsInHanded {} Try.checked os 5 .any (Rows.ruleRightSpec.pre6 enc Try.prog Try.f5 Rows.ruleRightRow.domain false) (Rows.ruleRightSpec.post enc Try.prog Try.f5 false true false false) := by
  refine returnsInHanded_of_change (C := Try.checked) ruleRight_own started (by kernel_rfl) Try.func5
    (ChangeSpec.witness6 (enc := enc) (C := Try.checked) false ⟨#[], #[.slice none 0 0, .slice none 0 0, .slice none 0 0], []⟩ 8 (by kernel_rfl) (by kernel_rfl) (by kernel_rfl) (by kernel_rfl)) ?_
  intro W base args ds gs before hval hW _ _
  exact law_calls (P := Try.prog) (B := 9223372036854775807) (bt := 4) Try.argTs_closed Try.laidOut (by kernel_rfl) (by kernel_rfl) (by kernel_rfl) Try.ua4 rfl (fun ds h => by
      match ds, h with
      | [d1, d2, d3], _ => rfl) ruleRight_pure W base args ds gs before hval hW (Or.inl (Nat.le_refl _))

theorem RuleRight_holds : Rows.RuleRightSaid :=
  OpenClaim.holds_of_wide 5 Try.f5 rfl rfl rfl rfl rfl rfl rfl ⟨rfl, rfl, rfl, rfl, rfl⟩ rfl rfl rfl rfl rfl (by kernel_rfl) Try.func5 (by kernel_rfl)
    (of_decide_eq_true (by kernel_rfl)) (by unfold Func.isWrapper; first | (rw [if_pos (by decide +kernel)]; kernel_rfl) | (rw [if_neg (by decide +kernel)]; exact ⟨rfl, rfl⟩))
    (fun os started H enc _ => ruleRight_lifted os started H enc)
end Go.Proofs.Ytieiegplecaomaa
