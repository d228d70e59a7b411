/-
  For all inputs the law intarsialaw19.RunsFew returns true, and its arguments read afterwards as before.
  Conditions: those of the given row, and no others.
-/
import Derived.OpenShut
import Derived.Test.YtihmepianhmphaaKRunsFewA
namespace Go.Proofs.Ytihmepianhmphaa
open Go.ChangeShapes Go.WideShapes Go.ChangeAt Go.RowKit Go.Pm
set_option linter.unusedVariables false

theorem runsFew_pure (dss : List Dat) (h : TyAs Try.prog 9223372036854775807 Try.f3.params.toList dss) : PureCall Try.prog 3 dss (boolPV true) := by
  rw [Try.params3] at h
  obtain ⟨d1, d2, d3, rfl, g1, g2, g3⟩ := TyAs_three h
  obtain ⟨x1, rfl, h1⟩ := Try.ty5 g1
  obtain ⟨x2, rfl, h2⟩ := Try.ty22 g2
  obtain ⟨x3, rfl, h3⟩ := Try.ty23 g3
  exact Try.pure_of rfl (Try.w_law19_RunsFew _ _ (Try.RunsFew_ok x1 h1 x2 h2.1 x3) [])

theorem runsFew_own : ownKnob Try.prog.godebug = none := by kernel_rfl
set_option maxRecDepth 100000 in
theorem runsFew_lifted (os : Os) (started : os.Started) (H : Type) (enc : TypeId × Value → H) :
    ReturnsInHanded {} Try.checked os 3 .any (Rows.runsFewSpec.pre6 enc Try.prog Try.f3 Rows.runsFewRow.domain false) (Rows.runsFewSpec.post enc Try.prog Try.f3 false true false false) := by
  refine returnsInHanded_of_change (C := Try.checked) runsFew_own started (by kernel_rfl) Try.func3
    (ChangeSpec.witness6 (enc := enc) (C := Try.checked) false ⟨#[], #[.int .u8 0, .slice none 0 0, .slice none 0 0], []⟩ 8 (by kernel_rfl) (by kernel_rfl) (by kernel_rfl) (by kernel_rfl)) ?_
  intro W base args ds gs before hval hW _ _
  exact law_calls (P := Try.prog) (B := 9223372036854775807) (bt := 4) Try.argTs_closed Try.laidOut (by kernel_rfl) (by kernel_rfl) (by kernel_rfl) Try.ua4 rfl (fun ds h => by
      match ds, h with
      | [d1, d2, d3], _ => rfl) runsFew_pure W base args ds gs before hval hW (Or.inl (Nat.le_refl _))

theorem RunsFew_holds : Rows.RunsFewSaid :=
  OpenClaim.holds_of_wide 3 Try.f3 rfl rfl rfl rfl rfl rfl rfl ⟨rfl, rfl, rfl, rfl, rfl⟩ rfl rfl rfl rfl rfl (by kernel_rfl) Try.func3 (by kernel_rfl)
    (of_decide_eq_true (by kernel_rfl)) (by unfold Func.isWrapper; first | (rw [if_pos (by decide +kernel)]; kernel_rfl) | (rw [if_neg (by decide +kernel)]; exact ⟨rfl, rfl⟩))
    (fun os started H enc _ => runsFew_lifted os started H enc)
end Go.Proofs.Ytihmepianhmphaa
