/-
  For all inputs the law intarsialaw21.OnfCollapses returns true, and its arguments read afterwards as before.
  Conditions: those of the given row, and no others.
-/
import Derived.OpenShut
import Derived.Test.YtieiegplecaomaaKOnfCollapsesB
namespace Go.Proofs.Ytieiegplecaomaa
open Go.ChangeShapes Go.WideShapes Go.ChangeAt Go.RowKit Go.Pm
set_option linter.unusedVariables false

theorem onfCollapses_pure (dss : List Dat) (h : TyAs Try.prog 9223372036854775807 Try.f6.params.toList dss) : PureCall Try.prog 6 dss (boolPV true) := by
  rw [Try.params6] at h
  obtain ⟨d1, rfl, g1⟩ := TyAs_one h
  obtain ⟨x1, rfl, h1⟩ := Try.ty46 g1
  exact Try.pure_of rfl (Try.w_law21_OnfCollapses _ _ (Try.OnfCollapses_ok x1 h1.dims.1 h1.read.strides.1) [])

theorem onfCollapses_own : ownKnob Try.prog.godebug = none := by kernel_rfl
set_option maxRecDepth 100000 in
theorem onfCollapses_lifted (os : Os) (started : os.Started) (H : Type) (enc : TypeId × Value → H) :
    ReturnsInHanded {} Try.checked os 6 .any (Rows.onfCollapsesSpec.pre6 enc Try.prog Try.f6 Rows.onfCollapsesRow.domain false) (Rows.onfCollapsesSpec.post enc Try.prog Try.f6 false true false false) := by
  refine returnsInHanded_of_change (C := Try.checked) onfCollapses_own started (by kernel_rfl) Try.func6
    (ChangeSpec.witness6 (enc := enc) (C := Try.checked) false ⟨#[], #[.agg #[.slice none 0 0, .int .i64 0, .slice none 0 0, .int .i64 0, .int .i64 0, .int .i64 0, .slice none 0 0, .int .i64 0, .int .i64 0, .int .i64 0]], []⟩ 8 (by kernel_rfl) (by kernel_rfl) (by kernel_rfl) (by kernel_rfl)) ?_
  intro W base args ds gs before hval hW _ _
  exact law_calls (P := Try.prog) (B := 9223372036854775807) (bt := 4) Try.argTs_closed Try.laidOut (by kernel_rfl) (by kernel_rfl) (by kernel_rfl) Try.ua4 rfl (fun ds h => by
      match ds, h with
      | [d1], _ => rfl) onfCollapses_pure W base args ds gs before hval hW (Or.inl (Nat.le_refl _))

theorem OnfCollapses_holds : Rows.OnfCollapsesSaid :=
  OpenClaim.holds_of_wide 6 Try.f6 rfl rfl rfl rfl rfl rfl rfl ⟨rfl, rfl, rfl, rfl, rfl⟩ rfl rfl rfl rfl rfl (by kernel_rfl) Try.func6 (by kernel_rfl)
    (of_decide_eq_true (by kernel_rfl)) (by unfold Func.isWrapper; first | (rw [if_pos (by decide +kernel)]; kernel_rfl) | (rw [if_neg (by decide +kernel)]; exact ⟨rfl, rfl⟩))
    (fun os started H enc _ => onfCollapses_lifted os started H enc)
end Go.Proofs.Ytieiegplecaomaa
