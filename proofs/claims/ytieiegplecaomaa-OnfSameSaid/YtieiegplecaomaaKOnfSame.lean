/-
  For all inputs the law intarsialaw21.OnfSame returns true, and its arguments read afterwards as before.
  Conditions: those of the given row, and no others.
-/
import Derived.OpenShut
import Derived.Test.YtieiegplecaomaaKOnfSameB
namespace Go.Proofs.Ytieiegplecaomaa
open Go.ChangeShapes Go.WideShapes Go.ChangeAt Go.RowKit Go.Pm
set_option linter.unusedVariables false

theorem onfSame_pure (dss : List Dat) (h : TyAs Try.prog 9223372036854775807 Try.f8.params.toList dss) : PureCall Try.prog 8 dss (boolPV true) := by
  rw [Try.params8] at h
  obtain ⟨d1, d2, rfl, g1, g2⟩ := TyAs_two h
  obtain ⟨x1, rfl, h1⟩ := Try.ty46 g1
  obtain ⟨x2, rfl, h2⟩ := Try.ty46 g2
  exact Try.pure_of rfl (Try.w_law21_OnfSame _ _ (Try.OnfSame_ok x1 x2 h1.dims.1 h1.read.strides.1 h2.dims.1 h2.read.strides.1) [])

theorem onfSame_own : ownKnob Try.prog.godebug = none := by kernel_rfl
set_option maxRecDepth 100000 in
theorem onfSame_lifted (os : Os) (started : os.Started) (H : Type) (enc : TypeId × Value → H) :
    ReturnsInHanded {} Try.checked os 8 .any (Rows.onfSameSpec.pre6 enc Try.prog Try.f8 Rows.onfSameRow.domain false) (Rows.onfSameSpec.post enc Try.prog Try.f8 false true false false) := by
  refine returnsInHanded_of_change (C := Try.checked) onfSame_own started (by kernel_rfl) Try.func8
    (ChangeSpec.witness6 (enc := enc) (C := Try.checked) false ⟨#[], #[.agg #[.slice none 0 0, .int .i64 0, .slice none 0 0, .int .i64 0, .int .i64 0, .int .i64 0, .slice none 0 0, .int .i64 0, .int .i64 0, .int .i64 0], .agg #[.slice none 0 0, .int .i64 0, .slice none 0 0, .int .i64 0, .int .i64 0, .int .i64 0, .slice none 0 0, .int .i64 0, .int .i64 0, .int .i64 0]], []⟩ 8 (by kernel_rfl) (by kernel_rfl) (by kernel_rfl) (by kernel_rfl)) ?_
  intro W base args ds gs before hval hW _ _
  exact law_calls (P := Try.prog) (B := 9223372036854775807) (bt := 4) Try.argTs_closed Try.laidOut (by kernel_rfl) (by kernel_rfl) (by kernel_rfl) Try.ua4 rfl (fun ds h => by
      match ds, h with
      | [d1, d2], _ => rfl) onfSame_pure W base args ds gs before hval hW (Or.inl (Nat.le_refl _))

theorem OnfSame_holds : Rows.OnfSameSaid :=
  OpenClaim.holds_of_wide 8 Try.f8 rfl rfl rfl rfl rfl rfl rfl ⟨rfl, rfl, rfl, rfl, rfl⟩ rfl rfl rfl rfl rfl (by kernel_rfl) Try.func8 (by kernel_rfl)
    (of_decide_eq_true (by kernel_rfl)) (by unfold Func.isWrapper; first | (rw [if_pos (by decide +kernel)]; kernel_rfl) | (rw [if_neg (by decide +kernel)]; exact ⟨rfl, rfl⟩))
    (fun os started H enc _ => onfSame_lifted os started H enc)
end Go.Proofs.Ytieiegplecaomaa
