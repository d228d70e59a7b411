/-
  For all inputs the law intarsialaw21.OnfRounds returns true, and its arguments read afterwards as before.
  Conditions: those of the given row, and no others.
-/
import Derived.OpenShut
import Derived.Test.YtieiegplecaomaaKOnfRoundsA
namespace Go.Proofs.Ytieiegplecaomaa
open Go.ChangeShapes Go.WideShapes Go.ChangeAt Go.RowKit Go.Pm
set_option linter.unusedVariables false

theorem onfRounds_pure (dss : List Dat) (h : TyAs Try.prog 9223372036854775807 Try.f7.params.toList dss) : PureCall Try.prog 7 dss (boolPV true) := by
  rw [Try.params7] at h
  obtain ⟨d1, rfl, g1⟩ := TyAs_one h
  obtain ⟨x1, rfl, h1⟩ := Try.ty46 g1
  exact Try.pure_of rfl (Try.w_law21_OnfRounds _ _ (Try.OnfRounds_ok x1 h1.dims.1 h1.read.strides.1) [])

theorem onfRounds_own : ownKnob Try.prog.godebug = none := by kernel_rfl
set_option maxRecDepth 100000 in
theorem onfRounds_lifted (os : Os) (started : os.Started) (H : Type) (enc : TypeId × Value → H) :
    ReturnsInHanded {} Try.checked os 7 .any (Rows.onfRoundsSpec.pre6 enc Try.prog Try.f7 Rows.onfRoundsRow.domain false) (Rows.onfRoundsSpec.post enc Try.prog Try.f7 false true false false) := by
  refine returnsInHanded_of_change (C := Try.checked) onfRounds_own started (by kernel_rfl) Try.func7
    (ChangeSpec.witness6 (enc := enc) (C := Try.checked) false ⟨#[], #[.agg #[.slice none 0 0, .int .i64 0, .slice none 0 0, .int .i64 0, .int .i64 0, .int .i64 0, .slice none 0 0, .int .i64 0, .int .i64 0, .int .i64 0]], []⟩ 8 (by kernel_rfl) (by kernel_rfl) (by kernel_rfl) (by kernel_rfl)) ?_
  intro W base args ds gs before hval hW _ _
  exact law_calls (P := Try.prog) (B := 9223372036854775807) (bt := 4) Try.argTs_closed Try.laidOut (by kernel_rfl) (by kernel_rfl) (by kernel_rfl) Try.ua4 rfl (fun ds h => by
      match ds, h with
      | [d1], _ => rfl) onfRounds_pure W base args ds gs before hval hW (Or.inl (Nat.le_refl _))

theorem OnfRounds_holds : Rows.OnfRoundsSaid :=
  OpenClaim.holds_of_wide 7 Try.f7 rfl rfl rfl rfl rfl rfl rfl ⟨rfl, rfl, rfl, rfl, rfl⟩ rfl rfl rfl rfl rfl (by kernel_rfl) Try.func7 (by kernel_rfl)
    (of_decide_eq_true (by kernel_rfl)) (by unfold Func.isWrapper; first | (rw [if_pos (by decide +kernel)]; kernel_rfl) | (rw [if_neg (by decide +kernel)]; exact ⟨rfl, rfl⟩))
    (fun os started H enc _ => onfRounds_lifted os started H enc)
end Go.Proofs.Ytieiegplecaomaa
