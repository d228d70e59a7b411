/-
  For every list of nests and every number, of whatever size, the law intarsialaw23.NestEvents returns true, and its arguments read afterwards as before.
  Conditions: those of the given row, and no others.
-/
import Derived.Test.YtbknblppjhfkmaaA15
import Derived.OpenShut
namespace Go.Proofs.Ytbknblppjhfkmaa
open Go.ChangeShapes Go.WideShapes Go.ChangeAt Go.RowKit Go.Pm
set_option linter.unusedVariables false

theorem nestEvents_pure (dss : List Dat) (h : TyAs Try.prog 9223372036854775807 Try.f3.params.toList dss) : PureCall Try.prog 3 dss (boolPV true) := by
  rw [Try.params3] at h
  obtain ⟨d1, d2, rfl, h1, h2⟩ := TyAs_two h
  obtain ⟨l, rfl, i1, i2⟩ := Try.ty_nests h1
  obtain ⟨m, rfl, i3, i4⟩ := Try.ty_u8 h2
  exact Try.pure_of rfl (Try.c3 l m i3 i4 (Try.lensOk_of i1 i2))

theorem nestEvents_own : ownKnob Try.prog.godebug = none := by kernel_rfl
set_option maxRecDepth 100000 in
theorem nestEvents_lifted (os : Os) (started : os.Started) (H : Type) (enc : TypeId × Value → H) :
    ReturnsInHanded {} Try.checked os 3 .any (Rows.nestEventsSpec.pre6 enc Try.prog Try.f3 Rows.nestEventsRow.domain false) (Rows.nestEventsSpec.post enc Try.prog Try.f3 false true false false) := by
  refine returnsInHanded_of_change (C := Try.checked) nestEvents_own started (by kernel_rfl) Try.func3
    (ChangeSpec.witness6 (enc := enc) (C := Try.checked) false ⟨#[], #[.slice none 0 0, .int .u8 0], []⟩ 8 (by kernel_rfl) (by kernel_rfl) (by kernel_rfl) (by kernel_rfl)) ?_
  intro W base args ds gs before hval hW _ _
  exact law_calls (P := Try.prog) (B := 9223372036854775807) (bt := 4) Try.argTs_closed Try.laidOut (by kernel_rfl) (by kernel_rfl) (by kernel_rfl) Try.un4 rfl (fun ds h => by
      match ds, h with
      | [d1, d2], _ => rfl) nestEvents_pure W base args ds gs before hval hW (Or.inl (Nat.le_refl _))

theorem NestEvents_holds : Rows.NestEventsSaid :=
  OpenClaim.holds_of_wide 3 Try.f3 rfl rfl rfl rfl rfl rfl rfl ⟨rfl, rfl, rfl, rfl, rfl⟩ rfl rfl rfl rfl rfl (by kernel_rfl) Try.func3 (by kernel_rfl)
    (of_decide_eq_true (by kernel_rfl)) (by unfold Func.isWrapper; first | (rw [if_pos (by decide +kernel)]; kernel_rfl) | (rw [if_neg (by decide +kernel)]; exact ⟨rfl, rfl⟩))
    (fun os started H enc _ => nestEvents_lifted os started H enc)
end Go.Proofs.Ytbknblppjhfkmaa
