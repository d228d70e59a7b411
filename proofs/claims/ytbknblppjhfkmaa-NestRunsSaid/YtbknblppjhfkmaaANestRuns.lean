/-
  For all inputs the law intarsialaw23.NestRuns returns true, and its arguments read afterwards as before.
  Conditions: those of the given row, and no others.
-/
import Derived.Test.YtbknblppjhfkmaaA20
import Derived.OpenShut
namespace Go.Proofs.Ytbknblppjhfkmaa
open Go.ChangeShapes Go.WideShapes Go.ChangeAt Go.RowKit Go.Pm
set_option linter.unusedVariables false

theorem nestRuns_pure (dss : List Dat) (h : TyAs Try.prog 9223372036854775807 Try.f4.params.toList dss) : PureCall Try.prog 4 dss (boolPV true) := by
  rw [Try.params4] at h
  obtain ⟨d1, d2, d3, rfl, h1, h2, h3⟩ := TyAs_three h
  obtain ⟨l, rfl, i1, i2⟩ := Try.ty_nests h1
  obtain ⟨bufs, rfl, _, i5⟩ := Try.ty_bufs h2
  obtain ⟨m, rfl, i3, i4⟩ := Try.ty_u16 h3
  exact Try.pure_of rfl (Try.c4 l bufs m i3 i4 (Try.lensOk_of i1 i2) (fun b hb => (i5 b hb).1))

theorem nestRuns_own : ownKnob Try.prog.godebug = none := by kernel_rfl
set_option maxRecDepth 100000 in
theorem nestRuns_lifted (os : Os) (started : os.Started) (H : Type) (enc : TypeId × Value → H) :
    ReturnsInHanded {} Try.checked os 4 .any (Rows.nestRunsSpec.pre6 enc Try.prog Try.f4 Rows.nestRunsRow.domain false) (Rows.nestRunsSpec.post enc Try.prog Try.f4 false true false false) := by
  refine returnsInHanded_of_change (C := Try.checked) nestRuns_own started (by kernel_rfl) Try.func4
    (ChangeSpec.witness6 (enc := enc) (C := Try.checked) false ⟨#[], #[.slice none 0 0, .slice none 0 0, .int .u16 0], []⟩ 8 (by kernel_rfl) (by kernel_rfl) (by kernel_rfl) (by kernel_rfl)) ?_
  intro W base args ds gs before hval hW _ _
  exact law_calls (P := Try.prog) (B := 9223372036854775807) (bt := 4) Try.argTs_closed Try.laidOut (by kernel_rfl) (by kernel_rfl) (by kernel_rfl) Try.un4 rfl (fun ds h => by
      match ds, h with
      | [d1, d2, d3], _ => rfl) nestRuns_pure W base args ds gs before hval hW (Or.inl (Nat.le_refl _))

theorem NestRuns_holds : Rows.NestRunsSaid :=
  OpenClaim.holds_of_wide 4 Try.f4 rfl rfl rfl rfl rfl rfl rfl ⟨rfl, rfl, rfl, rfl, rfl⟩ rfl rfl rfl rfl rfl (by kernel_rfl) Try.func4 (by kernel_rfl)
    (of_decide_eq_true (by kernel_rfl)) (by unfold Func.isWrapper; first | (rw [if_pos (by decide +kernel)]; kernel_rfl) | (rw [if_neg (by decide +kernel)]; exact ⟨rfl, rfl⟩))
    (fun os started H enc _ => nestRuns_lifted os started H enc)
end Go.Proofs.Ytbknblppjhfkmaa
