/-
  For all inputs the law intarsialaw24.AuditUsed returns true, and its arguments read afterwards as before.
  Conditions: those of the given row, and no others.
-/
import Derived.Test.YtbknblppjhfkmaaA22
import Derived.OpenShut
namespace Go.Proofs.Ytbknblppjhfkmaa
open Go.ChangeShapes Go.WideShapes Go.ChangeAt Go.RowKit Go.Pm
set_option linter.unusedVariables false

theorem auditUsed_pure (dss : List Dat) (h : TyAs Try.prog 9223372036854775807 Try.f8.params.toList dss) : PureCall Try.prog 8 dss (boolPV true) := by
  rw [Try.params8] at h
  obtain ⟨d1, d2, rfl, h1, h2⟩ := TyAs_two h
  obtain ⟨l, rfl, i1, i2⟩ := Try.ty_nests h1
  obtain ⟨s, rfl, i3, _⟩ := Try.ty_list h2
  exact Try.pure_of rfl (Try.c8 l s (Try.lensOk_of i1 i2) i3)

theorem auditUsed_own : ownKnob Try.prog.godebug = none := by kernel_rfl
set_option maxRecDepth 100000 in
theorem auditUsed_lifted (os : Os) (started : os.Started) (H : Type) (enc : TypeId × Value → H) :
    ReturnsInHanded {} Try.checked os 8 .any (Rows.auditUsedSpec.pre6 enc Try.prog Try.f8 Rows.auditUsedRow.domain false) (Rows.auditUsedSpec.post enc Try.prog Try.f8 false true false false) := by
  refine returnsInHanded_of_change (C := Try.checked) auditUsed_own started (by kernel_rfl) Try.func8
    (ChangeSpec.witness6 (enc := enc) (C := Try.checked) false ⟨#[], #[.slice none 0 0, .slice none 0 0], []⟩ 8 (by kernel_rfl) (by kernel_rfl) (by kernel_rfl) (by kernel_rfl)) ?_
  intro W base args ds gs before hval hW _ _
  exact law_calls (P := Try.prog) (B := 9223372036854775807) (bt := 4) Try.argTs_closed Try.laidOut (by kernel_rfl) (by kernel_rfl) (by kernel_rfl) Try.un4 rfl (fun ds h => by
      match ds, h with
      | [d1, d2], _ => rfl) auditUsed_pure W base args ds gs before hval hW (Or.inl (Nat.le_refl _))

theorem AuditUsed_holds : Rows.AuditUsedSaid :=
  OpenClaim.holds_of_wide 8 Try.f8 rfl rfl rfl rfl rfl rfl rfl ⟨rfl, rfl, rfl, rfl, rfl⟩ rfl rfl rfl rfl rfl (by kernel_rfl) Try.func8 (by kernel_rfl)
    (of_decide_eq_true (by kernel_rfl)) (by unfold Func.isWrapper; first | (rw [if_pos (by decide +kernel)]; kernel_rfl) | (rw [if_neg (by decide +kernel)]; exact ⟨rfl, rfl⟩))
    (fun os started H enc _ => auditUsed_lifted os started H enc)
end Go.Proofs.Ytbknblppjhfkmaa
