/-
  For all inputs the law intarsialaw24.AuditExact returns true, and its arguments read afterwards as before.
  Conditions: those of the given row, and no others.
-/
import Derived.Test.YtbknblppjhfkmaaA27
import Derived.OpenShut
namespace Go.Proofs.Ytbknblppjhfkmaa
open Go.ChangeShapes Go.WideShapes Go.ChangeAt Go.RowKit Go.Pm
set_option linter.unusedVariables false

theorem auditExact_pure (dss : List Dat) (h : TyAs Try.prog 9223372036854775807 Try.f7.params.toList dss) : PureCall Try.prog 7 dss (boolPV true) := by
  rw [Try.params7] at h
  obtain ⟨d1, d2, d3, rfl, h1, h2, h3⟩ := TyAs_three h
  obtain ⟨l, rfl, i1, i2⟩ := Try.ty_nests h1
  obtain ⟨s, rfl, i3, _⟩ := Try.ty_list h2
  obtain ⟨m, rfl, _⟩ := Try.ty_i h3
  exact Try.pure_of rfl (Try.c7 l s m (Try.lensOk_of i1 i2) i3)

theorem auditExact_own : ownKnob Try.prog.godebug = none := by kernel_rfl
set_option maxRecDepth 100000 in
theorem auditExact_lifted (os : Os) (started : os.Started) (H : Type) (enc : TypeId × Value → H) :
    ReturnsInHanded {} Try.checked os 7 .any (Rows.auditExactSpec.pre6 enc Try.prog Try.f7 Rows.auditExactRow.domain false) (Rows.auditExactSpec.post enc Try.prog Try.f7 false true false false) := by
  refine returnsInHanded_of_change (C := Try.checked) auditExact_own started (by kernel_rfl) Try.func7
    (ChangeSpec.witness6 (enc := enc) (C := Try.checked) false ⟨#[], #[.slice none 0 0, .slice none 0 0, .int .i64 0], []⟩ 8 (by kernel_rfl) (by kernel_rfl) (by kernel_rfl) (by kernel_rfl)) ?_
  intro W base args ds gs before hval hW _ _
  exact law_calls (P := Try.prog) (B := 9223372036854775807) (bt := 4) Try.argTs_closed Try.laidOut (by kernel_rfl) (by kernel_rfl) (by kernel_rfl) Try.un4 rfl (fun ds h => by
      match ds, h with
      | [d1, d2, d3], _ => rfl) auditExact_pure W base args ds gs before hval hW (Or.inl (Nat.le_refl _))

theorem AuditExact_holds : Rows.AuditExactSaid :=
  OpenClaim.holds_of_wide 7 Try.f7 rfl rfl rfl rfl rfl rfl rfl ⟨rfl, rfl, rfl, rfl, rfl⟩ rfl rfl rfl rfl rfl (by kernel_rfl) Try.func7 (by kernel_rfl)
    (of_decide_eq_true (by kernel_rfl)) (by unfold Func.isWrapper; first | (rw [if_pos (by decide +kernel)]; kernel_rfl) | (rw [if_neg (by decide +kernel)]; exact ⟨rfl, rfl⟩))
    (fun os started H enc _ => auditExact_lifted os started H enc)
end Go.Proofs.Ytbknblppjhfkmaa
