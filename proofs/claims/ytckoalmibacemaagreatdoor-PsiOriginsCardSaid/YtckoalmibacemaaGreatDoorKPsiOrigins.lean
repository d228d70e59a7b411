/-
  For all inputs the law 'intarsialaw16.PsiOrigins' returns true, and its arguments read afterwards as before.
  Conditions: those of the given row, and no others.
-/
import Derived.Test.YtckoalmibacemaaGreatDoorPmTab
import Derived.Test.YtckoalmibacemaaGreatDoorTie
import Derived.Test.YtckoalmibacemaaGreatDoorCards
import Derived.OpenShut
import Derived.ProofKit
import Derived.LaidMore
import Derived.Stop.Joined
import Derived.SevenTiedAt
import Derived.Test.YtckoalmibacemaaGreatDoorKPsiOriginsC
namespace Go.Proofs.YtckoalmibacemaaGreatDoor
open Go.ChangeShapes Go.WideShapes Go.ChangeAt Go.RowKit Go.Pm
set_option linter.unusedVariables false

theorem psiOrigins_pure (dss : List Dat) (h : TyAs Tryz.prog 9223372036854775807 Tryz.f4.params.toList dss) : PureCall Tryz.prog 4 dss (boolPV true) := by
  rw [Tryz.params4] at h
  obtain ⟨d1, d2, rfl, g1, g2⟩ := TyAs_two h
  obtain ⟨x1, rfl, h1⟩ := Tryz.ty30 g1
  obtain ⟨x2, rfl, h2⟩ := Tryz.ty54 g2
  exact Tryz.pure_of rfl (Tryz.w_law16_PsiOrigins _ _ (Tryz.PsiOrigins_ok x1 x2) [])

theorem psiOrigins_own : ownKnob Tryz.prog.godebug = none := by kernel_rfl
theorem psiOrigins_g0 : Tryz.prog.globalNamed "intarsia/core.kinds" = some 0 := by kernel_rfl
theorem psiOrigins_t0 : (Tryz.prog.globals[0]?).map (·.type) = some 148 := by kernel_rfl
/-- what the row says of its package variables -/
theorem psiOrigins_glob {W : World} (h : laidMetH Tryz.prog [("intarsia/core.kinds", Rows.laid_intarsia_core_kinds)] W) : GlobRep (gS fun b _ => b < W.heap.size) W := by
  intro gl cs hc
  unfold globOf at hc
  split at hc
  · cases hc
    exact glob_of_funcs' (k := 6) (h.funcs (List.mem_singleton.2 rfl)) psiOrigins_g0 psiOrigins_t0 (by kernel_rfl)
  · cases hc
/-- the door's own heap meets the condition -/
theorem psiOrigins_met (os : Os) (args : Array Value) : laidMetH Tryz.prog [("intarsia/core.kinds", Rows.laid_intarsia_core_kinds)] ((World.doorLaid Tryz.prog 22 os).forCall (fun _ _ => 0) ⟨#[], args, []⟩).memory :=
  laidMetH_of_parts3 (fuel := 8) (laidMet_of_run' 8 (by kernel_rfl) (by kernel_rfl)) (by kernel_rfl) (by kernel_rfl)
set_option maxRecDepth 100000 in
theorem psiOrigins_lifted (os : Os) (started : os.Started) (H : Type) (enc : TypeId × Value → H) :
    ReturnsInHanded {} Tryz.checked os 4 .any (fun w args => (Rows.psiOriginsSpec.pre enc Tryz.prog Tryz.f4 [] false w args ∧ laidMetH Tryz.prog [("intarsia/core.kinds", Rows.laid_intarsia_core_kinds)] w) ∧ sizedMet enc Tryz.prog Tryz.f4 (OpenSpec.ofChange Rows.psiOriginsSpec) false w args)
      (Rows.psiOriginsSpec.post enc Tryz.prog Tryz.f4 false true false false) := by
  refine returnsInHanded_of_change_and (C := Tryz.checked) (X := fun w _ => laidMetH Tryz.prog [("intarsia/core.kinds", Rows.laid_intarsia_core_kinds)] w) (fun _ _ _ hh h => h.of_heap hh) psiOrigins_own started (by kernel_rfl) Tryz.func4
    (ChangeSpec.witness_shaped (enc := enc) (C := Tryz.checked) (os := os) (X := fun w _ => laidMetH Tryz.prog [("intarsia/core.kinds", Rows.laid_intarsia_core_kinds)] w) false (World.doorLaid Tryz.prog 22 os) #[.agg #[.int .i64 0, .slice none 0 0, .int .i64 0, .slice none 0 0, .int .i64 0, .int .i64 0, .slice none 0 0, .slice none 0 0], .slice none 0 0] 8 rfl (World.shaped_of_RefB (by kernel_rfl) (by kernel_rfl)) (by kernel_rfl) (by kernel_rfl) (by kernel_rfl) (psiOrigins_met os _)) ?_
  intro W base args ds gs before hval hW _ _ hL _
  exact law_calls (P := Tryz.prog) (B := 9223372036854775807) (bt := 4) Tryz.argTs_closed Tryz.laidOut (by kernel_rfl) (by kernel_rfl) (by kernel_rfl) Tryz.ua4 rfl (fun ds h => by
      match ds, h with
      | [d1, d2], _ => rfl) psiOrigins_pure W base args ds gs before hval hW (Or.inl (Nat.le_refl _)) (psiOrigins_glob hL)

theorem PsiOrigins_row : Rows.PsiOriginsSaid :=
  OpenClaim.holds_of_wide 4 Tryz.f4 rfl rfl rfl rfl rfl rfl rfl ⟨rfl, rfl, rfl, rfl, rfl⟩ rfl rfl rfl rfl rfl (by kernel_rfl) Tryz.func4 (by kernel_rfl)
    (of_decide_eq_true (by kernel_rfl)) (by unfold Func.isWrapper; first | (rw [if_pos (by decide +kernel)]; kernel_rfl) | (rw [if_neg (by decide +kernel)]; exact ⟨rfl, rfl⟩))
    (fun os started H enc _ => psiOrigins_lifted os started H enc)

theorem PsiOrigins_holds : Rows.PsiOriginsCardSaid :=
  Claim7.holds_tied_plain_at .later [] [.funcs] true (true, "cc1c2037d2b6576d82505e4ace6ee7db75e32be5bcac00099fd75ab1736310a6") false
    PsiOrigins_row (fun _ h => by cases h) (by kernel_rfl) (fun _ h => by cases h) psiOrigins_row_tie rfl ⟨rfl, rfl⟩ (by kernel_rfl) rfl
    (fun f fn hf hfn => by
      obtain rfl : f = 4 := Option.some.inj ((show Tryz.prog.funcNamed "intarsia/intarsialaw16.PsiOrigins" = some 4 by kernel_rfl).symm.trans hf) |>.symm
      obtain rfl : fn = Tryz.f4 := (Option.some.inj (Tryz.func4.symm.trans hfn)).symm
      exact ⟨by kernel_rfl, fun j t ht => by
        rw [Tryz.params4] at ht
        have hm : t ∈ ([30, 54] : List Nat) := by
          have := List.mem_of_getElem? (l := [30, 54]) (i := j) (by simpa using ht)
          exact this
        exact (show ∀ t ∈ ([30, 54] : List Nat), Tryz.prog.wantsStandIn t = false by
          intro t ht
          simp only [List.mem_cons, List.not_mem_nil, or_false] at ht
          rcases ht with rfl | rfl <;> kernel_rfl) t hm⟩)
    (by kernel_rfl)
end Go.Proofs.YtckoalmibacemaaGreatDoor
