/-
  For all inputs the law 'intarsialaw14.CoreRight' returns true, and its arguments read afterwards as before.
  Conditions: those of the given row, and no others.
-/
import Derived.Test.YtpgkpgoebpgacaaDoorPmTab
import Derived.Test.YtpgkpgoebpgacaaDoorTie
import Derived.Test.YtpgkpgoebpgacaaDoorCards
import Derived.OpenShut
import Derived.ProofKit
import Derived.LaidMore
import Derived.Stop.Joined
import Derived.SevenTiedAt
import Derived.Test.YtpgkpgoebpgacaaDoorKCoreRightB
namespace Go.Proofs.YtpgkpgoebpgacaaDoor
open Go.ChangeShapes Go.WideShapes Go.ChangeAt Go.RowKit Go.Pm
set_option linter.unusedVariables false

theorem coreRight_pure (dss : List Dat) (h : TyAs Tryd.prog 9223372036854775807 Tryd.f3.params.toList dss) : PureCall Tryd.prog 3 dss (boolPV true) := by
  rw [Tryd.params3] at h
  obtain ⟨d1, d2, rfl, g1, g2⟩ := TyAs_two h
  obtain ⟨x1, rfl, h1⟩ := Tryd.ty25 g1
  obtain ⟨x2, rfl, h2⟩ := Tryd.ty26 g2
  exact Tryd.pure_of rfl (Tryd.w_law14_CoreRight _ _ (Tryd.CoreRight_ok x1 x2) [])

theorem coreRight_own : ownKnob Tryd.prog.godebug = none := by kernel_rfl
theorem coreRight_g0 : Tryd.prog.globalNamed "intarsia/core.kinds" = some 0 := by kernel_rfl
theorem coreRight_t0 : (Tryd.prog.globals[0]?).map (·.type) = some 54 := by kernel_rfl
/-- what the row says of its package variables -/
theorem coreRight_glob {W : World} (h : laidMetH Tryd.prog [("intarsia/core.kinds", Rows.laid_intarsia_core_kinds)] W) : GlobRep (gS fun b _ => b < W.heap.size) W := by
  intro gl cs hc
  unfold globOf at hc
  split at hc
  · cases hc
    exact glob_of_funcs' (k := 6) (h.funcs (List.mem_singleton.2 rfl)) coreRight_g0 coreRight_t0 (by kernel_rfl)
  · cases hc
/-- the door's own heap meets the condition -/
theorem coreRight_met (os : Os) (args : Array Value) : laidMetH Tryd.prog [("intarsia/core.kinds", Rows.laid_intarsia_core_kinds)] ((World.doorLaid Tryd.prog 22 os).forCall (fun _ _ => 0) ⟨#[], args, []⟩).memory :=
  laidMetH_of_parts3 (fuel := 8) (laidMet_of_run' 8 (by kernel_rfl) (by kernel_rfl)) (by kernel_rfl) (by kernel_rfl)
set_option maxRecDepth 100000 in
theorem coreRight_lifted (os : Os) (started : os.Started) (H : Type) (enc : TypeId × Value → H) :
    ReturnsInHanded {} Tryd.checked os 3 .any (fun w args => (Rows.coreRightSpec.pre enc Tryd.prog Tryd.f3 [] false w args ∧ laidMetH Tryd.prog [("intarsia/core.kinds", Rows.laid_intarsia_core_kinds)] w) ∧ sizedMet enc Tryd.prog Tryd.f3 (OpenSpec.ofChange Rows.coreRightSpec) false w args)
      (Rows.coreRightSpec.post enc Tryd.prog Tryd.f3 false true false false) := by
  refine returnsInHanded_of_change_and (C := Tryd.checked) (X := fun w _ => laidMetH Tryd.prog [("intarsia/core.kinds", Rows.laid_intarsia_core_kinds)] w) (fun _ _ _ hh h => h.of_heap hh) coreRight_own started (by kernel_rfl) Tryd.func3
    (ChangeSpec.witness_shaped (enc := enc) (C := Tryd.checked) (os := os) (X := fun w _ => laidMetH Tryd.prog [("intarsia/core.kinds", Rows.laid_intarsia_core_kinds)] w) false (World.doorLaid Tryd.prog 22 os) #[.agg #[.int .i64 0, .slice none 0 0, .int .i64 0, .slice none 0 0, .int .i64 0, .int .i64 0, .slice none 0 0, .slice none 0 0], .slice none 0 0] 8 rfl (World.shaped_of_RefB (by kernel_rfl) (by kernel_rfl)) (by kernel_rfl) (by kernel_rfl) (by kernel_rfl) (coreRight_met os _)) ?_
  intro W base args ds gs before hval hW _ _ hL _
  exact law_calls (P := Tryd.prog) (B := 9223372036854775807) (bt := 4) Tryd.argTs_closed Tryd.laidOut (by kernel_rfl) (by kernel_rfl) (by kernel_rfl) Tryd.ua4 rfl (fun ds h => by
      match ds, h with
      | [d1, d2], _ => rfl) coreRight_pure W base args ds gs before hval hW (Or.inl (Nat.le_refl _)) (coreRight_glob hL)

theorem CoreRight_row : Rows.CoreRightSaid :=
  OpenClaim.holds_of_wide 3 Tryd.f3 rfl rfl rfl rfl rfl rfl rfl ⟨rfl, rfl, rfl, rfl, rfl⟩ rfl rfl rfl rfl rfl (by kernel_rfl) Tryd.func3 (by kernel_rfl)
    (of_decide_eq_true (by kernel_rfl)) (by unfold Func.isWrapper; first | (rw [if_pos (by decide +kernel)]; kernel_rfl) | (rw [if_neg (by decide +kernel)]; exact ⟨rfl, rfl⟩))
    (fun os started H enc _ => coreRight_lifted os started H enc)

theorem CoreRight_holds : Rows.CoreRightCardSaid :=
  Claim7.holds_tied_plain_at .later [] [.funcs] true (true, "3b1a5366ff0b199b23f3766a7f30f5bae507a9dbe9c83d3547835ec4eeaa4126") false
    CoreRight_row (fun _ h => by cases h) (by kernel_rfl) (fun _ h => by cases h) coreRight_row_tie rfl ⟨rfl, rfl⟩ (by kernel_rfl) rfl
    (fun f fn hf hfn => by
      obtain rfl : f = 3 := Option.some.inj ((show Tryd.prog.funcNamed "intarsia/intarsialaw14.CoreRight" = some 3 by kernel_rfl).symm.trans hf) |>.symm
      obtain rfl : fn = Tryd.f3 := (Option.some.inj (Tryd.func3.symm.trans hfn)).symm
      exact ⟨by kernel_rfl, fun j t ht => by
        rw [Tryd.params3] at ht
        have hm : t ∈ ([25, 26] : List Nat) := by
          have := List.mem_of_getElem? (l := [25, 26]) (i := j) (by simpa using ht)
          exact this
        exact (show ∀ t ∈ ([25, 26] : List Nat), Tryd.prog.wantsStandIn t = false by
          intro t ht
          simp only [List.mem_cons, List.not_mem_nil, or_false] at ht
          rcases ht with rfl | rfl <;> kernel_rfl) t hm⟩)
    (by kernel_rfl)
end Go.Proofs.YtpgkpgoebpgacaaDoor
