/-
  For all inputs the law 'intarsialaw16.PsiInverts' returns true, and its arguments read afterwards as before.
  Conditions: those of the given row, and no others.
-/
import Derived.Test.YtckoalmibacemaaDoorPmTab
import Derived.Test.YtckoalmibacemaaDoorTie
import Derived.Test.YtckoalmibacemaaDoorCards
import Derived.OpenShut
import Derived.ProofKit
import Derived.LaidMore
import Derived.Stop.Joined
import Derived.SevenTiedAt
import Derived.Test.YtckoalmibacemaaDoorKPsiInvertsB
namespace Go.Proofs.YtckoalmibacemaaDoor
open Go.ChangeShapes Go.WideShapes Go.ChangeAt Go.RowKit Go.Pm
set_option linter.unusedVariables false

theorem psiInverts_pure (dss : List Dat) (h : TyAs Tryd.prog 9223372036854775807 Tryd.f3.params.toList dss) : PureCall Tryd.prog 3 dss (boolPV true) := by
  rw [Tryd.params3] at h
  obtain ⟨d1, ds1, rfl, g1, q1⟩ := TyAs_cons h
  obtain ⟨d2, ds2, rfl, g2, q2⟩ := TyAs_cons q1
  obtain ⟨d3, ds3, rfl, g3, q3⟩ := TyAs_cons q2
  obtain ⟨d4, ds4, rfl, g4, q4⟩ := TyAs_cons q3
  obtain rfl := TyAs_nil q4
  obtain ⟨x1, rfl, h1⟩ := Tryd.ty25 g1
  obtain ⟨x2, rfl, h2⟩ := Tryd.ty26 g2
  obtain ⟨x3, rfl, h3⟩ := Tryd.ty5 g3
  obtain ⟨x4, rfl, h4⟩ := Tryd.ty5 g4
  exact Tryd.pure_of rfl (Tryd.w_law16_PsiInverts _ _ (Tryd.PsiInverts_ok x1 x2 x3 x4 h3 h4) [])

theorem psiInverts_own : ownKnob Tryd.prog.godebug = none := by kernel_rfl
theorem psiInverts_g0 : Tryd.prog.globalNamed "intarsia/core.kinds" = some 0 := by kernel_rfl
theorem psiInverts_t0 : (Tryd.prog.globals[0]?).map (·.type) = some 119 := by kernel_rfl
/-- what the row says of its package variables -/
theorem psiInverts_glob {W : World} (h : laidMetH Tryd.prog [("intarsia/core.kinds", Rows.laid_intarsia_core_kinds)] W) : GlobRep (gS fun b _ => b < W.heap.size) W := by
  intro gl cs hc
  unfold globOf at hc
  split at hc
  · cases hc
    exact glob_of_funcs' (k := 6) (h.funcs (List.mem_singleton.2 rfl)) psiInverts_g0 psiInverts_t0 (by kernel_rfl)
  · cases hc
/-- the door's own heap meets the condition -/
theorem psiInverts_met (os : Os) (args : Array Value) : laidMetH Tryd.prog [("intarsia/core.kinds", Rows.laid_intarsia_core_kinds)] ((World.doorLaid Tryd.prog 22 os).forCall (fun _ _ => 0) ⟨#[], args, []⟩).memory :=
  laidMetH_of_parts3 (fuel := 8) (laidMet_of_run' 8 (by kernel_rfl) (by kernel_rfl)) (by kernel_rfl) (by kernel_rfl)
set_option maxRecDepth 100000 in
theorem psiInverts_lifted (os : Os) (started : os.Started) (H : Type) (enc : TypeId × Value → H) :
    ReturnsInHanded {} Tryd.checked os 3 .any (fun w args => (Rows.psiInvertsSpec.pre enc Tryd.prog Tryd.f3 [] false w args ∧ laidMetH Tryd.prog [("intarsia/core.kinds", Rows.laid_intarsia_core_kinds)] w) ∧ sizedMet enc Tryd.prog Tryd.f3 (OpenSpec.ofChange Rows.psiInvertsSpec) false w args)
      (Rows.psiInvertsSpec.post enc Tryd.prog Tryd.f3 false true false false) := by
  refine returnsInHanded_of_change_and (C := Tryd.checked) (X := fun w _ => laidMetH Tryd.prog [("intarsia/core.kinds", Rows.laid_intarsia_core_kinds)] w) (fun _ _ _ hh h => h.of_heap hh) psiInverts_own started (by kernel_rfl) Tryd.func3
    (ChangeSpec.witness_shaped (enc := enc) (C := Tryd.checked) (os := os) (X := fun w _ => laidMetH Tryd.prog [("intarsia/core.kinds", Rows.laid_intarsia_core_kinds)] w) false (World.doorLaid Tryd.prog 22 os) #[.agg #[.int .i64 0, .slice none 0 0, .int .i64 0, .slice none 0 0, .int .i64 0, .int .i64 0, .slice none 0 0, .slice none 0 0], .slice none 0 0, .int .u8 0, .int .u8 0] 8 rfl (World.shaped_of_RefB (by kernel_rfl) (by kernel_rfl)) (by kernel_rfl) (by kernel_rfl) (by kernel_rfl) (psiInverts_met os _)) ?_
  intro W base args ds gs before hval hW _ _ hL _
  exact law_calls (P := Tryd.prog) (B := 9223372036854775807) (bt := 4) Tryd.argTs_closed Tryd.laidOut (by kernel_rfl) (by kernel_rfl) (by kernel_rfl) Tryd.ua4 rfl (fun ds h => by
      match ds, h with
      | [d1, d2, d3, d4], _ => rfl) psiInverts_pure W base args ds gs before hval hW (Or.inl (Nat.le_refl _)) (psiInverts_glob hL)

theorem PsiInverts_row : Rows.PsiInvertsSaid :=
  OpenClaim.holds_of_wide 3 Tryd.f3 rfl rfl rfl rfl rfl rfl rfl ⟨rfl, rfl, rfl, rfl, rfl⟩ rfl rfl rfl rfl rfl (by kernel_rfl) Tryd.func3 (by kernel_rfl)
    (of_decide_eq_true (by kernel_rfl)) (by unfold Func.isWrapper; first | (rw [if_pos (by decide +kernel)]; kernel_rfl) | (rw [if_neg (by decide +kernel)]; exact ⟨rfl, rfl⟩))
    (fun os started H enc _ => psiInverts_lifted os started H enc)

theorem PsiInverts_holds : Rows.PsiInvertsCardSaid :=
  Claim7.holds_tied_plain_at .later [] [.funcs] true (true, "20cc117b091ed8466d5845bf4cde607f101b35abf33aaeae834f9db9bab61ef1") false
    PsiInverts_row (fun _ h => by cases h) (by kernel_rfl) (fun _ h => by cases h) psiInverts_row_tie rfl ⟨rfl, rfl⟩ (by kernel_rfl) rfl
    (fun f fn hf hfn => by
      obtain rfl : f = 3 := Option.some.inj ((show Tryd.prog.funcNamed "intarsia/intarsialaw16.PsiInverts" = some 3 by kernel_rfl).symm.trans hf) |>.symm
      obtain rfl : fn = Tryd.f3 := (Option.some.inj (Tryd.func3.symm.trans hfn)).symm
      exact ⟨by kernel_rfl, fun j t ht => by
        rw [Tryd.params3] at ht
        have hm : t ∈ ([25, 26, 5, 5] : List Nat) := by
          have := List.mem_of_getElem? (l := [25, 26, 5, 5]) (i := j) (by simpa using ht)
          exact this
        exact (show ∀ t ∈ ([25, 26, 5, 5] : List Nat), Tryd.prog.wantsStandIn t = false by
          intro t ht
          simp only [List.mem_cons, List.not_mem_nil, or_false] at ht
          rcases ht with rfl | rfl | rfl | rfl <;> kernel_rfl) t hm⟩)
    (by kernel_rfl)
end Go.Proofs.YtckoalmibacemaaDoor
