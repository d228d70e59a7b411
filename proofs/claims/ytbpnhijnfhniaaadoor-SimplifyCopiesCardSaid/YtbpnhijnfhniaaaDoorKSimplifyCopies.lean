/-
  For all inputs the law 'intarsialaw29.SimplifyCopies' returns true, and its arguments read afterwards as before.
  Conditions: those of the given row, and no others.
-/
import Derived.Test.YtbpnhijnfhniaaaDoorPmTab
import Derived.Test.YtbpnhijnfhniaaaDoorTie
import Derived.Test.YtbpnhijnfhniaaaDoorCards
import Derived.OpenShut
import Derived.ProofKit
import Derived.LaidMore
import Derived.Stop.Joined
import Derived.SevenTiedAt
import Derived.Test.YtbpnhijnfhniaaaDoorKSimplifyCopiesA
namespace Go.Proofs.YtbpnhijnfhniaaaDoor
open Go.ChangeShapes Go.WideShapes Go.ChangeAt Go.RowKit Go.Pm
set_option linter.unusedVariables false

theorem simplifyCopies_pure (dss : List Dat) (h : TyAs Tryd.prog reachBytes Tryd.f3.params.toList dss) : PureCall Tryd.prog 3 dss (boolPV true) := by
  rw [Tryd.params3] at h
  obtain ⟨d1, rfl, g1⟩ := TyAs_one h
  obtain ⟨x1, rfl, h1⟩ := Tryd.ty25 g1
  exact Tryd.SC_pure x1 h1

theorem simplifyCopies_own : ownKnob Tryd.prog.godebug = none := by kernel_rfl
theorem simplifyCopies_g0 : Tryd.prog.globalNamed "intarsia/simplify.rules" = some 0 := by kernel_rfl
theorem simplifyCopies_t0 : (Tryd.prog.globals[0]?).map (·.type) = some 45 := by kernel_rfl
/-- what the row says of its package variables -/
theorem simplifyCopies_glob {W : World} (h : laidMetH Tryd.prog [("intarsia/simplify.rules", Rows.laid_intarsia_simplify_rules)] W) : GlobRep (gS fun b _ => b < W.heap.size) W := by
  intro gl cs hc
  unfold globOf at hc
  split at hc
  · cases hc
    exact glob_of_funcs' (k := 6) (h.funcs (List.mem_singleton.2 rfl)) simplifyCopies_g0 simplifyCopies_t0 (by kernel_rfl)
  · cases hc
/-- the door's own heap meets the condition -/
theorem simplifyCopies_met (os : Os) (args : Array Value) : laidMetH Tryd.prog [("intarsia/simplify.rules", Rows.laid_intarsia_simplify_rules)] ((World.doorLaid Tryd.prog 22 os).forCall (fun _ _ => 0) ⟨#[], args, []⟩).memory :=
  laidMetH_of_parts3 (fuel := 8) (laidMet_of_run' 8 (by kernel_rfl) (by kernel_rfl)) (by kernel_rfl) (by kernel_rfl)
set_option maxRecDepth 100000 in
theorem simplifyCopies_lifted (os : Os) (started : os.Started) (H : Type) (enc : TypeId × Value → H) :
    ReturnsInHanded {} Tryd.checked os 3 .any (fun w args => (Rows.simplifyCopiesSpec.pre enc Tryd.prog Tryd.f3 [] false w args ∧ laidMetH Tryd.prog [("intarsia/simplify.rules", Rows.laid_intarsia_simplify_rules)] w) ∧ sizedMet enc Tryd.prog Tryd.f3 (OpenSpec.ofChange Rows.simplifyCopiesSpec) false w args)
      (Rows.simplifyCopiesSpec.post enc Tryd.prog Tryd.f3 false true false false) := by
  refine returnsInHanded_of_change_and (C := Tryd.checked) (X := fun w _ => laidMetH Tryd.prog [("intarsia/simplify.rules", Rows.laid_intarsia_simplify_rules)] w) (fun _ _ _ hh h => h.of_heap hh) simplifyCopies_own started (by kernel_rfl) Tryd.func3
    (ChangeSpec.witness_shaped (enc := enc) (C := Tryd.checked) (os := os) (X := fun w _ => laidMetH Tryd.prog [("intarsia/simplify.rules", Rows.laid_intarsia_simplify_rules)] w) false (World.doorLaid Tryd.prog 22 os) #[.agg #[.int .i64 0, .int .i64 0, .int .i64 0, .string ByteArray.empty, .slice none 0 0, .slice none 0 0]] 8 rfl (World.shaped_of_RefB (by kernel_rfl) (by kernel_rfl)) (by kernel_rfl) (by kernel_rfl) (by kernel_rfl) (simplifyCopies_met os _)) ?_
  intro W base args ds gs before hval hW _ hz hL _
  exact law_calls_sized (P := Tryd.prog) (bt := 4) Tryd.argTs_closed Tryd.laidOut (by kernel_rfl) (by kernel_rfl) (by kernel_rfl) Tryd.ua4 rfl (fun ds h => by
      match ds, h with
      | [d1], _ => rfl) simplifyCopies_pure W base args ds gs before hval hW hz (simplifyCopies_glob hL)

theorem SimplifyCopies_row : Rows.SimplifyCopiesSaid :=
  OpenClaim.holds_of_wide 3 Tryd.f3 rfl rfl rfl rfl rfl rfl rfl ⟨rfl, rfl, rfl, rfl, rfl⟩ rfl rfl rfl rfl rfl (by kernel_rfl) Tryd.func3 (by kernel_rfl)
    (of_decide_eq_true (by kernel_rfl)) (by unfold Func.isWrapper; first | (rw [if_pos (by decide +kernel)]; kernel_rfl) | (rw [if_neg (by decide +kernel)]; exact ⟨rfl, rfl⟩))
    (fun os started H enc _ => simplifyCopies_lifted os started H enc)

theorem SimplifyCopies_holds : Rows.SimplifyCopiesCardSaid :=
  Claim7.holds_tied_plain_at .later [] [.funcs] true (true, "d457a8eecfbec85074603722bc9f6e9bff7adcfd4f000bb48ac1a77254234484") false
    SimplifyCopies_row (fun _ h => by cases h) (by kernel_rfl) (fun _ h => by cases h) simplifyCopies_row_tie rfl ⟨rfl, rfl⟩ (by kernel_rfl) rfl
    (fun f fn hf hfn => by
      obtain rfl : f = 3 := Option.some.inj ((show Tryd.prog.funcNamed "intarsia/intarsialaw29.SimplifyCopies" = some 3 by kernel_rfl).symm.trans hf) |>.symm
      obtain rfl : fn = Tryd.f3 := (Option.some.inj (Tryd.func3.symm.trans hfn)).symm
      exact ⟨by kernel_rfl, fun j t ht => by
        rw [Tryd.params3] at ht
        have hm : t ∈ ([25] : List Nat) := by
          have := List.mem_of_getElem? (l := [25]) (i := j) (by simpa using ht)
          exact this
        exact (show ∀ t ∈ ([25] : List Nat), Tryd.prog.wantsStandIn t = false by
          intro t ht
          simp only [List.mem_cons, List.not_mem_nil, or_false] at ht
          subst ht; kernel_rfl) t hm⟩)
    (by kernel_rfl)
end Go.Proofs.YtbpnhijnfhniaaaDoor
