/-
 For all inputs the law 'intarsialaw15.ElabRight' returns true, and its arguments read afterwards as before.
 Conditions: those of the given row, and no others.
-/
import Derived.Test.YtlnecbnmhhjdpaaGreatDoorPmTab
import Derived.Test.YtlnecbnmhhjdpaaGreatDoorTie
import Derived.Test.YtlnecbnmhhjdpaaGreatDoorCards
import Derived.OpenShut
import Derived.ProofKit
import Derived.LaidMore
import Derived.Stop.Joined
import Derived.SevenTiedAt
import Derived.Test.YtlnecbnmhhjdpaaGreatDoorKElabRightD
namespace Go.Proofs.YtlnecbnmhhjdpaaGreatDoor
open Go.ChangeShapes Go.WideShapes Go.ChangeAt Go.RowKit Go.Pm
set_option linter.unusedVariables false

theorem elabRight_pure (dss:List Dat) (h:TyAs Tryz.prog reachBytes Tryz.f3.params.toList dss):PureCall Tryz.prog 3 dss (Qm true):=by
 rw [Tryz.params3] at h
 obtain ⟨d1,d2,rfl,g1,g2⟩:=TyAs_two h
 obtain ⟨x1,rfl,h1⟩:=Tryz.ty22 g1
 obtain ⟨x2,rfl,h2⟩:=Tryz.ty26 g2
 exact Tryz.pure_of rfl (Tryz.w_law15_ElabRight _ _ (Tryz.ElabRight_of x1 x2 h2) [])

theorem elabRight_own:ownKnob Tryz.prog.godebug=none:=by kernel_rfl
theorem elabRight_g0 : Tryz.prog.globalNamed "intarsia/core.kinds" = some 0 := by kernel_rfl
theorem elabRight_t0:(Tryz.prog.globals[0]?).map (·.type)=some 132:=by kernel_rfl
theorem elabRight_glob {W : World} (h : laidMetH Tryz.prog [("intarsia/core.kinds", Rows.laid_intarsia_core_kinds)] W) : GlobRep (gS fun b _ => b < W.heap.size) W := by
 intro gl cs hc
 unfold globOf at hc
 split at hc
 ·cases hc
  exact glob_of_funcs' (k:=6) (h.funcs (List.mem_singleton.2 rfl)) elabRight_g0 elabRight_t0 (by kernel_rfl)
 ·cases hc
theorem elabRight_met (os : Os) (args : Array Value) : laidMetH Tryz.prog [("intarsia/core.kinds", Rows.laid_intarsia_core_kinds)] ((World.doorLaid Tryz.prog 22 os).forCall (fun _ _ => 0) ⟨#[], args, []⟩).memory :=
 laidMetH_of_parts3 (fuel:=8) (laidMet_of_run' 8 (by kernel_rfl) (by kernel_rfl)) (by kernel_rfl) (by kernel_rfl)
set_option maxRecDepth 100000 in
theorem elabRight_lifted (os:Os) (started:os.Started) (H:Type) (enc:TypeId × Value→H) :
  ReturnsInHanded {} Tryz.checked os 3 .any (fun w args => (Rows.elabRightSpec.pre enc Tryz.prog Tryz.f3 [] false w args ∧ laidMetH Tryz.prog [("intarsia/core.kinds", Rows.laid_intarsia_core_kinds)] w) ∧ sizedMet enc Tryz.prog Tryz.f3 (OpenSpec.ofChange Rows.elabRightSpec) false w args)
   (Rows.elabRightSpec.post enc Tryz.prog Tryz.f3 false true false false):=by
 refine returnsInHanded_of_change_and (C := Tryz.checked) (X := fun w _ => laidMetH Tryz.prog [("intarsia/core.kinds", Rows.laid_intarsia_core_kinds)] w) (fun _ _ _ hh h => h.of_heap hh) elabRight_own started (by kernel_rfl) Tryz.func3
  (ChangeSpec.witness_shaped (enc := enc) (C := Tryz.checked) (os := os) (X := fun w _ => laidMetH Tryz.prog [("intarsia/core.kinds", Rows.laid_intarsia_core_kinds)] w) false (World.doorLaid Tryz.prog 22 os) #[.slice none 0 0, .agg #[.int .i64 0, .int .i64 0, .int .i64 0, .string ByteArray.empty, .slice none 0 0, .slice none 0 0]] 8 rfl (World.shaped_of_RefB (by kernel_rfl) (by kernel_rfl)) (by kernel_rfl) (by kernel_rfl) (by kernel_rfl) (elabRight_met os _)) ?_
 intro W base args ds gs before hval hW _ hz hL _
 exact law_calls_sized (P:=Tryz.prog) (bt:=4) Tryz.argTs_closed Tryz.laidOut (by kernel_rfl) (by kernel_rfl) (by kernel_rfl) Tryz.ua4 rfl (fun ds h=>by
   match ds,h with
   | [d1,d2],_=>rfl) elabRight_pure W base args ds gs before hval hW hz (elabRight_glob hL)

theorem ElabRight_row:Rows.ElabRightSaid :=
 OpenClaim.holds_of_wide 3 Tryz.f3 rfl rfl rfl rfl rfl rfl rfl ⟨rfl,rfl,rfl,rfl,rfl⟩ rfl rfl rfl rfl rfl (by kernel_rfl) Tryz.func3 (by kernel_rfl)
  (of_decide_eq_true (by kernel_rfl)) (by unfold Func.isWrapper; first|(rw [if_pos (by decide +kernel)]; kernel_rfl)|(rw [if_neg (by decide +kernel)]; exact ⟨rfl,rfl⟩))
  (fun os started H enc _=>elabRight_lifted os started H enc)

theorem ElabRight_holds : Rows.ElabRightCardSaid :=
 Claim7.holds_tied_plain_at .later [] [.funcs] true (true, "0043eab8ecfbe8cf4aa9a0075be90c9b98aca7848b22e445e2cd416a4d41d19f") false
  ElabRight_row (fun _ h=>by cases h) (by kernel_rfl) (fun _ h=>by cases h) elabRight_row_tie rfl ⟨rfl,rfl⟩ (by kernel_rfl) rfl
  (fun f fn hf hfn=>by
   obtain rfl : f = 3 := Option.some.inj ((show Tryz.prog.funcNamed "intarsia/intarsialaw15.ElabRight" = some 3 by kernel_rfl).symm.trans hf) |>.symm
   obtain rfl:fn=Tryz.f3:=(Option.some.inj (Tryz.func3.symm.trans hfn)).symm
   exact ⟨by kernel_rfl,fun j t ht=>by
    rw [Tryz.params3] at ht
    have hm:t∈([22,26]:List Nat):=by
     have:=List.mem_of_getElem? (l:=[22,26]) (i:=j) (by simpa using ht)
     exact this
    exact (show ∀ t∈([22,26]:List Nat),Tryz.prog.wantsStandIn t=false by
     intro t ht
     simp only [List.mem_cons,List.not_mem_nil,or_false] at ht
     rcases ht with rfl|rfl <;> kernel_rfl) t hm⟩)
  (by kernel_rfl)
end Go.Proofs.YtlnecbnmhhjdpaaGreatDoor
