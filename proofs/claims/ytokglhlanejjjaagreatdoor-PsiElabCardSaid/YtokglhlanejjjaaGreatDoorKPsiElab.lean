/-
 For all inputs the law 'intarsialaw16.PsiElab' returns true, and its arguments read afterwards as before.
 Conditions: those of the given row, and no others.
-/
import Derived.Test.YtokglhlanejjjaaGreatDoorPmTab
import Derived.Test.YtokglhlanejjjaaGreatDoorTie
import Derived.Test.YtokglhlanejjjaaGreatDoorCards
import Derived.OpenShut
import Derived.ProofKit
import Derived.LaidMore
import Derived.Stop.Joined
import Derived.SevenTiedAt
import Derived.Test.YtokglhlanejjjaaGreatDoorKPsiElabD
namespace Go.Proofs.YtokglhlanejjjaaGreatDoor
open Go.ChangeShapes Go.WideShapes Go.ChangeAt Go.RowKit Go.Pm
set_option linter.all false

theorem psiElab_pure (dss:List Dat) (h:TyAs Tryz.prog reachBytes Tryz.f3.params.toList dss):PureCall Tryz.prog 3 dss (Qm true):=by
 rw [Tryz.params3] at h;obtain ⟨d1,d2,rfl,g1,g2⟩:=TyAs_two h;obtain ⟨x1,rfl,h1⟩:=Tryz.ty22 g1;obtain ⟨x2,rfl,h2⟩:=Tryz.ty26 g2;exact Tryz.pure_of rfl (Tryz.w_law16_PsiElab _ _ (Tryz.PsiElab_of x1 x2 h2) [])

theorem psiElab_own:ownKnob Tryz.prog.godebug=none:=by kernel_rfl
theorem psiElab_g0 : Tryz.prog.globalNamed "intarsia/core.kinds" = some 0 := by kernel_rfl
theorem psiElab_t0:(Tryz.prog.globals[0]?).map (·.type)=some 160:=by kernel_rfl
theorem psiElab_glob {W : World} (h : laidMetH Tryz.prog [("intarsia/core.kinds", Rows.laid_intarsia_core_kinds)] W) : GlobRep (gS fun b _ => b < W.heap.size) W := by
 intro gl cs hc;unfold globOf at hc;split at hc
 ·cases hc;exact glob_of_funcs' (k:=6) (h.funcs (List.mem_singleton.2 rfl)) psiElab_g0 psiElab_t0 (by kernel_rfl)
 ·cases hc
theorem psiElab_met (os : Os) (args : Array Value) : laidMetH Tryz.prog [("intarsia/core.kinds", Rows.laid_intarsia_core_kinds)] ((World.doorLaid Tryz.prog 22 os).forCall (fun _ _ => 0) ⟨#[], args, []⟩).memory :=
 laidMetH_of_parts3 (fuel:=8) (laidMet_of_run' 8 (by kernel_rfl) (by kernel_rfl)) (by kernel_rfl) (by kernel_rfl)
set_option maxRecDepth 100000 in
theorem psiElab_lifted (os:Os) (started:os.Started) (H:Type) (enc:TypeId × Value→H) :
  ReturnsInHanded {} Tryz.checked os 3 .any (fun w args => (Rows.psiElabSpec.pre enc Tryz.prog Tryz.f3 [] false w args ∧ laidMetH Tryz.prog [("intarsia/core.kinds", Rows.laid_intarsia_core_kinds)] w) ∧ sizedMet enc Tryz.prog Tryz.f3 (OpenSpec.ofChange Rows.psiElabSpec) false w args)
   (Rows.psiElabSpec.post enc Tryz.prog Tryz.f3 false true false false):=by
 refine returnsInHanded_of_change_and (C := Tryz.checked) (X := fun w _ => laidMetH Tryz.prog [("intarsia/core.kinds", Rows.laid_intarsia_core_kinds)] w) (fun _ _ _ hh h => h.of_heap hh) psiElab_own started (by kernel_rfl) Tryz.func3
  (ChangeSpec.witness_shaped (enc := enc) (C := Tryz.checked) (os := os) (X := fun w _ => laidMetH Tryz.prog [("intarsia/core.kinds", Rows.laid_intarsia_core_kinds)] w) false (World.doorLaid Tryz.prog 22 os) #[.slice none 0 0, .agg #[.int .i64 0, .int .i64 0, .int .i64 0, .string ByteArray.empty, .slice none 0 0, .slice none 0 0]] 8 rfl (World.shaped_of_RefB (by kernel_rfl) (by kernel_rfl)) (by kernel_rfl) (by kernel_rfl) (by kernel_rfl) (psiElab_met os _)) ?_
 intro W base args ds gs before hval hW _ hz hL _
 exact law_calls_sized (P:=Tryz.prog) (bt:=4) Tryz.argTs_closed Tryz.laidOut (by kernel_rfl) (by kernel_rfl) (by kernel_rfl) Tryz.ua4 rfl (fun ds h=>by
   match ds,h with
   | [d1,d2],_=>rfl) psiElab_pure W base args ds gs before hval hW hz (psiElab_glob hL)

theorem PsiElab_row:Rows.PsiElabSaid :=
 OpenClaim.holds_of_wide 3 Tryz.f3 rfl rfl rfl rfl rfl rfl rfl ⟨rfl,rfl,rfl,rfl,rfl⟩ rfl rfl rfl rfl rfl (by kernel_rfl) Tryz.func3 (by kernel_rfl)
  (of_decide_eq_true (by kernel_rfl)) (by unfold Func.isWrapper; first|(rw [if_pos (by decide +kernel)]; kernel_rfl)|(rw [if_neg (by decide +kernel)]; exact ⟨rfl,rfl⟩))
  (fun os started H enc _=>psiElab_lifted os started H enc)

theorem PsiElab_holds : Rows.PsiElabCardSaid :=
 Claim7.holds_tied_plain_at .later [] [.funcs] true (true, "403c65b25cdbda4c10cdbdf4df77ef6161b2ed922baf16d87c6f2d281cc2b5dd") false
  PsiElab_row (fun _ h=>by cases h) (by kernel_rfl) (fun _ h=>by cases h) psiElab_row_tie rfl ⟨rfl,rfl⟩ (by kernel_rfl) rfl
  (fun f fn hf hfn=>by
   obtain rfl : f = 3 := jR ((show Tryz.prog.funcNamed "intarsia/intarsialaw16.PsiElab" = some 3 by kernel_rfl).symm.trans hf) |>.symm
   obtain rfl:fn=Tryz.f3:=(jR (Tryz.func3.symm.trans hfn)).symm
   exact ⟨by kernel_rfl,fun j t ht=>by
    rw [Tryz.params3] at ht
    have hm:t∈([22,26]:List Nat):=by
     have:=jE (l:=[22,26]) (i:=j) (by simpa using ht);exact this
    exact (show ∀ t∈([22,26]:List Nat),Tryz.prog.wantsStandIn t=false by
     intro t ht;simp only [List.mem_cons,List.not_mem_nil,or_false] at ht;rcases ht with rfl|rfl <;> kernel_rfl) t hm⟩)
  (by kernel_rfl)
end Go.Proofs.YtokglhlanejjjaaGreatDoor
