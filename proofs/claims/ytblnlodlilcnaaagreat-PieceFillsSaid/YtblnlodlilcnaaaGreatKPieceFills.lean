/-
 For all inputs the law intarsialaw18.PieceFills returns true, and its arguments read afterwards as before.
 Conditions: those of the given row, and no others.
-/
import Derived.OpenShut
import Derived.Test.YtblnlodlilcnaaaGreatKPieceFillsB
namespace Go.Proofs.YtblnlodlilcnaaaGreat
open Go.ChangeShapes Go.WideShapes Go.ChangeAt Go.RowKit Go.Pm
set_option linter.unusedVariables false

theorem pieceFills_pure (dss:List Dat) (h:TyAs Tryz.prog 9223372036854775807 Tryz.f3.params.toList dss):PureCall Tryz.prog 3 dss (Qh true):=by
 rw [Tryz.params3] at h
 obtain ⟨d1,d2,d3,rfl,g1,g2,g3⟩:=TyAs_three h
 obtain ⟨x1,rfl,h1⟩:=Tryz.ty22 g1
 obtain ⟨x2,rfl,h2⟩:=Tryz.ty22 g2
 obtain ⟨x3,rfl,h3⟩:=Tryz.ty5 g3
 exact Tryz.pure_of rfl (Tryz.w_law18_PieceFills _ _ (Tryz.PieceFills_ok x1 x2 x3 h3 h1.1 h2.1) [])

theorem pieceFills_own:ownKnob Tryz.prog.godebug=none:=by kernel_rfl
set_option maxRecDepth 100000 in
theorem pieceFills_lifted (os:Os) (started:os.Started) (H:Type) (enc:TypeId × Value→H) :
  ReturnsInHanded {} Tryz.checked os 3 .any (Rows.pieceFillsSpec.pre6 enc Tryz.prog Tryz.f3 Rows.pieceFillsRow.domain false) (Rows.pieceFillsSpec.post enc Tryz.prog Tryz.f3 false true false false):=by
 refine returnsInHanded_of_change (C:=Tryz.checked) pieceFills_own started (by kernel_rfl) Tryz.func3
  (ChangeSpec.witness6 (enc:=enc) (C:=Tryz.checked) false ⟨#[],#[.slice none 0 0,.slice none 0 0,.int .u8 0],[]⟩ 8 (by kernel_rfl) (by kernel_rfl) (by kernel_rfl) (by kernel_rfl)) ?_
 intro W base args ds gs before hval hW _ _
 exact law_calls (P:=Tryz.prog) (B:=9223372036854775807) (bt:=4) Tryz.argTs_closed Tryz.laidOut (by kernel_rfl) (by kernel_rfl) (by kernel_rfl) Tryz.ua4 rfl (fun ds h=>by
   match ds,h with
   | [d1,d2,d3],_=>rfl) pieceFills_pure W base args ds gs before hval hW (Or.inl (Nat.le_refl _))

theorem PieceFills_holds : Rows.PieceFillsSaid :=
 OpenClaim.holds_of_wide 3 Tryz.f3 rfl rfl rfl rfl rfl rfl rfl ⟨rfl,rfl,rfl,rfl,rfl⟩ rfl rfl rfl rfl rfl (by kernel_rfl) Tryz.func3 (by kernel_rfl)
  (of_decide_eq_true (by kernel_rfl)) (by unfold Func.isWrapper; first|(rw [if_pos (by decide +kernel)]; kernel_rfl)|(rw [if_neg (by decide +kernel)]; exact ⟨rfl,rfl⟩))
  (fun os started H enc _=>pieceFills_lifted os started H enc)
end Go.Proofs.YtblnlodlilcnaaaGreat
