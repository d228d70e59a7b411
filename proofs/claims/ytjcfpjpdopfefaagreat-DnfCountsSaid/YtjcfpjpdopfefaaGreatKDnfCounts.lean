/-
 For all inputs the law intarsialaw20.DnfCounts returns true, and its arguments read afterwards as before.
 Conditions: those of the given row, and no others.
-/
import Derived.OpenShut
import Derived.Test.YtjcfpjpdopfefaaGreatKDnfCountsD
namespace Go.Proofs.YtjcfpjpdopfefaaGreat
open Go.ChangeShapes Go.WideShapes Go.ChangeAt Go.RowKit Go.Pm
set_option linter.unusedVariables false

theorem dnfCounts_pure (dss:List Dat) (h:TyAs Tryz.prog 9223372036854775807 Tryz.f4.params.toList dss):PureCall Tryz.prog 4 dss (Qq true):=by
 rw [Tryz.params4] at h;obtain ⟨d1,d2,rfl,g1,g2⟩:=TyAs_two h;obtain ⟨x1,rfl,h1⟩:=Tryz.ty25 g1;obtain ⟨x2,rfl,h2⟩:=Tryz.ty26 g2;exact Tryz.pure_of rfl (Tryz.w_law20_DnfCounts _ _ (Tryz.DnfCounts_ok x1 x2) [])

theorem dnfCounts_own:ownKnob Tryz.prog.godebug=none:=by kernel_rfl
set_option maxRecDepth 100000 in
theorem dnfCounts_lifted (os:Os) (started:os.Started) (H:Type) (enc:TypeId × Value→H) :
  ReturnsInHanded {} Tryz.checked os 4 .any (Rows.dnfCountsSpec.pre6 enc Tryz.prog Tryz.f4 Rows.dnfCountsRow.domain false) (Rows.dnfCountsSpec.post enc Tryz.prog Tryz.f4 false true false false):=by
 refine returnsInHanded_of_change (C:=Tryz.checked) dnfCounts_own started (by kernel_rfl) Tryz.func4
  (ChangeSpec.witness6 (enc:=enc) (C:=Tryz.checked) false ⟨#[],#[.agg #[.int .i64 0,.slice none 0 0,.int .i64 0,.slice none 0 0,.int .i64 0,.int .i64 0,.slice none 0 0,.slice none 0 0],.slice none 0 0],[]⟩ 8 (by kernel_rfl) (by kernel_rfl) (by kernel_rfl) (by kernel_rfl)) ?_
 intro W base args ds gs before hval hW _ _
 exact law_calls (P:=Tryz.prog) (B:=9223372036854775807) (bt:=4) Tryz.argTs_closed Tryz.laidOut (by kernel_rfl) (by kernel_rfl) (by kernel_rfl) Tryz.ua4 rfl (fun ds h=>by
   match ds,h with
   | [d1,d2],_=>rfl) dnfCounts_pure W base args ds gs before hval hW (Or.inl (j7 _))

theorem DnfCounts_holds : Rows.DnfCountsSaid :=
 OpenClaim.holds_of_wide 4 Tryz.f4 rfl rfl rfl rfl rfl rfl rfl ⟨rfl,rfl,rfl,rfl,rfl⟩ rfl rfl rfl rfl rfl (by kernel_rfl) Tryz.func4 (by kernel_rfl)
  (of_decide_eq_true (by kernel_rfl)) (by unfold Func.isWrapper; first|(rw [if_pos (by decide +kernel)]; kernel_rfl)|(rw [if_neg (by decide +kernel)]; exact ⟨rfl,rfl⟩))
  (fun os started H enc _=>dnfCounts_lifted os started H enc)
end Go.Proofs.YtjcfpjpdopfefaaGreat
