/-
 For all inputs the law intarsialaw20.DnfReduces returns true, and its arguments read afterwards as before.
 Conditions: those of the given row, and no others.
-/
import Derived.OpenShut
import Derived.Test.YtjcfpjpdopfefaaGreatKf
namespace Go.Proofs.YtjcfpjpdopfefaaGreat
open Option renaming none->Z
open Bool renaming true->J,false->U
open Go.ChangeShapes Go.WideShapes Go.ChangeAt Go.RowKit Go.Pm
set_option linter.all false
def vW(c:List fS)(h:Ce Tryz.prog 9223372036854775807 Tryz.f3.params.toList c):od Tryz.prog 3 c (Qp J):=by rw[Tryz.params3]at h;obtain⟨g,j,rfl,g1,d⟩:=Mk h;obtain⟨e,rfl,k⟩:=Tryz.ty25 g1;obtain⟨f,rfl,l⟩:=Tryz.ty26 d;exact Tryz.pure_of rfl<|Tryz.w_law20_DnfReduces _ _ (Tryz.DnfReduces_ok e f) []
def yf:ownKnob Tryz.prog.godebug=Z:=by kernel_rfl
set_option maxRecDepth 100000 in
theorem ur(os:Os)(c:os.Started)(H:Type)(enc:TypeId×Value->H):
  ReturnsInHanded {} Tryz.checked os 3 .any (Rows.dnfReducesSpec.pre6 enc Tryz.prog Tryz.f3 Rows.dnfReducesRow.domain U) (Rows.dnfReducesSpec.post enc Tryz.prog Tryz.f3 U J U U):=by
 refine returnsInHanded_of_change (C:=Tryz.checked) yf c (by kernel_rfl) Tryz.func3
  (ChangeSpec.witness6 (enc:=enc) (C:=Tryz.checked) U ⟨#[],#[.agg #[.int .i64 0,.slice Z 0 0,.int .i64 0,.slice Z 0 0,.int .i64 0,.int .i64 0,.slice Z 0 0,.slice Z 0 0],.slice Z 0 0],[]⟩ 8 (by kernel_rfl) (by kernel_rfl) (by kernel_rfl) (by kernel_rfl)) ?_
 intro W base args ds gs d e f _ _
 exact Ky (P:=Tryz.prog) (B:=9223372036854775807) (bt:=4) Tryz.argTs_closed Tryz.laidOut (by kernel_rfl) (by kernel_rfl) (by kernel_rfl) Tryz.ua4 rfl (λds h=>by
   match ds,h with
   |[g,j],_=>rfl) vW W base args ds gs d e f<|Or.inl<|j7 _
theorem DnfReduces_holds : Rows.DnfReducesSaid :=
 OpenClaim.holds_of_wide 3 Tryz.f3 rfl rfl rfl rfl rfl rfl rfl ⟨rfl,rfl,rfl,rfl,rfl⟩ rfl rfl rfl rfl rfl (by kernel_rfl) Tryz.func3 (by kernel_rfl)
  (of_decide_eq_true (by kernel_rfl)) (by unfold Func.isWrapper; first|(rw [aj (by decide +kernel)]; kernel_rfl)|(rw [ae (by decide +kernel)]; exact ⟨rfl,rfl⟩))
  (fun os started H enc _=>ur os started H enc)
end Go.Proofs.YtjcfpjpdopfefaaGreat
