/-
 For all inputs the law intarsialaw20.DnfFew returns true, and its arguments read afterwards as before.
 Conditions: those of the given row, and no others.
-/
import Derived.OpenShut
import Derived.Test.YtjcfpjpdopfefaaGreatKDnfFewF
namespace Go.Proofs.YtjcfpjpdopfefaaGreat
open Go.ChangeShapes Go.WideShapes Go.ChangeAt Go.RowKit Go.Pm
set_option linter.all false
theorem BT(c:List fy)(h:Ei Tryz.prog 9223372036854775807 Tryz.f6.params.toList c):mH Tryz.prog 6 c (Qp true):=by
 rw[Tryz.params6]at h;obtain⟨s,d,rfl,e,q1⟩:=qo h;obtain⟨t,f,rfl,g,q2⟩:=qo q1;obtain⟨u,j,rfl,k,q3⟩:=qo q2;obtain⟨v,l,rfl,m,q4⟩:=qo q3;obtain rfl:=K5 q4;obtain⟨n,rfl,w⟩:=Tryz.ty25 e;obtain⟨p,rfl,x⟩:=Tryz.ty26 g;obtain⟨q,rfl,y⟩:=Tryz.ty5 k;obtain⟨r,rfl,z⟩:=Tryz.ty5 m;exact Tryz.pure_of rfl (Tryz.w_law20_DnfFew _ _ (Tryz.DnfFew_ok n p q r y8 y8) [])
theorem D8:ownKnob Tryz.prog.godebug=none:=by kernel_rfl
set_option maxRecDepth 100000 in
theorem xC(os:Os)(c:os.Started)(H:Type)(enc:TypeId×Value->H):
  ReturnsInHanded {} Tryz.checked os 6 .any (Rows.dnfFewSpec.pre6 enc Tryz.prog Tryz.f6 Rows.dnfFewRow.domain false) (Rows.dnfFewSpec.post enc Tryz.prog Tryz.f6 false true false false):=by
 refine returnsInHanded_of_change (C:=Tryz.checked) D8 c (by kernel_rfl) Tryz.func6
  (ChangeSpec.witness6 (enc:=enc) (C:=Tryz.checked) false ⟨#[],#[.agg #[.int .i64 0,.slice none 0 0,.int .i64 0,.slice none 0 0,.int .i64 0,.int .i64 0,.slice none 0 0,.slice none 0 0],.slice none 0 0,.int .u8 0,.int .u8 0],[]⟩ 8 (by kernel_rfl) (by kernel_rfl) (by kernel_rfl) (by kernel_rfl)) ?_
 intro W base args ds gs d e f _ _
 exact Hm (P:=Tryz.prog) (B:=9223372036854775807) (bt:=4) Tryz.argTs_closed Tryz.laidOut (by kernel_rfl) (by kernel_rfl) (by kernel_rfl) Tryz.ua4 rfl (λds h=>by
   match ds,h with
   |[g,j,k,l],_=>rfl) BT W base args ds gs d e f (Or.inl (j7 _))
theorem DnfFew_holds : Rows.DnfFewSaid :=
 OpenClaim.holds_of_wide 6 Tryz.f6 rfl rfl rfl rfl rfl rfl rfl ⟨rfl,rfl,rfl,rfl,rfl⟩ rfl rfl rfl rfl rfl (by kernel_rfl) Tryz.func6 (by kernel_rfl)
  (of_decide_eq_true (by kernel_rfl)) (by unfold Func.isWrapper; first|(rw [ai (by decide +kernel)]; kernel_rfl)|(rw [af (by decide +kernel)]; exact ⟨rfl,rfl⟩))
  (fun os started H enc _=>xC os started H enc)
end Go.Proofs.YtjcfpjpdopfefaaGreat
