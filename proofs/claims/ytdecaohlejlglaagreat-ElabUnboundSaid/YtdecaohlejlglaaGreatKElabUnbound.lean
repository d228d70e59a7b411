/-
 For all inputs the law intarsialaw15.ElabUnbound returns true, and its arguments read afterwards as before.
 Conditions: those of the given row, and no others.
-/
import Derived.OpenShut
import Derived.Test.YtdecaohlejlglaaGreatKElabUnboundD
namespace Go.Proofs.YtdecaohlejlglaaGreat
open Go.ChangeShapes Go.WideShapes Go.ChangeAt Go.RowKit Go.Pm
set_option linter.unusedVariables false

theorem elabUnbound_pure (dss:List Dat) (h:TyAs Tryz.prog reachBytes Tryz.f3.params.toList dss):PureCall Tryz.prog 3 dss (Qs true):=by
 rw [Tryz.params3] at h
 obtain ⟨d1,rfl,g1⟩:=TyAs_one h
 obtain ⟨x1,rfl,h1⟩:=Tryz.ty25 g1
 exact Tryz.pure_of rfl (Tryz.w_law15_ElabUnbound _ _ (Tryz.ElabUnbound_of x1 h1) [])

theorem elabUnbound_own:ownKnob Tryz.prog.godebug=none:=by kernel_rfl
set_option maxRecDepth 100000 in
theorem elabUnbound_lifted (os:Os) (started:os.Started) (H:Type) (enc:TypeId × Value→H) :
  ReturnsInHanded {} Tryz.checked os 3 .any (Rows.elabUnboundSpec.pre6 enc Tryz.prog Tryz.f3 Rows.elabUnboundRow.domain false) (Rows.elabUnboundSpec.post enc Tryz.prog Tryz.f3 false true false false):=by
 refine returnsInHanded_of_calls (C:=Tryz.checked) elabUnbound_own started (by kernel_rfl)
  (ChangeSpec.witness6 (enc:=enc) (C:=Tryz.checked) false ⟨#[],#[.agg #[.int .i64 0,.int .i64 0,.int .i64 0,.string ByteArray.empty,.slice none 0 0,.slice none 0 0]],[]⟩ 8 (by kernel_rfl) (by kernel_rfl) (by kernel_rfl) (by kernel_rfl)) ?_
 intro w tape i _ _ _ hok hpre hholds
 obtain ⟨_,_,_,fn',hfn',_,_,_,_,hval⟩:=hok
 obtain rfl:fn'=Tryz.f3:=Option.some.inj (hfn'.symm.trans Tryz.func3)
 obtain ⟨⟨ds,gs,before,hw,hc⟩,hz⟩:=hpre
 have hw':=DataW.Whole.of_heap (w':=w.forCall tape i) (by rfl) hw
 refine (law_calls_sized (P:=Tryz.prog) (bt:=4) Tryz.argTs_closed Tryz.laidOut (by kernel_rfl) (by kernel_rfl) (by kernel_rfl) Tryz.ua4 rfl (fun ds h=>by
   match ds,h with
   | [d1],_=>rfl) elabUnbound_pure (w.forCall tape i) w.heap.size i.args ds gs before hval hw' (hz.weights hw)).mono fun e W' ⟨v,he,hp⟩=>?_
 subst he
 exact ChangeSpec.post_blind hp

theorem ElabUnbound_holds : Rows.ElabUnboundSaid :=
 OpenClaim.holds_of_wide 3 Tryz.f3 rfl rfl rfl rfl rfl rfl rfl ⟨rfl,rfl,rfl,rfl,rfl⟩ rfl rfl rfl rfl rfl (by kernel_rfl) Tryz.func3 (by kernel_rfl)
  (of_decide_eq_true (by kernel_rfl)) (by unfold Func.isWrapper; first|(rw [if_pos (by decide +kernel)]; kernel_rfl)|(rw [if_neg (by decide +kernel)]; exact ⟨rfl,rfl⟩))
  (fun os started H enc _=>elabUnbound_lifted os started H enc)
end Go.Proofs.YtdecaohlejlglaaGreat
