/-
 For all inputs the law intarsialaw15.ElabSources returns true, and its arguments read afterwards as before.
 Conditions: those of the given row, and no others.
-/
import Derived.OpenShut
import Derived.Test.YtlnecbnmhhjdpaaGreatKElabSourcesD
namespace Go.Proofs.YtlnecbnmhhjdpaaGreat
open Go.ChangeShapes Go.WideShapes Go.ChangeAt Go.RowKit Go.Pm
set_option linter.unusedVariables false

theorem elabSources_pure (dss:List Dat) (h:TyAs Tryz.prog reachBytes Tryz.f4.params.toList dss):PureCall Tryz.prog 4 dss (Qn true):=by
 rw [Tryz.params4] at h
 obtain ⟨d1,d2,rfl,g1,g2⟩:=TyAs_two h
 obtain ⟨x1,rfl,h1⟩:=Tryz.ty22 g1
 obtain ⟨x2,rfl,h2⟩:=Tryz.ty26 g2
 exact Tryz.pure_of rfl (Tryz.w_law15_ElabSources _ _ (Tryz.ElabSources_of x1 x2 h2) [])

theorem elabSources_own:ownKnob Tryz.prog.godebug=none:=by kernel_rfl
set_option maxRecDepth 100000 in
theorem elabSources_lifted (os:Os) (started:os.Started) (H:Type) (enc:TypeId × Value→H) :
  ReturnsInHanded {} Tryz.checked os 4 .any (Rows.elabSourcesSpec.pre6 enc Tryz.prog Tryz.f4 Rows.elabSourcesRow.domain false) (Rows.elabSourcesSpec.post enc Tryz.prog Tryz.f4 false true false false):=by
 refine returnsInHanded_of_calls (C:=Tryz.checked) elabSources_own started (by kernel_rfl)
  (ChangeSpec.witness6 (enc:=enc) (C:=Tryz.checked) false ⟨#[],#[.slice none 0 0,.agg #[.int .i64 0,.int .i64 0,.int .i64 0,.string ByteArray.empty,.slice none 0 0,.slice none 0 0]],[]⟩ 8 (by kernel_rfl) (by kernel_rfl) (by kernel_rfl) (by kernel_rfl)) ?_
 intro w tape i _ _ _ hok hpre hholds
 obtain ⟨_,_,_,fn',hfn',_,_,_,_,hval⟩:=hok
 obtain rfl:fn'=Tryz.f4:=Option.some.inj (hfn'.symm.trans Tryz.func4)
 obtain ⟨⟨ds,gs,before,hw,hc⟩,hz⟩:=hpre
 have hw':=DataW.Whole.of_heap (w':=w.forCall tape i) (by rfl) hw
 refine (law_calls_sized (P:=Tryz.prog) (bt:=4) Tryz.argTs_closed Tryz.laidOut (by kernel_rfl) (by kernel_rfl) (by kernel_rfl) Tryz.ua4 rfl (fun ds h=>by
   match ds,h with
   | [d1,d2],_=>rfl) elabSources_pure (w.forCall tape i) w.heap.size i.args ds gs before hval hw' (hz.weights hw)).mono fun e W' ⟨v,he,hp⟩=>?_
 subst he
 exact ChangeSpec.post_blind hp

theorem ElabSources_holds : Rows.ElabSourcesSaid :=
 OpenClaim.holds_of_wide 4 Tryz.f4 rfl rfl rfl rfl rfl rfl rfl ⟨rfl,rfl,rfl,rfl,rfl⟩ rfl rfl rfl rfl rfl (by kernel_rfl) Tryz.func4 (by kernel_rfl)
  (of_decide_eq_true (by kernel_rfl)) (by unfold Func.isWrapper; first|(rw [if_pos (by decide +kernel)]; kernel_rfl)|(rw [if_neg (by decide +kernel)]; exact ⟨rfl,rfl⟩))
  (fun os started H enc _=>elabSources_lifted os started H enc)
end Go.Proofs.YtlnecbnmhhjdpaaGreat
