/-
  Seat a: contracts of the functions that tell whether nests are small.
-/
import Derived.Test.YtbknblppjhfkmaaA2
namespace Go.Proofs.Try
open Go Go.Pm
set_option linter.unusedVariables false
set_option linter.unusedSimpArgs false
set_option maxRecDepth 2000

def headB (n : Nst) : Bool :=
  !(decide (((n.dims.map intD).length : Int) > 6) || (((n.steps.map intD).length : Int) != ((n.dims.map intD).length : Int)) || !rightB n.read ((n.dims.map intD).length : Int) || !boundedB n.read 1000000 || decide (n.write < -1000000) || decide (n.write > 1000000))
def stepB (n : Nst) (most : Int) (j : Nat) : Bool :=
  !(decide (n.dims.getD j 0 < 1) || decide (n.dims.getD j 0 > most) || decide (n.steps.getD j 0 < -1000000) || decide (n.steps.getD j 0 > 1000000)) && !decide (cellsW (n.dims.take (j + 1)) > most)
def smallB (n : Nst) (most : Int) : Bool := headB n && (List.range n.dims.length).all (stepB n most)

theorem c31 (n : Nst) (most : Int) (H : List Blk) (hl : n.dims.length ≤ 9223372036854775807) (hs : n.read.strides.length ≤ 9223372036854775807) : PC prog env 31 [.dat n.toD, .dat (intD most)] H (boolPV (smallB n most)) H := by
  refine PC_pure (fn := f31) (by kernel_rfl) rfl rfl (by kernel_rfl) rfl rfl ?_ (by simp [PV.lends])
  refine R_eq (st' := ⟨[.dat (n.toD), .dat (intD most), .tup [], .tup [], .tup [], .tup [], .tup [], .tup [], .tup [], .tup [], .tup [], .tup [], .tup [], .tup [], .tup [], .tup [], .tup [], .tup [], .tup [], .tup [], .tup [], .tup [], .tup [], .tup [], .tup [], .tup [], .tup [], .tup [], .tup [], .tup [], .tup [], .tup [], .tup [], .tup [], .tup [], .tup [], .tup [], .tup [], .tup [], .tup [], .tup [], .tup [], .tup [], .tup [], .tup [], .tup [], .tup [], .tup [], .tup [], .tup [], .tup [], .tup [], .tup [], .tup [], .tup [], .tup [], .tup [], .tup [], .tup [], .tup [], .tup [], .tup [], .tup [], .tup [], .tup [], .tup [], .tup [], .tup [], .tup [], .tup [], .tup [], .tup [], .tup [], .tup [], .tup [], .tup [], .tup [], .tup [], .tup [], .tup [], .tup [], .tup [], .tup [], .tup [], .tup [], .tup [], .tup [], .tup [], .tup [], .tup [], .tup [], .tup [], .tup []], []⟩) rfl ?_
  repeat (first | refine R_seq ?_ | refine R_block ?_ | refine R_skip ?_)
  refine R_region ?_
  iterate 2 ((refine OpsE_do rfl ?_; first | refine E_box (cs := [_, _, _, _, _, _, _, _, _, _]) rfl rfl rfl ?_ | refine E_assign rfl rfl ?_); refine OpsE_eq (st' := _) (by first | dsimp only [n0, n1, n2, n3, n4, n5, n6, n7, n8, n9, m0, m1, m2, m3, m4, m5, m6, m7, m8, m9, o0, o1, o2, o3, o4, ↓reduceIte] | rfl) ?_)
  refine OpsE_nil ?_
  cases hb : headB n
  · have hb' : smallB n most = false := by simp [smallB, hb]
    rw [hb']
    repeat (first | refine R_seq ?_ | refine R_block ?_ | refine R_skip ?_)
    refine R_region ?_
    iterate 3 ((refine OpsE_do rfl ?_; first | refine E_fieldp fo59_0 rfl rfl ?_ | refine E_fieldi fo59_0 rfl rfl ?_ | refine E_loadi (ds := [_]) ag49 sz49 rfl rfl rfl rfl ?_ | refine E_loadp (ds := [_]) ag49 sz49 rfl rfl rfl rfl rfl ?_ | refine E_len un49 rfl rfl ?_); refine OpsE_eq (st' := _) (by first | dsimp only [n0, n1, n2, n3, n4, n5, n6, n7, n8, n9, m0, m1, m2, m3, m4, m5, m6, m7, m8, m9, o0, o1, o2, o3, o4, ↓reduceIte] | rfl) ?_)
    (refine OpsE_do rfl ?_; (first | refine E_int rfl rfl rfl rfl ?_ | refine E_bin rfl rfl rfl rfl ?_); refine OpsE_eq (st' := _) (by first | dsimp only [n0, n1, n2, n3, n4, n5, n6, n7, n8, n9, m0, m1, m2, m3, m4, m5, m6, m7, m8, m9, o0, o1, o2, o3, o4, ↓reduceIte] | rfl) ?_; all_goals (cases g1 : decide (((n.dims.map intD).length : Int) > 6)))
    all_goals (iterate 7 ((first | (refine OpsE_do rfl ?_; first | refine E_move rfl ?_ | refine E_fieldp fo59_2 rfl rfl ?_ | refine E_fieldi fo59_2 rfl rfl ?_ | refine E_loadi (ds := [_]) ag49 sz49 rfl rfl rfl rfl ?_ | refine E_loadp (ds := [_]) ag49 sz49 rfl rfl rfl rfl rfl ?_ | refine E_len un49 rfl rfl ?_ | refine E_fieldp fo59_0 rfl rfl ?_ | refine E_fieldi fo59_0 rfl rfl ?_) | refine OpsE_not rfl ?_); refine OpsE_eq (st' := _) (by first | dsimp only [n0, n1, n2, n3, n4, n5, n6, n7, n8, n9, m0, m1, m2, m3, m4, m5, m6, m7, m8, m9, o0, o1, o2, o3, o4, ↓reduceIte] | rfl) ?_))
    all_goals (first | (refine OpsE_do rfl ?_; (first | refine E_int rfl rfl rfl rfl ?_ | refine E_bin rfl rfl rfl rfl ?_); refine OpsE_eq (st' := _) (by first | dsimp only [n0, n1, n2, n3, n4, n5, n6, n7, n8, n9, m0, m1, m2, m3, m4, m5, m6, m7, m8, m9, o0, o1, o2, o3, o4, ↓reduceIte] | rfl) ?_; all_goals (cases g2 : (((n.steps.map intD).length : Int) != ((n.dims.map intD).length : Int)))) | (refine OpsE_not rfl ?_; refine OpsE_eq (st' := _) (by first | dsimp only [n0, n1, n2, n3, n4, n5, n6, n7, n8, n9, m0, m1, m2, m3, m4, m5, m6, m7, m8, m9, o0, o1, o2, o3, o4, ↓reduceIte] | rfl) ?_))
    all_goals (iterate 7 ((first | (refine OpsE_do rfl ?_; first | refine E_pick rfl rfl ?_ | refine E_move rfl ?_ | refine E_fieldp fo59_3 rfl rfl ?_ | refine E_fieldi fo59_3 rfl rfl ?_ | refine E_loadi (ds := [_, _, _, _, _, _, _]) (d := .agg [_, _, _, _, _, _, _]) ag57 sz57 rfl rfl rfl rfl ?_ | refine E_loadp (ds := [_, _, _, _, _, _, _]) (v := .dat (.agg [_, _, _, _, _, _, _])) ag57 sz57 rfl rfl rfl rfl rfl ?_ | refine E_loadp (ds := [_, _, _, _, _, _, _]) (v := .agg [_, _, _, _, _, _, _]) ag57 sz57 rfl rfl rfl rfl rfl ?_ | refine E_fieldp fo59_0 rfl rfl ?_ | refine E_fieldi fo59_0 rfl rfl ?_ | refine E_loadi (ds := [_]) ag49 sz49 rfl rfl rfl rfl ?_ | refine E_loadp (ds := [_]) ag49 sz49 rfl rfl rfl rfl rfl ?_ | refine E_len un49 rfl rfl ?_) | refine OpsE_not rfl ?_); refine OpsE_eq (st' := _) (by first | dsimp only [n0, n1, n2, n3, n4, n5, n6, n7, n8, n9, m0, m1, m2, m3, m4, m5, m6, m7, m8, m9, o0, o1, o2, o3, o4, ↓reduceIte] | rfl) ?_))
    all_goals (first | (refine OpsE_do rfl ?_; (first | refine E_call rfl rfl rfl (c47 n.read _ _ hs) ?_ | refine E_callfn rfl rfl rfl (c47 n.read _ _ hs) ?_); refine OpsE_eq (st' := _) (by first | dsimp only [n0, n1, n2, n3, n4, n5, n6, n7, n8, n9, m0, m1, m2, m3, m4, m5, m6, m7, m8, m9, o0, o1, o2, o3, o4, ↓reduceIte] | rfl) ?_; all_goals (cases g3 : rightB n.read ((n.dims.map intD).length : Int))) | (refine OpsE_not rfl ?_; refine OpsE_eq (st' := _) (by first | dsimp only [n0, n1, n2, n3, n4, n5, n6, n7, n8, n9, m0, m1, m2, m3, m4, m5, m6, m7, m8, m9, o0, o1, o2, o3, o4, ↓reduceIte] | rfl) ?_))
    all_goals (iterate 5 ((first | (refine OpsE_do rfl ?_; first | refine E_not rfl rfl ?_ | refine E_pick rfl rfl ?_ | refine E_move rfl ?_ | refine E_fieldp fo59_3 rfl rfl ?_ | refine E_fieldi fo59_3 rfl rfl ?_ | refine E_loadi (ds := [_, _, _, _, _, _, _]) (d := .agg [_, _, _, _, _, _, _]) ag57 sz57 rfl rfl rfl rfl ?_ | refine E_loadp (ds := [_, _, _, _, _, _, _]) (v := .dat (.agg [_, _, _, _, _, _, _])) ag57 sz57 rfl rfl rfl rfl rfl ?_ | refine E_loadp (ds := [_, _, _, _, _, _, _]) (v := .agg [_, _, _, _, _, _, _]) ag57 sz57 rfl rfl rfl rfl rfl ?_) | refine OpsE_not rfl ?_); refine OpsE_eq (st' := _) (by first | dsimp only [n0, n1, n2, n3, n4, n5, n6, n7, n8, n9, m0, m1, m2, m3, m4, m5, m6, m7, m8, m9, o0, o1, o2, o3, o4, ↓reduceIte] | rfl) ?_))
    all_goals (first | (refine OpsE_do rfl ?_; (first | refine E_call rfl rfl rfl (c48 n.read _ _ hs) ?_ | refine E_callfn rfl rfl rfl (c48 n.read _ _ hs) ?_); refine OpsE_eq (st' := _) (by first | dsimp only [n0, n1, n2, n3, n4, n5, n6, n7, n8, n9, m0, m1, m2, m3, m4, m5, m6, m7, m8, m9, o0, o1, o2, o3, o4, ↓reduceIte] | rfl) ?_; all_goals (cases g4 : boundedB n.read 1000000)) | (refine OpsE_not rfl ?_; refine OpsE_eq (st' := _) (by first | dsimp only [n0, n1, n2, n3, n4, n5, n6, n7, n8, n9, m0, m1, m2, m3, m4, m5, m6, m7, m8, m9, o0, o1, o2, o3, o4, ↓reduceIte] | rfl) ?_))
    all_goals (iterate 5 ((first | (refine OpsE_do rfl ?_; first | refine E_not rfl rfl ?_ | refine E_pick rfl rfl ?_ | refine E_move rfl ?_ | refine E_fieldp fo59_1 rfl rfl ?_ | refine E_fieldi fo59_1 rfl rfl ?_ | refine E_loadi (ds := [_]) ag3 sz3 rfl rfl rfl rfl ?_ | refine E_loadp (ds := [_]) ag3 sz3 rfl rfl rfl rfl rfl ?_) | refine OpsE_not rfl ?_); refine OpsE_eq (st' := _) (by first | dsimp only [n0, n1, n2, n3, n4, n5, n6, n7, n8, n9, m0, m1, m2, m3, m4, m5, m6, m7, m8, m9, o0, o1, o2, o3, o4, ↓reduceIte] | rfl) ?_))
    all_goals (first | (refine OpsE_do rfl ?_; (first | refine E_int rfl rfl rfl rfl ?_ | refine E_bin rfl rfl rfl rfl ?_); refine OpsE_eq (st' := _) (by first | dsimp only [n0, n1, n2, n3, n4, n5, n6, n7, n8, n9, m0, m1, m2, m3, m4, m5, m6, m7, m8, m9, o0, o1, o2, o3, o4, ↓reduceIte] | rfl) ?_; all_goals (cases g5 : decide (n.write < -1000000))) | (refine OpsE_not rfl ?_; refine OpsE_eq (st' := _) (by first | dsimp only [n0, n1, n2, n3, n4, n5, n6, n7, n8, n9, m0, m1, m2, m3, m4, m5, m6, m7, m8, m9, o0, o1, o2, o3, o4, ↓reduceIte] | rfl) ?_))
    all_goals (iterate 4 ((first | (refine OpsE_do rfl ?_; first | refine E_pick rfl rfl ?_ | refine E_move rfl ?_ | refine E_fieldp fo59_1 rfl rfl ?_ | refine E_fieldi fo59_1 rfl rfl ?_ | refine E_loadi (ds := [_]) ag3 sz3 rfl rfl rfl rfl ?_ | refine E_loadp (ds := [_]) ag3 sz3 rfl rfl rfl rfl rfl ?_) | refine OpsE_not rfl ?_); refine OpsE_eq (st' := _) (by first | dsimp only [n0, n1, n2, n3, n4, n5, n6, n7, n8, n9, m0, m1, m2, m3, m4, m5, m6, m7, m8, m9, o0, o1, o2, o3, o4, ↓reduceIte] | rfl) ?_))
    all_goals (first | (refine OpsE_do rfl ?_; (first | refine E_int rfl rfl rfl rfl ?_ | refine E_bin rfl rfl rfl rfl ?_); refine OpsE_eq (st' := _) (by first | dsimp only [n0, n1, n2, n3, n4, n5, n6, n7, n8, n9, m0, m1, m2, m3, m4, m5, m6, m7, m8, m9, o0, o1, o2, o3, o4, ↓reduceIte] | rfl) ?_; all_goals (cases g6 : decide (n.write > 1000000))) | (refine OpsE_not rfl ?_; refine OpsE_eq (st' := _) (by first | dsimp only [n0, n1, n2, n3, n4, n5, n6, n7, n8, n9, m0, m1, m2, m3, m4, m5, m6, m7, m8, m9, o0, o1, o2, o3, o4, ↓reduceIte] | rfl) ?_))
    all_goals ((refine OpsE_do rfl ?_; refine E_pick rfl rfl ?_; refine OpsE_eq (st' := _) (by first | dsimp only [n0, n1, n2, n3, n4, n5, n6, n7, n8, n9, m0, m1, m2, m3, m4, m5, m6, m7, m8, m9, o0, o1, o2, o3, o4, ↓reduceIte] | rfl) ?_))
    all_goals (refine OpsE_nil ?_)
    all_goals (repeat (first | refine R_seq ?_ | refine R_block ?_ | refine R_skip ?_))
    all_goals (first | (refine R_true rfl ?_) | (exfalso; simp only [headB, *, Bool.or_self, Bool.not_true, Bool.not_false, reduceCtorEq] at hb; done))
    all_goals (repeat (first | refine R_seq ?_ | refine R_block ?_ | refine R_skip ?_))
    all_goals (refine R_region (OpsE_do rfl (E_assign rfl rfl (OpsE_nil (R_ret ?_)))))
    all_goals (exact ⟨trivial, _, rfl, rfl⟩)
  · have hb' := hb
    simp only [headB, Bool.not_eq_true', Bool.or_eq_false_iff, Bool.not_eq_false'] at hb'
    obtain ⟨⟨⟨⟨⟨g1, g2⟩, g3⟩, g4⟩, g5⟩, g6⟩ := hb'
    have hst : n.steps.length = n.dims.length := by have := g2; simp at this; omega
    repeat (first | refine R_seq ?_ | refine R_block ?_ | refine R_skip ?_)
    refine R_region ?_
    iterate 19 ((first | (refine OpsE_do rfl ?_; first | refine E_fieldp fo59_0 rfl rfl ?_ | refine E_fieldi fo59_0 rfl rfl ?_ | refine E_loadi (ds := [_]) ag49 sz49 rfl rfl rfl rfl ?_ | refine E_loadp (ds := [_]) ag49 sz49 rfl rfl rfl rfl rfl ?_ | refine E_len un49 rfl rfl ?_ | refine E_int rfl rfl rfl rfl ?_ | refine E_move rfl ?_ | refine E_fieldp fo59_2 rfl rfl ?_ | refine E_fieldi fo59_2 rfl rfl ?_ | refine E_pick rfl rfl ?_ | refine E_fieldp fo59_3 rfl rfl ?_ | refine E_fieldi fo59_3 rfl rfl ?_ | refine E_loadi (ds := [_, _, _, _, _, _, _]) (d := .agg [_, _, _, _, _, _, _]) ag57 sz57 rfl rfl rfl rfl ?_ | refine E_loadp (ds := [_, _, _, _, _, _, _]) (v := .dat (.agg [_, _, _, _, _, _, _])) ag57 sz57 rfl rfl rfl rfl rfl ?_ | refine E_loadp (ds := [_, _, _, _, _, _, _]) (v := .agg [_, _, _, _, _, _, _]) ag57 sz57 rfl rfl rfl rfl rfl ?_) | refine OpsE_not rfl ?_); refine OpsE_eq (st' := _) (by first | (simp only [n0, n1, n2, n3, n4, n5, n6, n7, n8, n9, m0, m1, m2, m3, m4, m5, m6, m7, m8, m9, o0, o1, o2, o3, o4, ↓reduceIte, g1, g2, g3, g4, g5, g6, Bool.not_true] <;> rfl) | rfl) ?_)
    ((first | (refine OpsE_do rfl ?_; (first | refine E_call rfl rfl rfl (c47 n.read _ _ hs) ?_ | refine E_callfn rfl rfl rfl (c47 n.read _ _ hs) ?_)) | refine OpsE_not rfl ?_); refine OpsE_eq (st' := _) (by first | (simp only [n0, n1, n2, n3, n4, n5, n6, n7, n8, n9, m0, m1, m2, m3, m4, m5, m6, m7, m8, m9, o0, o1, o2, o3, o4, ↓reduceIte, g1, g2, g3, g4, g5, g6, Bool.not_true] <;> rfl) | rfl) ?_)
    iterate 5 ((first | (refine OpsE_do rfl ?_; first | refine E_not rfl rfl ?_ | refine E_pick rfl rfl ?_ | refine E_move rfl ?_ | refine E_fieldp fo59_3 rfl rfl ?_ | refine E_fieldi fo59_3 rfl rfl ?_ | refine E_loadi (ds := [_, _, _, _, _, _, _]) (d := .agg [_, _, _, _, _, _, _]) ag57 sz57 rfl rfl rfl rfl ?_ | refine E_loadp (ds := [_, _, _, _, _, _, _]) (v := .dat (.agg [_, _, _, _, _, _, _])) ag57 sz57 rfl rfl rfl rfl rfl ?_ | refine E_loadp (ds := [_, _, _, _, _, _, _]) (v := .agg [_, _, _, _, _, _, _]) ag57 sz57 rfl rfl rfl rfl rfl ?_) | refine OpsE_not rfl ?_); refine OpsE_eq (st' := _) (by first | (simp only [n0, n1, n2, n3, n4, n5, n6, n7, n8, n9, m0, m1, m2, m3, m4, m5, m6, m7, m8, m9, o0, o1, o2, o3, o4, ↓reduceIte, g1, g2, g3, g4, g5, g6, Bool.not_true] <;> rfl) | rfl) ?_)
    ((first | (refine OpsE_do rfl ?_; (first | refine E_call rfl rfl rfl (c48 n.read _ _ hs) ?_ | refine E_callfn rfl rfl rfl (c48 n.read _ _ hs) ?_)) | refine OpsE_not rfl ?_); refine OpsE_eq (st' := _) (by first | (simp only [n0, n1, n2, n3, n4, n5, n6, n7, n8, n9, m0, m1, m2, m3, m4, m5, m6, m7, m8, m9, o0, o1, o2, o3, o4, ↓reduceIte, g1, g2, g3, g4, g5, g6, Bool.not_true] <;> rfl) | rfl) ?_)
    iterate 12 ((first | (refine OpsE_do rfl ?_; first | refine E_not rfl rfl ?_ | refine E_pick rfl rfl ?_ | refine E_move rfl ?_ | refine E_fieldp fo59_1 rfl rfl ?_ | refine E_fieldi fo59_1 rfl rfl ?_ | refine E_loadi (ds := [_]) ag3 sz3 rfl rfl rfl rfl ?_ | refine E_loadp (ds := [_]) ag3 sz3 rfl rfl rfl rfl rfl ?_ | refine E_int rfl rfl rfl rfl ?_) | refine OpsE_not rfl ?_); refine OpsE_eq (st' := _) (by first | (simp only [n0, n1, n2, n3, n4, n5, n6, n7, n8, n9, m0, m1, m2, m3, m4, m5, m6, m7, m8, m9, o0, o1, o2, o3, o4, ↓reduceIte, g1, g2, g3, g4, g5, g6, Bool.not_true] <;> rfl) | rfl) ?_)
    refine OpsE_nil ?_
    repeat (first | refine R_seq ?_ | refine R_block ?_ | refine R_skip ?_)
    refine R_false rfl ?_
    repeat (first | refine R_seq ?_ | refine R_block ?_ | refine R_skip ?_)
    refine R_region ?_
    (refine OpsE_do rfl ?_; refine E_assign rfl rfl ?_; refine OpsE_eq (st' := _) (by first | dsimp only [n0, n1, n2, n3, n4, n5, n6, n7, n8, n9, m0, m1, m2, m3, m4, m5, m6, m7, m8, m9, o0, o1, o2, o3, o4, ↓reduceIte] | rfl) ?_)
    refine OpsE_nil ?_
    repeat (first | refine R_seq ?_ | refine R_block ?_ | refine R_skip ?_)
    refine R_region ?_
    (refine OpsE_do rfl ?_; refine E_assign rfl rfl ?_; refine OpsE_eq (st' := _) (by first | dsimp only [n0, n1, n2, n3, n4, n5, n6, n7, n8, n9, m0, m1, m2, m3, m4, m5, m6, m7, m8, m9, o0, o1, o2, o3, o4, ↓reduceIte] | rfl) ?_)
    refine OpsE_nil ?_
    repeat (first | refine R_seq ?_ | refine R_block ?_ | refine R_skip ?_)
    refine R_loop ?_
    refine RL_ind (fun (j : Nat) => ⟨[.undef, .dat (intD most), .ptr 0 0, .undef, .undef, intPV (cellsW (n.dims.take j)), intPV (j : Int), .undef, .undef, .undef, .undef, .undef, .undef, .undef, .undef, .undef, .undef, .undef, .undef, .undef, .undef, .undef, .undef, .undef, .undef, .undef, .undef, .undef, .undef, .undef, .undef, .undef, .undef, .undef, .undef, .undef, .undef, .undef, .undef, .undef, .undef, .undef, .undef, .undef, .undef, .undef, .undef, .undef, .undef, .undef, .undef, .undef, .undef, .undef, .undef, .undef, .undef, .undef, .undef, .undef, .undef, .undef, .undef, .undef, .undef, .undef, .undef, .undef, .undef, .undef, .undef, .undef, .undef, .undef, .undef, .undef, .undef, .undef, .undef, .undef, .undef, .undef, .undef, .undef, .undef, .undef, .undef, .undef, .undef, .undef, .undef, .undef, .undef], [.box (n.toD.cells.map .dat)]⟩)
      (fun j => j ≤ n.dims.length ∧ (List.range j).all (stepB n most) = true) (fun j => n.dims.length - j) (fun j hj => ?_) _ 0 _ (Nat.lt_succ_self _) ⟨Nat.zero_le _, rfl⟩ rfl
    obtain ⟨hj, hall⟩ := hj
    repeat (first | refine R_seq ?_ | refine R_block ?_ | refine R_skip ?_)
    refine R_region ?_
    iterate 5 ((refine OpsE_do rfl ?_; first | refine E_move rfl ?_ | refine E_fieldp fo59_0 rfl rfl ?_ | refine E_fieldi fo59_0 rfl rfl ?_ | refine E_loadi (ds := [_]) ag49 sz49 rfl rfl rfl rfl ?_ | refine E_loadp (ds := [_]) ag49 sz49 rfl rfl rfl rfl rfl ?_ | refine E_len un49 rfl rfl ?_ | refine E_int rfl rfl rfl rfl ?_); refine OpsE_eq (st' := _) (by first | dsimp only [n0, n1, n2, n3, n4, n5, n6, n7, n8, n9, m0, m1, m2, m3, m4, m5, m6, m7, m8, m9, o0, o1, o2, o3, o4, ↓reduceIte] | rfl) ?_)
    refine OpsE_nil ?_
    repeat (first | refine R_seq ?_ | refine R_block ?_ | refine R_skip ?_)
    refine R_if rfl (fun h => ?_) (fun h => ?_)
    · have hj' : j < n.dims.length := by simpa using h
      have hjs : j < n.steps.length := by omega
      have d1 : n.dims.getD j 0 = n.dims[j] := by simp [hj']
      have d2 : n.steps.getD j 0 = n.steps[j] := by simp [hjs]
      have bad : stepB n most j = false → smallB n most = false := fun hf => by
        have : (List.range n.dims.length).all (stepB n most) = false := List.all_eq_false.2 ⟨j, List.mem_range.2 hj', by simp [hf]⟩
        rw [smallB, this, Bool.and_false]
      cases hq : (decide (n.dims[j] < 1) || decide (n.dims[j] > most) || decide (n.steps[j] < -1000000) || decide (n.steps[j] > 1000000))
      · have hq' := hq
        simp only [Bool.or_eq_false_iff] at hq'
        obtain ⟨⟨⟨k1, k2⟩, k3⟩, k4⟩ := hq'
        repeat (first | refine R_seq ?_ | refine R_block ?_ | refine R_skip ?_)
        refine R_region ?_
        iterate 3 ((refine OpsE_do rfl ?_; first | refine E_fieldp fo59_0 rfl rfl ?_ | refine E_fieldi fo59_0 rfl rfl ?_ | refine E_loadi (ds := [_]) ag49 sz49 rfl rfl rfl rfl ?_ | refine E_loadp (ds := [_]) ag49 sz49 rfl rfl rfl rfl rfl ?_ | refine E_move rfl ?_); refine OpsE_eq (st' := _) (by first | (simp only [n0, n1, n2, n3, n4, n5, n6, n7, n8, n9, m0, m1, m2, m3, m4, m5, m6, m7, m8, m9, o0, o1, o2, o3, o4, ↓reduceIte, k1, k2, k3, k4] <;> rfl) | rfl) ?_)
        (refine OpsE_do rfl ?_; (first | refine E_index el49 sz3 rfl rfl rfl rfl (ints_get hj') rfl ?_ | refine E_index0 el49 sz3 rfl rfl rfl rfl (ints_get hj') ?_ | refine E_indexArr el49 sz3 rfl rfl rfl rfl (ints_get hj') ?_); refine OpsE_eq (st' := _) (by first | (simp only [n0, n1, n2, n3, n4, n5, n6, n7, n8, n9, m0, m1, m2, m3, m4, m5, m6, m7, m8, m9, o0, o1, o2, o3, o4, ↓reduceIte, k1, k2, k3, k4] <;> rfl) | rfl) ?_)
        iterate 6 ((first | (refine OpsE_do rfl ?_; first | refine E_loadi (ds := [_]) ag3 sz3 rfl rfl rfl rfl ?_ | refine E_loadp (ds := [_]) ag3 sz3 rfl rfl rfl rfl rfl ?_ | refine E_int rfl rfl rfl rfl ?_ | refine E_move rfl ?_ | refine E_fieldp fo59_0 rfl rfl ?_ | refine E_fieldi fo59_0 rfl rfl ?_ | refine E_loadi (ds := [_]) ag49 sz49 rfl rfl rfl rfl ?_ | refine E_loadp (ds := [_]) ag49 sz49 rfl rfl rfl rfl rfl ?_) | refine OpsE_not rfl ?_); refine OpsE_eq (st' := _) (by first | (simp only [n0, n1, n2, n3, n4, n5, n6, n7, n8, n9, m0, m1, m2, m3, m4, m5, m6, m7, m8, m9, o0, o1, o2, o3, o4, ↓reduceIte, k1, k2, k3, k4] <;> rfl) | rfl) ?_)
        ((first | (refine OpsE_do rfl ?_; (first | refine E_index el49 sz3 rfl rfl rfl rfl (ints_get hj') rfl ?_ | refine E_index0 el49 sz3 rfl rfl rfl rfl (ints_get hj') ?_ | refine E_indexArr el49 sz3 rfl rfl rfl rfl (ints_get hj') ?_)) | refine OpsE_not rfl ?_); refine OpsE_eq (st' := _) (by first | (simp only [n0, n1, n2, n3, n4, n5, n6, n7, n8, n9, m0, m1, m2, m3, m4, m5, m6, m7, m8, m9, o0, o1, o2, o3, o4, ↓reduceIte, k1, k2, k3, k4] <;> rfl) | rfl) ?_)
        iterate 8 ((first | (refine OpsE_do rfl ?_; first | refine E_loadi (ds := [_]) ag3 sz3 rfl rfl rfl rfl ?_ | refine E_loadp (ds := [_]) ag3 sz3 rfl rfl rfl rfl rfl ?_ | refine E_move rfl ?_ | refine E_int rfl rfl rfl rfl ?_ | refine E_pick rfl rfl ?_ | refine E_fieldp fo59_2 rfl rfl ?_ | refine E_fieldi fo59_2 rfl rfl ?_ | refine E_loadi (ds := [_]) ag49 sz49 rfl rfl rfl rfl ?_ | refine E_loadp (ds := [_]) ag49 sz49 rfl rfl rfl rfl rfl ?_) | refine OpsE_not rfl ?_); refine OpsE_eq (st' := _) (by first | (simp only [n0, n1, n2, n3, n4, n5, n6, n7, n8, n9, m0, m1, m2, m3, m4, m5, m6, m7, m8, m9, o0, o1, o2, o3, o4, ↓reduceIte, k1, k2, k3, k4] <;> rfl) | rfl) ?_)
        ((first | (refine OpsE_do rfl ?_; (first | refine E_index el49 sz3 rfl rfl rfl rfl (ints_get hjs) rfl ?_ | refine E_index0 el49 sz3 rfl rfl rfl rfl (ints_get hjs) ?_ | refine E_indexArr el49 sz3 rfl rfl rfl rfl (ints_get hjs) ?_)) | refine OpsE_not rfl ?_); refine OpsE_eq (st' := _) (by first | (simp only [n0, n1, n2, n3, n4, n5, n6, n7, n8, n9, m0, m1, m2, m3, m4, m5, m6, m7, m8, m9, o0, o1, o2, o3, o4, ↓reduceIte, k1, k2, k3, k4] <;> rfl) | rfl) ?_)
        iterate 7 ((first | (refine OpsE_do rfl ?_; first | refine E_loadi (ds := [_]) ag3 sz3 rfl rfl rfl rfl ?_ | refine E_loadp (ds := [_]) ag3 sz3 rfl rfl rfl rfl rfl ?_ | refine E_int rfl rfl rfl rfl ?_ | refine E_pick rfl rfl ?_ | refine E_move rfl ?_ | refine E_fieldp fo59_2 rfl rfl ?_ | refine E_fieldi fo59_2 rfl rfl ?_ | refine E_loadi (ds := [_]) ag49 sz49 rfl rfl rfl rfl ?_ | refine E_loadp (ds := [_]) ag49 sz49 rfl rfl rfl rfl rfl ?_) | refine OpsE_not rfl ?_); refine OpsE_eq (st' := _) (by first | (simp only [n0, n1, n2, n3, n4, n5, n6, n7, n8, n9, m0, m1, m2, m3, m4, m5, m6, m7, m8, m9, o0, o1, o2, o3, o4, ↓reduceIte, k1, k2, k3, k4] <;> rfl) | rfl) ?_)
        ((first | (refine OpsE_do rfl ?_; (first | refine E_index el49 sz3 rfl rfl rfl rfl (ints_get hjs) rfl ?_ | refine E_index0 el49 sz3 rfl rfl rfl rfl (ints_get hjs) ?_ | refine E_indexArr el49 sz3 rfl rfl rfl rfl (ints_get hjs) ?_)) | refine OpsE_not rfl ?_); refine OpsE_eq (st' := _) (by first | (simp only [n0, n1, n2, n3, n4, n5, n6, n7, n8, n9, m0, m1, m2, m3, m4, m5, m6, m7, m8, m9, o0, o1, o2, o3, o4, ↓reduceIte, k1, k2, k3, k4] <;> rfl) | rfl) ?_)
        iterate 3 ((first | (refine OpsE_do rfl ?_; first | refine E_loadi (ds := [_]) ag3 sz3 rfl rfl rfl rfl ?_ | refine E_loadp (ds := [_]) ag3 sz3 rfl rfl rfl rfl rfl ?_ | refine E_int rfl rfl rfl rfl ?_ | refine E_pick rfl rfl ?_) | refine OpsE_not rfl ?_); refine OpsE_eq (st' := _) (by first | (simp only [n0, n1, n2, n3, n4, n5, n6, n7, n8, n9, m0, m1, m2, m3, m4, m5, m6, m7, m8, m9, o0, o1, o2, o3, o4, ↓reduceIte, k1, k2, k3, k4] <;> rfl) | rfl) ?_)
        refine OpsE_nil ?_
        repeat (first | refine R_seq ?_ | refine R_block ?_ | refine R_skip ?_)
        refine R_false rfl ?_
        repeat (first | refine R_seq ?_ | refine R_block ?_ | refine R_skip ?_)
        refine R_region ?_
        iterate 4 ((refine OpsE_do rfl ?_; first | refine E_move rfl ?_ | refine E_fieldp fo59_0 rfl rfl ?_ | refine E_fieldi fo59_0 rfl rfl ?_ | refine E_loadi (ds := [_]) ag49 sz49 rfl rfl rfl rfl ?_ | refine E_loadp (ds := [_]) ag49 sz49 rfl rfl rfl rfl rfl ?_); refine OpsE_eq (st' := _) (by first | dsimp only [n0, n1, n2, n3, n4, n5, n6, n7, n8, n9, m0, m1, m2, m3, m4, m5, m6, m7, m8, m9, o0, o1, o2, o3, o4, ↓reduceIte] | rfl) ?_)
        (refine OpsE_do rfl ?_; (first | refine E_index el49 sz3 rfl rfl rfl rfl (ints_get hj') rfl ?_ | refine E_index0 el49 sz3 rfl rfl rfl rfl (ints_get hj') ?_ | refine E_indexArr el49 sz3 rfl rfl rfl rfl (ints_get hj') ?_); refine OpsE_eq (st' := _) (by first | dsimp only [n0, n1, n2, n3, n4, n5, n6, n7, n8, n9, m0, m1, m2, m3, m4, m5, m6, m7, m8, m9, o0, o1, o2, o3, o4, ↓reduceIte] | rfl) ?_)
        iterate 3 ((refine OpsE_do rfl ?_; first | refine E_loadi (ds := [_]) ag3 sz3 rfl rfl rfl rfl ?_ | refine E_loadp (ds := [_]) ag3 sz3 rfl rfl rfl rfl rfl ?_ | refine E_int rfl rfl rfl rfl ?_ | refine E_assign rfl rfl ?_); refine OpsE_eq (st' := _) (by first | dsimp only [n0, n1, n2, n3, n4, n5, n6, n7, n8, n9, m0, m1, m2, m3, m4, m5, m6, m7, m8, m9, o0, o1, o2, o3, o4, ↓reduceIte] | rfl) ?_)
        refine OpsE_nil ?_
        repeat (first | refine R_seq ?_ | refine R_block ?_ | refine R_skip ?_)
        refine R_region ?_
        iterate 3 ((refine OpsE_do rfl ?_; first | refine E_move rfl ?_ | refine E_int rfl rfl rfl rfl ?_); refine OpsE_eq (st' := _) (by first | dsimp only [n0, n1, n2, n3, n4, n5, n6, n7, n8, n9, m0, m1, m2, m3, m4, m5, m6, m7, m8, m9, o0, o1, o2, o3, o4, ↓reduceIte] | rfl) ?_)
        refine OpsE_nil ?_
        repeat (first | refine R_seq ?_ | refine R_block ?_ | refine R_skip ?_)
        refine R_if rfl (fun h2 => ?_) (fun h2 => ?_)
        · repeat (first | refine R_seq ?_ | refine R_block ?_ | refine R_skip ?_)
          refine R_region ?_
          (refine OpsE_do rfl ?_; refine E_assign rfl rfl ?_; refine OpsE_eq (st' := _) (by first | dsimp only [n0, n1, n2, n3, n4, n5, n6, n7, n8, n9, m0, m1, m2, m3, m4, m5, m6, m7, m8, m9, o0, o1, o2, o3, o4, ↓reduceIte] | rfl) ?_)
          refine OpsE_nil ?_
          repeat (first | refine R_seq ?_ | refine R_block ?_ | refine R_skip ?_)
          refine R_ret ?_
          refine ⟨trivial, _, rfl, ?_⟩
          rw [cellsW_succ hj'] at h2
          rw [bad (by simp [stepB, h2])]
          rfl
        · repeat (first | refine R_seq ?_ | refine R_block ?_ | refine R_skip ?_)
          refine R_region ?_
          iterate 3 ((refine OpsE_do rfl ?_; first | refine E_move rfl ?_ | refine E_int rfl rfl rfl rfl ?_ | refine E_assign rfl rfl ?_); refine OpsE_eq (st' := _) (by first | dsimp only [n0, n1, n2, n3, n4, n5, n6, n7, n8, n9, m0, m1, m2, m3, m4, m5, m6, m7, m8, m9, o0, o1, o2, o3, o4, ↓reduceIte] | rfl) ?_)
          refine OpsE_nil ?_
          refine ⟨j + 1, ?_, by omega, hj', ?_⟩
          · rw [cellsW_succ hj', wrap_succ (by omega)]
            rfl
          · rw [cellsW_succ hj'] at h2
            rw [List.range_succ, List.all_append, hall]
            simp only [List.all_cons, List.all_nil, stepB, d1, d2, k1, k2, k3, k4]
            simp [h2]
      · rw [bad (by rw [stepB, d1, d2, hq]; rfl)]
        repeat (first | refine R_seq ?_ | refine R_block ?_ | refine R_skip ?_)
        refine R_region ?_
        iterate 3 ((refine OpsE_do rfl ?_; first | refine E_fieldp fo59_0 rfl rfl ?_ | refine E_fieldi fo59_0 rfl rfl ?_ | refine E_loadi (ds := [_]) ag49 sz49 rfl rfl rfl rfl ?_ | refine E_loadp (ds := [_]) ag49 sz49 rfl rfl rfl rfl rfl ?_ | refine E_move rfl ?_); refine OpsE_eq (st' := _) (by first | dsimp only [n0, n1, n2, n3, n4, n5, n6, n7, n8, n9, m0, m1, m2, m3, m4, m5, m6, m7, m8, m9, o0, o1, o2, o3, o4, ↓reduceIte] | rfl) ?_)
        (refine OpsE_do rfl ?_; (first | refine E_index el49 sz3 rfl rfl rfl rfl (ints_get hj') rfl ?_ | refine E_index0 el49 sz3 rfl rfl rfl rfl (ints_get hj') ?_ | refine E_indexArr el49 sz3 rfl rfl rfl rfl (ints_get hj') ?_); refine OpsE_eq (st' := _) (by first | dsimp only [n0, n1, n2, n3, n4, n5, n6, n7, n8, n9, m0, m1, m2, m3, m4, m5, m6, m7, m8, m9, o0, o1, o2, o3, o4, ↓reduceIte] | rfl) ?_)
        (refine OpsE_do rfl ?_; (first | refine E_loadi (ds := [_]) ag3 sz3 rfl rfl rfl rfl ?_ | refine E_loadp (ds := [_]) ag3 sz3 rfl rfl rfl rfl rfl ?_); refine OpsE_eq (st' := _) (by first | dsimp only [n0, n1, n2, n3, n4, n5, n6, n7, n8, n9, m0, m1, m2, m3, m4, m5, m6, m7, m8, m9, o0, o1, o2, o3, o4, ↓reduceIte] | rfl) ?_)
        (refine OpsE_do rfl ?_; (first | refine E_int rfl rfl rfl rfl ?_ | refine E_bin rfl rfl rfl rfl ?_); refine OpsE_eq (st' := _) (by first | dsimp only [n0, n1, n2, n3, n4, n5, n6, n7, n8, n9, m0, m1, m2, m3, m4, m5, m6, m7, m8, m9, o0, o1, o2, o3, o4, ↓reduceIte] | rfl) ?_; all_goals (cases k1 : decide (n.dims[j] < 1)))
        all_goals (iterate 4 ((first | (refine OpsE_do rfl ?_; first | refine E_move rfl ?_ | refine E_fieldp fo59_0 rfl rfl ?_ | refine E_fieldi fo59_0 rfl rfl ?_ | refine E_loadi (ds := [_]) ag49 sz49 rfl rfl rfl rfl ?_ | refine E_loadp (ds := [_]) ag49 sz49 rfl rfl rfl rfl rfl ?_) | refine OpsE_not rfl ?_); refine OpsE_eq (st' := _) (by first | dsimp only [n0, n1, n2, n3, n4, n5, n6, n7, n8, n9, m0, m1, m2, m3, m4, m5, m6, m7, m8, m9, o0, o1, o2, o3, o4, ↓reduceIte] | rfl) ?_))
        all_goals (((first | (refine OpsE_do rfl ?_; (first | refine E_index el49 sz3 rfl rfl rfl rfl (ints_get hj') rfl ?_ | refine E_index0 el49 sz3 rfl rfl rfl rfl (ints_get hj') ?_ | refine E_indexArr el49 sz3 rfl rfl rfl rfl (ints_get hj') ?_)) | refine OpsE_not rfl ?_); refine OpsE_eq (st' := _) (by first | dsimp only [n0, n1, n2, n3, n4, n5, n6, n7, n8, n9, m0, m1, m2, m3, m4, m5, m6, m7, m8, m9, o0, o1, o2, o3, o4, ↓reduceIte] | rfl) ?_))
        all_goals (iterate 2 ((first | (refine OpsE_do rfl ?_; first | refine E_loadi (ds := [_]) ag3 sz3 rfl rfl rfl rfl ?_ | refine E_loadp (ds := [_]) ag3 sz3 rfl rfl rfl rfl rfl ?_ | refine E_move rfl ?_) | refine OpsE_not rfl ?_); refine OpsE_eq (st' := _) (by first | dsimp only [n0, n1, n2, n3, n4, n5, n6, n7, n8, n9, m0, m1, m2, m3, m4, m5, m6, m7, m8, m9, o0, o1, o2, o3, o4, ↓reduceIte] | rfl) ?_))
        all_goals (first | (refine OpsE_do rfl ?_; (first | refine E_int rfl rfl rfl rfl ?_ | refine E_bin rfl rfl rfl rfl ?_); refine OpsE_eq (st' := _) (by first | dsimp only [n0, n1, n2, n3, n4, n5, n6, n7, n8, n9, m0, m1, m2, m3, m4, m5, m6, m7, m8, m9, o0, o1, o2, o3, o4, ↓reduceIte] | rfl) ?_; all_goals (cases k2 : decide (n.dims[j] > most))) | (refine OpsE_not rfl ?_; refine OpsE_eq (st' := _) (by first | dsimp only [n0, n1, n2, n3, n4, n5, n6, n7, n8, n9, m0, m1, m2, m3, m4, m5, m6, m7, m8, m9, o0, o1, o2, o3, o4, ↓reduceIte] | rfl) ?_))
        all_goals (iterate 5 ((first | (refine OpsE_do rfl ?_; first | refine E_pick rfl rfl ?_ | refine E_move rfl ?_ | refine E_fieldp fo59_2 rfl rfl ?_ | refine E_fieldi fo59_2 rfl rfl ?_ | refine E_loadi (ds := [_]) ag49 sz49 rfl rfl rfl rfl ?_ | refine E_loadp (ds := [_]) ag49 sz49 rfl rfl rfl rfl rfl ?_) | refine OpsE_not rfl ?_); refine OpsE_eq (st' := _) (by first | dsimp only [n0, n1, n2, n3, n4, n5, n6, n7, n8, n9, m0, m1, m2, m3, m4, m5, m6, m7, m8, m9, o0, o1, o2, o3, o4, ↓reduceIte] | rfl) ?_))
        all_goals (((first | (refine OpsE_do rfl ?_; (first | refine E_index el49 sz3 rfl rfl rfl rfl (ints_get hjs) rfl ?_ | refine E_index0 el49 sz3 rfl rfl rfl rfl (ints_get hjs) ?_ | refine E_indexArr el49 sz3 rfl rfl rfl rfl (ints_get hjs) ?_)) | refine OpsE_not rfl ?_); refine OpsE_eq (st' := _) (by first | dsimp only [n0, n1, n2, n3, n4, n5, n6, n7, n8, n9, m0, m1, m2, m3, m4, m5, m6, m7, m8, m9, o0, o1, o2, o3, o4, ↓reduceIte] | rfl) ?_))
        all_goals (((first | (refine OpsE_do rfl ?_; (first | refine E_loadi (ds := [_]) ag3 sz3 rfl rfl rfl rfl ?_ | refine E_loadp (ds := [_]) ag3 sz3 rfl rfl rfl rfl rfl ?_)) | refine OpsE_not rfl ?_); refine OpsE_eq (st' := _) (by first | dsimp only [n0, n1, n2, n3, n4, n5, n6, n7, n8, n9, m0, m1, m2, m3, m4, m5, m6, m7, m8, m9, o0, o1, o2, o3, o4, ↓reduceIte] | rfl) ?_))
        all_goals (first | (refine OpsE_do rfl ?_; (first | refine E_int rfl rfl rfl rfl ?_ | refine E_bin rfl rfl rfl rfl ?_); refine OpsE_eq (st' := _) (by first | dsimp only [n0, n1, n2, n3, n4, n5, n6, n7, n8, n9, m0, m1, m2, m3, m4, m5, m6, m7, m8, m9, o0, o1, o2, o3, o4, ↓reduceIte] | rfl) ?_; all_goals (cases k3 : decide (n.steps[j] < -1000000))) | (refine OpsE_not rfl ?_; refine OpsE_eq (st' := _) (by first | dsimp only [n0, n1, n2, n3, n4, n5, n6, n7, n8, n9, m0, m1, m2, m3, m4, m5, m6, m7, m8, m9, o0, o1, o2, o3, o4, ↓reduceIte] | rfl) ?_))
        all_goals (iterate 5 ((first | (refine OpsE_do rfl ?_; first | refine E_pick rfl rfl ?_ | refine E_move rfl ?_ | refine E_fieldp fo59_2 rfl rfl ?_ | refine E_fieldi fo59_2 rfl rfl ?_ | refine E_loadi (ds := [_]) ag49 sz49 rfl rfl rfl rfl ?_ | refine E_loadp (ds := [_]) ag49 sz49 rfl rfl rfl rfl rfl ?_) | refine OpsE_not rfl ?_); refine OpsE_eq (st' := _) (by first | dsimp only [n0, n1, n2, n3, n4, n5, n6, n7, n8, n9, m0, m1, m2, m3, m4, m5, m6, m7, m8, m9, o0, o1, o2, o3, o4, ↓reduceIte] | rfl) ?_))
        all_goals (((first | (refine OpsE_do rfl ?_; (first | refine E_index el49 sz3 rfl rfl rfl rfl (ints_get hjs) rfl ?_ | refine E_index0 el49 sz3 rfl rfl rfl rfl (ints_get hjs) ?_ | refine E_indexArr el49 sz3 rfl rfl rfl rfl (ints_get hjs) ?_)) | refine OpsE_not rfl ?_); refine OpsE_eq (st' := _) (by first | dsimp only [n0, n1, n2, n3, n4, n5, n6, n7, n8, n9, m0, m1, m2, m3, m4, m5, m6, m7, m8, m9, o0, o1, o2, o3, o4, ↓reduceIte] | rfl) ?_))
        all_goals (((first | (refine OpsE_do rfl ?_; (first | refine E_loadi (ds := [_]) ag3 sz3 rfl rfl rfl rfl ?_ | refine E_loadp (ds := [_]) ag3 sz3 rfl rfl rfl rfl rfl ?_)) | refine OpsE_not rfl ?_); refine OpsE_eq (st' := _) (by first | dsimp only [n0, n1, n2, n3, n4, n5, n6, n7, n8, n9, m0, m1, m2, m3, m4, m5, m6, m7, m8, m9, o0, o1, o2, o3, o4, ↓reduceIte] | rfl) ?_))
        all_goals (first | (refine OpsE_do rfl ?_; (first | refine E_int rfl rfl rfl rfl ?_ | refine E_bin rfl rfl rfl rfl ?_); refine OpsE_eq (st' := _) (by first | dsimp only [n0, n1, n2, n3, n4, n5, n6, n7, n8, n9, m0, m1, m2, m3, m4, m5, m6, m7, m8, m9, o0, o1, o2, o3, o4, ↓reduceIte] | rfl) ?_; all_goals (cases k4 : decide (n.steps[j] > 1000000))) | (refine OpsE_not rfl ?_; refine OpsE_eq (st' := _) (by first | dsimp only [n0, n1, n2, n3, n4, n5, n6, n7, n8, n9, m0, m1, m2, m3, m4, m5, m6, m7, m8, m9, o0, o1, o2, o3, o4, ↓reduceIte] | rfl) ?_))
        all_goals ((refine OpsE_do rfl ?_; refine E_pick rfl rfl ?_; refine OpsE_eq (st' := _) (by first | dsimp only [n0, n1, n2, n3, n4, n5, n6, n7, n8, n9, m0, m1, m2, m3, m4, m5, m6, m7, m8, m9, o0, o1, o2, o3, o4, ↓reduceIte] | rfl) ?_))
        all_goals (refine OpsE_nil ?_)
        all_goals (repeat (first | refine R_seq ?_ | refine R_block ?_ | refine R_skip ?_))
        all_goals (first | (refine R_true rfl ?_) | (exfalso; simp only [*, Bool.or_self, reduceCtorEq] at hq; done))
        all_goals (repeat (first | refine R_seq ?_ | refine R_block ?_ | refine R_skip ?_))
        all_goals (refine R_region (OpsE_do rfl (E_assign rfl rfl (OpsE_nil (R_ret ?_)))))
        all_goals (exact ⟨trivial, _, rfl, rfl⟩)
    · have hj' : j = n.dims.length := by simp at h; omega
      subst hj'
      repeat (first | refine R_seq ?_ | refine R_block ?_ | refine R_skip ?_)
      refine R_exit ?_
      repeat (first | refine R_seq ?_ | refine R_block ?_ | refine R_skip ?_)
      refine R_region ?_
      (refine OpsE_do rfl ?_; refine E_assign rfl rfl ?_; refine OpsE_eq (st' := _) (by first | dsimp only [n0, n1, n2, n3, n4, n5, n6, n7, n8, n9, m0, m1, m2, m3, m4, m5, m6, m7, m8, m9, o0, o1, o2, o3, o4, ↓reduceIte] | rfl) ?_)
      refine OpsE_nil ?_
      repeat (first | refine R_seq ?_ | refine R_block ?_ | refine R_skip ?_)
      refine R_ret ?_
      refine ⟨trivial, _, rfl, ?_⟩
      rw [smallB, hb, hall]
      rfl
/-- the rounds of nests together -/
def sumW (l : List Nst) : Int := l.foldl (fun a n => IntKind.i64.wrap (a + cellsW n.dims)) 0
theorem sumW_succ {l : List Nst} {j : Nat} (h : j < l.length) : IntKind.i64.wrap (sumW (l.take j) + cellsW l[j].dims) = sumW (l.take (j + 1)) := by
  rw [sumW, sumW, List.take_succ_eq_append_getElem h, List.foldl_append]; rfl
def smallsB (l : List Nst) (most : Int) : Bool := !decide (((l.map Nst.toD).length : Int) > most) && (l.all (smallB · most) && decide (sumW l ≤ IntKind.i64.wrap (4 * most)))

/-- lists that a program can hold -/
def lensOk (l : List Nst) : Prop := l.length ≤ 9223372036854775807 ∧ ∀ n ∈ l, n.dims.length ≤ 9223372036854775807 ∧ n.steps.length ≤ 9223372036854775807 ∧ n.read.strides.length ≤ 9223372036854775807

theorem c11 (l : List Nst) (most : Int) (H : List Blk) (hl : lensOk l) : PC prog env 11 [.dat (nestsD l), .dat (intD most)] H (boolPV (smallsB l most)) H := by
  obtain ⟨hl1, hl2⟩ := hl
  refine PC_pure (fn := f11) (by kernel_rfl) rfl rfl (by kernel_rfl) rfl rfl ?_ (by simp [PV.lends])
  refine R_eq (st' := ⟨[.dat (nestsD l), .dat (intD most), .tup [], .tup [], .tup [], .tup [], .tup [], .tup [], .tup [], .tup [], .tup [], .tup [], .tup [], .tup [], .tup [], .tup [], .tup [], .tup [], .tup [], .tup [], .tup [], .tup [], .tup [], .tup [], .tup [], .tup [], .tup [], .tup [], .tup [], .tup [], .tup [], .tup [], .tup [], .tup [], .tup []], []⟩) rfl ?_
  repeat (first | refine R_seq ?_ | refine R_block ?_ | refine R_skip ?_)
  refine R_region ?_
  (refine OpsE_do rfl ?_; refine E_assign rfl rfl ?_; refine OpsE_eq (st' := _) (by first | dsimp only [n0, n1, n2, n3, n4, n5, n6, n7, n8, n9, m0, m1, m2, m3, m4, m5, m6, m7, m8, m9, o0, o1, o2, o3, o4, ↓reduceIte] | rfl) ?_)
  refine OpsE_nil ?_
  repeat (first | refine R_seq ?_ | refine R_block ?_ | refine R_skip ?_)
  refine R_region ?_
  iterate 4 ((refine OpsE_do rfl ?_; first | refine E_move rfl ?_ | refine E_len un22 rfl rfl ?_ | refine E_int rfl rfl rfl rfl ?_); refine OpsE_eq (st' := _) (by first | dsimp only [n0, n1, n2, n3, n4, n5, n6, n7, n8, n9, m0, m1, m2, m3, m4, m5, m6, m7, m8, m9, o0, o1, o2, o3, o4, ↓reduceIte] | rfl) ?_)
  refine OpsE_nil ?_
  repeat (first | refine R_seq ?_ | refine R_block ?_ | refine R_skip ?_)
  refine R_if rfl (fun hm => ?_) (fun hm => ?_)
  · repeat (first | refine R_seq ?_ | refine R_block ?_ | refine R_skip ?_)
    refine R_region ?_
    (refine OpsE_do rfl ?_; refine E_assign rfl rfl ?_; refine OpsE_eq (st' := _) (by first | dsimp only [n0, n1, n2, n3, n4, n5, n6, n7, n8, n9, m0, m1, m2, m3, m4, m5, m6, m7, m8, m9, o0, o1, o2, o3, o4, ↓reduceIte] | rfl) ?_)
    refine OpsE_nil ?_
    repeat (first | refine R_seq ?_ | refine R_block ?_ | refine R_skip ?_)
    refine R_ret ?_
    refine ⟨trivial, _, rfl, ?_⟩
    rw [smallsB, decide_eq_true hm]
    rfl
  · repeat (first | refine R_seq ?_ | refine R_block ?_ | refine R_skip ?_)
    refine R_region ?_
    (refine OpsE_do rfl ?_; refine E_assign rfl rfl ?_; refine OpsE_eq (st' := _) (by first | dsimp only [n0, n1, n2, n3, n4, n5, n6, n7, n8, n9, m0, m1, m2, m3, m4, m5, m6, m7, m8, m9, o0, o1, o2, o3, o4, ↓reduceIte] | rfl) ?_)
    refine OpsE_nil ?_
    repeat (first | refine R_seq ?_ | refine R_block ?_ | refine R_skip ?_)
    refine R_region ?_
    (refine OpsE_do rfl ?_; refine E_assign rfl rfl ?_; refine OpsE_eq (st' := _) (by first | dsimp only [n0, n1, n2, n3, n4, n5, n6, n7, n8, n9, m0, m1, m2, m3, m4, m5, m6, m7, m8, m9, o0, o1, o2, o3, o4, ↓reduceIte] | rfl) ?_)
    refine OpsE_nil ?_
    repeat (first | refine R_seq ?_ | refine R_block ?_ | refine R_skip ?_)
    refine R_loop ?_
    refine RL_ind (fun (j : Nat) => ⟨[.dat (nestsD l), .dat (intD most), .undef, .undef, .undef, intPV (sumW (l.take j)), intPV (j : Int), .undef, .undef, .undef, .undef, .undef, .undef, .undef, .undef, .undef, .undef, .undef, .undef, .undef, .undef, .undef, .undef, .undef, .undef, .undef, .undef, .undef, .undef, .undef, .undef, .undef, .undef, .undef, .undef], []⟩)
      (fun j => j ≤ l.length ∧ (l.take j).all (smallB · most) = true) (fun j => l.length - j) (fun j hj => ?_) _ 0 _ (Nat.lt_succ_self _) ⟨Nat.zero_le _, rfl⟩ rfl
    obtain ⟨hj, hall⟩ := hj
    repeat (first | refine R_seq ?_ | refine R_block ?_ | refine R_skip ?_)
    refine R_region ?_
    iterate 4 ((refine OpsE_do rfl ?_; first | refine E_move rfl ?_ | refine E_len un22 rfl rfl ?_ | refine E_int rfl rfl rfl rfl ?_); refine OpsE_eq (st' := _) (by first | dsimp only [n0, n1, n2, n3, n4, n5, n6, n7, n8, n9, m0, m1, m2, m3, m4, m5, m6, m7, m8, m9, o0, o1, o2, o3, o4, ↓reduceIte] | rfl) ?_)
    refine OpsE_nil ?_
    repeat (first | refine R_seq ?_ | refine R_block ?_ | refine R_skip ?_)
    refine R_if rfl (fun h => ?_) (fun h => ?_)
    · have hj' : j < l.length := by simpa using h
      obtain ⟨b1, b2, b3⟩ := hl2 l[j] (List.getElem_mem hj')
      cases hs : smallB l[j] most
      · repeat (first | refine R_seq ?_ | refine R_block ?_ | refine R_skip ?_)
        refine R_region ?_
        iterate 2 ((refine OpsE_do rfl ?_; refine E_move rfl ?_); refine OpsE_eq (st' := _) (by first | (simp only [n0, n1, n2, n3, n4, n5, n6, n7, n8, n9, m0, m1, m2, m3, m4, m5, m6, m7, m8, m9, o0, o1, o2, o3, o4, ↓reduceIte, hs] <;> rfl) | rfl) ?_)
        (refine OpsE_do rfl ?_; (first | refine E_index el22 sz59 rfl rfl rfl rfl (nests_get hj') rfl ?_ | refine E_index0 el22 sz59 rfl rfl rfl rfl (nests_get hj') ?_ | refine E_indexArr el22 sz59 rfl rfl rfl rfl (nests_get hj') ?_); refine OpsE_eq (st' := _) (by first | (simp only [n0, n1, n2, n3, n4, n5, n6, n7, n8, n9, m0, m1, m2, m3, m4, m5, m6, m7, m8, m9, o0, o1, o2, o3, o4, ↓reduceIte, hs] <;> rfl) | rfl) ?_)
        iterate 2 ((refine OpsE_do rfl ?_; first | refine E_loadi (ds := [_, _, _, _, _, _, _, _, _, _]) (d := .agg [_, _, _, _, _, _, _, _, _, _]) ag59 sz59 rfl rfl rfl rfl ?_ | refine E_loadp (ds := [_, _, _, _, _, _, _, _, _, _]) (v := .dat (.agg [_, _, _, _, _, _, _, _, _, _])) ag59 sz59 rfl rfl rfl rfl rfl ?_ | refine E_loadp (ds := [_, _, _, _, _, _, _, _, _, _]) (v := .agg [_, _, _, _, _, _, _, _, _, _]) ag59 sz59 rfl rfl rfl rfl rfl ?_ | refine E_move rfl ?_); refine OpsE_eq (st' := _) (by first | (simp only [n0, n1, n2, n3, n4, n5, n6, n7, n8, n9, m0, m1, m2, m3, m4, m5, m6, m7, m8, m9, o0, o1, o2, o3, o4, ↓reduceIte, hs] <;> rfl) | rfl) ?_)
        (refine OpsE_do rfl ?_; (first | refine E_call rfl rfl rfl (c31 l[j] _ _ b1 b3) ?_ | refine E_callfn rfl rfl rfl (c31 l[j] _ _ b1 b3) ?_); refine OpsE_eq (st' := _) (by first | (simp only [n0, n1, n2, n3, n4, n5, n6, n7, n8, n9, m0, m1, m2, m3, m4, m5, m6, m7, m8, m9, o0, o1, o2, o3, o4, ↓reduceIte, hs] <;> rfl) | rfl) ?_)
        (refine OpsE_do rfl ?_; refine E_not rfl rfl ?_; refine OpsE_eq (st' := _) (by first | (simp only [n0, n1, n2, n3, n4, n5, n6, n7, n8, n9, m0, m1, m2, m3, m4, m5, m6, m7, m8, m9, o0, o1, o2, o3, o4, ↓reduceIte, hs] <;> rfl) | rfl) ?_)
        refine OpsE_nil ?_
        repeat (first | refine R_seq ?_ | refine R_block ?_ | refine R_skip ?_)
        refine R_true rfl ?_
        repeat (first | refine R_seq ?_ | refine R_block ?_ | refine R_skip ?_)
        refine R_region ?_
        (refine OpsE_do rfl ?_; refine E_assign rfl rfl ?_; refine OpsE_eq (st' := _) (by first | dsimp only [n0, n1, n2, n3, n4, n5, n6, n7, n8, n9, m0, m1, m2, m3, m4, m5, m6, m7, m8, m9, o0, o1, o2, o3, o4, ↓reduceIte] | rfl) ?_)
        refine OpsE_nil ?_
        repeat (first | refine R_seq ?_ | refine R_block ?_ | refine R_skip ?_)
        refine R_ret ?_
        refine ⟨trivial, _, rfl, ?_⟩
        have : l.all (smallB · most) = false := List.all_eq_false.2 ⟨_, List.getElem_mem hj', by simp [hs]⟩
        rw [smallsB, this, Bool.false_and, Bool.and_false]
        rfl
      · repeat (first | refine R_seq ?_ | refine R_block ?_ | refine R_skip ?_)
        refine R_region ?_
        iterate 2 ((refine OpsE_do rfl ?_; refine E_move rfl ?_); refine OpsE_eq (st' := _) (by first | (simp only [n0, n1, n2, n3, n4, n5, n6, n7, n8, n9, m0, m1, m2, m3, m4, m5, m6, m7, m8, m9, o0, o1, o2, o3, o4, ↓reduceIte, hs] <;> rfl) | rfl) ?_)
        (refine OpsE_do rfl ?_; (first | refine E_index el22 sz59 rfl rfl rfl rfl (nests_get hj') rfl ?_ | refine E_index0 el22 sz59 rfl rfl rfl rfl (nests_get hj') ?_ | refine E_indexArr el22 sz59 rfl rfl rfl rfl (nests_get hj') ?_); refine OpsE_eq (st' := _) (by first | (simp only [n0, n1, n2, n3, n4, n5, n6, n7, n8, n9, m0, m1, m2, m3, m4, m5, m6, m7, m8, m9, o0, o1, o2, o3, o4, ↓reduceIte, hs] <;> rfl) | rfl) ?_)
        iterate 2 ((refine OpsE_do rfl ?_; first | refine E_loadi (ds := [_, _, _, _, _, _, _, _, _, _]) (d := .agg [_, _, _, _, _, _, _, _, _, _]) ag59 sz59 rfl rfl rfl rfl ?_ | refine E_loadp (ds := [_, _, _, _, _, _, _, _, _, _]) (v := .dat (.agg [_, _, _, _, _, _, _, _, _, _])) ag59 sz59 rfl rfl rfl rfl rfl ?_ | refine E_loadp (ds := [_, _, _, _, _, _, _, _, _, _]) (v := .agg [_, _, _, _, _, _, _, _, _, _]) ag59 sz59 rfl rfl rfl rfl rfl ?_ | refine E_move rfl ?_); refine OpsE_eq (st' := _) (by first | (simp only [n0, n1, n2, n3, n4, n5, n6, n7, n8, n9, m0, m1, m2, m3, m4, m5, m6, m7, m8, m9, o0, o1, o2, o3, o4, ↓reduceIte, hs] <;> rfl) | rfl) ?_)
        (refine OpsE_do rfl ?_; (first | refine E_call rfl rfl rfl (c31 l[j] _ _ b1 b3) ?_ | refine E_callfn rfl rfl rfl (c31 l[j] _ _ b1 b3) ?_); refine OpsE_eq (st' := _) (by first | (simp only [n0, n1, n2, n3, n4, n5, n6, n7, n8, n9, m0, m1, m2, m3, m4, m5, m6, m7, m8, m9, o0, o1, o2, o3, o4, ↓reduceIte, hs] <;> rfl) | rfl) ?_)
        (refine OpsE_do rfl ?_; refine E_not rfl rfl ?_; refine OpsE_eq (st' := _) (by first | (simp only [n0, n1, n2, n3, n4, n5, n6, n7, n8, n9, m0, m1, m2, m3, m4, m5, m6, m7, m8, m9, o0, o1, o2, o3, o4, ↓reduceIte, hs] <;> rfl) | rfl) ?_)
        refine OpsE_nil ?_
        repeat (first | refine R_seq ?_ | refine R_block ?_ | refine R_skip ?_)
        refine R_false rfl ?_
        repeat (first | refine R_seq ?_ | refine R_block ?_ | refine R_skip ?_)
        refine R_region ?_
        iterate 3 ((refine OpsE_do rfl ?_; refine E_move rfl ?_); refine OpsE_eq (st' := _) (by first | dsimp only [n0, n1, n2, n3, n4, n5, n6, n7, n8, n9, m0, m1, m2, m3, m4, m5, m6, m7, m8, m9, o0, o1, o2, o3, o4, ↓reduceIte] | rfl) ?_)
        (refine OpsE_do rfl ?_; (first | refine E_index el22 sz59 rfl rfl rfl rfl (nests_get hj') rfl ?_ | refine E_index0 el22 sz59 rfl rfl rfl rfl (nests_get hj') ?_ | refine E_indexArr el22 sz59 rfl rfl rfl rfl (nests_get hj') ?_); refine OpsE_eq (st' := _) (by first | dsimp only [n0, n1, n2, n3, n4, n5, n6, n7, n8, n9, m0, m1, m2, m3, m4, m5, m6, m7, m8, m9, o0, o1, o2, o3, o4, ↓reduceIte] | rfl) ?_)
        (refine OpsE_do rfl ?_; (first | refine E_loadi (ds := [_, _, _, _, _, _, _, _, _, _]) (d := .agg [_, _, _, _, _, _, _, _, _, _]) ag59 sz59 rfl rfl rfl rfl ?_ | refine E_loadp (ds := [_, _, _, _, _, _, _, _, _, _]) (v := .dat (.agg [_, _, _, _, _, _, _, _, _, _])) ag59 sz59 rfl rfl rfl rfl rfl ?_ | refine E_loadp (ds := [_, _, _, _, _, _, _, _, _, _]) (v := .agg [_, _, _, _, _, _, _, _, _, _]) ag59 sz59 rfl rfl rfl rfl rfl ?_); refine OpsE_eq (st' := _) (by first | dsimp only [n0, n1, n2, n3, n4, n5, n6, n7, n8, n9, m0, m1, m2, m3, m4, m5, m6, m7, m8, m9, o0, o1, o2, o3, o4, ↓reduceIte] | rfl) ?_)
        (refine OpsE_do rfl ?_; (first | refine E_call rfl rfl rfl (c32 l[j] _ b1) ?_ | refine E_callfn rfl rfl rfl (c32 l[j] _ b1) ?_); refine OpsE_eq (st' := _) (by first | dsimp only [n0, n1, n2, n3, n4, n5, n6, n7, n8, n9, m0, m1, m2, m3, m4, m5, m6, m7, m8, m9, o0, o1, o2, o3, o4, ↓reduceIte] | rfl) ?_)
        iterate 2 ((refine OpsE_do rfl ?_; first | refine E_int rfl rfl rfl rfl ?_ | refine E_assign rfl rfl ?_); refine OpsE_eq (st' := _) (by first | dsimp only [n0, n1, n2, n3, n4, n5, n6, n7, n8, n9, m0, m1, m2, m3, m4, m5, m6, m7, m8, m9, o0, o1, o2, o3, o4, ↓reduceIte] | rfl) ?_)
        refine OpsE_nil ?_
        repeat (first | refine R_seq ?_ | refine R_block ?_ | refine R_skip ?_)
        refine R_region ?_
        iterate 3 ((refine OpsE_do rfl ?_; first | refine E_move rfl ?_ | refine E_int rfl rfl rfl rfl ?_ | refine E_assign rfl rfl ?_); refine OpsE_eq (st' := _) (by first | dsimp only [n0, n1, n2, n3, n4, n5, n6, n7, n8, n9, m0, m1, m2, m3, m4, m5, m6, m7, m8, m9, o0, o1, o2, o3, o4, ↓reduceIte] | rfl) ?_)
        refine OpsE_nil ?_
        refine ⟨j + 1, ?_, by omega, hj', ?_⟩
        · rw [sumW_succ hj', wrap_succ (by omega)]
          rfl
        · rw [List.take_succ_eq_append_getElem hj', List.all_append, hall]; simp [hs]
    · have hj' : j = l.length := by simp at h; omega
      subst hj'
      rw [List.take_length] at hall
      repeat (first | refine R_seq ?_ | refine R_block ?_ | refine R_skip ?_)
      refine R_exit ?_
      repeat (first | refine R_seq ?_ | refine R_block ?_ | refine R_skip ?_)
      refine R_region ?_
      iterate 5 ((refine OpsE_do rfl ?_; first | refine E_move rfl ?_ | refine E_int rfl rfl rfl rfl ?_ | refine E_assign rfl rfl ?_); refine OpsE_eq (st' := _) (by first | dsimp only [n0, n1, n2, n3, n4, n5, n6, n7, n8, n9, m0, m1, m2, m3, m4, m5, m6, m7, m8, m9, o0, o1, o2, o3, o4, ↓reduceIte] | rfl) ?_)
      refine OpsE_nil ?_
      repeat (first | refine R_seq ?_ | refine R_block ?_ | refine R_skip ?_)
      refine R_ret ?_
      refine ⟨trivial, _, rfl, ?_⟩
      rw [smallsB, hall, decide_eq_false hm, List.take_length]
      rfl
end Go.Proofs.Try
