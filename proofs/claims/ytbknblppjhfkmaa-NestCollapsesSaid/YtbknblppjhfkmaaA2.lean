/-
  Seat a: contracts of the accesses' functions.
-/
import Derived.Test.YtbknblppjhfkmaaA1
namespace Go.Proofs.Try
open Go Go.Pm
set_option linter.unusedVariables false
set_option linter.unusedSimpArgs false
set_option maxRecDepth 2000

/-- all numbers of an access are from -most to most -/
def boundedB (a : Acc) (most : Int) : Bool := (a.strides.all fun n => nearB n most) && (nearB a.buffer most && nearB a.base most && nearB a.start most && nearB a.step most && nearB a.mod most)

theorem c48 (a : Acc) (most : Int) (H : List Blk) (hl : a.strides.length ≤ 9223372036854775807) : PC prog env 48 [.dat a.toD, .dat (intD most)] H (boolPV (boundedB a most)) H := by
  refine PC_pure (fn := f48) (by kernel_rfl) rfl rfl (by kernel_rfl) rfl rfl ?_ (by simp [PV.lends])
  refine R_eq (st' := ⟨[.dat (a.toD), .dat (intD most), .tup [], .tup [], .tup [], .tup [], .tup [], .tup [], .tup [], .tup [], .tup [], .tup [], .tup [], .tup [], .tup [], .tup [], .tup [], .tup [], .tup [], .tup [], .tup [], .tup [], .tup [], .tup [], .tup [], .tup [], .tup [], .tup [], .tup [], .tup [], .tup [], .tup [], .tup [], .tup [], .tup [], .tup [], .tup [], .tup [], .tup [], .tup [], .tup [], .tup [], .tup [], .tup [], .tup [], .tup [], .tup [], .tup [], .tup []], []⟩) rfl ?_
  repeat (first | refine R_seq ?_ | refine R_block ?_ | refine R_skip ?_)
  refine R_region ?_
  iterate 2 ((refine OpsE_do rfl ?_; first | refine E_box (cs := [_, _, _, _, _, _, _]) rfl rfl rfl ?_ | refine E_assign rfl rfl ?_); refine OpsE_eq (st' := _) (by first | dsimp only [n0, n1, n2, n3, n4, n5, n6, n7, n8, n9, m0, m1, m2, m3, m4, m5, m6, m7, m8, m9, o0, o1, o2, o3, o4, ↓reduceIte] | rfl) ?_)
  refine OpsE_nil ?_
  repeat (first | refine R_seq ?_ | refine R_block ?_ | refine R_skip ?_)
  refine R_region ?_
  (refine OpsE_do rfl ?_; refine E_assign rfl rfl ?_; refine OpsE_eq (st' := _) (by first | dsimp only [n0, n1, n2, n3, n4, n5, n6, n7, n8, n9, m0, m1, m2, m3, m4, m5, m6, m7, m8, m9, o0, o1, o2, o3, o4, ↓reduceIte] | rfl) ?_)
  refine OpsE_nil ?_
  repeat (first | refine R_seq ?_ | refine R_block ?_ | refine R_skip ?_)
  refine R_loop ?_
  refine RL_ind (fun (j : Nat) => ⟨[.undef, .dat (intD most), .ptr 0 0, .undef, .undef, intPV (j : Int), .undef, .undef, .undef, .undef, .undef, .undef, .undef, .undef, .undef, .undef, .undef, .undef, .undef, .undef, .undef, .undef, .undef, .undef, .undef, .undef, .undef, .undef, .undef, .undef, .undef, .undef, .undef, .undef, .undef, .undef, .undef, .undef, .undef, .undef, .undef, .undef, .undef, .undef, .undef, .undef, .undef, .undef, .undef], [.box (a.toD.cells.map .dat)]⟩)
    (fun j => j ≤ a.strides.length ∧ (a.strides.take j).all (fun n => nearB n most) = true) (fun j => a.strides.length - j) (fun j hj => ?_) _ 0 _ (Nat.lt_succ_self _) ⟨Nat.zero_le _, rfl⟩ rfl
  obtain ⟨hj, hall⟩ := hj
  repeat (first | refine R_seq ?_ | refine R_block ?_ | refine R_skip ?_)
  refine R_region ?_
  iterate 5 ((refine OpsE_do rfl ?_; first | refine E_move rfl ?_ | refine E_fieldp fo57_3 rfl rfl ?_ | refine E_fieldi fo57_3 rfl rfl ?_ | refine E_loadi (ds := [_]) ag49 sz49 rfl rfl rfl rfl ?_ | refine E_loadp (ds := [_]) ag49 sz49 rfl rfl rfl rfl rfl ?_ | refine E_len un49 rfl rfl ?_ | refine E_int rfl rfl rfl rfl ?_); refine OpsE_eq (st' := _) (by first | dsimp only [n0, n1, n2, n3, n4, n5, n6, n7, n8, n9, m0, m1, m2, m3, m4, m5, m6, m7, m8, m9, o0, o1, o2, o3, o4, ↓reduceIte] | rfl) ?_)
  refine OpsE_nil ?_
  repeat (first | refine R_seq ?_ | refine R_block ?_ | refine R_skip ?_)
  refine R_if rfl (fun h => ?_) (fun h => ?_)
  · have hj' : j < a.strides.length := by simpa using h
    cases hn : nearB a.strides[j] most
    · repeat (first | refine R_seq ?_ | refine R_block ?_ | refine R_skip ?_)
      refine R_region ?_
      iterate 3 ((refine OpsE_do rfl ?_; first | refine E_fieldp fo57_3 rfl rfl ?_ | refine E_fieldi fo57_3 rfl rfl ?_ | refine E_loadi (ds := [_]) ag49 sz49 rfl rfl rfl rfl ?_ | refine E_loadp (ds := [_]) ag49 sz49 rfl rfl rfl rfl rfl ?_ | refine E_move rfl ?_); refine OpsE_eq (st' := _) (by first | (simp only [n0, n1, n2, n3, n4, n5, n6, n7, n8, n9, m0, m1, m2, m3, m4, m5, m6, m7, m8, m9, o0, o1, o2, o3, o4, ↓reduceIte, hn] <;> rfl) | rfl) ?_)
      (refine OpsE_do rfl ?_; (first | refine E_index el49 sz3 rfl rfl rfl rfl (ints_get hj') rfl ?_ | refine E_index0 el49 sz3 rfl rfl rfl rfl (ints_get hj') ?_ | refine E_indexArr el49 sz3 rfl rfl rfl rfl (ints_get hj') ?_); refine OpsE_eq (st' := _) (by first | (simp only [n0, n1, n2, n3, n4, n5, n6, n7, n8, n9, m0, m1, m2, m3, m4, m5, m6, m7, m8, m9, o0, o1, o2, o3, o4, ↓reduceIte, hn] <;> rfl) | rfl) ?_)
      iterate 2 ((refine OpsE_do rfl ?_; first | refine E_loadi (ds := [_]) ag3 sz3 rfl rfl rfl rfl ?_ | refine E_loadp (ds := [_]) ag3 sz3 rfl rfl rfl rfl rfl ?_ | refine E_move rfl ?_); refine OpsE_eq (st' := _) (by first | (simp only [n0, n1, n2, n3, n4, n5, n6, n7, n8, n9, m0, m1, m2, m3, m4, m5, m6, m7, m8, m9, o0, o1, o2, o3, o4, ↓reduceIte, hn] <;> rfl) | rfl) ?_)
      (refine OpsE_do rfl ?_; (first | refine E_call rfl rfl rfl (c59 _ _ _) ?_ | refine E_callfn rfl rfl rfl (c59 _ _ _) ?_); refine OpsE_eq (st' := _) (by first | (simp only [n0, n1, n2, n3, n4, n5, n6, n7, n8, n9, m0, m1, m2, m3, m4, m5, m6, m7, m8, m9, o0, o1, o2, o3, o4, ↓reduceIte, hn] <;> rfl) | rfl) ?_)
      (refine OpsE_do rfl ?_; refine E_not rfl rfl ?_; refine OpsE_eq (st' := _) (by first | (simp only [n0, n1, n2, n3, n4, n5, n6, n7, n8, n9, m0, m1, m2, m3, m4, m5, m6, m7, m8, m9, o0, o1, o2, o3, o4, ↓reduceIte, hn] <;> rfl) | rfl) ?_)
      refine OpsE_nil ?_
      repeat (first | refine R_seq ?_ | refine R_block ?_ | refine R_skip ?_)
      refine R_true rfl ?_
      repeat (first | refine R_seq ?_ | refine R_block ?_ | refine R_skip ?_)
      refine R_region ?_
      (refine OpsE_do rfl ?_; refine E_assign rfl rfl ?_; refine OpsE_eq (st' := _) (by first | dsimp only [n0, n1, n2, n3, n4, n5, n6, n7, n8, n9, m0, m1, m2, m3, m4, m5, m6, m7, m8, m9, o0, o1, o2, o3, o4, ↓reduceIte] | rfl) ?_)
      refine OpsE_nil ?_
      repeat (first | refine R_seq ?_ | refine R_block ?_ | refine R_skip ?_)
      refine R_ret ?_
      refine ⟨trivial, _, rfl, ?_⟩
      have : (a.strides.all fun n => nearB n most) = false := List.all_eq_false.2 ⟨_, List.getElem_mem hj', by simp [hn]⟩
      rw [boundedB, this]
      rfl
    · repeat (first | refine R_seq ?_ | refine R_block ?_ | refine R_skip ?_)
      refine R_region ?_
      iterate 3 ((refine OpsE_do rfl ?_; first | refine E_fieldp fo57_3 rfl rfl ?_ | refine E_fieldi fo57_3 rfl rfl ?_ | refine E_loadi (ds := [_]) ag49 sz49 rfl rfl rfl rfl ?_ | refine E_loadp (ds := [_]) ag49 sz49 rfl rfl rfl rfl rfl ?_ | refine E_move rfl ?_); refine OpsE_eq (st' := _) (by first | (simp only [n0, n1, n2, n3, n4, n5, n6, n7, n8, n9, m0, m1, m2, m3, m4, m5, m6, m7, m8, m9, o0, o1, o2, o3, o4, ↓reduceIte, hn] <;> rfl) | rfl) ?_)
      (refine OpsE_do rfl ?_; (first | refine E_index el49 sz3 rfl rfl rfl rfl (ints_get hj') rfl ?_ | refine E_index0 el49 sz3 rfl rfl rfl rfl (ints_get hj') ?_ | refine E_indexArr el49 sz3 rfl rfl rfl rfl (ints_get hj') ?_); refine OpsE_eq (st' := _) (by first | (simp only [n0, n1, n2, n3, n4, n5, n6, n7, n8, n9, m0, m1, m2, m3, m4, m5, m6, m7, m8, m9, o0, o1, o2, o3, o4, ↓reduceIte, hn] <;> rfl) | rfl) ?_)
      iterate 2 ((refine OpsE_do rfl ?_; first | refine E_loadi (ds := [_]) ag3 sz3 rfl rfl rfl rfl ?_ | refine E_loadp (ds := [_]) ag3 sz3 rfl rfl rfl rfl rfl ?_ | refine E_move rfl ?_); refine OpsE_eq (st' := _) (by first | (simp only [n0, n1, n2, n3, n4, n5, n6, n7, n8, n9, m0, m1, m2, m3, m4, m5, m6, m7, m8, m9, o0, o1, o2, o3, o4, ↓reduceIte, hn] <;> rfl) | rfl) ?_)
      (refine OpsE_do rfl ?_; (first | refine E_call rfl rfl rfl (c59 _ _ _) ?_ | refine E_callfn rfl rfl rfl (c59 _ _ _) ?_); refine OpsE_eq (st' := _) (by first | (simp only [n0, n1, n2, n3, n4, n5, n6, n7, n8, n9, m0, m1, m2, m3, m4, m5, m6, m7, m8, m9, o0, o1, o2, o3, o4, ↓reduceIte, hn] <;> rfl) | rfl) ?_)
      (refine OpsE_do rfl ?_; refine E_not rfl rfl ?_; refine OpsE_eq (st' := _) (by first | (simp only [n0, n1, n2, n3, n4, n5, n6, n7, n8, n9, m0, m1, m2, m3, m4, m5, m6, m7, m8, m9, o0, o1, o2, o3, o4, ↓reduceIte, hn] <;> rfl) | rfl) ?_)
      refine OpsE_nil ?_
      repeat (first | refine R_seq ?_ | refine R_block ?_ | refine R_skip ?_)
      refine R_false rfl ?_
      repeat (first | refine R_seq ?_ | refine R_block ?_ | refine R_skip ?_)
      refine R_region ?_
      iterate 3 ((refine OpsE_do rfl ?_; first | refine E_move rfl ?_ | refine E_int rfl rfl rfl rfl ?_ | refine E_assign rfl rfl ?_); refine OpsE_eq (st' := _) (by first | dsimp only [n0, n1, n2, n3, n4, n5, n6, n7, n8, n9, m0, m1, m2, m3, m4, m5, m6, m7, m8, m9, o0, o1, o2, o3, o4, ↓reduceIte] | rfl) ?_)
      refine OpsE_nil ?_
      refine ⟨j + 1, ?_, by omega, hj', ?_⟩
      · rw [wrap_succ (by omega)]
        rfl
      · rw [List.take_succ_eq_append_getElem hj', List.all_append, hall]; simp [hn]
  · have hj' : j = a.strides.length := by simp at h; omega
    subst hj'
    rw [List.take_length] at hall
    repeat (first | refine R_seq ?_ | refine R_block ?_ | refine R_skip ?_)
    refine R_exit ?_
    repeat (first | refine R_seq ?_ | refine R_block ?_ | refine R_skip ?_)
    refine R_region ?_
    iterate 3 ((refine OpsE_do rfl ?_; first | refine E_fieldp fo57_1 rfl rfl ?_ | refine E_fieldi fo57_1 rfl rfl ?_ | refine E_loadi (ds := [_]) ag3 sz3 rfl rfl rfl rfl ?_ | refine E_loadp (ds := [_]) ag3 sz3 rfl rfl rfl rfl rfl ?_ | refine E_move rfl ?_); refine OpsE_eq (st' := _) (by first | dsimp only [n0, n1, n2, n3, n4, n5, n6, n7, n8, n9, m0, m1, m2, m3, m4, m5, m6, m7, m8, m9, o0, o1, o2, o3, o4, ↓reduceIte] | rfl) ?_)
    (refine OpsE_do rfl ?_; (first | refine E_call rfl rfl rfl (c59 _ _ _) ?_ | refine E_callfn rfl rfl rfl (c59 _ _ _) ?_); refine OpsE_eq (st' := _) (by first | dsimp only [n0, n1, n2, n3, n4, n5, n6, n7, n8, n9, m0, m1, m2, m3, m4, m5, m6, m7, m8, m9, o0, o1, o2, o3, o4, ↓reduceIte] | rfl) ?_; all_goals (cases h1 : nearB a.buffer most))
    all_goals (iterate 4 ((first | (refine OpsE_do rfl ?_; first | refine E_move rfl ?_ | refine E_fieldp fo57_2 rfl rfl ?_ | refine E_fieldi fo57_2 rfl rfl ?_ | refine E_loadi (ds := [_]) ag3 sz3 rfl rfl rfl rfl ?_ | refine E_loadp (ds := [_]) ag3 sz3 rfl rfl rfl rfl rfl ?_) | refine OpsE_not rfl ?_); refine OpsE_eq (st' := _) (by first | dsimp only [n0, n1, n2, n3, n4, n5, n6, n7, n8, n9, m0, m1, m2, m3, m4, m5, m6, m7, m8, m9, o0, o1, o2, o3, o4, ↓reduceIte] | rfl) ?_))
    all_goals (first | (refine OpsE_do rfl ?_; (first | refine E_call rfl rfl rfl (c59 _ _ _) ?_ | refine E_callfn rfl rfl rfl (c59 _ _ _) ?_); refine OpsE_eq (st' := _) (by first | dsimp only [n0, n1, n2, n3, n4, n5, n6, n7, n8, n9, m0, m1, m2, m3, m4, m5, m6, m7, m8, m9, o0, o1, o2, o3, o4, ↓reduceIte] | rfl) ?_; all_goals (cases h2 : nearB a.base most)) | (refine OpsE_not rfl ?_; refine OpsE_eq (st' := _) (by first | dsimp only [n0, n1, n2, n3, n4, n5, n6, n7, n8, n9, m0, m1, m2, m3, m4, m5, m6, m7, m8, m9, o0, o1, o2, o3, o4, ↓reduceIte] | rfl) ?_))
    all_goals (iterate 5 ((first | (refine OpsE_do rfl ?_; first | refine E_pick rfl rfl ?_ | refine E_move rfl ?_ | refine E_fieldp fo57_4 rfl rfl ?_ | refine E_fieldi fo57_4 rfl rfl ?_ | refine E_loadi (ds := [_]) ag3 sz3 rfl rfl rfl rfl ?_ | refine E_loadp (ds := [_]) ag3 sz3 rfl rfl rfl rfl rfl ?_) | refine OpsE_not rfl ?_); refine OpsE_eq (st' := _) (by first | dsimp only [n0, n1, n2, n3, n4, n5, n6, n7, n8, n9, m0, m1, m2, m3, m4, m5, m6, m7, m8, m9, o0, o1, o2, o3, o4, ↓reduceIte] | rfl) ?_))
    all_goals (first | (refine OpsE_do rfl ?_; (first | refine E_call rfl rfl rfl (c59 _ _ _) ?_ | refine E_callfn rfl rfl rfl (c59 _ _ _) ?_); refine OpsE_eq (st' := _) (by first | dsimp only [n0, n1, n2, n3, n4, n5, n6, n7, n8, n9, m0, m1, m2, m3, m4, m5, m6, m7, m8, m9, o0, o1, o2, o3, o4, ↓reduceIte] | rfl) ?_; all_goals (cases h3 : nearB a.start most)) | (refine OpsE_not rfl ?_; refine OpsE_eq (st' := _) (by first | dsimp only [n0, n1, n2, n3, n4, n5, n6, n7, n8, n9, m0, m1, m2, m3, m4, m5, m6, m7, m8, m9, o0, o1, o2, o3, o4, ↓reduceIte] | rfl) ?_))
    all_goals (iterate 5 ((first | (refine OpsE_do rfl ?_; first | refine E_pick rfl rfl ?_ | refine E_move rfl ?_ | refine E_fieldp fo57_5 rfl rfl ?_ | refine E_fieldi fo57_5 rfl rfl ?_ | refine E_loadi (ds := [_]) ag3 sz3 rfl rfl rfl rfl ?_ | refine E_loadp (ds := [_]) ag3 sz3 rfl rfl rfl rfl rfl ?_) | refine OpsE_not rfl ?_); refine OpsE_eq (st' := _) (by first | dsimp only [n0, n1, n2, n3, n4, n5, n6, n7, n8, n9, m0, m1, m2, m3, m4, m5, m6, m7, m8, m9, o0, o1, o2, o3, o4, ↓reduceIte] | rfl) ?_))
    all_goals (first | (refine OpsE_do rfl ?_; (first | refine E_call rfl rfl rfl (c59 _ _ _) ?_ | refine E_callfn rfl rfl rfl (c59 _ _ _) ?_); refine OpsE_eq (st' := _) (by first | dsimp only [n0, n1, n2, n3, n4, n5, n6, n7, n8, n9, m0, m1, m2, m3, m4, m5, m6, m7, m8, m9, o0, o1, o2, o3, o4, ↓reduceIte] | rfl) ?_; all_goals (cases h4 : nearB a.step most)) | (refine OpsE_not rfl ?_; refine OpsE_eq (st' := _) (by first | dsimp only [n0, n1, n2, n3, n4, n5, n6, n7, n8, n9, m0, m1, m2, m3, m4, m5, m6, m7, m8, m9, o0, o1, o2, o3, o4, ↓reduceIte] | rfl) ?_))
    all_goals (iterate 5 ((first | (refine OpsE_do rfl ?_; first | refine E_pick rfl rfl ?_ | refine E_move rfl ?_ | refine E_fieldp fo57_6 rfl rfl ?_ | refine E_fieldi fo57_6 rfl rfl ?_ | refine E_loadi (ds := [_]) ag3 sz3 rfl rfl rfl rfl ?_ | refine E_loadp (ds := [_]) ag3 sz3 rfl rfl rfl rfl rfl ?_) | refine OpsE_not rfl ?_); refine OpsE_eq (st' := _) (by first | dsimp only [n0, n1, n2, n3, n4, n5, n6, n7, n8, n9, m0, m1, m2, m3, m4, m5, m6, m7, m8, m9, o0, o1, o2, o3, o4, ↓reduceIte] | rfl) ?_))
    all_goals (((first | (refine OpsE_do rfl ?_; (first | refine E_call rfl rfl rfl (c59 _ _ _) ?_ | refine E_callfn rfl rfl rfl (c59 _ _ _) ?_)) | refine OpsE_not rfl ?_); refine OpsE_eq (st' := _) (by first | dsimp only [n0, n1, n2, n3, n4, n5, n6, n7, n8, n9, m0, m1, m2, m3, m4, m5, m6, m7, m8, m9, o0, o1, o2, o3, o4, ↓reduceIte] | rfl) ?_))
    all_goals (iterate 2 ((refine OpsE_do rfl ?_; first | refine E_pick rfl rfl ?_ | refine E_assign rfl rfl ?_); refine OpsE_eq (st' := _) (by first | dsimp only [n0, n1, n2, n3, n4, n5, n6, n7, n8, n9, m0, m1, m2, m3, m4, m5, m6, m7, m8, m9, o0, o1, o2, o3, o4, ↓reduceIte] | rfl) ?_))
    all_goals (refine OpsE_nil ?_)
    all_goals (repeat (first | refine R_seq ?_ | refine R_block ?_ | refine R_skip ?_))
    all_goals (refine R_ret ?_)
    all_goals (refine ⟨trivial, _, rfl, ?_⟩; simp only [boundedB, hall, *, Bool.true_and, Bool.false_and, Bool.and_true, Bool.and_false]; rfl)
/-- where an access reads in a round -/
def atM (a : Acc) (ix : List Int) : Int × Bool :=
  if a.kind = 1 then (0, false) else if a.kind = 2 then (IntKind.i64.wrap (a.base + dotW a.strides ix), true)
  else (IntKind.i64.wrap (a.base + IntKind.i64.wrap (a.step * (if (IntKind.i64.wrap (a.start + dotW a.strides ix)).tmod a.mod < 0 then IntKind.i64.wrap ((IntKind.i64.wrap (a.start + dotW a.strides ix)).tmod a.mod + a.mod) else (IntKind.i64.wrap (a.start + dotW a.strides ix)).tmod a.mod))), true)

theorem c51 (a : Acc) (ix : List Int) (H : List Blk) (hl : a.strides.length ≤ 9223372036854775807) (hi : ix.length ≤ 9223372036854775807) (hm : a.kind = 1 ∨ a.kind = 2 ∨ a.mod ≠ 0) :
    PC prog env 51 [.dat a.toD, .dat (intsD ix)] H (.tup [intPV (atM a ix).1, boolPV (atM a ix).2]) H := by
  refine PC_pure (fn := f51) (by kernel_rfl) rfl rfl (by kernel_rfl) rfl rfl ?_ (by simp [PV.lends])
  refine R_eq (st' := ⟨[.dat (a.toD), .dat (intsD ix), .tup [], .tup [], .tup [], .tup [], .tup [], .tup [], .tup [], .tup [], .tup [], .tup [], .tup [], .tup [], .tup [], .tup [], .tup [], .tup [], .tup [], .tup [], .tup [], .tup [], .tup [], .tup [], .tup [], .tup [], .tup [], .tup [], .tup [], .tup [], .tup [], .tup [], .tup [], .tup [], .tup [], .tup [], .tup [], .tup [], .tup [], .tup [], .tup [], .tup []], []⟩) rfl ?_
  repeat (first | refine R_seq ?_ | refine R_block ?_ | refine R_skip ?_)
  refine R_region ?_
  iterate 3 ((refine OpsE_do rfl ?_; first | refine E_box (cs := [_, _, _, _, _, _, _]) rfl rfl rfl ?_ | refine E_assign rfl rfl ?_); refine OpsE_eq (st' := _) (by first | dsimp only [n0, n1, n2, n3, n4, n5, n6, n7, n8, n9, m0, m1, m2, m3, m4, m5, m6, m7, m8, m9, o0, o1, o2, o3, o4, ↓reduceIte] | rfl) ?_)
  refine OpsE_nil ?_
  repeat (first | refine R_seq ?_ | refine R_block ?_ | refine R_skip ?_)
  refine R_region ?_
  iterate 3 ((refine OpsE_do rfl ?_; first | refine E_fieldp fo57_3 rfl rfl ?_ | refine E_fieldi fo57_3 rfl rfl ?_ | refine E_loadi (ds := [_]) ag49 sz49 rfl rfl rfl rfl ?_ | refine E_loadp (ds := [_]) ag49 sz49 rfl rfl rfl rfl rfl ?_ | refine E_move rfl ?_); refine OpsE_eq (st' := _) (by first | dsimp only [n0, n1, n2, n3, n4, n5, n6, n7, n8, n9, m0, m1, m2, m3, m4, m5, m6, m7, m8, m9, o0, o1, o2, o3, o4, ↓reduceIte] | rfl) ?_)
  (refine OpsE_do rfl ?_; (first | refine E_call rfl rfl rfl (c50 _ _ _ hl hi) ?_ | refine E_callfn rfl rfl rfl (c50 _ _ _ hl hi) ?_); refine OpsE_eq (st' := _) (by first | dsimp only [n0, n1, n2, n3, n4, n5, n6, n7, n8, n9, m0, m1, m2, m3, m4, m5, m6, m7, m8, m9, o0, o1, o2, o3, o4, ↓reduceIte] | rfl) ?_)
  (refine OpsE_do rfl ?_; refine E_assign rfl rfl ?_; refine OpsE_eq (st' := _) (by first | dsimp only [n0, n1, n2, n3, n4, n5, n6, n7, n8, n9, m0, m1, m2, m3, m4, m5, m6, m7, m8, m9, o0, o1, o2, o3, o4, ↓reduceIte] | rfl) ?_)
  refine OpsE_nil ?_
  repeat (first | refine R_seq ?_ | refine R_block ?_ | refine R_skip ?_)
  refine R_region ?_
  iterate 3 ((refine OpsE_do rfl ?_; first | refine E_fieldp fo57_0 rfl rfl ?_ | refine E_fieldi fo57_0 rfl rfl ?_ | refine E_loadi (ds := [_]) ag3 sz3 rfl rfl rfl rfl ?_ | refine E_loadp (ds := [_]) ag3 sz3 rfl rfl rfl rfl rfl ?_ | refine E_int rfl rfl rfl rfl ?_); refine OpsE_eq (st' := _) (by first | dsimp only [n0, n1, n2, n3, n4, n5, n6, n7, n8, n9, m0, m1, m2, m3, m4, m5, m6, m7, m8, m9, o0, o1, o2, o3, o4, ↓reduceIte] | rfl) ?_)
  refine OpsE_nil ?_
  repeat (first | refine R_seq ?_ | refine R_block ?_ | refine R_skip ?_)
  refine R_cond rfl (fun h => ?_) (fun h => ?_)
  · repeat (first | refine R_seq ?_ | refine R_block ?_ | refine R_skip ?_)
    refine R_region ?_
    iterate 2 ((refine OpsE_do rfl ?_; refine E_assign rfl rfl ?_); refine OpsE_eq (st' := _) (by first | dsimp only [n0, n1, n2, n3, n4, n5, n6, n7, n8, n9, m0, m1, m2, m3, m4, m5, m6, m7, m8, m9, o0, o1, o2, o3, o4, ↓reduceIte] | rfl) ?_)
    refine OpsE_nil ?_
    repeat (first | refine R_seq ?_ | refine R_block ?_ | refine R_skip ?_)
    refine R_ret ?_
    refine ⟨trivial, _, rfl, ?_⟩
    have : a.kind = 1 := by simpa using h
    simp only [atM, this]
    rfl
  · have h1 : ¬ a.kind = 1 := by simpa using h
    repeat (first | refine R_seq ?_ | refine R_block ?_ | refine R_skip ?_)
    refine R_region ?_
    iterate 3 ((refine OpsE_do rfl ?_; first | refine E_fieldp fo57_0 rfl rfl ?_ | refine E_fieldi fo57_0 rfl rfl ?_ | refine E_loadi (ds := [_]) ag3 sz3 rfl rfl rfl rfl ?_ | refine E_loadp (ds := [_]) ag3 sz3 rfl rfl rfl rfl rfl ?_ | refine E_int rfl rfl rfl rfl ?_); refine OpsE_eq (st' := _) (by first | dsimp only [n0, n1, n2, n3, n4, n5, n6, n7, n8, n9, m0, m1, m2, m3, m4, m5, m6, m7, m8, m9, o0, o1, o2, o3, o4, ↓reduceIte] | rfl) ?_)
    refine OpsE_nil ?_
    repeat (first | refine R_seq ?_ | refine R_block ?_ | refine R_skip ?_)
    refine R_cond rfl (fun h => ?_) (fun h => ?_)
    · repeat (first | refine R_seq ?_ | refine R_block ?_ | refine R_skip ?_)
      refine R_region ?_
      iterate 6 ((refine OpsE_do rfl ?_; first | refine E_fieldp fo57_2 rfl rfl ?_ | refine E_fieldi fo57_2 rfl rfl ?_ | refine E_loadi (ds := [_]) ag3 sz3 rfl rfl rfl rfl ?_ | refine E_loadp (ds := [_]) ag3 sz3 rfl rfl rfl rfl rfl ?_ | refine E_move rfl ?_ | refine E_int rfl rfl rfl rfl ?_ | refine E_assign rfl rfl ?_); refine OpsE_eq (st' := _) (by first | dsimp only [n0, n1, n2, n3, n4, n5, n6, n7, n8, n9, m0, m1, m2, m3, m4, m5, m6, m7, m8, m9, o0, o1, o2, o3, o4, ↓reduceIte] | rfl) ?_)
      refine OpsE_nil ?_
      repeat (first | refine R_seq ?_ | refine R_block ?_ | refine R_skip ?_)
      refine R_ret ?_
      refine ⟨trivial, _, rfl, ?_⟩
      have : a.kind = 2 := by simpa using h
      simp only [atM, this]
      rfl
    · have h2 : ¬ a.kind = 2 := by simpa using h
      have h0 : a.mod ≠ 0 := by rcases hm with h | h | h; exact absurd h h1; exact absurd h h2; exact h
      repeat (first | refine R_seq ?_ | refine R_block ?_ | refine R_skip ?_)
      refine R_region ?_
      iterate 6 ((refine OpsE_do rfl ?_; first | refine E_fieldp fo57_4 rfl rfl ?_ | refine E_fieldi fo57_4 rfl rfl ?_ | refine E_loadi (ds := [_]) ag3 sz3 rfl rfl rfl rfl ?_ | refine E_loadp (ds := [_]) ag3 sz3 rfl rfl rfl rfl rfl ?_ | refine E_move rfl ?_ | refine E_int rfl rfl rfl rfl ?_ | refine E_fieldp fo57_6 rfl rfl ?_ | refine E_fieldi fo57_6 rfl rfl ?_); refine OpsE_eq (st' := _) (by first | dsimp only [n0, n1, n2, n3, n4, n5, n6, n7, n8, n9, m0, m1, m2, m3, m4, m5, m6, m7, m8, m9, o0, o1, o2, o3, o4, ↓reduceIte] | rfl) ?_)
      (refine OpsE_do rfl ?_; refine E_int rfl rfl rfl (rem_ok h0) ?_; refine OpsE_eq (st' := _) (by first | dsimp only [n0, n1, n2, n3, n4, n5, n6, n7, n8, n9, m0, m1, m2, m3, m4, m5, m6, m7, m8, m9, o0, o1, o2, o3, o4, ↓reduceIte] | rfl) ?_)
      (refine OpsE_do rfl ?_; refine E_assign rfl rfl ?_; refine OpsE_eq (st' := _) (by first | dsimp only [n0, n1, n2, n3, n4, n5, n6, n7, n8, n9, m0, m1, m2, m3, m4, m5, m6, m7, m8, m9, o0, o1, o2, o3, o4, ↓reduceIte] | rfl) ?_)
      refine OpsE_nil ?_
      repeat (first | refine R_seq ?_ | refine R_block ?_ | refine R_skip ?_)
      refine R_region ?_
      iterate 2 ((refine OpsE_do rfl ?_; first | refine E_move rfl ?_ | refine E_int rfl rfl rfl rfl ?_); refine OpsE_eq (st' := _) (by first | dsimp only [n0, n1, n2, n3, n4, n5, n6, n7, n8, n9, m0, m1, m2, m3, m4, m5, m6, m7, m8, m9, o0, o1, o2, o3, o4, ↓reduceIte] | rfl) ?_)
      refine OpsE_nil ?_
      repeat (first | refine R_seq ?_ | refine R_block ?_ | refine R_skip ?_)
      refine R_if rfl (fun h => ?_) (fun h => ?_)
      · repeat (first | refine R_seq ?_ | refine R_block ?_ | refine R_skip ?_)
        refine R_region ?_
        iterate 5 ((refine OpsE_do rfl ?_; first | refine E_move rfl ?_ | refine E_fieldp fo57_6 rfl rfl ?_ | refine E_fieldi fo57_6 rfl rfl ?_ | refine E_loadi (ds := [_]) ag3 sz3 rfl rfl rfl rfl ?_ | refine E_loadp (ds := [_]) ag3 sz3 rfl rfl rfl rfl rfl ?_ | refine E_int rfl rfl rfl rfl ?_ | refine E_assign rfl rfl ?_); refine OpsE_eq (st' := _) (by first | dsimp only [n0, n1, n2, n3, n4, n5, n6, n7, n8, n9, m0, m1, m2, m3, m4, m5, m6, m7, m8, m9, o0, o1, o2, o3, o4, ↓reduceIte] | rfl) ?_)
        refine OpsE_nil ?_
        repeat (first | refine R_seq ?_ | refine R_block ?_ | refine R_skip ?_)
        refine R_region ?_
        iterate 9 ((refine OpsE_do rfl ?_; first | refine E_fieldp fo57_2 rfl rfl ?_ | refine E_fieldi fo57_2 rfl rfl ?_ | refine E_loadi (ds := [_]) ag3 sz3 rfl rfl rfl rfl ?_ | refine E_loadp (ds := [_]) ag3 sz3 rfl rfl rfl rfl rfl ?_ | refine E_fieldp fo57_5 rfl rfl ?_ | refine E_fieldi fo57_5 rfl rfl ?_ | refine E_move rfl ?_ | refine E_int rfl rfl rfl rfl ?_ | refine E_assign rfl rfl ?_); refine OpsE_eq (st' := _) (by first | dsimp only [n0, n1, n2, n3, n4, n5, n6, n7, n8, n9, m0, m1, m2, m3, m4, m5, m6, m7, m8, m9, o0, o1, o2, o3, o4, ↓reduceIte] | rfl) ?_)
        refine OpsE_nil ?_
        repeat (first | refine R_seq ?_ | refine R_block ?_ | refine R_skip ?_)
        refine R_ret ?_
        refine ⟨trivial, _, rfl, ?_⟩
        rw [atM, if_neg h1, if_neg h2, if_pos h]
        rfl
      · repeat (first | refine R_seq ?_ | refine R_block ?_ | refine R_skip ?_)
        refine R_region ?_
        iterate 9 ((refine OpsE_do rfl ?_; first | refine E_fieldp fo57_2 rfl rfl ?_ | refine E_fieldi fo57_2 rfl rfl ?_ | refine E_loadi (ds := [_]) ag3 sz3 rfl rfl rfl rfl ?_ | refine E_loadp (ds := [_]) ag3 sz3 rfl rfl rfl rfl rfl ?_ | refine E_fieldp fo57_5 rfl rfl ?_ | refine E_fieldi fo57_5 rfl rfl ?_ | refine E_move rfl ?_ | refine E_int rfl rfl rfl rfl ?_ | refine E_assign rfl rfl ?_); refine OpsE_eq (st' := _) (by first | dsimp only [n0, n1, n2, n3, n4, n5, n6, n7, n8, n9, m0, m1, m2, m3, m4, m5, m6, m7, m8, m9, o0, o1, o2, o3, o4, ↓reduceIte] | rfl) ?_)
        refine OpsE_nil ?_
        repeat (first | refine R_seq ?_ | refine R_block ?_ | refine R_skip ?_)
        refine R_ret ?_
        refine ⟨trivial, _, rfl, ?_⟩
        rw [atM, if_neg h1, if_neg h2, if_neg h]
        rfl
/-- an access is right for a rank -/
def rightB (a : Acc) (rank : Int) : Bool :=
  if (decide (rank < 0) || decide (rank > 16) || !boundedB a 1099511627776 || decide (a.buffer < 0)) then false
  else if a.kind == 1 then a.buffer == 0 && a.base == 0 && ((a.strides.map intD).length : Int) == 0 && a.start == 0 && a.step == 0 && a.mod == 0
  else if a.kind == 2 then ((a.strides.map intD).length : Int) == rank && a.start == 0 && a.step == 0 && a.mod == 0
  else if a.kind == 3 then ((a.strides.map intD).length : Int) == rank && decide (a.mod > 0)
  else false

theorem c47 (a : Acc) (rank : Int) (H : List Blk) (hl : a.strides.length ≤ 9223372036854775807) : PC prog env 47 [.dat a.toD, .dat (intD rank)] H (boolPV (rightB a rank)) H := by
  refine PC_pure (fn := f47) (by kernel_rfl) rfl rfl (by kernel_rfl) rfl rfl ?_ (by simp [PV.lends])
  refine R_eq (st' := ⟨[.dat (a.toD), .dat (intD rank), .tup [], .tup [], .tup [], .tup [], .tup [], .tup [], .tup [], .tup [], .tup [], .tup [], .tup [], .tup [], .tup [], .tup [], .tup [], .tup [], .tup [], .tup [], .tup [], .tup [], .tup [], .tup [], .tup [], .tup [], .tup [], .tup [], .tup [], .tup [], .tup [], .tup [], .tup [], .tup [], .tup [], .tup [], .tup [], .tup [], .tup [], .tup [], .tup [], .tup [], .tup [], .tup [], .tup [], .tup [], .tup [], .tup [], .tup [], .tup [], .tup [], .tup [], .tup [], .tup [], .tup [], .tup [], .tup [], .tup [], .tup [], .tup [], .tup [], .tup [], .tup [], .tup [], .tup [], .tup [], .tup [], .tup [], .tup [], .tup [], .tup [], .tup [], .tup [], .tup [], .tup [], .tup [], .tup [], .tup [], .tup [], .tup [], .tup [], .tup [], .tup [], .tup [], .tup [], .tup [], .tup [], .tup []], []⟩) rfl ?_
  repeat (first | refine R_seq ?_ | refine R_block ?_ | refine R_skip ?_)
  refine R_region ?_
  iterate 2 ((refine OpsE_do rfl ?_; first | refine E_box (cs := [_, _, _, _, _, _, _]) rfl rfl rfl ?_ | refine E_assign rfl rfl ?_); refine OpsE_eq (st' := _) (by first | dsimp only [n0, n1, n2, n3, n4, n5, n6, n7, n8, n9, m0, m1, m2, m3, m4, m5, m6, m7, m8, m9, o0, o1, o2, o3, o4, ↓reduceIte] | rfl) ?_)
  refine OpsE_nil ?_
  cases hb : (decide (rank < 0) || decide (rank > 16) || !boundedB a 1099511627776 || decide (a.buffer < 0))
  · simp only [Bool.or_eq_false_iff, Bool.not_eq_false'] at hb
    obtain ⟨⟨⟨g1, g2⟩, g3⟩, g4⟩ := hb
    repeat (first | refine R_seq ?_ | refine R_block ?_ | refine R_skip ?_)
    refine R_region ?_
    iterate 8 ((first | (refine OpsE_do rfl ?_; first | refine E_move rfl ?_ | refine E_int rfl rfl rfl rfl ?_ | refine E_pick rfl rfl ?_ | refine E_loadi (ds := [_, _, _, _, _, _, _]) (d := .agg [_, _, _, _, _, _, _]) ag57 sz57 rfl rfl rfl rfl ?_ | refine E_loadp (ds := [_, _, _, _, _, _, _]) (v := .dat (.agg [_, _, _, _, _, _, _])) ag57 sz57 rfl rfl rfl rfl rfl ?_ | refine E_loadp (ds := [_, _, _, _, _, _, _]) (v := .agg [_, _, _, _, _, _, _]) ag57 sz57 rfl rfl rfl rfl rfl ?_) | refine OpsE_not rfl ?_); refine OpsE_eq (st' := _) (by first | (simp only [n0, n1, n2, n3, n4, n5, n6, n7, n8, n9, m0, m1, m2, m3, m4, m5, m6, m7, m8, m9, o0, o1, o2, o3, o4, ↓reduceIte, g1, g2, g3, g4, Bool.not_true] <;> rfl) | rfl) ?_)
    ((first | (refine OpsE_do rfl ?_; (first | refine E_call rfl rfl rfl (c48 _ _ _ hl) ?_ | refine E_callfn rfl rfl rfl (c48 _ _ _ hl) ?_)) | refine OpsE_not rfl ?_); refine OpsE_eq (st' := _) (by first | (simp only [n0, n1, n2, n3, n4, n5, n6, n7, n8, n9, m0, m1, m2, m3, m4, m5, m6, m7, m8, m9, o0, o1, o2, o3, o4, ↓reduceIte, g1, g2, g3, g4, Bool.not_true] <;> rfl) | rfl) ?_)
    iterate 7 ((first | (refine OpsE_do rfl ?_; first | refine E_not rfl rfl ?_ | refine E_pick rfl rfl ?_ | refine E_move rfl ?_ | refine E_fieldp fo57_1 rfl rfl ?_ | refine E_fieldi fo57_1 rfl rfl ?_ | refine E_loadi (ds := [_]) ag3 sz3 rfl rfl rfl rfl ?_ | refine E_loadp (ds := [_]) ag3 sz3 rfl rfl rfl rfl rfl ?_ | refine E_int rfl rfl rfl rfl ?_) | refine OpsE_not rfl ?_); refine OpsE_eq (st' := _) (by first | (simp only [n0, n1, n2, n3, n4, n5, n6, n7, n8, n9, m0, m1, m2, m3, m4, m5, m6, m7, m8, m9, o0, o1, o2, o3, o4, ↓reduceIte, g1, g2, g3, g4, Bool.not_true] <;> rfl) | rfl) ?_)
    refine OpsE_nil ?_
    repeat (first | refine R_seq ?_ | refine R_block ?_ | refine R_skip ?_)
    refine R_false rfl ?_
    repeat (first | refine R_seq ?_ | refine R_block ?_ | refine R_skip ?_)
    refine R_region ?_
    iterate 2 ((refine OpsE_do rfl ?_; first | refine E_fieldp fo57_0 rfl rfl ?_ | refine E_fieldi fo57_0 rfl rfl ?_ | refine E_loadi (ds := [_]) ag3 sz3 rfl rfl rfl rfl ?_ | refine E_loadp (ds := [_]) ag3 sz3 rfl rfl rfl rfl rfl ?_); refine OpsE_eq (st' := _) (by first | dsimp only [n0, n1, n2, n3, n4, n5, n6, n7, n8, n9, m0, m1, m2, m3, m4, m5, m6, m7, m8, m9, o0, o1, o2, o3, o4, ↓reduceIte] | rfl) ?_)
    refine OpsE_nil ?_
    repeat (first | refine R_seq ?_ | refine R_block ?_ | refine R_skip ?_)
    refine R_region ?_
    iterate 2 ((refine OpsE_do rfl ?_; first | refine E_int rfl rfl rfl rfl ?_ | refine E_assign rfl rfl ?_); refine OpsE_eq (st' := _) (by first | dsimp only [n0, n1, n2, n3, n4, n5, n6, n7, n8, n9, m0, m1, m2, m3, m4, m5, m6, m7, m8, m9, o0, o1, o2, o3, o4, ↓reduceIte] | rfl) ?_)
    refine OpsE_nil ?_
    repeat (first | refine R_seq ?_ | refine R_block ?_ | refine R_skip ?_)
    refine R_cond rfl (fun k0 => ?_) (fun k0 => ?_)
    · repeat (first | refine R_seq ?_ | refine R_block ?_ | refine R_skip ?_)
      refine R_region ?_
      iterate 2 ((refine OpsE_do rfl ?_; first | refine E_fieldp fo57_1 rfl rfl ?_ | refine E_fieldi fo57_1 rfl rfl ?_ | refine E_loadi (ds := [_]) ag3 sz3 rfl rfl rfl rfl ?_ | refine E_loadp (ds := [_]) ag3 sz3 rfl rfl rfl rfl rfl ?_); refine OpsE_eq (st' := _) (by first | dsimp only [n0, n1, n2, n3, n4, n5, n6, n7, n8, n9, m0, m1, m2, m3, m4, m5, m6, m7, m8, m9, o0, o1, o2, o3, o4, ↓reduceIte] | rfl) ?_)
      (refine OpsE_do rfl ?_; (first | refine E_int rfl rfl rfl rfl ?_ | refine E_bin rfl rfl rfl rfl ?_); refine OpsE_eq (st' := _) (by first | dsimp only [n0, n1, n2, n3, n4, n5, n6, n7, n8, n9, m0, m1, m2, m3, m4, m5, m6, m7, m8, m9, o0, o1, o2, o3, o4, ↓reduceIte] | rfl) ?_; all_goals (cases k1 : (a.buffer == 0)))
      all_goals (iterate 3 ((first | (refine OpsE_do rfl ?_; first | refine E_move rfl ?_ | refine E_fieldp fo57_2 rfl rfl ?_ | refine E_fieldi fo57_2 rfl rfl ?_ | refine E_loadi (ds := [_]) ag3 sz3 rfl rfl rfl rfl ?_ | refine E_loadp (ds := [_]) ag3 sz3 rfl rfl rfl rfl rfl ?_) | refine OpsE_not rfl ?_); refine OpsE_eq (st' := _) (by first | dsimp only [n0, n1, n2, n3, n4, n5, n6, n7, n8, n9, m0, m1, m2, m3, m4, m5, m6, m7, m8, m9, o0, o1, o2, o3, o4, ↓reduceIte] | rfl) ?_))
      all_goals (first | (refine OpsE_do rfl ?_; (first | refine E_int rfl rfl rfl rfl ?_ | refine E_bin rfl rfl rfl rfl ?_); refine OpsE_eq (st' := _) (by first | dsimp only [n0, n1, n2, n3, n4, n5, n6, n7, n8, n9, m0, m1, m2, m3, m4, m5, m6, m7, m8, m9, o0, o1, o2, o3, o4, ↓reduceIte] | rfl) ?_; all_goals (cases k2 : (a.base == 0))) | (refine OpsE_not rfl ?_; refine OpsE_eq (st' := _) (by first | dsimp only [n0, n1, n2, n3, n4, n5, n6, n7, n8, n9, m0, m1, m2, m3, m4, m5, m6, m7, m8, m9, o0, o1, o2, o3, o4, ↓reduceIte] | rfl) ?_))
      all_goals (iterate 5 ((first | (refine OpsE_do rfl ?_; first | refine E_pick rfl rfl ?_ | refine E_move rfl ?_ | refine E_fieldp fo57_3 rfl rfl ?_ | refine E_fieldi fo57_3 rfl rfl ?_ | refine E_loadi (ds := [_]) ag49 sz49 rfl rfl rfl rfl ?_ | refine E_loadp (ds := [_]) ag49 sz49 rfl rfl rfl rfl rfl ?_ | refine E_len un49 rfl rfl ?_) | refine OpsE_not rfl ?_); refine OpsE_eq (st' := _) (by first | dsimp only [n0, n1, n2, n3, n4, n5, n6, n7, n8, n9, m0, m1, m2, m3, m4, m5, m6, m7, m8, m9, o0, o1, o2, o3, o4, ↓reduceIte] | rfl) ?_))
      all_goals (first | (refine OpsE_do rfl ?_; (first | refine E_int rfl rfl rfl rfl ?_ | refine E_bin rfl rfl rfl rfl ?_); refine OpsE_eq (st' := _) (by first | dsimp only [n0, n1, n2, n3, n4, n5, n6, n7, n8, n9, m0, m1, m2, m3, m4, m5, m6, m7, m8, m9, o0, o1, o2, o3, o4, ↓reduceIte] | rfl) ?_; all_goals (cases k3 : (((a.strides.map intD).length : Int) == 0))) | (refine OpsE_not rfl ?_; refine OpsE_eq (st' := _) (by first | dsimp only [n0, n1, n2, n3, n4, n5, n6, n7, n8, n9, m0, m1, m2, m3, m4, m5, m6, m7, m8, m9, o0, o1, o2, o3, o4, ↓reduceIte] | rfl) ?_))
      all_goals (iterate 4 ((first | (refine OpsE_do rfl ?_; first | refine E_pick rfl rfl ?_ | refine E_move rfl ?_ | refine E_fieldp fo57_4 rfl rfl ?_ | refine E_fieldi fo57_4 rfl rfl ?_ | refine E_loadi (ds := [_]) ag3 sz3 rfl rfl rfl rfl ?_ | refine E_loadp (ds := [_]) ag3 sz3 rfl rfl rfl rfl rfl ?_) | refine OpsE_not rfl ?_); refine OpsE_eq (st' := _) (by first | dsimp only [n0, n1, n2, n3, n4, n5, n6, n7, n8, n9, m0, m1, m2, m3, m4, m5, m6, m7, m8, m9, o0, o1, o2, o3, o4, ↓reduceIte] | rfl) ?_))
      all_goals (first | (refine OpsE_do rfl ?_; (first | refine E_int rfl rfl rfl rfl ?_ | refine E_bin rfl rfl rfl rfl ?_); refine OpsE_eq (st' := _) (by first | dsimp only [n0, n1, n2, n3, n4, n5, n6, n7, n8, n9, m0, m1, m2, m3, m4, m5, m6, m7, m8, m9, o0, o1, o2, o3, o4, ↓reduceIte] | rfl) ?_; all_goals (cases k4 : (a.start == 0))) | (refine OpsE_not rfl ?_; refine OpsE_eq (st' := _) (by first | dsimp only [n0, n1, n2, n3, n4, n5, n6, n7, n8, n9, m0, m1, m2, m3, m4, m5, m6, m7, m8, m9, o0, o1, o2, o3, o4, ↓reduceIte] | rfl) ?_))
      all_goals (iterate 4 ((first | (refine OpsE_do rfl ?_; first | refine E_pick rfl rfl ?_ | refine E_move rfl ?_ | refine E_fieldp fo57_5 rfl rfl ?_ | refine E_fieldi fo57_5 rfl rfl ?_ | refine E_loadi (ds := [_]) ag3 sz3 rfl rfl rfl rfl ?_ | refine E_loadp (ds := [_]) ag3 sz3 rfl rfl rfl rfl rfl ?_) | refine OpsE_not rfl ?_); refine OpsE_eq (st' := _) (by first | dsimp only [n0, n1, n2, n3, n4, n5, n6, n7, n8, n9, m0, m1, m2, m3, m4, m5, m6, m7, m8, m9, o0, o1, o2, o3, o4, ↓reduceIte] | rfl) ?_))
      all_goals (first | (refine OpsE_do rfl ?_; (first | refine E_int rfl rfl rfl rfl ?_ | refine E_bin rfl rfl rfl rfl ?_); refine OpsE_eq (st' := _) (by first | dsimp only [n0, n1, n2, n3, n4, n5, n6, n7, n8, n9, m0, m1, m2, m3, m4, m5, m6, m7, m8, m9, o0, o1, o2, o3, o4, ↓reduceIte] | rfl) ?_; all_goals (cases k5 : (a.step == 0))) | (refine OpsE_not rfl ?_; refine OpsE_eq (st' := _) (by first | dsimp only [n0, n1, n2, n3, n4, n5, n6, n7, n8, n9, m0, m1, m2, m3, m4, m5, m6, m7, m8, m9, o0, o1, o2, o3, o4, ↓reduceIte] | rfl) ?_))
      all_goals (iterate 7 ((first | (refine OpsE_do rfl ?_; first | refine E_pick rfl rfl ?_ | refine E_move rfl ?_ | refine E_fieldp fo57_6 rfl rfl ?_ | refine E_fieldi fo57_6 rfl rfl ?_ | refine E_loadi (ds := [_]) ag3 sz3 rfl rfl rfl rfl ?_ | refine E_loadp (ds := [_]) ag3 sz3 rfl rfl rfl rfl rfl ?_ | refine E_int rfl rfl rfl rfl ?_ | refine E_assign rfl rfl ?_) | refine OpsE_not rfl ?_); refine OpsE_eq (st' := _) (by first | dsimp only [n0, n1, n2, n3, n4, n5, n6, n7, n8, n9, m0, m1, m2, m3, m4, m5, m6, m7, m8, m9, o0, o1, o2, o3, o4, ↓reduceIte] | rfl) ?_))
      all_goals (refine OpsE_nil ?_)
      all_goals (repeat (first | refine R_seq ?_ | refine R_block ?_ | refine R_skip ?_))
      all_goals (refine R_ret ?_)
      all_goals (refine ⟨trivial, _, rfl, ?_⟩; simp only [rightB, g1, g2, g3, g4, *, Bool.or_self, Bool.not_true, Bool.false_eq_true, if_false, if_true, Bool.true_and, Bool.false_and, Bool.and_true, Bool.and_false]; rfl)
    · repeat (first | refine R_seq ?_ | refine R_block ?_ | refine R_skip ?_)
      refine R_region ?_
      iterate 2 ((refine OpsE_do rfl ?_; first | refine E_int rfl rfl rfl rfl ?_ | refine E_assign rfl rfl ?_); refine OpsE_eq (st' := _) (by first | dsimp only [n0, n1, n2, n3, n4, n5, n6, n7, n8, n9, m0, m1, m2, m3, m4, m5, m6, m7, m8, m9, o0, o1, o2, o3, o4, ↓reduceIte] | rfl) ?_)
      refine OpsE_nil ?_
      repeat (first | refine R_seq ?_ | refine R_block ?_ | refine R_skip ?_)
      refine R_cond rfl (fun k9 => ?_) (fun k9 => ?_)
      · skip
        repeat (first | refine R_seq ?_ | refine R_block ?_ | refine R_skip ?_)
        refine R_region ?_
        iterate 4 ((refine OpsE_do rfl ?_; first | refine E_fieldp fo57_3 rfl rfl ?_ | refine E_fieldi fo57_3 rfl rfl ?_ | refine E_loadi (ds := [_]) ag49 sz49 rfl rfl rfl rfl ?_ | refine E_loadp (ds := [_]) ag49 sz49 rfl rfl rfl rfl rfl ?_ | refine E_len un49 rfl rfl ?_ | refine E_move rfl ?_); refine OpsE_eq (st' := _) (by first | dsimp only [n0, n1, n2, n3, n4, n5, n6, n7, n8, n9, m0, m1, m2, m3, m4, m5, m6, m7, m8, m9, o0, o1, o2, o3, o4, ↓reduceIte] | rfl) ?_)
        (refine OpsE_do rfl ?_; (first | refine E_int rfl rfl rfl rfl ?_ | refine E_bin rfl rfl rfl rfl ?_); refine OpsE_eq (st' := _) (by first | dsimp only [n0, n1, n2, n3, n4, n5, n6, n7, n8, n9, m0, m1, m2, m3, m4, m5, m6, m7, m8, m9, o0, o1, o2, o3, o4, ↓reduceIte] | rfl) ?_; all_goals (cases k1 : (((a.strides.map intD).length : Int) == rank)))
        all_goals (iterate 3 ((first | (refine OpsE_do rfl ?_; first | refine E_move rfl ?_ | refine E_fieldp fo57_4 rfl rfl ?_ | refine E_fieldi fo57_4 rfl rfl ?_ | refine E_loadi (ds := [_]) ag3 sz3 rfl rfl rfl rfl ?_ | refine E_loadp (ds := [_]) ag3 sz3 rfl rfl rfl rfl rfl ?_) | refine OpsE_not rfl ?_); refine OpsE_eq (st' := _) (by first | dsimp only [n0, n1, n2, n3, n4, n5, n6, n7, n8, n9, m0, m1, m2, m3, m4, m5, m6, m7, m8, m9, o0, o1, o2, o3, o4, ↓reduceIte] | rfl) ?_))
        all_goals (first | (refine OpsE_do rfl ?_; (first | refine E_int rfl rfl rfl rfl ?_ | refine E_bin rfl rfl rfl rfl ?_); refine OpsE_eq (st' := _) (by first | dsimp only [n0, n1, n2, n3, n4, n5, n6, n7, n8, n9, m0, m1, m2, m3, m4, m5, m6, m7, m8, m9, o0, o1, o2, o3, o4, ↓reduceIte] | rfl) ?_; all_goals (cases k4 : (a.start == 0))) | (refine OpsE_not rfl ?_; refine OpsE_eq (st' := _) (by first | dsimp only [n0, n1, n2, n3, n4, n5, n6, n7, n8, n9, m0, m1, m2, m3, m4, m5, m6, m7, m8, m9, o0, o1, o2, o3, o4, ↓reduceIte] | rfl) ?_))
        all_goals (iterate 4 ((first | (refine OpsE_do rfl ?_; first | refine E_pick rfl rfl ?_ | refine E_move rfl ?_ | refine E_fieldp fo57_5 rfl rfl ?_ | refine E_fieldi fo57_5 rfl rfl ?_ | refine E_loadi (ds := [_]) ag3 sz3 rfl rfl rfl rfl ?_ | refine E_loadp (ds := [_]) ag3 sz3 rfl rfl rfl rfl rfl ?_) | refine OpsE_not rfl ?_); refine OpsE_eq (st' := _) (by first | dsimp only [n0, n1, n2, n3, n4, n5, n6, n7, n8, n9, m0, m1, m2, m3, m4, m5, m6, m7, m8, m9, o0, o1, o2, o3, o4, ↓reduceIte] | rfl) ?_))
        all_goals (first | (refine OpsE_do rfl ?_; (first | refine E_int rfl rfl rfl rfl ?_ | refine E_bin rfl rfl rfl rfl ?_); refine OpsE_eq (st' := _) (by first | dsimp only [n0, n1, n2, n3, n4, n5, n6, n7, n8, n9, m0, m1, m2, m3, m4, m5, m6, m7, m8, m9, o0, o1, o2, o3, o4, ↓reduceIte] | rfl) ?_; all_goals (cases k5 : (a.step == 0))) | (refine OpsE_not rfl ?_; refine OpsE_eq (st' := _) (by first | dsimp only [n0, n1, n2, n3, n4, n5, n6, n7, n8, n9, m0, m1, m2, m3, m4, m5, m6, m7, m8, m9, o0, o1, o2, o3, o4, ↓reduceIte] | rfl) ?_))
        all_goals (iterate 7 ((first | (refine OpsE_do rfl ?_; first | refine E_pick rfl rfl ?_ | refine E_move rfl ?_ | refine E_fieldp fo57_6 rfl rfl ?_ | refine E_fieldi fo57_6 rfl rfl ?_ | refine E_loadi (ds := [_]) ag3 sz3 rfl rfl rfl rfl ?_ | refine E_loadp (ds := [_]) ag3 sz3 rfl rfl rfl rfl rfl ?_ | refine E_int rfl rfl rfl rfl ?_ | refine E_assign rfl rfl ?_) | refine OpsE_not rfl ?_); refine OpsE_eq (st' := _) (by first | dsimp only [n0, n1, n2, n3, n4, n5, n6, n7, n8, n9, m0, m1, m2, m3, m4, m5, m6, m7, m8, m9, o0, o1, o2, o3, o4, ↓reduceIte] | rfl) ?_))
        all_goals (refine OpsE_nil ?_)
        all_goals (repeat (first | refine R_seq ?_ | refine R_block ?_ | refine R_skip ?_))
        all_goals (refine R_ret ?_)
        all_goals (refine ⟨trivial, _, rfl, ?_⟩; simp only [rightB, g1, g2, g3, g4, *, Bool.or_self, Bool.not_true, Bool.false_eq_true, if_false, if_true, Bool.true_and, Bool.false_and, Bool.and_true, Bool.and_false]; rfl)
      · repeat (first | refine R_seq ?_ | refine R_block ?_ | refine R_skip ?_)
        refine R_region ?_
        iterate 2 ((refine OpsE_do rfl ?_; first | refine E_int rfl rfl rfl rfl ?_ | refine E_assign rfl rfl ?_); refine OpsE_eq (st' := _) (by first | dsimp only [n0, n1, n2, n3, n4, n5, n6, n7, n8, n9, m0, m1, m2, m3, m4, m5, m6, m7, m8, m9, o0, o1, o2, o3, o4, ↓reduceIte] | rfl) ?_)
        refine OpsE_nil ?_
        repeat (first | refine R_seq ?_ | refine R_block ?_ | refine R_skip ?_)
        refine R_cond rfl (fun k8 => ?_) (fun k8 => ?_)
        · skip
          repeat (first | refine R_seq ?_ | refine R_block ?_ | refine R_skip ?_)
          refine R_region ?_
          iterate 4 ((refine OpsE_do rfl ?_; first | refine E_fieldp fo57_3 rfl rfl ?_ | refine E_fieldi fo57_3 rfl rfl ?_ | refine E_loadi (ds := [_]) ag49 sz49 rfl rfl rfl rfl ?_ | refine E_loadp (ds := [_]) ag49 sz49 rfl rfl rfl rfl rfl ?_ | refine E_len un49 rfl rfl ?_ | refine E_move rfl ?_); refine OpsE_eq (st' := _) (by first | dsimp only [n0, n1, n2, n3, n4, n5, n6, n7, n8, n9, m0, m1, m2, m3, m4, m5, m6, m7, m8, m9, o0, o1, o2, o3, o4, ↓reduceIte] | rfl) ?_)
          (refine OpsE_do rfl ?_; (first | refine E_int rfl rfl rfl rfl ?_ | refine E_bin rfl rfl rfl rfl ?_); refine OpsE_eq (st' := _) (by first | dsimp only [n0, n1, n2, n3, n4, n5, n6, n7, n8, n9, m0, m1, m2, m3, m4, m5, m6, m7, m8, m9, o0, o1, o2, o3, o4, ↓reduceIte] | rfl) ?_; all_goals (cases k1 : (((a.strides.map intD).length : Int) == rank)))
          all_goals (iterate 6 ((first | (refine OpsE_do rfl ?_; first | refine E_move rfl ?_ | refine E_fieldp fo57_6 rfl rfl ?_ | refine E_fieldi fo57_6 rfl rfl ?_ | refine E_loadi (ds := [_]) ag3 sz3 rfl rfl rfl rfl ?_ | refine E_loadp (ds := [_]) ag3 sz3 rfl rfl rfl rfl rfl ?_ | refine E_int rfl rfl rfl rfl ?_ | refine E_pick rfl rfl ?_ | refine E_assign rfl rfl ?_) | refine OpsE_not rfl ?_); refine OpsE_eq (st' := _) (by first | dsimp only [n0, n1, n2, n3, n4, n5, n6, n7, n8, n9, m0, m1, m2, m3, m4, m5, m6, m7, m8, m9, o0, o1, o2, o3, o4, ↓reduceIte] | rfl) ?_))
          all_goals (refine OpsE_nil ?_)
          all_goals (repeat (first | refine R_seq ?_ | refine R_block ?_ | refine R_skip ?_))
          all_goals (refine R_ret ?_)
          all_goals (refine ⟨trivial, _, rfl, ?_⟩; simp only [rightB, g1, g2, g3, g4, *, Bool.or_self, Bool.not_true, Bool.false_eq_true, if_false, if_true, Bool.true_and, Bool.false_and, Bool.and_true, Bool.and_false]; rfl)
        · skip
          repeat (first | refine R_seq ?_ | refine R_block ?_ | refine R_skip ?_)
          refine R_region ?_
          (refine OpsE_do rfl ?_; refine E_assign rfl rfl ?_; refine OpsE_eq (st' := _) (by first | dsimp only [n0, n1, n2, n3, n4, n5, n6, n7, n8, n9, m0, m1, m2, m3, m4, m5, m6, m7, m8, m9, o0, o1, o2, o3, o4, ↓reduceIte] | rfl) ?_)
          refine OpsE_nil ?_
          repeat (first | refine R_seq ?_ | refine R_block ?_ | refine R_skip ?_)
          refine R_ret ?_
          refine ⟨trivial, _, rfl, ?_⟩; simp only [rightB, g1, g2, g3, g4, k0, k9, k8, Bool.or_self, Bool.not_true, Bool.false_eq_true, if_false]; rfl
  · repeat (first | refine R_seq ?_ | refine R_block ?_ | refine R_skip ?_)
    refine R_region ?_
    (refine OpsE_do rfl ?_; refine E_move rfl ?_; refine OpsE_eq (st' := _) (by first | dsimp only [n0, n1, n2, n3, n4, n5, n6, n7, n8, n9, m0, m1, m2, m3, m4, m5, m6, m7, m8, m9, o0, o1, o2, o3, o4, ↓reduceIte] | rfl) ?_)
    (refine OpsE_do rfl ?_; (first | refine E_int rfl rfl rfl rfl ?_ | refine E_bin rfl rfl rfl rfl ?_); refine OpsE_eq (st' := _) (by first | dsimp only [n0, n1, n2, n3, n4, n5, n6, n7, n8, n9, m0, m1, m2, m3, m4, m5, m6, m7, m8, m9, o0, o1, o2, o3, o4, ↓reduceIte] | rfl) ?_; all_goals (cases g1 : decide (rank < 0)))
    all_goals (iterate 2 ((first | (refine OpsE_do rfl ?_; refine E_move rfl ?_) | refine OpsE_not rfl ?_); refine OpsE_eq (st' := _) (by first | dsimp only [n0, n1, n2, n3, n4, n5, n6, n7, n8, n9, m0, m1, m2, m3, m4, m5, m6, m7, m8, m9, o0, o1, o2, o3, o4, ↓reduceIte] | rfl) ?_))
    all_goals (first | (refine OpsE_do rfl ?_; (first | refine E_int rfl rfl rfl rfl ?_ | refine E_bin rfl rfl rfl rfl ?_); refine OpsE_eq (st' := _) (by first | dsimp only [n0, n1, n2, n3, n4, n5, n6, n7, n8, n9, m0, m1, m2, m3, m4, m5, m6, m7, m8, m9, o0, o1, o2, o3, o4, ↓reduceIte] | rfl) ?_; all_goals (cases g2 : decide (rank > 16))) | (refine OpsE_not rfl ?_; refine OpsE_eq (st' := _) (by first | dsimp only [n0, n1, n2, n3, n4, n5, n6, n7, n8, n9, m0, m1, m2, m3, m4, m5, m6, m7, m8, m9, o0, o1, o2, o3, o4, ↓reduceIte] | rfl) ?_))
    all_goals (iterate 3 ((first | (refine OpsE_do rfl ?_; first | refine E_pick rfl rfl ?_ | refine E_move rfl ?_ | refine E_loadi (ds := [_, _, _, _, _, _, _]) (d := .agg [_, _, _, _, _, _, _]) ag57 sz57 rfl rfl rfl rfl ?_ | refine E_loadp (ds := [_, _, _, _, _, _, _]) (v := .dat (.agg [_, _, _, _, _, _, _])) ag57 sz57 rfl rfl rfl rfl rfl ?_ | refine E_loadp (ds := [_, _, _, _, _, _, _]) (v := .agg [_, _, _, _, _, _, _]) ag57 sz57 rfl rfl rfl rfl rfl ?_) | refine OpsE_not rfl ?_); refine OpsE_eq (st' := _) (by first | dsimp only [n0, n1, n2, n3, n4, n5, n6, n7, n8, n9, m0, m1, m2, m3, m4, m5, m6, m7, m8, m9, o0, o1, o2, o3, o4, ↓reduceIte] | rfl) ?_))
    all_goals (first | (refine OpsE_do rfl ?_; (first | refine E_call rfl rfl rfl (c48 _ _ _ hl) ?_ | refine E_callfn rfl rfl rfl (c48 _ _ _ hl) ?_); refine OpsE_eq (st' := _) (by first | dsimp only [n0, n1, n2, n3, n4, n5, n6, n7, n8, n9, m0, m1, m2, m3, m4, m5, m6, m7, m8, m9, o0, o1, o2, o3, o4, ↓reduceIte] | rfl) ?_; all_goals (cases g3 : boundedB a 1099511627776)) | (refine OpsE_not rfl ?_; refine OpsE_eq (st' := _) (by first | dsimp only [n0, n1, n2, n3, n4, n5, n6, n7, n8, n9, m0, m1, m2, m3, m4, m5, m6, m7, m8, m9, o0, o1, o2, o3, o4, ↓reduceIte] | rfl) ?_))
    all_goals (iterate 5 ((first | (refine OpsE_do rfl ?_; first | refine E_not rfl rfl ?_ | refine E_pick rfl rfl ?_ | refine E_move rfl ?_ | refine E_fieldp fo57_1 rfl rfl ?_ | refine E_fieldi fo57_1 rfl rfl ?_ | refine E_loadi (ds := [_]) ag3 sz3 rfl rfl rfl rfl ?_ | refine E_loadp (ds := [_]) ag3 sz3 rfl rfl rfl rfl rfl ?_) | refine OpsE_not rfl ?_); refine OpsE_eq (st' := _) (by first | dsimp only [n0, n1, n2, n3, n4, n5, n6, n7, n8, n9, m0, m1, m2, m3, m4, m5, m6, m7, m8, m9, o0, o1, o2, o3, o4, ↓reduceIte] | rfl) ?_))
    all_goals (first | (refine OpsE_do rfl ?_; (first | refine E_int rfl rfl rfl rfl ?_ | refine E_bin rfl rfl rfl rfl ?_); refine OpsE_eq (st' := _) (by first | dsimp only [n0, n1, n2, n3, n4, n5, n6, n7, n8, n9, m0, m1, m2, m3, m4, m5, m6, m7, m8, m9, o0, o1, o2, o3, o4, ↓reduceIte] | rfl) ?_; all_goals (cases g4 : decide (a.buffer < 0))) | (refine OpsE_not rfl ?_; refine OpsE_eq (st' := _) (by first | dsimp only [n0, n1, n2, n3, n4, n5, n6, n7, n8, n9, m0, m1, m2, m3, m4, m5, m6, m7, m8, m9, o0, o1, o2, o3, o4, ↓reduceIte] | rfl) ?_))
    all_goals ((refine OpsE_do rfl ?_; refine E_pick rfl rfl ?_; refine OpsE_eq (st' := _) (by first | dsimp only [n0, n1, n2, n3, n4, n5, n6, n7, n8, n9, m0, m1, m2, m3, m4, m5, m6, m7, m8, m9, o0, o1, o2, o3, o4, ↓reduceIte] | rfl) ?_))
    all_goals (refine OpsE_nil ?_)
    all_goals (first | refine R_seq ?_ | skip)
    all_goals (first | (refine R_true rfl ?_) | (exfalso; simp_all; done))
    all_goals (repeat (first | refine R_seq ?_ | refine R_block ?_ | refine R_skip ?_))
    all_goals (refine R_region (OpsE_do rfl (E_assign rfl rfl (OpsE_nil (R_ret ?_)))))
    all_goals (refine ⟨trivial, _, rfl, ?_⟩; simp only [rightB, hb, if_true]; rfl)
end Go.Proofs.Try
