/-
  Seat a: which buffers are read.
-/
import Derived.Test.YtbknblppjhfkmaaA16
namespace Go.Proofs.Try
open Go Go.Pm
set_option linter.unusedVariables false
set_option linter.unusedSimpArgs false
set_option maxRecDepth 2000

theorem c24 (H : List Blk) : PC prog env 24 [] H (boolPV true) H := PC_of (n := 200) (by kernel_rfl)

def sizeB (x : Int) : Bool := !(decide (x < 0) || decide (x > 65536))
def sizesB (s : List Int) (cells : Int) : Bool := s.all sizeB && (decide ((s.length : Int) ≤ 30) && (decide (cells ≥ 0) && decide (cells ≤ 300)))
theorem c25 (s : List Int) (cells : Int) (H : List Blk) (hl : s.length ≤ 9223372036854775807) : PC prog env 25 [.dat (intsD s), .dat (intD cells)] H (boolPV (sizesB s cells)) H := by
  refine PC_pure (fn := f25) (by kernel_rfl) rfl rfl (by kernel_rfl) rfl rfl ?_ (by simp [PV.lends])
  refine R_eq (st' := ⟨[.dat (intsD s), .dat (intD cells), .tup [], .tup [], .tup [], .tup [], .tup [], .tup [], .tup [], .tup [], .tup [], .tup [], .tup [], .tup [], .tup [], .tup [], .tup [], .tup [], .tup [], .tup [], .tup [], .tup [], .tup [], .tup [], .tup [], .tup [], .tup [], .tup [], .tup [], .tup [], .tup [], .tup [], .tup [], .tup [], .tup []], []⟩) rfl ?_
  repeat (first | refine R_seq ?_ | refine R_block ?_ | refine R_skip ?_)
  refine R_region ?_
  (refine OpsE_do rfl ?_; refine E_assign rfl rfl ?_; refine OpsE_eq (st' := _) (by first | dsimp only [n0, n1, n2, n3, n4, n5, n6, n7, n8, n9, m0, m1, m2, m3, m4, m5, m6, m7, m8, m9, o0, o1, o2, o3, o4, ↓reduceIte] | rfl) ?_)
  refine OpsE_nil ?_
  repeat (first | refine R_seq ?_ | refine R_block ?_ | refine R_skip ?_)
  refine R_region ?_
  (refine OpsE_do rfl ?_; refine E_assign rfl rfl ?_; refine OpsE_eq (st' := _) (by first | dsimp only [n0, n1, n2, n3, n4, n5, n6, n7, n8, n9, m0, m1, m2, m3, m4, m5, m6, m7, m8, m9, o0, o1, o2, o3, o4, ↓reduceIte] | rfl) ?_)
  refine OpsE_nil ?_
  repeat (first | refine R_seq ?_ | refine R_block ?_ | refine R_skip ?_)
  refine R_loop ?_
  refine RL_ind (fun (j : Nat) => ⟨[.dat (intsD s), .dat (intD cells), .undef, .undef, .undef, intPV (j : Int), .undef, .undef, .undef, .undef, .undef, .undef, .undef, .undef, .undef, .undef, .undef, .undef, .undef, .undef, .undef, .undef, .undef, .undef, .undef, .undef, .undef, .undef, .undef, .undef, .undef, .undef, .undef, .undef, .undef], []⟩)
    (fun j => j ≤ s.length ∧ (s.take j).all sizeB = true) (fun j => s.length - j) (fun j hj => ?_) _ 0 _ (Nat.lt_succ_self _) ⟨Nat.zero_le _, rfl⟩ rfl
  obtain ⟨hj, hall⟩ := hj
  repeat (first | refine R_seq ?_ | refine R_block ?_ | refine R_skip ?_)
  refine R_region ?_
  iterate 4 ((refine OpsE_do rfl ?_; first | refine E_move rfl ?_ | refine E_len un49 rfl rfl ?_ | refine E_int rfl rfl rfl rfl ?_); refine OpsE_eq (st' := _) (by first | dsimp only [n0, n1, n2, n3, n4, n5, n6, n7, n8, n9, m0, m1, m2, m3, m4, m5, m6, m7, m8, m9, o0, o1, o2, o3, o4, ↓reduceIte] | rfl) ?_)
  refine OpsE_nil ?_
  repeat (first | refine R_seq ?_ | refine R_block ?_ | refine R_skip ?_)
  refine R_if rfl (fun h => ?_) (fun h => ?_)
  · have hj' : j < s.length := by simpa using h
    have bad : sizeB s[j] = false → sizesB s cells = false := fun hf => by
      have : s.all sizeB = false := List.all_eq_false.2 ⟨_, List.getElem_mem hj', by simp [hf]⟩
      rw [sizesB, this, Bool.false_and]
    have hg := ints_get hj'
    have good : sizeB s[j] = true → (s.take (j + 1)).all sizeB = true := fun hf => by rw [List.take_succ_eq_append_getElem hj', List.all_append, hall]; simp [hf]
    generalize s[j] = x at bad hg good
    by_cases x0 : x < 0
    · have e4 : intBin .lss .i64 x 0 = some (.bool true) := by simp [intBin]; omega
      repeat (first | refine R_seq ?_ | refine R_block ?_ | refine R_skip ?_)
      refine R_region ?_
      iterate 2 ((refine OpsE_do rfl ?_; refine E_move rfl ?_); refine OpsE_eq (st' := _) (by first | dsimp only [n0, n1, n2, n3, n4, n5, n6, n7, n8, n9, m0, m1, m2, m3, m4, m5, m6, m7, m8, m9, o0, o1, o2, o3, o4, ↓reduceIte] | rfl) ?_)
      (refine OpsE_do rfl ?_; (first | refine E_index el49 sz3 rfl rfl rfl rfl hg rfl ?_ | refine E_index0 el49 sz3 rfl rfl rfl rfl hg ?_ | refine E_indexArr el49 sz3 rfl rfl rfl rfl hg ?_); refine OpsE_eq (st' := _) (by first | dsimp only [n0, n1, n2, n3, n4, n5, n6, n7, n8, n9, m0, m1, m2, m3, m4, m5, m6, m7, m8, m9, o0, o1, o2, o3, o4, ↓reduceIte] | rfl) ?_)
      (refine OpsE_do rfl ?_; (first | refine E_loadi (ds := [_]) ag3 sz3 rfl rfl rfl rfl ?_ | refine E_loadp (ds := [_]) ag3 sz3 rfl rfl rfl rfl rfl ?_); refine OpsE_eq (st' := _) (by first | dsimp only [n0, n1, n2, n3, n4, n5, n6, n7, n8, n9, m0, m1, m2, m3, m4, m5, m6, m7, m8, m9, o0, o1, o2, o3, o4, ↓reduceIte] | rfl) ?_)
      (refine OpsE_do rfl ?_; refine E_int rfl rfl rfl e4 ?_; refine OpsE_eq (st' := _) (by first | dsimp only [n0, n1, n2, n3, n4, n5, n6, n7, n8, n9, m0, m1, m2, m3, m4, m5, m6, m7, m8, m9, o0, o1, o2, o3, o4, ↓reduceIte] | rfl) ?_)
      iterate 3 ((first | (refine OpsE_do rfl ?_; refine E_move rfl ?_) | refine OpsE_not rfl ?_); refine OpsE_eq (st' := _) (by first | dsimp only [n0, n1, n2, n3, n4, n5, n6, n7, n8, n9, m0, m1, m2, m3, m4, m5, m6, m7, m8, m9, o0, o1, o2, o3, o4, ↓reduceIte] | rfl) ?_)
      ((first | (refine OpsE_do rfl ?_; (first | refine E_index el49 sz3 rfl rfl rfl rfl hg rfl ?_ | refine E_index0 el49 sz3 rfl rfl rfl rfl hg ?_ | refine E_indexArr el49 sz3 rfl rfl rfl rfl hg ?_)) | refine OpsE_not rfl ?_); refine OpsE_eq (st' := _) (by first | dsimp only [n0, n1, n2, n3, n4, n5, n6, n7, n8, n9, m0, m1, m2, m3, m4, m5, m6, m7, m8, m9, o0, o1, o2, o3, o4, ↓reduceIte] | rfl) ?_)
      iterate 3 ((first | (refine OpsE_do rfl ?_; first | refine E_loadi (ds := [_]) ag3 sz3 rfl rfl rfl rfl ?_ | refine E_loadp (ds := [_]) ag3 sz3 rfl rfl rfl rfl rfl ?_ | refine E_int rfl rfl rfl rfl ?_ | refine E_pick rfl rfl ?_) | refine OpsE_not rfl ?_); refine OpsE_eq (st' := _) (by first | dsimp only [n0, n1, n2, n3, n4, n5, n6, n7, n8, n9, m0, m1, m2, m3, m4, m5, m6, m7, m8, m9, o0, o1, o2, o3, o4, ↓reduceIte] | rfl) ?_)
      refine OpsE_nil ?_
      repeat (first | refine R_seq ?_ | refine R_block ?_ | refine R_skip ?_)
      refine R_true rfl ?_
      repeat (first | refine R_seq ?_ | refine R_block ?_ | refine R_skip ?_)
      refine R_region ?_
      (refine OpsE_do rfl ?_; refine E_assign rfl rfl ?_; refine OpsE_eq (st' := _) (by first | dsimp only [n0, n1, n2, n3, n4, n5, n6, n7, n8, n9, m0, m1, m2, m3, m4, m5, m6, m7, m8, m9, o0, o1, o2, o3, o4, ↓reduceIte] | rfl) ?_)
      refine OpsE_nil ?_
      repeat (first | refine R_seq ?_ | refine R_block ?_ | refine R_skip ?_)
      refine R_ret ?_
      refine ⟨trivial, _, rfl, ?_⟩
      rw [bad (by simp [sizeB]; omega)]
      rfl
    · have e4 : intBin .lss .i64 x 0 = some (.bool false) := by simp [intBin]; omega
      by_cases x1 : x > 65536
      · have e10 : intBin .gtr .i64 x 65536 = some (.bool true) := by simp [intBin]; omega
        repeat (first | refine R_seq ?_ | refine R_block ?_ | refine R_skip ?_)
        refine R_region ?_
        iterate 2 ((refine OpsE_do rfl ?_; refine E_move rfl ?_); refine OpsE_eq (st' := _) (by first | dsimp only [n0, n1, n2, n3, n4, n5, n6, n7, n8, n9, m0, m1, m2, m3, m4, m5, m6, m7, m8, m9, o0, o1, o2, o3, o4, ↓reduceIte] | rfl) ?_)
        (refine OpsE_do rfl ?_; (first | refine E_index el49 sz3 rfl rfl rfl rfl hg rfl ?_ | refine E_index0 el49 sz3 rfl rfl rfl rfl hg ?_ | refine E_indexArr el49 sz3 rfl rfl rfl rfl hg ?_); refine OpsE_eq (st' := _) (by first | dsimp only [n0, n1, n2, n3, n4, n5, n6, n7, n8, n9, m0, m1, m2, m3, m4, m5, m6, m7, m8, m9, o0, o1, o2, o3, o4, ↓reduceIte] | rfl) ?_)
        (refine OpsE_do rfl ?_; (first | refine E_loadi (ds := [_]) ag3 sz3 rfl rfl rfl rfl ?_ | refine E_loadp (ds := [_]) ag3 sz3 rfl rfl rfl rfl rfl ?_); refine OpsE_eq (st' := _) (by first | dsimp only [n0, n1, n2, n3, n4, n5, n6, n7, n8, n9, m0, m1, m2, m3, m4, m5, m6, m7, m8, m9, o0, o1, o2, o3, o4, ↓reduceIte] | rfl) ?_)
        (refine OpsE_do rfl ?_; refine E_int rfl rfl rfl e4 ?_; refine OpsE_eq (st' := _) (by first | dsimp only [n0, n1, n2, n3, n4, n5, n6, n7, n8, n9, m0, m1, m2, m3, m4, m5, m6, m7, m8, m9, o0, o1, o2, o3, o4, ↓reduceIte] | rfl) ?_)
        iterate 3 ((first | (refine OpsE_do rfl ?_; refine E_move rfl ?_) | refine OpsE_not rfl ?_); refine OpsE_eq (st' := _) (by first | dsimp only [n0, n1, n2, n3, n4, n5, n6, n7, n8, n9, m0, m1, m2, m3, m4, m5, m6, m7, m8, m9, o0, o1, o2, o3, o4, ↓reduceIte] | rfl) ?_)
        ((first | (refine OpsE_do rfl ?_; (first | refine E_index el49 sz3 rfl rfl rfl rfl hg rfl ?_ | refine E_index0 el49 sz3 rfl rfl rfl rfl hg ?_ | refine E_indexArr el49 sz3 rfl rfl rfl rfl hg ?_)) | refine OpsE_not rfl ?_); refine OpsE_eq (st' := _) (by first | dsimp only [n0, n1, n2, n3, n4, n5, n6, n7, n8, n9, m0, m1, m2, m3, m4, m5, m6, m7, m8, m9, o0, o1, o2, o3, o4, ↓reduceIte] | rfl) ?_)
        ((first | (refine OpsE_do rfl ?_; (first | refine E_loadi (ds := [_]) ag3 sz3 rfl rfl rfl rfl ?_ | refine E_loadp (ds := [_]) ag3 sz3 rfl rfl rfl rfl rfl ?_)) | refine OpsE_not rfl ?_); refine OpsE_eq (st' := _) (by first | dsimp only [n0, n1, n2, n3, n4, n5, n6, n7, n8, n9, m0, m1, m2, m3, m4, m5, m6, m7, m8, m9, o0, o1, o2, o3, o4, ↓reduceIte] | rfl) ?_)
        ((first | (refine OpsE_do rfl ?_; refine E_int rfl rfl rfl e10 ?_) | refine OpsE_not rfl ?_); refine OpsE_eq (st' := _) (by first | dsimp only [n0, n1, n2, n3, n4, n5, n6, n7, n8, n9, m0, m1, m2, m3, m4, m5, m6, m7, m8, m9, o0, o1, o2, o3, o4, ↓reduceIte] | rfl) ?_)
        (refine OpsE_do rfl ?_; refine E_pick rfl rfl ?_; refine OpsE_eq (st' := _) (by first | dsimp only [n0, n1, n2, n3, n4, n5, n6, n7, n8, n9, m0, m1, m2, m3, m4, m5, m6, m7, m8, m9, o0, o1, o2, o3, o4, ↓reduceIte] | rfl) ?_)
        refine OpsE_nil ?_
        repeat (first | refine R_seq ?_ | refine R_block ?_ | refine R_skip ?_)
        refine R_true rfl ?_
        repeat (first | refine R_seq ?_ | refine R_block ?_ | refine R_skip ?_)
        refine R_region ?_
        (refine OpsE_do rfl ?_; refine E_assign rfl rfl ?_; refine OpsE_eq (st' := _) (by first | dsimp only [n0, n1, n2, n3, n4, n5, n6, n7, n8, n9, m0, m1, m2, m3, m4, m5, m6, m7, m8, m9, o0, o1, o2, o3, o4, ↓reduceIte] | rfl) ?_)
        refine OpsE_nil ?_
        repeat (first | refine R_seq ?_ | refine R_block ?_ | refine R_skip ?_)
        refine R_ret ?_
        refine ⟨trivial, _, rfl, ?_⟩
        rw [bad (by simp [sizeB]; omega)]
        rfl
      · have e10 : intBin .gtr .i64 x 65536 = some (.bool false) := by simp [intBin]; omega
        repeat (first | refine R_seq ?_ | refine R_block ?_ | refine R_skip ?_)
        refine R_region ?_
        iterate 2 ((refine OpsE_do rfl ?_; refine E_move rfl ?_); refine OpsE_eq (st' := _) (by first | dsimp only [n0, n1, n2, n3, n4, n5, n6, n7, n8, n9, m0, m1, m2, m3, m4, m5, m6, m7, m8, m9, o0, o1, o2, o3, o4, ↓reduceIte] | rfl) ?_)
        (refine OpsE_do rfl ?_; (first | refine E_index el49 sz3 rfl rfl rfl rfl hg rfl ?_ | refine E_index0 el49 sz3 rfl rfl rfl rfl hg ?_ | refine E_indexArr el49 sz3 rfl rfl rfl rfl hg ?_); refine OpsE_eq (st' := _) (by first | dsimp only [n0, n1, n2, n3, n4, n5, n6, n7, n8, n9, m0, m1, m2, m3, m4, m5, m6, m7, m8, m9, o0, o1, o2, o3, o4, ↓reduceIte] | rfl) ?_)
        (refine OpsE_do rfl ?_; (first | refine E_loadi (ds := [_]) ag3 sz3 rfl rfl rfl rfl ?_ | refine E_loadp (ds := [_]) ag3 sz3 rfl rfl rfl rfl rfl ?_); refine OpsE_eq (st' := _) (by first | dsimp only [n0, n1, n2, n3, n4, n5, n6, n7, n8, n9, m0, m1, m2, m3, m4, m5, m6, m7, m8, m9, o0, o1, o2, o3, o4, ↓reduceIte] | rfl) ?_)
        (refine OpsE_do rfl ?_; refine E_int rfl rfl rfl e4 ?_; refine OpsE_eq (st' := _) (by first | dsimp only [n0, n1, n2, n3, n4, n5, n6, n7, n8, n9, m0, m1, m2, m3, m4, m5, m6, m7, m8, m9, o0, o1, o2, o3, o4, ↓reduceIte] | rfl) ?_)
        iterate 3 ((first | (refine OpsE_do rfl ?_; refine E_move rfl ?_) | refine OpsE_not rfl ?_); refine OpsE_eq (st' := _) (by first | dsimp only [n0, n1, n2, n3, n4, n5, n6, n7, n8, n9, m0, m1, m2, m3, m4, m5, m6, m7, m8, m9, o0, o1, o2, o3, o4, ↓reduceIte] | rfl) ?_)
        ((first | (refine OpsE_do rfl ?_; (first | refine E_index el49 sz3 rfl rfl rfl rfl hg rfl ?_ | refine E_index0 el49 sz3 rfl rfl rfl rfl hg ?_ | refine E_indexArr el49 sz3 rfl rfl rfl rfl hg ?_)) | refine OpsE_not rfl ?_); refine OpsE_eq (st' := _) (by first | dsimp only [n0, n1, n2, n3, n4, n5, n6, n7, n8, n9, m0, m1, m2, m3, m4, m5, m6, m7, m8, m9, o0, o1, o2, o3, o4, ↓reduceIte] | rfl) ?_)
        ((first | (refine OpsE_do rfl ?_; (first | refine E_loadi (ds := [_]) ag3 sz3 rfl rfl rfl rfl ?_ | refine E_loadp (ds := [_]) ag3 sz3 rfl rfl rfl rfl rfl ?_)) | refine OpsE_not rfl ?_); refine OpsE_eq (st' := _) (by first | dsimp only [n0, n1, n2, n3, n4, n5, n6, n7, n8, n9, m0, m1, m2, m3, m4, m5, m6, m7, m8, m9, o0, o1, o2, o3, o4, ↓reduceIte] | rfl) ?_)
        ((first | (refine OpsE_do rfl ?_; refine E_int rfl rfl rfl e10 ?_) | refine OpsE_not rfl ?_); refine OpsE_eq (st' := _) (by first | dsimp only [n0, n1, n2, n3, n4, n5, n6, n7, n8, n9, m0, m1, m2, m3, m4, m5, m6, m7, m8, m9, o0, o1, o2, o3, o4, ↓reduceIte] | rfl) ?_)
        (refine OpsE_do rfl ?_; refine E_pick rfl rfl ?_; refine OpsE_eq (st' := _) (by first | dsimp only [n0, n1, n2, n3, n4, n5, n6, n7, n8, n9, m0, m1, m2, m3, m4, m5, m6, m7, m8, m9, o0, o1, o2, o3, o4, ↓reduceIte] | rfl) ?_)
        refine OpsE_nil ?_
        repeat (first | refine R_seq ?_ | refine R_block ?_ | refine R_skip ?_)
        refine R_false rfl ?_
        repeat (first | refine R_seq ?_ | refine R_block ?_ | refine R_skip ?_)
        refine R_region ?_
        iterate 3 ((refine OpsE_do rfl ?_; first | refine E_move rfl ?_ | refine E_int rfl rfl rfl rfl ?_ | refine E_assign rfl rfl ?_); refine OpsE_eq (st' := _) (by first | dsimp only [n0, n1, n2, n3, n4, n5, n6, n7, n8, n9, m0, m1, m2, m3, m4, m5, m6, m7, m8, m9, o0, o1, o2, o3, o4, ↓reduceIte] | rfl) ?_)
        refine OpsE_nil ?_
        refine ⟨j + 1, ?_, by omega, hj', good (by simp [sizeB]; omega)⟩
        rw [wrap_succ (by omega)]
        rfl
  · have hj' : j = s.length := by simp at h; omega
    subst hj'
    rw [List.take_length] at hall
    repeat (first | refine R_seq ?_ | refine R_block ?_ | refine R_skip ?_)
    refine R_exit ?_
    rw [sizesB, hall, Bool.true_and]
    cases q1 : decide ((s.length : Int) ≤ 30) <;> cases q2 : decide (cells ≥ 0) <;> cases q3 : decide (cells ≤ 300)
    all_goals (have e2 : intBin .leq .i64 ((s.map intD).length : Int) 30 = some (.bool (decide ((s.length : Int) ≤ 30))) := by simp [intBin])
    all_goals rw [q1] at e2
    all_goals (have e5 : intBin .geq .i64 cells 0 = some (.bool (decide (cells ≥ 0))) := rfl)
    all_goals rw [q2] at e5
    all_goals (have e9 : intBin .leq .i64 cells 300 = some (.bool (decide (cells ≤ 300))) := rfl)
    all_goals rw [q3] at e9
    all_goals (repeat (first | refine R_seq ?_ | refine R_block ?_ | refine R_skip ?_))
    all_goals (refine R_region ?_)
    all_goals (iterate 2 ((refine OpsE_do rfl ?_; first | refine E_move rfl ?_ | refine E_len un49 rfl rfl ?_); refine OpsE_eq (st' := _) (by first | dsimp only [n0, n1, n2, n3, n4, n5, n6, n7, n8, n9, m0, m1, m2, m3, m4, m5, m6, m7, m8, m9, o0, o1, o2, o3, o4, ↓reduceIte] | rfl) ?_))
    all_goals ((refine OpsE_do rfl ?_; refine E_int rfl rfl rfl e2 ?_; refine OpsE_eq (st' := _) (by first | dsimp only [n0, n1, n2, n3, n4, n5, n6, n7, n8, n9, m0, m1, m2, m3, m4, m5, m6, m7, m8, m9, o0, o1, o2, o3, o4, ↓reduceIte] | rfl) ?_))
    all_goals (iterate 2 ((first | (refine OpsE_do rfl ?_; refine E_move rfl ?_) | refine OpsE_not rfl ?_); refine OpsE_eq (st' := _) (by first | dsimp only [n0, n1, n2, n3, n4, n5, n6, n7, n8, n9, m0, m1, m2, m3, m4, m5, m6, m7, m8, m9, o0, o1, o2, o3, o4, ↓reduceIte] | rfl) ?_))
    all_goals (((first | (refine OpsE_do rfl ?_; refine E_int rfl rfl rfl e5 ?_) | refine OpsE_not rfl ?_); refine OpsE_eq (st' := _) (by first | dsimp only [n0, n1, n2, n3, n4, n5, n6, n7, n8, n9, m0, m1, m2, m3, m4, m5, m6, m7, m8, m9, o0, o1, o2, o3, o4, ↓reduceIte] | rfl) ?_))
    all_goals (iterate 3 ((first | (refine OpsE_do rfl ?_; first | refine E_pick rfl rfl ?_ | refine E_move rfl ?_) | refine OpsE_not rfl ?_); refine OpsE_eq (st' := _) (by first | dsimp only [n0, n1, n2, n3, n4, n5, n6, n7, n8, n9, m0, m1, m2, m3, m4, m5, m6, m7, m8, m9, o0, o1, o2, o3, o4, ↓reduceIte] | rfl) ?_))
    all_goals (((first | (refine OpsE_do rfl ?_; refine E_int rfl rfl rfl e9 ?_) | refine OpsE_not rfl ?_); refine OpsE_eq (st' := _) (by first | dsimp only [n0, n1, n2, n3, n4, n5, n6, n7, n8, n9, m0, m1, m2, m3, m4, m5, m6, m7, m8, m9, o0, o1, o2, o3, o4, ↓reduceIte] | rfl) ?_))
    all_goals (iterate 2 ((refine OpsE_do rfl ?_; first | refine E_pick rfl rfl ?_ | refine E_assign rfl rfl ?_); refine OpsE_eq (st' := _) (by first | dsimp only [n0, n1, n2, n3, n4, n5, n6, n7, n8, n9, m0, m1, m2, m3, m4, m5, m6, m7, m8, m9, o0, o1, o2, o3, o4, ↓reduceIte] | rfl) ?_))
    all_goals (refine OpsE_nil ?_)
    all_goals (repeat (first | refine R_seq ?_ | refine R_block ?_ | refine R_skip ?_))
    all_goals (refine R_ret ?_)
    all_goals exact ⟨trivial, _, rfl, rfl⟩

def boolD (b : Bool) : Dat := .raw (.bool b)
def boolsD (l : List Bool) : Dat := .lst (l.map boolD)
theorem bools_get {l : List Bool} {j : Nat} (h : j < l.length) : (l.map boolD)[j]? = some (boolD l[j]) := by simp [h]
/-- an event reads from a buffer of m -/
def useB (m : Nat) (e : Evt) : Bool := decide (e.fill = false ∧ 0 ≤ e.buffer ∧ e.buffer < (m : Int))
def usedL (m : Nat) (E : List Evt) : List Bool := E.foldl (fun out e => if useB m e then out.set e.buffer.toNat true else out) (List.replicate m false)
theorem usedL_succ (m : Nat) {E : List Evt} {j : Nat} (h : j < E.length) : usedL m (E.take (j + 1)) = if useB m E[j] then (usedL m (E.take j)).set E[j].buffer.toNat true else usedL m (E.take j) := by
  rw [usedL, usedL, List.take_succ_eq_append_getElem h, List.foldl_append]; rfl
theorem used_len (m : Nat) (E : List Evt) : (usedL m E).length = m := by
  rw [usedL]
  suffices h : ∀ (E : List Evt) (L : List Bool), (E.foldl (fun out e => if useB m e then out.set e.buffer.toNat true else out) L).length = L.length by rw [h]; simp
  intro E
  induction E with
  | nil => intro L; rfl
  | cons e E ih => intro L; rw [List.foldl_cons, ih]; split <;> simp
/-- does an event read from buffer b? -/
def readsB (b : Int) (e : Evt) : Bool := decide (e.fill = false ∧ e.buffer = b)
theorem used_get (m : Nat) (E : List Evt) (i : Nat) (hi : i < m) : (usedL m E)[i]'(by rw [used_len]; exact hi) = E.any (readsB (i : Int)) := by
  have key : ∀ (E : List Evt) (L : List Bool) (hL : L.length = m), ((E.foldl (fun out e => if useB m e then out.set e.buffer.toNat true else out) L).getD i false) = (L.getD i false || E.any (readsB (i : Int))) := by
    intro E
    induction E with
    | nil => intro L hL; simp
    | cons e E ih =>
      intro L hL
      rw [List.foldl_cons, ih _ (by split <;> simp [hL]), List.any_cons]
      by_cases hu : useB m e = true
      · rw [if_pos hu]
        have hu' := of_decide_eq_true hu
        by_cases hb : e.buffer = (i : Int)
        · have e1 : readsB (i : Int) e = true := decide_eq_true ⟨hu'.1, hb⟩
          have e2 : e.buffer.toNat = i := by omega
          simp [e1, e2, hL, hi]
        · have e1 : readsB (i : Int) e = false := decide_eq_false (fun h => hb h.2)
          have e2 : e.buffer.toNat ≠ i := by omega
          simp [e1, List.getElem?_set_ne e2]
      · rw [if_neg hu]
        have e1 : readsB (i : Int) e = false := decide_eq_false (fun h => hu (decide_eq_true ⟨h.1, by omega, by omega⟩))
        simp [e1]
  have := key E (List.replicate m false) (by simp)
  rw [← usedL] at this
  have hg : (usedL m E).getD i false = (usedL m E)[i]'(by rw [used_len]; exact hi) := by simp [used_len, hi]
  rw [← hg, this]
  simp [hi]
theorem prune23 {s : List PV} {b0 b1 b2 : Blk} : (prune 2 (some []) ⟨s, [b0, b1, b2]⟩).heap = [purgeB [b0, b1, b2] 2 b0, purgeB [b0, b1, b2] 2 b1] := rfl

theorem c29 (l : List Nst) (s : List Int) (H : List Blk) (hS : ∀ n ∈ l, SmallN n) (hl : l.length ≤ 1000) (hs : s.length ≤ 1000) :
    PC prog env 29 [.dat (nestsD l), .dat (intsD s)] H (.dat (boolsD (usedL s.length (eventsL l)))) H := by
  refine PC_pure (fn := f29) (by kernel_rfl) rfl rfl (by kernel_rfl) rfl rfl ?_ (by simp [PV.lends])
  have hlen := eventsL_len hS
  have hE := eventsL_range l
  have hg : ∀ j (h : j < l.length), GoesTo l[j] ((fun j => if h : j < l.length then eventsN l[j] else []) j) := fun j hj => by simp only [hj, dif_pos]; exact goes_of (hS _ (List.getElem_mem hj))
  have hz : List.replicate (((s.map intD).length : Int)).toNat (PV.dat (.raw (.bool false))) = (List.replicate s.length false).map fun m => .dat (boolD m) := by simp [boolD]
  have hm : (s.map intD).length = s.length := List.length_map ..
  refine R_eq (st' := ⟨[.dat (nestsD l), .dat (intsD s), .tup [], .tup [], .tup [], .tup [], .tup [], .tup [], .tup [], .tup [], .tup [], .tup [], .tup [], .tup [], .tup [], .tup [], .tup [], .tup [], .tup [], .tup [], .tup [], .tup [], .tup [], .tup [], .tup [], .tup [], .tup [], .tup [], .tup [], .tup [], .tup [], .tup [], .tup []], []⟩) rfl ?_
  repeat (first | refine R_seq ?_ | refine R_block ?_ | refine R_skip ?_)
  refine R_region ?_
  (refine OpsE_do rfl ?_; refine E_assign rfl rfl ?_; refine OpsE_eq (st' := _) (by first | dsimp only [n0, n1, n2, n3, n4, n5, n6, n7, n8, n9, m0, m1, m2, m3, m4, m5, m6, m7, m8, m9, o0, o1, o2, o3, o4, ↓reduceIte] | rfl) ?_)
  refine OpsE_nil ?_
  repeat (first | refine R_seq ?_ | refine R_block ?_ | refine R_skip ?_)
  refine R_region ?_
  iterate 2 ((refine OpsE_do rfl ?_; first | refine E_move rfl ?_ | refine E_len un49 rfl rfl ?_); refine OpsE_eq (st' := _) (by first | dsimp only [n0, n1, n2, n3, n4, n5, n6, n7, n8, n9, m0, m1, m2, m3, m4, m5, m6, m7, m8, m9, o0, o1, o2, o3, o4, ↓reduceIte] | rfl) ?_)
  (refine OpsE_do rfl ?_; refine E_make el69 ze4 sz4 by4 rfl rfl rfl ⟨Int.natCast_nonneg _, Int.le_refl _, by simp [room]; omega, by simp; omega, rfl⟩ ?_; refine OpsE_eq (st' := _) (by first | dsimp only [n0, n1, n2, n3, n4, n5, n6, n7, n8, n9, m0, m1, m2, m3, m4, m5, m6, m7, m8, m9, o0, o1, o2, o3, o4, ↓reduceIte] | rfl) ?_)
  iterate 2 ((refine OpsE_do rfl ?_; first | refine E_alloc (cs := [_]) ze69 rfl rfl ?_ | refine E_store (vs := [_]) sz69 rfl rfl rfl rfl rfl rfl rfl ?_); refine OpsE_eq (st' := _) (by first | dsimp only [n0, n1, n2, n3, n4, n5, n6, n7, n8, n9, m0, m1, m2, m3, m4, m5, m6, m7, m8, m9, o0, o1, o2, o3, o4, ↓reduceIte] | rfl) ?_)
  refine OpsE_nil ?_
  rw [hz, hm]
  generalize s.length = m at hs
  repeat (first | refine R_seq ?_ | refine R_block ?_ | refine R_skip ?_)
  refine R_region ?_
  (refine OpsE_do rfl ?_; refine E_move rfl ?_; refine OpsE_eq (st' := _) (by first | dsimp only [n0, n1, n2, n3, n4, n5, n6, n7, n8, n9, m0, m1, m2, m3, m4, m5, m6, m7, m8, m9, o0, o1, o2, o3, o4, ↓reduceIte] | rfl) ?_)
  (refine OpsE_do rfl ?_; (first | refine E_call rfl rfl (c16 l _) ?_ | refine E_callfn rfl rfl (c16 l _) ?_); refine OpsE_eq (st' := _) (by first | dsimp only [n0, n1, n2, n3, n4, n5, n6, n7, n8, n9, m0, m1, m2, m3, m4, m5, m6, m7, m8, m9, o0, o1, o2, o3, o4, ↓reduceIte] | rfl) ?_)
  refine OpsE_nil ?_
  generalize eventsL l = E at hlen hE
  repeat (first | refine R_seq ?_ | refine R_block ?_ | refine R_skip ?_)
  refine R_range (fn := f34) rfl (by kernel_rfl) (by kernel_rfl) rfl rfl ?_
  refine (c34E l _ E hE (by omega) hg _ _ (Fed_all Evt.toD (fun j => (⟨[.box ((usedL m (E.take j)).map fun m => .dat (boolD m)), .box [.arr 0 0 m m]], none⟩ : Go.Pm.Rnd)) E (fun j hj' => YE_round rfl ?_)) _ rfl).mono (fun e is h => ⟨h.1, ?_⟩)
  · repeat (first | refine R_seq ?_ | refine R_block ?_ | refine R_skip ?_)
    refine R_region ?_
    iterate 2 ((refine OpsE_do rfl ?_; first | refine E_alloc (cs := [_, _, _, _]) ze36 rfl rfl ?_ | refine E_store (vs := [_, _, _, _]) sz36 rfl rfl rfl rfl rfl rfl rfl ?_); refine OpsE_eq (st' := _) (by first | dsimp only [n0, n1, n2, n3, n4, n5, n6, n7, n8, n9, m0, m1, m2, m3, m4, m5, m6, m7, m8, m9, o0, o1, o2, o3, o4, ↓reduceIte] | rfl) ?_)
    refine OpsE_nil ?_
    refine ⟨rfl, ?_⟩
    have hsucc := usedL_succ m hj'
    have hL := used_len m (E.take j)
    generalize usedL m (E.take j) = L at hsucc hL
    generalize E[j] = e at hsucc
    cases hf : e.fill
    · by_cases b0 : e.buffer ≥ 0
      · have e6 : intBin .geq .i64 e.buffer 0 = some (.bool true) := by simp [intBin]; omega
        by_cases bm : e.buffer < (m : Int)
        · have e13 : intBin .lss .i64 e.buffer (m : Int) = some (.bool true) := by simp [intBin]; omega
          obtain ⟨b, hb⟩ : ∃ b : Nat, e.buffer = (b : Int) := ⟨e.buffer.toNat, by omega⟩
          repeat (first | refine R_seq ?_ | refine R_block ?_ | refine R_skip ?_)
          refine R_region ?_
          iterate 6 ((first | (refine OpsE_do rfl ?_; first | refine E_fieldp fo36_1 rfl rfl ?_ | refine E_fieldi fo36_1 rfl rfl ?_ | refine E_loadi (ds := [_]) ag4 sz4 rfl rfl rfl rfl ?_ | refine E_loadp (ds := [_]) ag4 sz4 rfl rfl rfl rfl rfl ?_ | refine E_not rfl rfl ?_ | refine E_move rfl ?_ | refine E_fieldp fo36_2 rfl rfl ?_ | refine E_fieldi fo36_2 rfl rfl ?_ | refine E_loadi (ds := [_]) ag3 sz3 rfl rfl rfl rfl ?_ | refine E_loadp (ds := [_]) ag3 sz3 rfl rfl rfl rfl rfl ?_) | refine OpsE_not rfl ?_); refine OpsE_eq (st' := _) (by first | dsimp only [n0, n1, n2, n3, n4, n5, n6, n7, n8, n9, m0, m1, m2, m3, m4, m5, m6, m7, m8, m9, o0, o1, o2, o3, o4, ↓reduceIte] | rfl) ?_)
          ((first | (refine OpsE_do rfl ?_; refine E_int rfl rfl rfl e6 ?_) | refine OpsE_not rfl ?_); refine OpsE_eq (st' := _) (by first | dsimp only [n0, n1, n2, n3, n4, n5, n6, n7, n8, n9, m0, m1, m2, m3, m4, m5, m6, m7, m8, m9, o0, o1, o2, o3, o4, ↓reduceIte] | rfl) ?_)
          iterate 6 ((first | (refine OpsE_do rfl ?_; first | refine E_pick rfl rfl ?_ | refine E_move rfl ?_ | refine E_fieldp fo36_2 rfl rfl ?_ | refine E_fieldi fo36_2 rfl rfl ?_ | refine E_loadi (ds := [_]) ag3 sz3 rfl rfl rfl rfl ?_ | refine E_loadp (ds := [_]) ag3 sz3 rfl rfl rfl rfl rfl ?_ | refine E_loadi (ds := [_]) ag69 sz69 rfl rfl rfl rfl ?_ | refine E_loadp (ds := [_]) ag69 sz69 rfl rfl rfl rfl rfl ?_ | refine E_len un69 rfl rfl ?_) | refine OpsE_not rfl ?_); refine OpsE_eq (st' := _) (by first | dsimp only [n0, n1, n2, n3, n4, n5, n6, n7, n8, n9, m0, m1, m2, m3, m4, m5, m6, m7, m8, m9, o0, o1, o2, o3, o4, ↓reduceIte] | rfl) ?_)
          ((first | (refine OpsE_do rfl ?_; refine E_int rfl rfl rfl e13 ?_) | refine OpsE_not rfl ?_); refine OpsE_eq (st' := _) (by first | dsimp only [n0, n1, n2, n3, n4, n5, n6, n7, n8, n9, m0, m1, m2, m3, m4, m5, m6, m7, m8, m9, o0, o1, o2, o3, o4, ↓reduceIte] | rfl) ?_)
          (refine OpsE_do rfl ?_; refine E_pick rfl rfl ?_; refine OpsE_eq (st' := _) (by first | dsimp only [n0, n1, n2, n3, n4, n5, n6, n7, n8, n9, m0, m1, m2, m3, m4, m5, m6, m7, m8, m9, o0, o1, o2, o3, o4, ↓reduceIte] | rfl) ?_)
          refine OpsE_nil ?_
          repeat (first | refine R_seq ?_ | refine R_block ?_ | refine R_skip ?_)
          refine R_true rfl ?_
          repeat (first | refine R_seq ?_ | refine R_block ?_ | refine R_skip ?_)
          refine R_region ?_
          iterate 3 ((refine OpsE_do rfl ?_; first | refine E_loadi (ds := [_]) ag69 sz69 rfl rfl rfl rfl ?_ | refine E_loadp (ds := [_]) ag69 sz69 rfl rfl rfl rfl rfl ?_ | refine E_fieldp fo36_2 rfl rfl ?_ | refine E_fieldi fo36_2 rfl rfl ?_ | refine E_loadi (ds := [_]) ag3 sz3 rfl rfl rfl rfl ?_ | refine E_loadp (ds := [_]) ag3 sz3 rfl rfl rfl rfl rfl ?_); refine OpsE_eq (st' := _) (by first | dsimp only [n0, n1, n2, n3, n4, n5, n6, n7, n8, n9, m0, m1, m2, m3, m4, m5, m6, m7, m8, m9, o0, o1, o2, o3, o4, ↓reduceIte] | rfl) ?_)
          (refine OpsE_do rfl ?_; refine E_index0 el69 sz4 rfl rfl rfl hb (by omega) ?_; refine OpsE_eq (st' := _) (by first | dsimp only [n0, n1, n2, n3, n4, n5, n6, n7, n8, n9, m0, m1, m2, m3, m4, m5, m6, m7, m8, m9, o0, o1, o2, o3, o4, ↓reduceIte] | rfl) ?_)
          (refine OpsE_do rfl ?_; refine E_storeArr sz4 rfl rfl rfl rfl rfl (by rw [List.length_map, hL]; omega) ?_; refine OpsE_eq (st' := _) (by first | dsimp only [n0, n1, n2, n3, n4, n5, n6, n7, n8, n9, m0, m1, m2, m3, m4, m5, m6, m7, m8, m9, o0, o1, o2, o3, o4, ↓reduceIte] | rfl) ?_)
          refine OpsE_nil ?_
          refine ⟨rfl, congrArg (fun h => (⟨h, none⟩ : Go.Pm.Rnd)) ?_⟩
          show _ = (prune 2 (some []) _).heap
          rw [prune23, show (PV.dat (.raw (.bool true))) = .dat (boolD true) from rfl, map_put, purge_map, hsucc, if_pos (show useB m e = true from decide_eq_true ⟨hf, b0, bm⟩), hb, Int.toNat_natCast]
          rfl
        · have e13 : intBin .lss .i64 e.buffer (m : Int) = some (.bool false) := by simp [intBin]; omega
          repeat (first | refine R_seq ?_ | refine R_block ?_ | refine R_skip ?_)
          refine R_region ?_
          iterate 6 ((first | (refine OpsE_do rfl ?_; first | refine E_fieldp fo36_1 rfl rfl ?_ | refine E_fieldi fo36_1 rfl rfl ?_ | refine E_loadi (ds := [_]) ag4 sz4 rfl rfl rfl rfl ?_ | refine E_loadp (ds := [_]) ag4 sz4 rfl rfl rfl rfl rfl ?_ | refine E_not rfl rfl ?_ | refine E_move rfl ?_ | refine E_fieldp fo36_2 rfl rfl ?_ | refine E_fieldi fo36_2 rfl rfl ?_ | refine E_loadi (ds := [_]) ag3 sz3 rfl rfl rfl rfl ?_ | refine E_loadp (ds := [_]) ag3 sz3 rfl rfl rfl rfl rfl ?_) | refine OpsE_not rfl ?_); refine OpsE_eq (st' := _) (by first | dsimp only [n0, n1, n2, n3, n4, n5, n6, n7, n8, n9, m0, m1, m2, m3, m4, m5, m6, m7, m8, m9, o0, o1, o2, o3, o4, ↓reduceIte] | rfl) ?_)
          ((first | (refine OpsE_do rfl ?_; refine E_int rfl rfl rfl e6 ?_) | refine OpsE_not rfl ?_); refine OpsE_eq (st' := _) (by first | dsimp only [n0, n1, n2, n3, n4, n5, n6, n7, n8, n9, m0, m1, m2, m3, m4, m5, m6, m7, m8, m9, o0, o1, o2, o3, o4, ↓reduceIte] | rfl) ?_)
          iterate 6 ((first | (refine OpsE_do rfl ?_; first | refine E_pick rfl rfl ?_ | refine E_move rfl ?_ | refine E_fieldp fo36_2 rfl rfl ?_ | refine E_fieldi fo36_2 rfl rfl ?_ | refine E_loadi (ds := [_]) ag3 sz3 rfl rfl rfl rfl ?_ | refine E_loadp (ds := [_]) ag3 sz3 rfl rfl rfl rfl rfl ?_ | refine E_loadi (ds := [_]) ag69 sz69 rfl rfl rfl rfl ?_ | refine E_loadp (ds := [_]) ag69 sz69 rfl rfl rfl rfl rfl ?_ | refine E_len un69 rfl rfl ?_) | refine OpsE_not rfl ?_); refine OpsE_eq (st' := _) (by first | dsimp only [n0, n1, n2, n3, n4, n5, n6, n7, n8, n9, m0, m1, m2, m3, m4, m5, m6, m7, m8, m9, o0, o1, o2, o3, o4, ↓reduceIte] | rfl) ?_)
          ((first | (refine OpsE_do rfl ?_; refine E_int rfl rfl rfl e13 ?_) | refine OpsE_not rfl ?_); refine OpsE_eq (st' := _) (by first | dsimp only [n0, n1, n2, n3, n4, n5, n6, n7, n8, n9, m0, m1, m2, m3, m4, m5, m6, m7, m8, m9, o0, o1, o2, o3, o4, ↓reduceIte] | rfl) ?_)
          (refine OpsE_do rfl ?_; refine E_pick rfl rfl ?_; refine OpsE_eq (st' := _) (by first | dsimp only [n0, n1, n2, n3, n4, n5, n6, n7, n8, n9, m0, m1, m2, m3, m4, m5, m6, m7, m8, m9, o0, o1, o2, o3, o4, ↓reduceIte] | rfl) ?_)
          refine OpsE_nil ?_
          repeat (first | refine R_seq ?_ | refine R_block ?_ | refine R_skip ?_)
          refine R_false rfl ?_
          refine R_skip ?_
          refine ⟨rfl, congrArg (fun h => (⟨h, none⟩ : Go.Pm.Rnd)) ?_⟩
          show _ = (prune 2 (some []) _).heap
          rw [prune23, purge_map, hsucc, if_neg (show ¬ useB m e = true from fun h => bm (of_decide_eq_true h).2.2)]
          rfl
      · have e6 : intBin .geq .i64 e.buffer 0 = some (.bool false) := by simp [intBin]; omega
        repeat (first | refine R_seq ?_ | refine R_block ?_ | refine R_skip ?_)
        refine R_region ?_
        iterate 6 ((first | (refine OpsE_do rfl ?_; first | refine E_fieldp fo36_1 rfl rfl ?_ | refine E_fieldi fo36_1 rfl rfl ?_ | refine E_loadi (ds := [_]) ag4 sz4 rfl rfl rfl rfl ?_ | refine E_loadp (ds := [_]) ag4 sz4 rfl rfl rfl rfl rfl ?_ | refine E_not rfl rfl ?_ | refine E_move rfl ?_ | refine E_fieldp fo36_2 rfl rfl ?_ | refine E_fieldi fo36_2 rfl rfl ?_ | refine E_loadi (ds := [_]) ag3 sz3 rfl rfl rfl rfl ?_ | refine E_loadp (ds := [_]) ag3 sz3 rfl rfl rfl rfl rfl ?_) | refine OpsE_not rfl ?_); refine OpsE_eq (st' := _) (by first | dsimp only [n0, n1, n2, n3, n4, n5, n6, n7, n8, n9, m0, m1, m2, m3, m4, m5, m6, m7, m8, m9, o0, o1, o2, o3, o4, ↓reduceIte] | rfl) ?_)
        ((first | (refine OpsE_do rfl ?_; refine E_int rfl rfl rfl e6 ?_) | refine OpsE_not rfl ?_); refine OpsE_eq (st' := _) (by first | dsimp only [n0, n1, n2, n3, n4, n5, n6, n7, n8, n9, m0, m1, m2, m3, m4, m5, m6, m7, m8, m9, o0, o1, o2, o3, o4, ↓reduceIte] | rfl) ?_)
        iterate 8 ((first | (refine OpsE_do rfl ?_; first | refine E_pick rfl rfl ?_ | refine E_move rfl ?_ | refine E_fieldp fo36_2 rfl rfl ?_ | refine E_fieldi fo36_2 rfl rfl ?_ | refine E_loadi (ds := [_]) ag3 sz3 rfl rfl rfl rfl ?_ | refine E_loadp (ds := [_]) ag3 sz3 rfl rfl rfl rfl rfl ?_ | refine E_loadi (ds := [_]) ag69 sz69 rfl rfl rfl rfl ?_ | refine E_loadp (ds := [_]) ag69 sz69 rfl rfl rfl rfl rfl ?_ | refine E_len un69 rfl rfl ?_ | refine E_int rfl rfl rfl rfl ?_) | refine OpsE_not rfl ?_); refine OpsE_eq (st' := _) (by first | dsimp only [n0, n1, n2, n3, n4, n5, n6, n7, n8, n9, m0, m1, m2, m3, m4, m5, m6, m7, m8, m9, o0, o1, o2, o3, o4, ↓reduceIte] | rfl) ?_)
        refine OpsE_nil ?_
        repeat (first | refine R_seq ?_ | refine R_block ?_ | refine R_skip ?_)
        refine R_false rfl ?_
        refine R_skip ?_
        refine ⟨rfl, congrArg (fun h => (⟨h, none⟩ : Go.Pm.Rnd)) ?_⟩
        show _ = (prune 2 (some []) _).heap
        rw [prune23, purge_map, hsucc, if_neg (show ¬ useB m e = true from fun h => b0 (of_decide_eq_true h).2.1)]
        rfl
    · repeat (first | refine R_seq ?_ | refine R_block ?_ | refine R_skip ?_)
      refine R_region ?_
      iterate 15 ((first | (refine OpsE_do rfl ?_; first | refine E_fieldp fo36_1 rfl rfl ?_ | refine E_fieldi fo36_1 rfl rfl ?_ | refine E_loadi (ds := [_]) ag4 sz4 rfl rfl rfl rfl ?_ | refine E_loadp (ds := [_]) ag4 sz4 rfl rfl rfl rfl rfl ?_ | refine E_not rfl rfl ?_ | refine E_move rfl ?_ | refine E_fieldp fo36_2 rfl rfl ?_ | refine E_fieldi fo36_2 rfl rfl ?_ | refine E_loadi (ds := [_]) ag3 sz3 rfl rfl rfl rfl ?_ | refine E_loadp (ds := [_]) ag3 sz3 rfl rfl rfl rfl rfl ?_ | refine E_int rfl rfl rfl rfl ?_ | refine E_pick rfl rfl ?_ | refine E_loadi (ds := [_]) ag69 sz69 rfl rfl rfl rfl ?_ | refine E_loadp (ds := [_]) ag69 sz69 rfl rfl rfl rfl rfl ?_ | refine E_len un69 rfl rfl ?_) | refine OpsE_not rfl ?_); refine OpsE_eq (st' := _) (by first | dsimp only [n0, n1, n2, n3, n4, n5, n6, n7, n8, n9, m0, m1, m2, m3, m4, m5, m6, m7, m8, m9, o0, o1, o2, o3, o4, ↓reduceIte] | rfl) ?_)
      refine OpsE_nil ?_
      repeat (first | refine R_seq ?_ | refine R_block ?_ | refine R_skip ?_)
      refine R_false rfl ?_
      refine R_skip ?_
      refine ⟨rfl, congrArg (fun h => (⟨h, none⟩ : Go.Pm.Rnd)) ?_⟩
      show _ = (prune 2 (some []) _).heap
      rw [prune23, purge_map, hsucc, if_neg (show ¬ useB m e = true from fun h => by have := (of_decide_eq_true h).1; rw [hf] at this; cases this)]
      rfl
  · rw [h.2]
    repeat (first | refine R_seq ?_ | refine R_block ?_ | refine R_skip ?_)
    refine R_region ?_
    iterate 2 ((refine OpsE_do rfl ?_; first | refine E_loadi (ds := [_]) ag69 sz69 rfl rfl rfl rfl ?_ | refine E_loadp (ds := [_]) ag69 sz69 rfl rfl rfl rfl rfl ?_ | refine E_assign rfl rfl ?_); refine OpsE_eq (st' := _) (by first | dsimp only [n0, n1, n2, n3, n4, n5, n6, n7, n8, n9, m0, m1, m2, m3, m4, m5, m6, m7, m8, m9, o0, o1, o2, o3, o4, ↓reduceIte] | rfl) ?_)
    refine OpsE_nil ?_
    repeat (first | refine R_seq ?_ | refine R_block ?_ | refine R_skip ?_)
    refine R_ret ?_
    refine ⟨trivial, _, rfl, ?_⟩
    have hL := used_len m E
    rw [List.take_length]
    generalize usedL m E = L at hL
    subst hL
    show (pure1 [.box (L.map fun m => .dat (boolD m)), .box [.arr 0 0 L.length L.length]] (.arr 0 0 L.length L.length)).map PV.dat = _
    rw [pure_map boolD (fun _ => rfl) rfl]
    rfl

theorem c30 (l : List Nst) (b : Int) (H : List Blk) (hS : ∀ n ∈ l, SmallN n) (hl : l.length ≤ 1000) : PC prog env 30 [.dat (nestsD l), .dat (intD b)] H (boolPV ((eventsL l).any (readsB b))) H := by
  refine PC_pure (fn := f30) (by kernel_rfl) rfl rfl (by kernel_rfl) rfl rfl ?_ (by simp [PV.lends])
  have hlen := eventsL_len hS
  refine R_eq (st' := ⟨[.dat (nestsD l), .dat (intD b), .tup [], .tup [], .tup [], .tup [], .tup [], .tup [], .tup [], .tup [], .tup [], .tup [], .tup [], .tup [], .tup [], .tup [], .tup [], .tup [], .tup [], .tup [], .tup [], .tup [], .tup [], .tup [], .tup [], .tup [], .tup [], .tup [], .tup [], .tup []], []⟩) rfl ?_
  repeat (first | refine R_seq ?_ | refine R_block ?_ | refine R_skip ?_)
  refine R_region ?_
  (refine OpsE_do rfl ?_; refine E_assign rfl rfl ?_; refine OpsE_eq (st' := _) (by first | dsimp only [n0, n1, n2, n3, n4, n5, n6, n7, n8, n9, m0, m1, m2, m3, m4, m5, m6, m7, m8, m9, o0, o1, o2, o3, o4, ↓reduceIte] | rfl) ?_)
  refine OpsE_nil ?_
  repeat (first | refine R_seq ?_ | refine R_block ?_ | refine R_skip ?_)
  refine R_region ?_
  (refine OpsE_do rfl ?_; refine E_move rfl ?_; refine OpsE_eq (st' := _) (by first | dsimp only [n0, n1, n2, n3, n4, n5, n6, n7, n8, n9, m0, m1, m2, m3, m4, m5, m6, m7, m8, m9, o0, o1, o2, o3, o4, ↓reduceIte] | rfl) ?_)
  (refine OpsE_do rfl ?_; (first | refine E_call rfl rfl (c12L hS hl _) ?_ | refine E_callfn rfl rfl (c12L hS hl _) ?_); refine OpsE_eq (st' := _) (by first | dsimp only [n0, n1, n2, n3, n4, n5, n6, n7, n8, n9, m0, m1, m2, m3, m4, m5, m6, m7, m8, m9, o0, o1, o2, o3, o4, ↓reduceIte] | rfl) ?_)
  (refine OpsE_do rfl ?_; refine E_assign rfl rfl ?_; refine OpsE_eq (st' := _) (by first | dsimp only [n0, n1, n2, n3, n4, n5, n6, n7, n8, n9, m0, m1, m2, m3, m4, m5, m6, m7, m8, m9, o0, o1, o2, o3, o4, ↓reduceIte] | rfl) ?_)
  refine OpsE_nil ?_
  generalize eventsL l = E at hlen
  repeat (first | refine R_seq ?_ | refine R_block ?_ | refine R_skip ?_)
  refine R_region ?_
  (refine OpsE_do rfl ?_; refine E_assign rfl rfl ?_; refine OpsE_eq (st' := _) (by first | dsimp only [n0, n1, n2, n3, n4, n5, n6, n7, n8, n9, m0, m1, m2, m3, m4, m5, m6, m7, m8, m9, o0, o1, o2, o3, o4, ↓reduceIte] | rfl) ?_)
  refine OpsE_nil ?_
  repeat (first | refine R_seq ?_ | refine R_block ?_ | refine R_skip ?_)
  refine R_loop ?_
  refine RL_ind (fun (j : Nat) => ⟨[.undef, .dat (intD b), .undef, .undef, .undef, .dat (evtsD E), intPV (j : Int), .undef, .undef, .undef, .undef, .undef, .undef, .undef, .undef, .undef, .undef, .undef, .undef, .undef, .undef, .undef, .undef, .undef, .undef, .undef, .undef, .undef, .undef, .undef], []⟩)
    (fun j => j ≤ E.length ∧ (E.take j).any (readsB b) = false) (fun j => E.length - j) (fun j hj => ?_) _ 0 _ (Nat.lt_succ_self _) ⟨Nat.zero_le _, rfl⟩ rfl
  obtain ⟨hj, hall⟩ := hj
  repeat (first | refine R_seq ?_ | refine R_block ?_ | refine R_skip ?_)
  refine R_region ?_
  iterate 4 ((refine OpsE_do rfl ?_; first | refine E_move rfl ?_ | refine E_len un25 rfl rfl ?_ | refine E_int rfl rfl rfl rfl ?_); refine OpsE_eq (st' := _) (by first | dsimp only [n0, n1, n2, n3, n4, n5, n6, n7, n8, n9, m0, m1, m2, m3, m4, m5, m6, m7, m8, m9, o0, o1, o2, o3, o4, ↓reduceIte] | rfl) ?_)
  refine OpsE_nil ?_
  repeat (first | refine R_seq ?_ | refine R_block ?_ | refine R_skip ?_)
  refine R_if rfl (fun h => ?_) (fun h => ?_)
  · have hj' : j < E.length := by simpa using h
    have yes : readsB b E[j] = true → E.any (readsB b) = true := fun hf => List.any_eq_true.2 ⟨_, List.getElem_mem hj', hf⟩
    have no : readsB b E[j] = false → (E.take (j + 1)).any (readsB b) = false := fun hf => by rw [List.take_succ_eq_append_getElem hj', List.any_append, hall]; simp [hf]
    have hEj := evts_get hj'
    generalize E[j] = e at yes no hEj
    cases hf : e.fill
    · have f5 : (PV.dat (.raw (.bool e.fill))) = boolPV false := by rw [hf]; rfl
      by_cases hb : e.buffer = b
      · have e13 : intBin .eql .i64 e.buffer b = some (.bool true) := by simp [intBin]; omega
        repeat (first | refine R_seq ?_ | refine R_block ?_ | refine R_skip ?_)
        refine R_region ?_
        iterate 2 ((refine OpsE_do rfl ?_; refine E_move rfl ?_); refine OpsE_eq (st' := _) (by first | dsimp only [n0, n1, n2, n3, n4, n5, n6, n7, n8, n9, m0, m1, m2, m3, m4, m5, m6, m7, m8, m9, o0, o1, o2, o3, o4, ↓reduceIte] | rfl) ?_)
        (refine OpsE_do rfl ?_; (first | refine E_index el25 sz37 rfl rfl rfl rfl hEj rfl ?_ | refine E_index0 el25 sz37 rfl rfl rfl rfl hEj ?_ | refine E_indexArr el25 sz37 rfl rfl rfl rfl hEj ?_); refine OpsE_eq (st' := _) (by first | dsimp only [n0, n1, n2, n3, n4, n5, n6, n7, n8, n9, m0, m1, m2, m3, m4, m5, m6, m7, m8, m9, o0, o1, o2, o3, o4, ↓reduceIte] | rfl) ?_)
        iterate 2 ((refine OpsE_do rfl ?_; first | refine E_fieldp fo37_1 rfl rfl ?_ | refine E_fieldi fo37_1 rfl rfl ?_ | refine E_loadi (ds := [_]) ag4 sz4 rfl rfl rfl rfl ?_ | refine E_loadp (ds := [_]) ag4 sz4 rfl rfl rfl rfl rfl ?_); refine OpsE_eq (st' := _) (by first | dsimp only [n0, n1, n2, n3, n4, n5, n6, n7, n8, n9, m0, m1, m2, m3, m4, m5, m6, m7, m8, m9, o0, o1, o2, o3, o4, ↓reduceIte] | rfl) ?_)
        (refine OpsE_do rfl ?_; refine E_not (b := false) rfl (by exact f5) ?_; refine OpsE_eq (st' := _) (by first | dsimp only [n0, n1, n2, n3, n4, n5, n6, n7, n8, n9, m0, m1, m2, m3, m4, m5, m6, m7, m8, m9, o0, o1, o2, o3, o4, ↓reduceIte] | rfl) ?_)
        iterate 3 ((first | (refine OpsE_do rfl ?_; refine E_move rfl ?_) | refine OpsE_not rfl ?_); refine OpsE_eq (st' := _) (by first | dsimp only [n0, n1, n2, n3, n4, n5, n6, n7, n8, n9, m0, m1, m2, m3, m4, m5, m6, m7, m8, m9, o0, o1, o2, o3, o4, ↓reduceIte] | rfl) ?_)
        ((first | (refine OpsE_do rfl ?_; (first | refine E_index el25 sz37 rfl rfl rfl rfl hEj rfl ?_ | refine E_index0 el25 sz37 rfl rfl rfl rfl hEj ?_ | refine E_indexArr el25 sz37 rfl rfl rfl rfl hEj ?_)) | refine OpsE_not rfl ?_); refine OpsE_eq (st' := _) (by first | dsimp only [n0, n1, n2, n3, n4, n5, n6, n7, n8, n9, m0, m1, m2, m3, m4, m5, m6, m7, m8, m9, o0, o1, o2, o3, o4, ↓reduceIte] | rfl) ?_)
        iterate 3 ((first | (refine OpsE_do rfl ?_; first | refine E_fieldp fo37_2 rfl rfl ?_ | refine E_fieldi fo37_2 rfl rfl ?_ | refine E_loadi (ds := [_]) ag3 sz3 rfl rfl rfl rfl ?_ | refine E_loadp (ds := [_]) ag3 sz3 rfl rfl rfl rfl rfl ?_ | refine E_move rfl ?_) | refine OpsE_not rfl ?_); refine OpsE_eq (st' := _) (by first | dsimp only [n0, n1, n2, n3, n4, n5, n6, n7, n8, n9, m0, m1, m2, m3, m4, m5, m6, m7, m8, m9, o0, o1, o2, o3, o4, ↓reduceIte] | rfl) ?_)
        ((first | (refine OpsE_do rfl ?_; refine E_int rfl rfl rfl e13 ?_) | refine OpsE_not rfl ?_); refine OpsE_eq (st' := _) (by first | dsimp only [n0, n1, n2, n3, n4, n5, n6, n7, n8, n9, m0, m1, m2, m3, m4, m5, m6, m7, m8, m9, o0, o1, o2, o3, o4, ↓reduceIte] | rfl) ?_)
        (refine OpsE_do rfl ?_; refine E_pick rfl rfl ?_; refine OpsE_eq (st' := _) (by first | dsimp only [n0, n1, n2, n3, n4, n5, n6, n7, n8, n9, m0, m1, m2, m3, m4, m5, m6, m7, m8, m9, o0, o1, o2, o3, o4, ↓reduceIte] | rfl) ?_)
        refine OpsE_nil ?_
        repeat (first | refine R_seq ?_ | refine R_block ?_ | refine R_skip ?_)
        refine R_true rfl ?_
        repeat (first | refine R_seq ?_ | refine R_block ?_ | refine R_skip ?_)
        refine R_region ?_
        (refine OpsE_do rfl ?_; refine E_assign rfl rfl ?_; refine OpsE_eq (st' := _) (by first | dsimp only [n0, n1, n2, n3, n4, n5, n6, n7, n8, n9, m0, m1, m2, m3, m4, m5, m6, m7, m8, m9, o0, o1, o2, o3, o4, ↓reduceIte] | rfl) ?_)
        refine OpsE_nil ?_
        repeat (first | refine R_seq ?_ | refine R_block ?_ | refine R_skip ?_)
        refine R_ret ?_
        refine ⟨trivial, _, rfl, ?_⟩
        rw [yes (decide_eq_true ⟨hf, hb⟩)]
        rfl
      · have e13 : intBin .eql .i64 e.buffer b = some (.bool false) := by simp [intBin]; omega
        repeat (first | refine R_seq ?_ | refine R_block ?_ | refine R_skip ?_)
        refine R_region ?_
        iterate 2 ((refine OpsE_do rfl ?_; refine E_move rfl ?_); refine OpsE_eq (st' := _) (by first | dsimp only [n0, n1, n2, n3, n4, n5, n6, n7, n8, n9, m0, m1, m2, m3, m4, m5, m6, m7, m8, m9, o0, o1, o2, o3, o4, ↓reduceIte] | rfl) ?_)
        (refine OpsE_do rfl ?_; (first | refine E_index el25 sz37 rfl rfl rfl rfl hEj rfl ?_ | refine E_index0 el25 sz37 rfl rfl rfl rfl hEj ?_ | refine E_indexArr el25 sz37 rfl rfl rfl rfl hEj ?_); refine OpsE_eq (st' := _) (by first | dsimp only [n0, n1, n2, n3, n4, n5, n6, n7, n8, n9, m0, m1, m2, m3, m4, m5, m6, m7, m8, m9, o0, o1, o2, o3, o4, ↓reduceIte] | rfl) ?_)
        iterate 2 ((refine OpsE_do rfl ?_; first | refine E_fieldp fo37_1 rfl rfl ?_ | refine E_fieldi fo37_1 rfl rfl ?_ | refine E_loadi (ds := [_]) ag4 sz4 rfl rfl rfl rfl ?_ | refine E_loadp (ds := [_]) ag4 sz4 rfl rfl rfl rfl rfl ?_); refine OpsE_eq (st' := _) (by first | dsimp only [n0, n1, n2, n3, n4, n5, n6, n7, n8, n9, m0, m1, m2, m3, m4, m5, m6, m7, m8, m9, o0, o1, o2, o3, o4, ↓reduceIte] | rfl) ?_)
        (refine OpsE_do rfl ?_; refine E_not (b := false) rfl (by exact f5) ?_; refine OpsE_eq (st' := _) (by first | dsimp only [n0, n1, n2, n3, n4, n5, n6, n7, n8, n9, m0, m1, m2, m3, m4, m5, m6, m7, m8, m9, o0, o1, o2, o3, o4, ↓reduceIte] | rfl) ?_)
        iterate 3 ((first | (refine OpsE_do rfl ?_; refine E_move rfl ?_) | refine OpsE_not rfl ?_); refine OpsE_eq (st' := _) (by first | dsimp only [n0, n1, n2, n3, n4, n5, n6, n7, n8, n9, m0, m1, m2, m3, m4, m5, m6, m7, m8, m9, o0, o1, o2, o3, o4, ↓reduceIte] | rfl) ?_)
        ((first | (refine OpsE_do rfl ?_; (first | refine E_index el25 sz37 rfl rfl rfl rfl hEj rfl ?_ | refine E_index0 el25 sz37 rfl rfl rfl rfl hEj ?_ | refine E_indexArr el25 sz37 rfl rfl rfl rfl hEj ?_)) | refine OpsE_not rfl ?_); refine OpsE_eq (st' := _) (by first | dsimp only [n0, n1, n2, n3, n4, n5, n6, n7, n8, n9, m0, m1, m2, m3, m4, m5, m6, m7, m8, m9, o0, o1, o2, o3, o4, ↓reduceIte] | rfl) ?_)
        iterate 3 ((first | (refine OpsE_do rfl ?_; first | refine E_fieldp fo37_2 rfl rfl ?_ | refine E_fieldi fo37_2 rfl rfl ?_ | refine E_loadi (ds := [_]) ag3 sz3 rfl rfl rfl rfl ?_ | refine E_loadp (ds := [_]) ag3 sz3 rfl rfl rfl rfl rfl ?_ | refine E_move rfl ?_) | refine OpsE_not rfl ?_); refine OpsE_eq (st' := _) (by first | dsimp only [n0, n1, n2, n3, n4, n5, n6, n7, n8, n9, m0, m1, m2, m3, m4, m5, m6, m7, m8, m9, o0, o1, o2, o3, o4, ↓reduceIte] | rfl) ?_)
        ((first | (refine OpsE_do rfl ?_; refine E_int rfl rfl rfl e13 ?_) | refine OpsE_not rfl ?_); refine OpsE_eq (st' := _) (by first | dsimp only [n0, n1, n2, n3, n4, n5, n6, n7, n8, n9, m0, m1, m2, m3, m4, m5, m6, m7, m8, m9, o0, o1, o2, o3, o4, ↓reduceIte] | rfl) ?_)
        (refine OpsE_do rfl ?_; refine E_pick rfl rfl ?_; refine OpsE_eq (st' := _) (by first | dsimp only [n0, n1, n2, n3, n4, n5, n6, n7, n8, n9, m0, m1, m2, m3, m4, m5, m6, m7, m8, m9, o0, o1, o2, o3, o4, ↓reduceIte] | rfl) ?_)
        refine OpsE_nil ?_
        repeat (first | refine R_seq ?_ | refine R_block ?_ | refine R_skip ?_)
        refine R_false rfl ?_
        repeat (first | refine R_seq ?_ | refine R_block ?_ | refine R_skip ?_)
        refine R_region ?_
        iterate 3 ((refine OpsE_do rfl ?_; first | refine E_move rfl ?_ | refine E_int rfl rfl rfl rfl ?_ | refine E_assign rfl rfl ?_); refine OpsE_eq (st' := _) (by first | dsimp only [n0, n1, n2, n3, n4, n5, n6, n7, n8, n9, m0, m1, m2, m3, m4, m5, m6, m7, m8, m9, o0, o1, o2, o3, o4, ↓reduceIte] | rfl) ?_)
        refine OpsE_nil ?_
        refine ⟨j + 1, ?_, by omega, hj', no (decide_eq_false (fun h => hb h.2))⟩
        rw [wrap_succ (by omega)]
        rfl
    · have f5 : (PV.dat (.raw (.bool e.fill))) = boolPV true := by rw [hf]; rfl
      repeat (first | refine R_seq ?_ | refine R_block ?_ | refine R_skip ?_)
      refine R_region ?_
      iterate 2 ((refine OpsE_do rfl ?_; refine E_move rfl ?_); refine OpsE_eq (st' := _) (by first | dsimp only [n0, n1, n2, n3, n4, n5, n6, n7, n8, n9, m0, m1, m2, m3, m4, m5, m6, m7, m8, m9, o0, o1, o2, o3, o4, ↓reduceIte] | rfl) ?_)
      (refine OpsE_do rfl ?_; (first | refine E_index el25 sz37 rfl rfl rfl rfl hEj rfl ?_ | refine E_index0 el25 sz37 rfl rfl rfl rfl hEj ?_ | refine E_indexArr el25 sz37 rfl rfl rfl rfl hEj ?_); refine OpsE_eq (st' := _) (by first | dsimp only [n0, n1, n2, n3, n4, n5, n6, n7, n8, n9, m0, m1, m2, m3, m4, m5, m6, m7, m8, m9, o0, o1, o2, o3, o4, ↓reduceIte] | rfl) ?_)
      iterate 2 ((refine OpsE_do rfl ?_; first | refine E_fieldp fo37_1 rfl rfl ?_ | refine E_fieldi fo37_1 rfl rfl ?_ | refine E_loadi (ds := [_]) ag4 sz4 rfl rfl rfl rfl ?_ | refine E_loadp (ds := [_]) ag4 sz4 rfl rfl rfl rfl rfl ?_); refine OpsE_eq (st' := _) (by first | dsimp only [n0, n1, n2, n3, n4, n5, n6, n7, n8, n9, m0, m1, m2, m3, m4, m5, m6, m7, m8, m9, o0, o1, o2, o3, o4, ↓reduceIte] | rfl) ?_)
      (refine OpsE_do rfl ?_; refine E_not (b := true) rfl (by exact f5) ?_; refine OpsE_eq (st' := _) (by first | dsimp only [n0, n1, n2, n3, n4, n5, n6, n7, n8, n9, m0, m1, m2, m3, m4, m5, m6, m7, m8, m9, o0, o1, o2, o3, o4, ↓reduceIte] | rfl) ?_)
      iterate 3 ((first | (refine OpsE_do rfl ?_; refine E_move rfl ?_) | refine OpsE_not rfl ?_); refine OpsE_eq (st' := _) (by first | dsimp only [n0, n1, n2, n3, n4, n5, n6, n7, n8, n9, m0, m1, m2, m3, m4, m5, m6, m7, m8, m9, o0, o1, o2, o3, o4, ↓reduceIte] | rfl) ?_)
      ((first | (refine OpsE_do rfl ?_; (first | refine E_index el25 sz37 rfl rfl rfl rfl hEj rfl ?_ | refine E_index0 el25 sz37 rfl rfl rfl rfl hEj ?_ | refine E_indexArr el25 sz37 rfl rfl rfl rfl hEj ?_)) | refine OpsE_not rfl ?_); refine OpsE_eq (st' := _) (by first | dsimp only [n0, n1, n2, n3, n4, n5, n6, n7, n8, n9, m0, m1, m2, m3, m4, m5, m6, m7, m8, m9, o0, o1, o2, o3, o4, ↓reduceIte] | rfl) ?_)
      iterate 5 ((first | (refine OpsE_do rfl ?_; first | refine E_fieldp fo37_2 rfl rfl ?_ | refine E_fieldi fo37_2 rfl rfl ?_ | refine E_loadi (ds := [_]) ag3 sz3 rfl rfl rfl rfl ?_ | refine E_loadp (ds := [_]) ag3 sz3 rfl rfl rfl rfl rfl ?_ | refine E_move rfl ?_ | refine E_int rfl rfl rfl rfl ?_ | refine E_pick rfl rfl ?_) | refine OpsE_not rfl ?_); refine OpsE_eq (st' := _) (by first | dsimp only [n0, n1, n2, n3, n4, n5, n6, n7, n8, n9, m0, m1, m2, m3, m4, m5, m6, m7, m8, m9, o0, o1, o2, o3, o4, ↓reduceIte] | rfl) ?_)
      refine OpsE_nil ?_
      repeat (first | refine R_seq ?_ | refine R_block ?_ | refine R_skip ?_)
      refine R_false rfl ?_
      repeat (first | refine R_seq ?_ | refine R_block ?_ | refine R_skip ?_)
      refine R_region ?_
      iterate 3 ((refine OpsE_do rfl ?_; first | refine E_move rfl ?_ | refine E_int rfl rfl rfl rfl ?_ | refine E_assign rfl rfl ?_); refine OpsE_eq (st' := _) (by first | dsimp only [n0, n1, n2, n3, n4, n5, n6, n7, n8, n9, m0, m1, m2, m3, m4, m5, m6, m7, m8, m9, o0, o1, o2, o3, o4, ↓reduceIte] | rfl) ?_)
      refine OpsE_nil ?_
      refine ⟨j + 1, ?_, by omega, hj', no (decide_eq_false (fun h => by rw [hf] at h; cases h.1))⟩
      rw [wrap_succ (by omega)]
      rfl
  · have hj' : j = E.length := by simp at h; omega
    subst hj'
    rw [List.take_length] at hall
    repeat (first | refine R_seq ?_ | refine R_block ?_ | refine R_skip ?_)
    refine R_exit ?_
    repeat (first | refine R_seq ?_ | refine R_block ?_ | refine R_skip ?_)
    refine R_region ?_
    (refine OpsE_do rfl ?_; refine E_assign rfl rfl ?_; refine OpsE_eq (st' := _) (by first | dsimp only [n0, n1, n2, n3, n4, n5, n6, n7, n8, n9, m0, m1, m2, m3, m4, m5, m6, m7, m8, m9, o0, o1, o2, o3, o4, ↓reduceIte] | rfl) ?_)
    refine OpsE_nil ?_
    repeat (first | refine R_seq ?_ | refine R_block ?_ | refine R_skip ?_)
    refine R_ret ?_
    refine ⟨trivial, _, rfl, ?_⟩
    rw [hall]
    rfl
end Go.Proofs.Try
