/-
  Seat a: the rules of the audit.
-/
import Derived.Test.YtbknblppjhfkmaaA23
namespace Go.Proofs.Try
open Go Go.Pm
set_option linter.unusedVariables false
set_option linter.unusedSimpArgs false
set_option maxRecDepth 2000

theorem bool_get {W : List Bool} {w : Nat} (h : w < W.length) : (W.map fun m => PV.dat (boolD m))[w]? = some (.dat (boolD (W.getD w false))) := by simp [h]
theorem c56_no (m : Nat) (s : List Int) (j : Int) (e : Evt) (W : List Bool) (hW : W.length = m) (hno : (inB m e && !(W.getD e.write.toNat false)) = false) :
    PC prog env 56 [.dat e.toD, .ptr 1 0, .ptr 3 0] [.box [.dat (intD 0), .dat (intD 0), .dat (intD 0), .dat (intD 0)], .box [.dat (intD m)], .box ((W).map fun m => .dat (boolD m)), .box [.arr 2 0 m m], .box [.dat (intsD s)], .box [.fn 56 [.ptr 1 0, .ptr 3 0], .fn 57 [.ptr 4 0]], .box [.arr 5 0 2 2], .box [.dat (intD 0)], .box [.dat (intD j)], .box [.dat (intD e.write), .dat (.raw (.bool e.fill)), .dat (intD e.buffer), .dat (intD e.offset)]] (boolPV false) [.box [.dat (intD 0), .dat (intD 0), .dat (intD 0), .dat (intD 0)], .box [.dat (intD m)], .box ((W).map fun m => .dat (boolD m)), .box [.arr 2 0 m m], .box [.dat (intsD s)], .box [.fn 56 [.ptr 1 0, .ptr 3 0], .fn 57 [.ptr 4 0]], .box [.arr 5 0 2 2], .box [.dat (intD 0)], .box [.dat (intD j)], .box [.dat (intD e.write), .dat (.raw (.bool e.fill)), .dat (intD e.buffer), .dat (intD e.offset)], .box [.dat (intD e.write), .dat (.raw (.bool e.fill)), .dat (intD e.buffer), .dat (intD e.offset)]] := by
  refine PC_body (fn := f56) (by kernel_rfl) rfl rfl (by kernel_rfl) rfl ?_
  refine R_eq (st' := ⟨[.dat (e.toD), .ptr 1 0, .ptr 3 0, .tup [], .tup [], .tup [], .tup [], .tup [], .tup [], .tup [], .tup [], .tup [], .tup [], .tup [], .tup [], .tup [], .tup [], .tup [], .tup [], .tup [], .tup [], .tup [], .tup [], .tup [], .tup []], [.box [.dat (intD 0), .dat (intD 0), .dat (intD 0), .dat (intD 0)], .box [.dat (intD m)], .box ((W).map fun m => .dat (boolD m)), .box [.arr 2 0 m m], .box [.dat (intsD s)], .box [.fn 56 [.ptr 1 0, .ptr 3 0], .fn 57 [.ptr 4 0]], .box [.arr 5 0 2 2], .box [.dat (intD 0)], .box [.dat (intD j)], .box [.dat (intD e.write), .dat (.raw (.bool e.fill)), .dat (intD e.buffer), .dat (intD e.offset)]]⟩) rfl ?_
  repeat (first | refine R_seq ?_ | refine R_block ?_ | refine R_skip ?_)
  refine R_region ?_
  iterate 2 ((refine OpsE_do rfl ?_; first | refine E_box (cs := [_, _, _, _]) rfl rfl rfl ?_ | refine E_assign rfl rfl ?_); refine OpsE_eq (st' := _) (by first | dsimp only [n0, n1, n2, n3, n4, n5, n6, n7, n8, n9, m0, m1, m2, m3, m4, m5, m6, m7, m8, m9, o0, o1, o2, o3, o4, ↓reduceIte] | rfl) ?_)
  refine OpsE_nil ?_
  by_cases w0 : e.write < 0
  · have e2 : intBin .lss .i64 e.write 0 = some (.bool true) := by simp [intBin]; omega
    repeat (first | refine R_seq ?_ | refine R_block ?_ | refine R_skip ?_)
    refine R_region ?_
    iterate 2 ((refine OpsE_do rfl ?_; first | refine E_fieldp fo36_0 rfl rfl ?_ | refine E_fieldi fo36_0 rfl rfl ?_ | refine E_loadi (ds := [_]) ag3 sz3 rfl rfl rfl rfl ?_ | refine E_loadp (ds := [_]) ag3 sz3 rfl rfl rfl rfl rfl ?_); refine OpsE_eq (st' := _) (by first | dsimp only [n0, n1, n2, n3, n4, n5, n6, n7, n8, n9, m0, m1, m2, m3, m4, m5, m6, m7, m8, m9, o0, o1, o2, o3, o4, ↓reduceIte] | rfl) ?_)
    (refine OpsE_do rfl ?_; refine E_int rfl rfl rfl e2 ?_; refine OpsE_eq (st' := _) (by first | dsimp only [n0, n1, n2, n3, n4, n5, n6, n7, n8, n9, m0, m1, m2, m3, m4, m5, m6, m7, m8, m9, o0, o1, o2, o3, o4, ↓reduceIte] | rfl) ?_)
    iterate 10 ((first | (refine OpsE_do rfl ?_; first | refine E_move rfl ?_ | refine E_fieldp fo36_0 rfl rfl ?_ | refine E_fieldi fo36_0 rfl rfl ?_ | refine E_loadi (ds := [_]) ag3 sz3 rfl rfl rfl rfl ?_ | refine E_loadp (ds := [_]) ag3 sz3 rfl rfl rfl rfl rfl ?_ | refine E_int rfl rfl rfl rfl ?_ | refine E_pick rfl rfl ?_ | refine E_loadi (ds := [_]) ag69 sz69 rfl rfl rfl rfl ?_ | refine E_loadp (ds := [_]) ag69 sz69 rfl rfl rfl rfl rfl ?_) | refine OpsE_not rfl ?_); refine OpsE_eq (st' := _) (by first | dsimp only [n0, n1, n2, n3, n4, n5, n6, n7, n8, n9, m0, m1, m2, m3, m4, m5, m6, m7, m8, m9, o0, o1, o2, o3, o4, ↓reduceIte] | rfl) ?_)
    ((first | (refine OpsE_do rfl ?_; (first | refine E_index el69 sz4 rfl rfl rfl rfl trivial rfl ?_ | refine E_index0 el69 sz4 rfl rfl rfl rfl trivial ?_ | refine E_indexArr el69 sz4 rfl rfl rfl rfl trivial ?_)) | refine OpsE_not rfl ?_); refine OpsE_eq (st' := _) (by first | dsimp only [n0, n1, n2, n3, n4, n5, n6, n7, n8, n9, m0, m1, m2, m3, m4, m5, m6, m7, m8, m9, o0, o1, o2, o3, o4, ↓reduceIte] | rfl) ?_)
    iterate 2 ((first | (refine OpsE_do rfl ?_; first | refine E_loadi (ds := [_]) ag4 sz4 rfl rfl rfl rfl ?_ | refine E_loadp (ds := [_]) ag4 sz4 rfl rfl rfl rfl rfl ?_ | refine E_pick rfl rfl ?_) | refine OpsE_not rfl ?_); refine OpsE_eq (st' := _) (by first | dsimp only [n0, n1, n2, n3, n4, n5, n6, n7, n8, n9, m0, m1, m2, m3, m4, m5, m6, m7, m8, m9, o0, o1, o2, o3, o4, ↓reduceIte] | rfl) ?_)
    refine OpsE_nil ?_
    repeat (first | refine R_seq ?_ | refine R_block ?_ | refine R_skip ?_)
    refine R_true rfl ?_
    repeat (first | refine R_seq ?_ | refine R_block ?_ | refine R_skip ?_)
    refine R_region ?_
    (refine OpsE_do rfl ?_; refine E_assign rfl rfl ?_; refine OpsE_eq (st' := _) (by first | dsimp only [n0, n1, n2, n3, n4, n5, n6, n7, n8, n9, m0, m1, m2, m3, m4, m5, m6, m7, m8, m9, o0, o1, o2, o3, o4, ↓reduceIte] | rfl) ?_)
    refine OpsE_nil ?_
    repeat (first | refine R_seq ?_ | refine R_block ?_ | refine R_skip ?_)
    refine R_ret ?_
    exact ⟨trivial, _, rfl, rfl, rfl⟩
  · have e2 : intBin .lss .i64 e.write 0 = some (.bool false) := by simp [intBin]; omega
    by_cases wm : e.write ≥ (m : Int)
    · have e7 : intBin .geq .i64 e.write (m : Int) = some (.bool true) := by simp [intBin]; omega
      repeat (first | refine R_seq ?_ | refine R_block ?_ | refine R_skip ?_)
      refine R_region ?_
      iterate 2 ((refine OpsE_do rfl ?_; first | refine E_fieldp fo36_0 rfl rfl ?_ | refine E_fieldi fo36_0 rfl rfl ?_ | refine E_loadi (ds := [_]) ag3 sz3 rfl rfl rfl rfl ?_ | refine E_loadp (ds := [_]) ag3 sz3 rfl rfl rfl rfl rfl ?_); refine OpsE_eq (st' := _) (by first | dsimp only [n0, n1, n2, n3, n4, n5, n6, n7, n8, n9, m0, m1, m2, m3, m4, m5, m6, m7, m8, m9, o0, o1, o2, o3, o4, ↓reduceIte] | rfl) ?_)
      (refine OpsE_do rfl ?_; refine E_int rfl rfl rfl e2 ?_; refine OpsE_eq (st' := _) (by first | dsimp only [n0, n1, n2, n3, n4, n5, n6, n7, n8, n9, m0, m1, m2, m3, m4, m5, m6, m7, m8, m9, o0, o1, o2, o3, o4, ↓reduceIte] | rfl) ?_)
      iterate 4 ((first | (refine OpsE_do rfl ?_; first | refine E_move rfl ?_ | refine E_fieldp fo36_0 rfl rfl ?_ | refine E_fieldi fo36_0 rfl rfl ?_ | refine E_loadi (ds := [_]) ag3 sz3 rfl rfl rfl rfl ?_ | refine E_loadp (ds := [_]) ag3 sz3 rfl rfl rfl rfl rfl ?_) | refine OpsE_not rfl ?_); refine OpsE_eq (st' := _) (by first | dsimp only [n0, n1, n2, n3, n4, n5, n6, n7, n8, n9, m0, m1, m2, m3, m4, m5, m6, m7, m8, m9, o0, o1, o2, o3, o4, ↓reduceIte] | rfl) ?_)
      ((first | (refine OpsE_do rfl ?_; refine E_int rfl rfl rfl e7 ?_) | refine OpsE_not rfl ?_); refine OpsE_eq (st' := _) (by first | dsimp only [n0, n1, n2, n3, n4, n5, n6, n7, n8, n9, m0, m1, m2, m3, m4, m5, m6, m7, m8, m9, o0, o1, o2, o3, o4, ↓reduceIte] | rfl) ?_)
      iterate 5 ((first | (refine OpsE_do rfl ?_; first | refine E_pick rfl rfl ?_ | refine E_move rfl ?_ | refine E_loadi (ds := [_]) ag69 sz69 rfl rfl rfl rfl ?_ | refine E_loadp (ds := [_]) ag69 sz69 rfl rfl rfl rfl rfl ?_ | refine E_fieldp fo36_0 rfl rfl ?_ | refine E_fieldi fo36_0 rfl rfl ?_ | refine E_loadi (ds := [_]) ag3 sz3 rfl rfl rfl rfl ?_ | refine E_loadp (ds := [_]) ag3 sz3 rfl rfl rfl rfl rfl ?_) | refine OpsE_not rfl ?_); refine OpsE_eq (st' := _) (by first | dsimp only [n0, n1, n2, n3, n4, n5, n6, n7, n8, n9, m0, m1, m2, m3, m4, m5, m6, m7, m8, m9, o0, o1, o2, o3, o4, ↓reduceIte] | rfl) ?_)
      ((first | (refine OpsE_do rfl ?_; (first | refine E_index el69 sz4 rfl rfl rfl rfl trivial rfl ?_ | refine E_index0 el69 sz4 rfl rfl rfl rfl trivial ?_ | refine E_indexArr el69 sz4 rfl rfl rfl rfl trivial ?_)) | refine OpsE_not rfl ?_); refine OpsE_eq (st' := _) (by first | dsimp only [n0, n1, n2, n3, n4, n5, n6, n7, n8, n9, m0, m1, m2, m3, m4, m5, m6, m7, m8, m9, o0, o1, o2, o3, o4, ↓reduceIte] | rfl) ?_)
      iterate 2 ((first | (refine OpsE_do rfl ?_; first | refine E_loadi (ds := [_]) ag4 sz4 rfl rfl rfl rfl ?_ | refine E_loadp (ds := [_]) ag4 sz4 rfl rfl rfl rfl rfl ?_ | refine E_pick rfl rfl ?_) | refine OpsE_not rfl ?_); refine OpsE_eq (st' := _) (by first | dsimp only [n0, n1, n2, n3, n4, n5, n6, n7, n8, n9, m0, m1, m2, m3, m4, m5, m6, m7, m8, m9, o0, o1, o2, o3, o4, ↓reduceIte] | rfl) ?_)
      refine OpsE_nil ?_
      repeat (first | refine R_seq ?_ | refine R_block ?_ | refine R_skip ?_)
      refine R_true rfl ?_
      repeat (first | refine R_seq ?_ | refine R_block ?_ | refine R_skip ?_)
      refine R_region ?_
      (refine OpsE_do rfl ?_; refine E_assign rfl rfl ?_; refine OpsE_eq (st' := _) (by first | dsimp only [n0, n1, n2, n3, n4, n5, n6, n7, n8, n9, m0, m1, m2, m3, m4, m5, m6, m7, m8, m9, o0, o1, o2, o3, o4, ↓reduceIte] | rfl) ?_)
      refine OpsE_nil ?_
      repeat (first | refine R_seq ?_ | refine R_block ?_ | refine R_skip ?_)
      refine R_ret ?_
      exact ⟨trivial, _, rfl, rfl, rfl⟩
    · have e7 : intBin .geq .i64 e.write (m : Int) = some (.bool false) := by simp [intBin]; omega
      obtain ⟨w, hw⟩ : ∃ w : Nat, e.write = (w : Int) := ⟨e.write.toNat, by omega⟩
      have hin : inB m e = true := decide_eq_true ⟨by omega, by omega⟩
      have hg : W.getD w false = true := by
        rw [hin, hw, Int.toNat_natCast] at hno
        cases hq : W.getD w false with
        | true => rfl
        | false => rw [hq] at hno; cases hno
      have hget := bool_get (W := W) (w := w) (by omega)
      rw [hg] at hget
      repeat (first | refine R_seq ?_ | refine R_block ?_ | refine R_skip ?_)
      refine R_region ?_
      iterate 2 ((refine OpsE_do rfl ?_; first | refine E_fieldp fo36_0 rfl rfl ?_ | refine E_fieldi fo36_0 rfl rfl ?_ | refine E_loadi (ds := [_]) ag3 sz3 rfl rfl rfl rfl ?_ | refine E_loadp (ds := [_]) ag3 sz3 rfl rfl rfl rfl rfl ?_); refine OpsE_eq (st' := _) (by first | dsimp only [n0, n1, n2, n3, n4, n5, n6, n7, n8, n9, m0, m1, m2, m3, m4, m5, m6, m7, m8, m9, o0, o1, o2, o3, o4, ↓reduceIte] | rfl) ?_)
      (refine OpsE_do rfl ?_; refine E_int rfl rfl rfl e2 ?_; refine OpsE_eq (st' := _) (by first | dsimp only [n0, n1, n2, n3, n4, n5, n6, n7, n8, n9, m0, m1, m2, m3, m4, m5, m6, m7, m8, m9, o0, o1, o2, o3, o4, ↓reduceIte] | rfl) ?_)
      iterate 4 ((first | (refine OpsE_do rfl ?_; first | refine E_move rfl ?_ | refine E_fieldp fo36_0 rfl rfl ?_ | refine E_fieldi fo36_0 rfl rfl ?_ | refine E_loadi (ds := [_]) ag3 sz3 rfl rfl rfl rfl ?_ | refine E_loadp (ds := [_]) ag3 sz3 rfl rfl rfl rfl rfl ?_) | refine OpsE_not rfl ?_); refine OpsE_eq (st' := _) (by first | dsimp only [n0, n1, n2, n3, n4, n5, n6, n7, n8, n9, m0, m1, m2, m3, m4, m5, m6, m7, m8, m9, o0, o1, o2, o3, o4, ↓reduceIte] | rfl) ?_)
      ((first | (refine OpsE_do rfl ?_; refine E_int rfl rfl rfl e7 ?_) | refine OpsE_not rfl ?_); refine OpsE_eq (st' := _) (by first | dsimp only [n0, n1, n2, n3, n4, n5, n6, n7, n8, n9, m0, m1, m2, m3, m4, m5, m6, m7, m8, m9, o0, o1, o2, o3, o4, ↓reduceIte] | rfl) ?_)
      iterate 5 ((first | (refine OpsE_do rfl ?_; first | refine E_pick rfl rfl ?_ | refine E_move rfl ?_ | refine E_loadi (ds := [_]) ag69 sz69 rfl rfl rfl rfl ?_ | refine E_loadp (ds := [_]) ag69 sz69 rfl rfl rfl rfl rfl ?_ | refine E_fieldp fo36_0 rfl rfl ?_ | refine E_fieldi fo36_0 rfl rfl ?_ | refine E_loadi (ds := [_]) ag3 sz3 rfl rfl rfl rfl ?_ | refine E_loadp (ds := [_]) ag3 sz3 rfl rfl rfl rfl rfl ?_) | refine OpsE_not rfl ?_); refine OpsE_eq (st' := _) (by first | dsimp only [n0, n1, n2, n3, n4, n5, n6, n7, n8, n9, m0, m1, m2, m3, m4, m5, m6, m7, m8, m9, o0, o1, o2, o3, o4, ↓reduceIte] | rfl) ?_)
      ((first | (refine OpsE_do rfl ?_; refine E_index0 el69 sz4 rfl rfl rfl hw (by omega) ?_) | refine OpsE_not rfl ?_); refine OpsE_eq (st' := _) (by first | dsimp only [n0, n1, n2, n3, n4, n5, n6, n7, n8, n9, m0, m1, m2, m3, m4, m5, m6, m7, m8, m9, o0, o1, o2, o3, o4, ↓reduceIte] | rfl) ?_)
      ((first | (refine OpsE_do rfl ?_; refine E_loadArr ag4 sz4 rfl rfl rfl hget ?_) | refine OpsE_not rfl ?_); refine OpsE_eq (st' := _) (by first | dsimp only [n0, n1, n2, n3, n4, n5, n6, n7, n8, n9, m0, m1, m2, m3, m4, m5, m6, m7, m8, m9, o0, o1, o2, o3, o4, ↓reduceIte] | rfl) ?_)
      (refine OpsE_do rfl ?_; refine E_pick rfl rfl ?_; refine OpsE_eq (st' := _) (by first | dsimp only [n0, n1, n2, n3, n4, n5, n6, n7, n8, n9, m0, m1, m2, m3, m4, m5, m6, m7, m8, m9, o0, o1, o2, o3, o4, ↓reduceIte] | rfl) ?_)
      refine OpsE_nil ?_
      repeat (first | refine R_seq ?_ | refine R_block ?_ | refine R_skip ?_)
      refine R_true rfl ?_
      repeat (first | refine R_seq ?_ | refine R_block ?_ | refine R_skip ?_)
      refine R_region ?_
      (refine OpsE_do rfl ?_; refine E_assign rfl rfl ?_; refine OpsE_eq (st' := _) (by first | dsimp only [n0, n1, n2, n3, n4, n5, n6, n7, n8, n9, m0, m1, m2, m3, m4, m5, m6, m7, m8, m9, o0, o1, o2, o3, o4, ↓reduceIte] | rfl) ?_)
      refine OpsE_nil ?_
      repeat (first | refine R_seq ?_ | refine R_block ?_ | refine R_skip ?_)
      refine R_ret ?_
      exact ⟨trivial, _, rfl, rfl, rfl⟩
theorem c56_yes (m : Nat) (s : List Int) (j : Int) (e : Evt) (W : List Bool) (hW : W.length = m) (hin : inB m e = true) (hf : W.getD e.write.toNat false = false) :
    PC prog env 56 [.dat e.toD, .ptr 1 0, .ptr 3 0] [.box [.dat (intD 0), .dat (intD 0), .dat (intD 0), .dat (intD 0)], .box [.dat (intD m)], .box ((W).map fun m => .dat (boolD m)), .box [.arr 2 0 m m], .box [.dat (intsD s)], .box [.fn 56 [.ptr 1 0, .ptr 3 0], .fn 57 [.ptr 4 0]], .box [.arr 5 0 2 2], .box [.dat (intD 0)], .box [.dat (intD j)], .box [.dat (intD e.write), .dat (.raw (.bool e.fill)), .dat (intD e.buffer), .dat (intD e.offset)]] (boolPV true) [.box [.dat (intD 0), .dat (intD 0), .dat (intD 0), .dat (intD 0)], .box [.dat (intD m)], .box ((W.set e.write.toNat true).map fun m => .dat (boolD m)), .box [.arr 2 0 m m], .box [.dat (intsD s)], .box [.fn 56 [.ptr 1 0, .ptr 3 0], .fn 57 [.ptr 4 0]], .box [.arr 5 0 2 2], .box [.dat (intD 0)], .box [.dat (intD j)], .box [.dat (intD e.write), .dat (.raw (.bool e.fill)), .dat (intD e.buffer), .dat (intD e.offset)], .box [.dat (intD e.write), .dat (.raw (.bool e.fill)), .dat (intD e.buffer), .dat (intD e.offset)]] := by
  refine PC_body (fn := f56) (by kernel_rfl) rfl rfl (by kernel_rfl) rfl ?_
  refine R_eq (st' := ⟨[.dat (e.toD), .ptr 1 0, .ptr 3 0, .tup [], .tup [], .tup [], .tup [], .tup [], .tup [], .tup [], .tup [], .tup [], .tup [], .tup [], .tup [], .tup [], .tup [], .tup [], .tup [], .tup [], .tup [], .tup [], .tup [], .tup [], .tup []], [.box [.dat (intD 0), .dat (intD 0), .dat (intD 0), .dat (intD 0)], .box [.dat (intD m)], .box ((W).map fun m => .dat (boolD m)), .box [.arr 2 0 m m], .box [.dat (intsD s)], .box [.fn 56 [.ptr 1 0, .ptr 3 0], .fn 57 [.ptr 4 0]], .box [.arr 5 0 2 2], .box [.dat (intD 0)], .box [.dat (intD j)], .box [.dat (intD e.write), .dat (.raw (.bool e.fill)), .dat (intD e.buffer), .dat (intD e.offset)]]⟩) rfl ?_
  repeat (first | refine R_seq ?_ | refine R_block ?_ | refine R_skip ?_)
  refine R_region ?_
  iterate 2 ((refine OpsE_do rfl ?_; first | refine E_box (cs := [_, _, _, _]) rfl rfl rfl ?_ | refine E_assign rfl rfl ?_); refine OpsE_eq (st' := _) (by first | dsimp only [n0, n1, n2, n3, n4, n5, n6, n7, n8, n9, m0, m1, m2, m3, m4, m5, m6, m7, m8, m9, o0, o1, o2, o3, o4, ↓reduceIte] | rfl) ?_)
  refine OpsE_nil ?_
  have hin' := of_decide_eq_true hin
  have e2 : intBin .lss .i64 e.write 0 = some (.bool false) := by simp [intBin]; omega
  have e7 : intBin .geq .i64 e.write (m : Int) = some (.bool false) := by simp [intBin]; omega
  obtain ⟨w, hw⟩ : ∃ w : Nat, e.write = (w : Int) := ⟨e.write.toNat, by omega⟩
  have hget := bool_get (W := W) (w := w) (by omega)
  rw [hw, Int.toNat_natCast] at hf
  rw [hf] at hget
  repeat (first | refine R_seq ?_ | refine R_block ?_ | refine R_skip ?_)
  refine R_region ?_
  iterate 2 ((refine OpsE_do rfl ?_; first | refine E_fieldp fo36_0 rfl rfl ?_ | refine E_fieldi fo36_0 rfl rfl ?_ | refine E_loadi (ds := [_]) ag3 sz3 rfl rfl rfl rfl ?_ | refine E_loadp (ds := [_]) ag3 sz3 rfl rfl rfl rfl rfl ?_); refine OpsE_eq (st' := _) (by first | dsimp only [n0, n1, n2, n3, n4, n5, n6, n7, n8, n9, m0, m1, m2, m3, m4, m5, m6, m7, m8, m9, o0, o1, o2, o3, o4, ↓reduceIte] | rfl) ?_)
  (refine OpsE_do rfl ?_; refine E_int rfl rfl rfl e2 ?_; refine OpsE_eq (st' := _) (by first | dsimp only [n0, n1, n2, n3, n4, n5, n6, n7, n8, n9, m0, m1, m2, m3, m4, m5, m6, m7, m8, m9, o0, o1, o2, o3, o4, ↓reduceIte] | rfl) ?_)
  iterate 4 ((first | (refine OpsE_do rfl ?_; first | refine E_move rfl ?_ | refine E_fieldp fo36_0 rfl rfl ?_ | refine E_fieldi fo36_0 rfl rfl ?_ | refine E_loadi (ds := [_]) ag3 sz3 rfl rfl rfl rfl ?_ | refine E_loadp (ds := [_]) ag3 sz3 rfl rfl rfl rfl rfl ?_) | refine OpsE_not rfl ?_); refine OpsE_eq (st' := _) (by first | dsimp only [n0, n1, n2, n3, n4, n5, n6, n7, n8, n9, m0, m1, m2, m3, m4, m5, m6, m7, m8, m9, o0, o1, o2, o3, o4, ↓reduceIte] | rfl) ?_)
  ((first | (refine OpsE_do rfl ?_; refine E_int rfl rfl rfl e7 ?_) | refine OpsE_not rfl ?_); refine OpsE_eq (st' := _) (by first | dsimp only [n0, n1, n2, n3, n4, n5, n6, n7, n8, n9, m0, m1, m2, m3, m4, m5, m6, m7, m8, m9, o0, o1, o2, o3, o4, ↓reduceIte] | rfl) ?_)
  iterate 5 ((first | (refine OpsE_do rfl ?_; first | refine E_pick rfl rfl ?_ | refine E_move rfl ?_ | refine E_loadi (ds := [_]) ag69 sz69 rfl rfl rfl rfl ?_ | refine E_loadp (ds := [_]) ag69 sz69 rfl rfl rfl rfl rfl ?_ | refine E_fieldp fo36_0 rfl rfl ?_ | refine E_fieldi fo36_0 rfl rfl ?_ | refine E_loadi (ds := [_]) ag3 sz3 rfl rfl rfl rfl ?_ | refine E_loadp (ds := [_]) ag3 sz3 rfl rfl rfl rfl rfl ?_) | refine OpsE_not rfl ?_); refine OpsE_eq (st' := _) (by first | dsimp only [n0, n1, n2, n3, n4, n5, n6, n7, n8, n9, m0, m1, m2, m3, m4, m5, m6, m7, m8, m9, o0, o1, o2, o3, o4, ↓reduceIte] | rfl) ?_)
  ((first | (refine OpsE_do rfl ?_; refine E_index0 el69 sz4 rfl rfl rfl hw (by omega) ?_) | refine OpsE_not rfl ?_); refine OpsE_eq (st' := _) (by first | dsimp only [n0, n1, n2, n3, n4, n5, n6, n7, n8, n9, m0, m1, m2, m3, m4, m5, m6, m7, m8, m9, o0, o1, o2, o3, o4, ↓reduceIte] | rfl) ?_)
  ((first | (refine OpsE_do rfl ?_; refine E_loadArr ag4 sz4 rfl rfl rfl hget ?_) | refine OpsE_not rfl ?_); refine OpsE_eq (st' := _) (by first | dsimp only [n0, n1, n2, n3, n4, n5, n6, n7, n8, n9, m0, m1, m2, m3, m4, m5, m6, m7, m8, m9, o0, o1, o2, o3, o4, ↓reduceIte] | rfl) ?_)
  (refine OpsE_do rfl ?_; refine E_pick rfl rfl ?_; refine OpsE_eq (st' := _) (by first | dsimp only [n0, n1, n2, n3, n4, n5, n6, n7, n8, n9, m0, m1, m2, m3, m4, m5, m6, m7, m8, m9, o0, o1, o2, o3, o4, ↓reduceIte] | rfl) ?_)
  refine OpsE_nil ?_
  repeat (first | refine R_seq ?_ | refine R_block ?_ | refine R_skip ?_)
  refine R_false rfl ?_
  repeat (first | refine R_seq ?_ | refine R_block ?_ | refine R_skip ?_)
  refine R_region ?_
  iterate 3 ((refine OpsE_do rfl ?_; first | refine E_loadi (ds := [_]) ag69 sz69 rfl rfl rfl rfl ?_ | refine E_loadp (ds := [_]) ag69 sz69 rfl rfl rfl rfl rfl ?_ | refine E_fieldp fo36_0 rfl rfl ?_ | refine E_fieldi fo36_0 rfl rfl ?_ | refine E_loadi (ds := [_]) ag3 sz3 rfl rfl rfl rfl ?_ | refine E_loadp (ds := [_]) ag3 sz3 rfl rfl rfl rfl rfl ?_); refine OpsE_eq (st' := _) (by first | dsimp only [n0, n1, n2, n3, n4, n5, n6, n7, n8, n9, m0, m1, m2, m3, m4, m5, m6, m7, m8, m9, o0, o1, o2, o3, o4, ↓reduceIte] | rfl) ?_)
  (refine OpsE_do rfl ?_; refine E_index0 el69 sz4 rfl rfl rfl hw (by omega) ?_; refine OpsE_eq (st' := _) (by first | dsimp only [n0, n1, n2, n3, n4, n5, n6, n7, n8, n9, m0, m1, m2, m3, m4, m5, m6, m7, m8, m9, o0, o1, o2, o3, o4, ↓reduceIte] | rfl) ?_)
  (refine OpsE_do rfl ?_; refine E_storeArr sz4 rfl rfl rfl rfl rfl (by rw [List.length_map]; omega) ?_; refine OpsE_eq (st' := _) (by first | dsimp only [n0, n1, n2, n3, n4, n5, n6, n7, n8, n9, m0, m1, m2, m3, m4, m5, m6, m7, m8, m9, o0, o1, o2, o3, o4, ↓reduceIte] | rfl) ?_)
  refine OpsE_nil ?_
  repeat (first | refine R_seq ?_ | refine R_block ?_ | refine R_skip ?_)
  refine R_region ?_
  (refine OpsE_do rfl ?_; refine E_assign rfl rfl ?_; refine OpsE_eq (st' := _) (by first | dsimp only [n0, n1, n2, n3, n4, n5, n6, n7, n8, n9, m0, m1, m2, m3, m4, m5, m6, m7, m8, m9, o0, o1, o2, o3, o4, ↓reduceIte] | rfl) ?_)
  refine OpsE_nil ?_
  repeat (first | refine R_seq ?_ | refine R_block ?_ | refine R_skip ?_)
  refine R_ret ?_
  refine ⟨trivial, _, rfl, rfl, ?_⟩
  rw [hw, Int.toNat_natCast, ← map_put]
  rfl
theorem c57 (m : Nat) (s : List Int) (j : Int) (e : Evt) (W : List Bool) : PC prog env 57 [.dat e.toD, .ptr 4 0] [.box [.dat (intD 0), .dat (intD 0), .dat (intD 0), .dat (intD 0)], .box [.dat (intD m)], .box ((W).map fun m => .dat (boolD m)), .box [.arr 2 0 m m], .box [.dat (intsD s)], .box [.fn 56 [.ptr 1 0, .ptr 3 0], .fn 57 [.ptr 4 0]], .box [.arr 5 0 2 2], .box [.dat (intD 0)], .box [.dat (intD j)], .box [.dat (intD e.write), .dat (.raw (.bool e.fill)), .dat (intD e.buffer), .dat (intD e.offset)]] (boolPV (readOk s e)) [.box [.dat (intD 0), .dat (intD 0), .dat (intD 0), .dat (intD 0)], .box [.dat (intD m)], .box ((W).map fun m => .dat (boolD m)), .box [.arr 2 0 m m], .box [.dat (intsD s)], .box [.fn 56 [.ptr 1 0, .ptr 3 0], .fn 57 [.ptr 4 0]], .box [.arr 5 0 2 2], .box [.dat (intD 0)], .box [.dat (intD j)], .box [.dat (intD e.write), .dat (.raw (.bool e.fill)), .dat (intD e.buffer), .dat (intD e.offset)], .box [.dat (intD e.write), .dat (.raw (.bool e.fill)), .dat (intD e.buffer), .dat (intD e.offset)]] := by
  refine PC_body (fn := f57) (by kernel_rfl) rfl rfl (by kernel_rfl) rfl ?_
  refine R_eq (st' := ⟨[.dat (e.toD), .ptr 4 0, .tup [], .tup [], .tup [], .tup [], .tup [], .tup [], .tup [], .tup [], .tup [], .tup [], .tup [], .tup [], .tup [], .tup [], .tup [], .tup [], .tup [], .tup [], .tup [], .tup [], .tup [], .tup [], .tup [], .tup [], .tup [], .tup [], .tup [], .tup [], .tup [], .tup [], .tup []], [.box [.dat (intD 0), .dat (intD 0), .dat (intD 0), .dat (intD 0)], .box [.dat (intD m)], .box ((W).map fun m => .dat (boolD m)), .box [.arr 2 0 m m], .box [.dat (intsD s)], .box [.fn 56 [.ptr 1 0, .ptr 3 0], .fn 57 [.ptr 4 0]], .box [.arr 5 0 2 2], .box [.dat (intD 0)], .box [.dat (intD j)], .box [.dat (intD e.write), .dat (.raw (.bool e.fill)), .dat (intD e.buffer), .dat (intD e.offset)]]⟩) rfl ?_
  repeat (first | refine R_seq ?_ | refine R_block ?_ | refine R_skip ?_)
  refine R_region ?_
  iterate 2 ((refine OpsE_do rfl ?_; first | refine E_box (cs := [_, _, _, _]) rfl rfl rfl ?_ | refine E_assign rfl rfl ?_); refine OpsE_eq (st' := _) (by first | dsimp only [n0, n1, n2, n3, n4, n5, n6, n7, n8, n9, m0, m1, m2, m3, m4, m5, m6, m7, m8, m9, o0, o1, o2, o3, o4, ↓reduceIte] | rfl) ?_)
  refine OpsE_nil ?_
  cases hf : e.fill
  · by_cases b0 : e.buffer ≥ 0
    · have e5 : intBin .geq .i64 e.buffer 0 = some (.bool true) := by simp [intBin]; omega
      by_cases bm : e.buffer < (s.length : Int)
      · have e11 : intBin .lss .i64 e.buffer ((s.map intD).length : Int) = some (.bool true) := by simp [intBin]; omega
        obtain ⟨b, hb⟩ : ∃ b : Nat, e.buffer = (b : Int) := ⟨e.buffer.toNat, by omega⟩
        have hbl : b < s.length := by omega
        have hgd : s.getD e.buffer.toNat 0 = s[b] := by rw [hb]; simp [hbl]
        by_cases o0 : e.offset ≥ 0
        · have e16 : intBin .geq .i64 e.offset 0 = some (.bool true) := by simp [intBin]; omega
          by_cases om : e.offset < s[b]
          · have e26 : intBin .lss .i64 e.offset s[b] = some (.bool true) := by simp [intBin]; omega
            have hr : readOk s e = true := decide_eq_true (Or.inr ⟨by omega, by omega, by omega, by omega⟩)
            rw [hr]
            repeat (first | refine R_seq ?_ | refine R_block ?_ | refine R_skip ?_)
            refine R_draw ?_
            iterate 5 ((first | (refine DrawE_do rfl ?_; first | refine E_fieldp fo36_1 rfl rfl ?_ | refine E_fieldi fo36_1 rfl rfl ?_ | refine E_loadi (ds := [_]) ag4 sz4 rfl rfl rfl rfl ?_ | refine E_loadp (ds := [_]) ag4 sz4 rfl rfl rfl rfl rfl ?_ | refine E_move rfl ?_ | refine E_fieldp fo36_2 rfl rfl ?_ | refine E_fieldi fo36_2 rfl rfl ?_ | refine E_loadi (ds := [_]) ag3 sz3 rfl rfl rfl rfl ?_ | refine E_loadp (ds := [_]) ag3 sz3 rfl rfl rfl rfl rfl ?_) | refine DrawE_not rfl ?_); refine DrawE_eq (st' := _) (by first | dsimp only [n0, n1, n2, n3, n4, n5, n6, n7, n8, n9, m0, m1, m2, m3, m4, m5, m6, m7, m8, m9, o0, o1, o2, o3, o4, ↓reduceIte] | rfl) ?_)
            ((first | (refine DrawE_do rfl ?_; refine E_int rfl rfl rfl e5 ?_) | refine DrawE_not rfl ?_); refine DrawE_eq (st' := _) (by first | dsimp only [n0, n1, n2, n3, n4, n5, n6, n7, n8, n9, m0, m1, m2, m3, m4, m5, m6, m7, m8, m9, o0, o1, o2, o3, o4, ↓reduceIte] | rfl) ?_)
            iterate 5 ((first | (refine DrawE_do rfl ?_; first | refine E_move rfl ?_ | refine E_fieldp fo36_2 rfl rfl ?_ | refine E_fieldi fo36_2 rfl rfl ?_ | refine E_loadi (ds := [_]) ag3 sz3 rfl rfl rfl rfl ?_ | refine E_loadp (ds := [_]) ag3 sz3 rfl rfl rfl rfl rfl ?_ | refine E_loadi (ds := [_]) ag49 sz49 rfl rfl rfl rfl ?_ | refine E_loadp (ds := [_]) ag49 sz49 rfl rfl rfl rfl rfl ?_ | refine E_len un49 rfl rfl ?_) | refine DrawE_not rfl ?_); refine DrawE_eq (st' := _) (by first | dsimp only [n0, n1, n2, n3, n4, n5, n6, n7, n8, n9, m0, m1, m2, m3, m4, m5, m6, m7, m8, m9, o0, o1, o2, o3, o4, ↓reduceIte] | rfl) ?_)
            ((first | (refine DrawE_do rfl ?_; refine E_int rfl rfl rfl e11 ?_) | refine DrawE_not rfl ?_); refine DrawE_eq (st' := _) (by first | dsimp only [n0, n1, n2, n3, n4, n5, n6, n7, n8, n9, m0, m1, m2, m3, m4, m5, m6, m7, m8, m9, o0, o1, o2, o3, o4, ↓reduceIte] | rfl) ?_)
            iterate 4 ((first | (refine DrawE_do rfl ?_; first | refine E_pick rfl rfl ?_ | refine E_move rfl ?_ | refine E_fieldp fo36_3 rfl rfl ?_ | refine E_fieldi fo36_3 rfl rfl ?_ | refine E_loadi (ds := [_]) ag3 sz3 rfl rfl rfl rfl ?_ | refine E_loadp (ds := [_]) ag3 sz3 rfl rfl rfl rfl rfl ?_) | refine DrawE_not rfl ?_); refine DrawE_eq (st' := _) (by first | dsimp only [n0, n1, n2, n3, n4, n5, n6, n7, n8, n9, m0, m1, m2, m3, m4, m5, m6, m7, m8, m9, o0, o1, o2, o3, o4, ↓reduceIte] | rfl) ?_)
            ((first | (refine DrawE_do rfl ?_; refine E_int rfl rfl rfl e16 ?_) | refine DrawE_not rfl ?_); refine DrawE_eq (st' := _) (by first | dsimp only [n0, n1, n2, n3, n4, n5, n6, n7, n8, n9, m0, m1, m2, m3, m4, m5, m6, m7, m8, m9, o0, o1, o2, o3, o4, ↓reduceIte] | rfl) ?_)
            iterate 7 ((first | (refine DrawE_do rfl ?_; first | refine E_pick rfl rfl ?_ | refine E_move rfl ?_ | refine E_fieldp fo36_3 rfl rfl ?_ | refine E_fieldi fo36_3 rfl rfl ?_ | refine E_loadi (ds := [_]) ag3 sz3 rfl rfl rfl rfl ?_ | refine E_loadp (ds := [_]) ag3 sz3 rfl rfl rfl rfl rfl ?_ | refine E_loadi (ds := [_]) ag49 sz49 rfl rfl rfl rfl ?_ | refine E_loadp (ds := [_]) ag49 sz49 rfl rfl rfl rfl rfl ?_ | refine E_fieldp fo36_2 rfl rfl ?_ | refine E_fieldi fo36_2 rfl rfl ?_) | refine DrawE_not rfl ?_); refine DrawE_eq (st' := _) (by first | dsimp only [n0, n1, n2, n3, n4, n5, n6, n7, n8, n9, m0, m1, m2, m3, m4, m5, m6, m7, m8, m9, o0, o1, o2, o3, o4, ↓reduceIte] | rfl) ?_)
            ((first | (refine DrawE_do rfl ?_; refine E_index (j := b) el49 sz3 rfl rfl rfl hb (ints_get hbl) rfl ?_) | refine DrawE_not rfl ?_); refine DrawE_eq (st' := _) (by first | dsimp only [n0, n1, n2, n3, n4, n5, n6, n7, n8, n9, m0, m1, m2, m3, m4, m5, m6, m7, m8, m9, o0, o1, o2, o3, o4, ↓reduceIte] | rfl) ?_)
            ((first | (refine DrawE_do rfl ?_; (first | refine E_loadi (ds := [_]) ag3 sz3 rfl rfl rfl rfl ?_ | refine E_loadp (ds := [_]) ag3 sz3 rfl rfl rfl rfl rfl ?_)) | refine DrawE_not rfl ?_); refine DrawE_eq (st' := _) (by first | dsimp only [n0, n1, n2, n3, n4, n5, n6, n7, n8, n9, m0, m1, m2, m3, m4, m5, m6, m7, m8, m9, o0, o1, o2, o3, o4, ↓reduceIte] | rfl) ?_)
            ((first | (refine DrawE_do rfl ?_; refine E_int rfl rfl rfl e26 ?_) | refine DrawE_not rfl ?_); refine DrawE_eq (st' := _) (by first | dsimp only [n0, n1, n2, n3, n4, n5, n6, n7, n8, n9, m0, m1, m2, m3, m4, m5, m6, m7, m8, m9, o0, o1, o2, o3, o4, ↓reduceIte] | rfl) ?_)
            iterate 3 ((first | (refine DrawE_do rfl ?_; first | refine E_pick rfl rfl ?_ | refine E_assign rfl rfl ?_) | refine DrawE_not rfl ?_); refine DrawE_eq (st' := _) (by first | dsimp only [n0, n1, n2, n3, n4, n5, n6, n7, n8, n9, m0, m1, m2, m3, m4, m5, m6, m7, m8, m9, o0, o1, o2, o3, o4, ↓reduceIte] | rfl) ?_)
            refine DrawE_nil ⟨by kernel_rfl, ?_⟩
            repeat (first | refine R_seq ?_ | refine R_block ?_ | refine R_skip ?_)
            refine R_ret ?_
            exact ⟨trivial, _, rfl, rfl, rfl⟩
          · have e26 : intBin .lss .i64 e.offset s[b] = some (.bool false) := by simp [intBin]; omega
            have hr : readOk s e = false := decide_eq_false (fun h => by rw [hf, hgd] at h; simp at h; omega)
            rw [hr]
            repeat (first | refine R_seq ?_ | refine R_block ?_ | refine R_skip ?_)
            refine R_draw ?_
            iterate 5 ((first | (refine DrawE_do rfl ?_; first | refine E_fieldp fo36_1 rfl rfl ?_ | refine E_fieldi fo36_1 rfl rfl ?_ | refine E_loadi (ds := [_]) ag4 sz4 rfl rfl rfl rfl ?_ | refine E_loadp (ds := [_]) ag4 sz4 rfl rfl rfl rfl rfl ?_ | refine E_move rfl ?_ | refine E_fieldp fo36_2 rfl rfl ?_ | refine E_fieldi fo36_2 rfl rfl ?_ | refine E_loadi (ds := [_]) ag3 sz3 rfl rfl rfl rfl ?_ | refine E_loadp (ds := [_]) ag3 sz3 rfl rfl rfl rfl rfl ?_) | refine DrawE_not rfl ?_); refine DrawE_eq (st' := _) (by first | dsimp only [n0, n1, n2, n3, n4, n5, n6, n7, n8, n9, m0, m1, m2, m3, m4, m5, m6, m7, m8, m9, o0, o1, o2, o3, o4, ↓reduceIte] | rfl) ?_)
            ((first | (refine DrawE_do rfl ?_; refine E_int rfl rfl rfl e5 ?_) | refine DrawE_not rfl ?_); refine DrawE_eq (st' := _) (by first | dsimp only [n0, n1, n2, n3, n4, n5, n6, n7, n8, n9, m0, m1, m2, m3, m4, m5, m6, m7, m8, m9, o0, o1, o2, o3, o4, ↓reduceIte] | rfl) ?_)
            iterate 5 ((first | (refine DrawE_do rfl ?_; first | refine E_move rfl ?_ | refine E_fieldp fo36_2 rfl rfl ?_ | refine E_fieldi fo36_2 rfl rfl ?_ | refine E_loadi (ds := [_]) ag3 sz3 rfl rfl rfl rfl ?_ | refine E_loadp (ds := [_]) ag3 sz3 rfl rfl rfl rfl rfl ?_ | refine E_loadi (ds := [_]) ag49 sz49 rfl rfl rfl rfl ?_ | refine E_loadp (ds := [_]) ag49 sz49 rfl rfl rfl rfl rfl ?_ | refine E_len un49 rfl rfl ?_) | refine DrawE_not rfl ?_); refine DrawE_eq (st' := _) (by first | dsimp only [n0, n1, n2, n3, n4, n5, n6, n7, n8, n9, m0, m1, m2, m3, m4, m5, m6, m7, m8, m9, o0, o1, o2, o3, o4, ↓reduceIte] | rfl) ?_)
            ((first | (refine DrawE_do rfl ?_; refine E_int rfl rfl rfl e11 ?_) | refine DrawE_not rfl ?_); refine DrawE_eq (st' := _) (by first | dsimp only [n0, n1, n2, n3, n4, n5, n6, n7, n8, n9, m0, m1, m2, m3, m4, m5, m6, m7, m8, m9, o0, o1, o2, o3, o4, ↓reduceIte] | rfl) ?_)
            iterate 4 ((first | (refine DrawE_do rfl ?_; first | refine E_pick rfl rfl ?_ | refine E_move rfl ?_ | refine E_fieldp fo36_3 rfl rfl ?_ | refine E_fieldi fo36_3 rfl rfl ?_ | refine E_loadi (ds := [_]) ag3 sz3 rfl rfl rfl rfl ?_ | refine E_loadp (ds := [_]) ag3 sz3 rfl rfl rfl rfl rfl ?_) | refine DrawE_not rfl ?_); refine DrawE_eq (st' := _) (by first | dsimp only [n0, n1, n2, n3, n4, n5, n6, n7, n8, n9, m0, m1, m2, m3, m4, m5, m6, m7, m8, m9, o0, o1, o2, o3, o4, ↓reduceIte] | rfl) ?_)
            ((first | (refine DrawE_do rfl ?_; refine E_int rfl rfl rfl e16 ?_) | refine DrawE_not rfl ?_); refine DrawE_eq (st' := _) (by first | dsimp only [n0, n1, n2, n3, n4, n5, n6, n7, n8, n9, m0, m1, m2, m3, m4, m5, m6, m7, m8, m9, o0, o1, o2, o3, o4, ↓reduceIte] | rfl) ?_)
            iterate 7 ((first | (refine DrawE_do rfl ?_; first | refine E_pick rfl rfl ?_ | refine E_move rfl ?_ | refine E_fieldp fo36_3 rfl rfl ?_ | refine E_fieldi fo36_3 rfl rfl ?_ | refine E_loadi (ds := [_]) ag3 sz3 rfl rfl rfl rfl ?_ | refine E_loadp (ds := [_]) ag3 sz3 rfl rfl rfl rfl rfl ?_ | refine E_loadi (ds := [_]) ag49 sz49 rfl rfl rfl rfl ?_ | refine E_loadp (ds := [_]) ag49 sz49 rfl rfl rfl rfl rfl ?_ | refine E_fieldp fo36_2 rfl rfl ?_ | refine E_fieldi fo36_2 rfl rfl ?_) | refine DrawE_not rfl ?_); refine DrawE_eq (st' := _) (by first | dsimp only [n0, n1, n2, n3, n4, n5, n6, n7, n8, n9, m0, m1, m2, m3, m4, m5, m6, m7, m8, m9, o0, o1, o2, o3, o4, ↓reduceIte] | rfl) ?_)
            ((first | (refine DrawE_do rfl ?_; refine E_index (j := b) el49 sz3 rfl rfl rfl hb (ints_get hbl) rfl ?_) | refine DrawE_not rfl ?_); refine DrawE_eq (st' := _) (by first | dsimp only [n0, n1, n2, n3, n4, n5, n6, n7, n8, n9, m0, m1, m2, m3, m4, m5, m6, m7, m8, m9, o0, o1, o2, o3, o4, ↓reduceIte] | rfl) ?_)
            ((first | (refine DrawE_do rfl ?_; (first | refine E_loadi (ds := [_]) ag3 sz3 rfl rfl rfl rfl ?_ | refine E_loadp (ds := [_]) ag3 sz3 rfl rfl rfl rfl rfl ?_)) | refine DrawE_not rfl ?_); refine DrawE_eq (st' := _) (by first | dsimp only [n0, n1, n2, n3, n4, n5, n6, n7, n8, n9, m0, m1, m2, m3, m4, m5, m6, m7, m8, m9, o0, o1, o2, o3, o4, ↓reduceIte] | rfl) ?_)
            ((first | (refine DrawE_do rfl ?_; refine E_int rfl rfl rfl e26 ?_) | refine DrawE_not rfl ?_); refine DrawE_eq (st' := _) (by first | dsimp only [n0, n1, n2, n3, n4, n5, n6, n7, n8, n9, m0, m1, m2, m3, m4, m5, m6, m7, m8, m9, o0, o1, o2, o3, o4, ↓reduceIte] | rfl) ?_)
            iterate 3 ((first | (refine DrawE_do rfl ?_; first | refine E_pick rfl rfl ?_ | refine E_assign rfl rfl ?_) | refine DrawE_not rfl ?_); refine DrawE_eq (st' := _) (by first | dsimp only [n0, n1, n2, n3, n4, n5, n6, n7, n8, n9, m0, m1, m2, m3, m4, m5, m6, m7, m8, m9, o0, o1, o2, o3, o4, ↓reduceIte] | rfl) ?_)
            refine DrawE_nil ⟨by kernel_rfl, ?_⟩
            repeat (first | refine R_seq ?_ | refine R_block ?_ | refine R_skip ?_)
            refine R_ret ?_
            exact ⟨trivial, _, rfl, rfl, rfl⟩
        · have e16 : intBin .geq .i64 e.offset 0 = some (.bool false) := by simp [intBin]; omega
          have hr : readOk s e = false := decide_eq_false (fun h => by rw [hf] at h; simp at h; omega)
          rw [hr]
          repeat (first | refine R_seq ?_ | refine R_block ?_ | refine R_skip ?_)
          refine R_draw ?_
          iterate 5 ((first | (refine DrawE_do rfl ?_; first | refine E_fieldp fo36_1 rfl rfl ?_ | refine E_fieldi fo36_1 rfl rfl ?_ | refine E_loadi (ds := [_]) ag4 sz4 rfl rfl rfl rfl ?_ | refine E_loadp (ds := [_]) ag4 sz4 rfl rfl rfl rfl rfl ?_ | refine E_move rfl ?_ | refine E_fieldp fo36_2 rfl rfl ?_ | refine E_fieldi fo36_2 rfl rfl ?_ | refine E_loadi (ds := [_]) ag3 sz3 rfl rfl rfl rfl ?_ | refine E_loadp (ds := [_]) ag3 sz3 rfl rfl rfl rfl rfl ?_) | refine DrawE_not rfl ?_); refine DrawE_eq (st' := _) (by first | dsimp only [n0, n1, n2, n3, n4, n5, n6, n7, n8, n9, m0, m1, m2, m3, m4, m5, m6, m7, m8, m9, o0, o1, o2, o3, o4, ↓reduceIte] | rfl) ?_)
          ((first | (refine DrawE_do rfl ?_; refine E_int rfl rfl rfl e5 ?_) | refine DrawE_not rfl ?_); refine DrawE_eq (st' := _) (by first | dsimp only [n0, n1, n2, n3, n4, n5, n6, n7, n8, n9, m0, m1, m2, m3, m4, m5, m6, m7, m8, m9, o0, o1, o2, o3, o4, ↓reduceIte] | rfl) ?_)
          iterate 5 ((first | (refine DrawE_do rfl ?_; first | refine E_move rfl ?_ | refine E_fieldp fo36_2 rfl rfl ?_ | refine E_fieldi fo36_2 rfl rfl ?_ | refine E_loadi (ds := [_]) ag3 sz3 rfl rfl rfl rfl ?_ | refine E_loadp (ds := [_]) ag3 sz3 rfl rfl rfl rfl rfl ?_ | refine E_loadi (ds := [_]) ag49 sz49 rfl rfl rfl rfl ?_ | refine E_loadp (ds := [_]) ag49 sz49 rfl rfl rfl rfl rfl ?_ | refine E_len un49 rfl rfl ?_) | refine DrawE_not rfl ?_); refine DrawE_eq (st' := _) (by first | dsimp only [n0, n1, n2, n3, n4, n5, n6, n7, n8, n9, m0, m1, m2, m3, m4, m5, m6, m7, m8, m9, o0, o1, o2, o3, o4, ↓reduceIte] | rfl) ?_)
          ((first | (refine DrawE_do rfl ?_; refine E_int rfl rfl rfl e11 ?_) | refine DrawE_not rfl ?_); refine DrawE_eq (st' := _) (by first | dsimp only [n0, n1, n2, n3, n4, n5, n6, n7, n8, n9, m0, m1, m2, m3, m4, m5, m6, m7, m8, m9, o0, o1, o2, o3, o4, ↓reduceIte] | rfl) ?_)
          iterate 4 ((first | (refine DrawE_do rfl ?_; first | refine E_pick rfl rfl ?_ | refine E_move rfl ?_ | refine E_fieldp fo36_3 rfl rfl ?_ | refine E_fieldi fo36_3 rfl rfl ?_ | refine E_loadi (ds := [_]) ag3 sz3 rfl rfl rfl rfl ?_ | refine E_loadp (ds := [_]) ag3 sz3 rfl rfl rfl rfl rfl ?_) | refine DrawE_not rfl ?_); refine DrawE_eq (st' := _) (by first | dsimp only [n0, n1, n2, n3, n4, n5, n6, n7, n8, n9, m0, m1, m2, m3, m4, m5, m6, m7, m8, m9, o0, o1, o2, o3, o4, ↓reduceIte] | rfl) ?_)
          ((first | (refine DrawE_do rfl ?_; refine E_int rfl rfl rfl e16 ?_) | refine DrawE_not rfl ?_); refine DrawE_eq (st' := _) (by first | dsimp only [n0, n1, n2, n3, n4, n5, n6, n7, n8, n9, m0, m1, m2, m3, m4, m5, m6, m7, m8, m9, o0, o1, o2, o3, o4, ↓reduceIte] | rfl) ?_)
          iterate 7 ((first | (refine DrawE_do rfl ?_; first | refine E_pick rfl rfl ?_ | refine E_move rfl ?_ | refine E_fieldp fo36_3 rfl rfl ?_ | refine E_fieldi fo36_3 rfl rfl ?_ | refine E_loadi (ds := [_]) ag3 sz3 rfl rfl rfl rfl ?_ | refine E_loadp (ds := [_]) ag3 sz3 rfl rfl rfl rfl rfl ?_ | refine E_loadi (ds := [_]) ag49 sz49 rfl rfl rfl rfl ?_ | refine E_loadp (ds := [_]) ag49 sz49 rfl rfl rfl rfl rfl ?_ | refine E_fieldp fo36_2 rfl rfl ?_ | refine E_fieldi fo36_2 rfl rfl ?_) | refine DrawE_not rfl ?_); refine DrawE_eq (st' := _) (by first | dsimp only [n0, n1, n2, n3, n4, n5, n6, n7, n8, n9, m0, m1, m2, m3, m4, m5, m6, m7, m8, m9, o0, o1, o2, o3, o4, ↓reduceIte] | rfl) ?_)
          ((first | (refine DrawE_do rfl ?_; (first | refine E_index el49 sz3 rfl rfl rfl rfl trivial rfl ?_ | refine E_index0 el49 sz3 rfl rfl rfl rfl trivial ?_ | refine E_indexArr el49 sz3 rfl rfl rfl rfl trivial ?_)) | refine DrawE_not rfl ?_); refine DrawE_eq (st' := _) (by first | dsimp only [n0, n1, n2, n3, n4, n5, n6, n7, n8, n9, m0, m1, m2, m3, m4, m5, m6, m7, m8, m9, o0, o1, o2, o3, o4, ↓reduceIte] | rfl) ?_)
          iterate 5 ((first | (refine DrawE_do rfl ?_; first | refine E_loadi (ds := [_]) ag3 sz3 rfl rfl rfl rfl ?_ | refine E_loadp (ds := [_]) ag3 sz3 rfl rfl rfl rfl rfl ?_ | refine E_int rfl rfl rfl rfl ?_ | refine E_pick rfl rfl ?_ | refine E_assign rfl rfl ?_) | refine DrawE_not rfl ?_); refine DrawE_eq (st' := _) (by first | dsimp only [n0, n1, n2, n3, n4, n5, n6, n7, n8, n9, m0, m1, m2, m3, m4, m5, m6, m7, m8, m9, o0, o1, o2, o3, o4, ↓reduceIte] | rfl) ?_)
          refine DrawE_nil ⟨by kernel_rfl, ?_⟩
          repeat (first | refine R_seq ?_ | refine R_block ?_ | refine R_skip ?_)
          refine R_ret ?_
          exact ⟨trivial, _, rfl, rfl, rfl⟩
      · have e11 : intBin .lss .i64 e.buffer ((s.map intD).length : Int) = some (.bool false) := by simp [intBin]; omega
        have hr : readOk s e = false := decide_eq_false (fun h => by rw [hf] at h; simp at h; omega)
        rw [hr]
        repeat (first | refine R_seq ?_ | refine R_block ?_ | refine R_skip ?_)
        refine R_draw ?_
        iterate 5 ((first | (refine DrawE_do rfl ?_; first | refine E_fieldp fo36_1 rfl rfl ?_ | refine E_fieldi fo36_1 rfl rfl ?_ | refine E_loadi (ds := [_]) ag4 sz4 rfl rfl rfl rfl ?_ | refine E_loadp (ds := [_]) ag4 sz4 rfl rfl rfl rfl rfl ?_ | refine E_move rfl ?_ | refine E_fieldp fo36_2 rfl rfl ?_ | refine E_fieldi fo36_2 rfl rfl ?_ | refine E_loadi (ds := [_]) ag3 sz3 rfl rfl rfl rfl ?_ | refine E_loadp (ds := [_]) ag3 sz3 rfl rfl rfl rfl rfl ?_) | refine DrawE_not rfl ?_); refine DrawE_eq (st' := _) (by first | dsimp only [n0, n1, n2, n3, n4, n5, n6, n7, n8, n9, m0, m1, m2, m3, m4, m5, m6, m7, m8, m9, o0, o1, o2, o3, o4, ↓reduceIte] | rfl) ?_)
        ((first | (refine DrawE_do rfl ?_; refine E_int rfl rfl rfl e5 ?_) | refine DrawE_not rfl ?_); refine DrawE_eq (st' := _) (by first | dsimp only [n0, n1, n2, n3, n4, n5, n6, n7, n8, n9, m0, m1, m2, m3, m4, m5, m6, m7, m8, m9, o0, o1, o2, o3, o4, ↓reduceIte] | rfl) ?_)
        iterate 5 ((first | (refine DrawE_do rfl ?_; first | refine E_move rfl ?_ | refine E_fieldp fo36_2 rfl rfl ?_ | refine E_fieldi fo36_2 rfl rfl ?_ | refine E_loadi (ds := [_]) ag3 sz3 rfl rfl rfl rfl ?_ | refine E_loadp (ds := [_]) ag3 sz3 rfl rfl rfl rfl rfl ?_ | refine E_loadi (ds := [_]) ag49 sz49 rfl rfl rfl rfl ?_ | refine E_loadp (ds := [_]) ag49 sz49 rfl rfl rfl rfl rfl ?_ | refine E_len un49 rfl rfl ?_) | refine DrawE_not rfl ?_); refine DrawE_eq (st' := _) (by first | dsimp only [n0, n1, n2, n3, n4, n5, n6, n7, n8, n9, m0, m1, m2, m3, m4, m5, m6, m7, m8, m9, o0, o1, o2, o3, o4, ↓reduceIte] | rfl) ?_)
        ((first | (refine DrawE_do rfl ?_; refine E_int rfl rfl rfl e11 ?_) | refine DrawE_not rfl ?_); refine DrawE_eq (st' := _) (by first | dsimp only [n0, n1, n2, n3, n4, n5, n6, n7, n8, n9, m0, m1, m2, m3, m4, m5, m6, m7, m8, m9, o0, o1, o2, o3, o4, ↓reduceIte] | rfl) ?_)
        iterate 12 ((first | (refine DrawE_do rfl ?_; first | refine E_pick rfl rfl ?_ | refine E_move rfl ?_ | refine E_fieldp fo36_3 rfl rfl ?_ | refine E_fieldi fo36_3 rfl rfl ?_ | refine E_loadi (ds := [_]) ag3 sz3 rfl rfl rfl rfl ?_ | refine E_loadp (ds := [_]) ag3 sz3 rfl rfl rfl rfl rfl ?_ | refine E_int rfl rfl rfl rfl ?_ | refine E_loadi (ds := [_]) ag49 sz49 rfl rfl rfl rfl ?_ | refine E_loadp (ds := [_]) ag49 sz49 rfl rfl rfl rfl rfl ?_ | refine E_fieldp fo36_2 rfl rfl ?_ | refine E_fieldi fo36_2 rfl rfl ?_) | refine DrawE_not rfl ?_); refine DrawE_eq (st' := _) (by first | dsimp only [n0, n1, n2, n3, n4, n5, n6, n7, n8, n9, m0, m1, m2, m3, m4, m5, m6, m7, m8, m9, o0, o1, o2, o3, o4, ↓reduceIte] | rfl) ?_)
        ((first | (refine DrawE_do rfl ?_; (first | refine E_index el49 sz3 rfl rfl rfl rfl trivial rfl ?_ | refine E_index0 el49 sz3 rfl rfl rfl rfl trivial ?_ | refine E_indexArr el49 sz3 rfl rfl rfl rfl trivial ?_)) | refine DrawE_not rfl ?_); refine DrawE_eq (st' := _) (by first | dsimp only [n0, n1, n2, n3, n4, n5, n6, n7, n8, n9, m0, m1, m2, m3, m4, m5, m6, m7, m8, m9, o0, o1, o2, o3, o4, ↓reduceIte] | rfl) ?_)
        iterate 5 ((first | (refine DrawE_do rfl ?_; first | refine E_loadi (ds := [_]) ag3 sz3 rfl rfl rfl rfl ?_ | refine E_loadp (ds := [_]) ag3 sz3 rfl rfl rfl rfl rfl ?_ | refine E_int rfl rfl rfl rfl ?_ | refine E_pick rfl rfl ?_ | refine E_assign rfl rfl ?_) | refine DrawE_not rfl ?_); refine DrawE_eq (st' := _) (by first | dsimp only [n0, n1, n2, n3, n4, n5, n6, n7, n8, n9, m0, m1, m2, m3, m4, m5, m6, m7, m8, m9, o0, o1, o2, o3, o4, ↓reduceIte] | rfl) ?_)
        refine DrawE_nil ⟨by kernel_rfl, ?_⟩
        repeat (first | refine R_seq ?_ | refine R_block ?_ | refine R_skip ?_)
        refine R_ret ?_
        exact ⟨trivial, _, rfl, rfl, rfl⟩
    · have e5 : intBin .geq .i64 e.buffer 0 = some (.bool false) := by simp [intBin]; omega
      have hr : readOk s e = false := decide_eq_false (fun h => by rw [hf] at h; simp at h; omega)
      rw [hr]
      repeat (first | refine R_seq ?_ | refine R_block ?_ | refine R_skip ?_)
      refine R_draw ?_
      iterate 5 ((first | (refine DrawE_do rfl ?_; first | refine E_fieldp fo36_1 rfl rfl ?_ | refine E_fieldi fo36_1 rfl rfl ?_ | refine E_loadi (ds := [_]) ag4 sz4 rfl rfl rfl rfl ?_ | refine E_loadp (ds := [_]) ag4 sz4 rfl rfl rfl rfl rfl ?_ | refine E_move rfl ?_ | refine E_fieldp fo36_2 rfl rfl ?_ | refine E_fieldi fo36_2 rfl rfl ?_ | refine E_loadi (ds := [_]) ag3 sz3 rfl rfl rfl rfl ?_ | refine E_loadp (ds := [_]) ag3 sz3 rfl rfl rfl rfl rfl ?_) | refine DrawE_not rfl ?_); refine DrawE_eq (st' := _) (by first | dsimp only [n0, n1, n2, n3, n4, n5, n6, n7, n8, n9, m0, m1, m2, m3, m4, m5, m6, m7, m8, m9, o0, o1, o2, o3, o4, ↓reduceIte] | rfl) ?_)
      ((first | (refine DrawE_do rfl ?_; refine E_int rfl rfl rfl e5 ?_) | refine DrawE_not rfl ?_); refine DrawE_eq (st' := _) (by first | dsimp only [n0, n1, n2, n3, n4, n5, n6, n7, n8, n9, m0, m1, m2, m3, m4, m5, m6, m7, m8, m9, o0, o1, o2, o3, o4, ↓reduceIte] | rfl) ?_)
      iterate 18 ((first | (refine DrawE_do rfl ?_; first | refine E_move rfl ?_ | refine E_fieldp fo36_2 rfl rfl ?_ | refine E_fieldi fo36_2 rfl rfl ?_ | refine E_loadi (ds := [_]) ag3 sz3 rfl rfl rfl rfl ?_ | refine E_loadp (ds := [_]) ag3 sz3 rfl rfl rfl rfl rfl ?_ | refine E_loadi (ds := [_]) ag49 sz49 rfl rfl rfl rfl ?_ | refine E_loadp (ds := [_]) ag49 sz49 rfl rfl rfl rfl rfl ?_ | refine E_len un49 rfl rfl ?_ | refine E_int rfl rfl rfl rfl ?_ | refine E_pick rfl rfl ?_ | refine E_fieldp fo36_3 rfl rfl ?_ | refine E_fieldi fo36_3 rfl rfl ?_) | refine DrawE_not rfl ?_); refine DrawE_eq (st' := _) (by first | dsimp only [n0, n1, n2, n3, n4, n5, n6, n7, n8, n9, m0, m1, m2, m3, m4, m5, m6, m7, m8, m9, o0, o1, o2, o3, o4, ↓reduceIte] | rfl) ?_)
      ((first | (refine DrawE_do rfl ?_; (first | refine E_index el49 sz3 rfl rfl rfl rfl trivial rfl ?_ | refine E_index0 el49 sz3 rfl rfl rfl rfl trivial ?_ | refine E_indexArr el49 sz3 rfl rfl rfl rfl trivial ?_)) | refine DrawE_not rfl ?_); refine DrawE_eq (st' := _) (by first | dsimp only [n0, n1, n2, n3, n4, n5, n6, n7, n8, n9, m0, m1, m2, m3, m4, m5, m6, m7, m8, m9, o0, o1, o2, o3, o4, ↓reduceIte] | rfl) ?_)
      iterate 5 ((first | (refine DrawE_do rfl ?_; first | refine E_loadi (ds := [_]) ag3 sz3 rfl rfl rfl rfl ?_ | refine E_loadp (ds := [_]) ag3 sz3 rfl rfl rfl rfl rfl ?_ | refine E_int rfl rfl rfl rfl ?_ | refine E_pick rfl rfl ?_ | refine E_assign rfl rfl ?_) | refine DrawE_not rfl ?_); refine DrawE_eq (st' := _) (by first | dsimp only [n0, n1, n2, n3, n4, n5, n6, n7, n8, n9, m0, m1, m2, m3, m4, m5, m6, m7, m8, m9, o0, o1, o2, o3, o4, ↓reduceIte] | rfl) ?_)
      refine DrawE_nil ⟨by kernel_rfl, ?_⟩
      repeat (first | refine R_seq ?_ | refine R_block ?_ | refine R_skip ?_)
      refine R_ret ?_
      exact ⟨trivial, _, rfl, rfl, rfl⟩
  · have hr : readOk s e = true := decide_eq_true (Or.inl hf)
    rw [hr]
    repeat (first | refine R_seq ?_ | refine R_block ?_ | refine R_skip ?_)
    refine R_draw ?_
    iterate 24 ((first | (refine DrawE_do rfl ?_; first | refine E_fieldp fo36_1 rfl rfl ?_ | refine E_fieldi fo36_1 rfl rfl ?_ | refine E_loadi (ds := [_]) ag4 sz4 rfl rfl rfl rfl ?_ | refine E_loadp (ds := [_]) ag4 sz4 rfl rfl rfl rfl rfl ?_ | refine E_move rfl ?_ | refine E_fieldp fo36_2 rfl rfl ?_ | refine E_fieldi fo36_2 rfl rfl ?_ | refine E_loadi (ds := [_]) ag3 sz3 rfl rfl rfl rfl ?_ | refine E_loadp (ds := [_]) ag3 sz3 rfl rfl rfl rfl rfl ?_ | refine E_int rfl rfl rfl rfl ?_ | refine E_loadi (ds := [_]) ag49 sz49 rfl rfl rfl rfl ?_ | refine E_loadp (ds := [_]) ag49 sz49 rfl rfl rfl rfl rfl ?_ | refine E_len un49 rfl rfl ?_ | refine E_pick rfl rfl ?_ | refine E_fieldp fo36_3 rfl rfl ?_ | refine E_fieldi fo36_3 rfl rfl ?_) | refine DrawE_not rfl ?_); refine DrawE_eq (st' := _) (by first | dsimp only [n0, n1, n2, n3, n4, n5, n6, n7, n8, n9, m0, m1, m2, m3, m4, m5, m6, m7, m8, m9, o0, o1, o2, o3, o4, ↓reduceIte] | rfl) ?_)
    ((first | (refine DrawE_do rfl ?_; (first | refine E_index el49 sz3 rfl rfl rfl rfl trivial rfl ?_ | refine E_index0 el49 sz3 rfl rfl rfl rfl trivial ?_ | refine E_indexArr el49 sz3 rfl rfl rfl rfl trivial ?_)) | refine DrawE_not rfl ?_); refine DrawE_eq (st' := _) (by first | dsimp only [n0, n1, n2, n3, n4, n5, n6, n7, n8, n9, m0, m1, m2, m3, m4, m5, m6, m7, m8, m9, o0, o1, o2, o3, o4, ↓reduceIte] | rfl) ?_)
    iterate 5 ((first | (refine DrawE_do rfl ?_; first | refine E_loadi (ds := [_]) ag3 sz3 rfl rfl rfl rfl ?_ | refine E_loadp (ds := [_]) ag3 sz3 rfl rfl rfl rfl rfl ?_ | refine E_int rfl rfl rfl rfl ?_ | refine E_pick rfl rfl ?_ | refine E_assign rfl rfl ?_) | refine DrawE_not rfl ?_); refine DrawE_eq (st' := _) (by first | dsimp only [n0, n1, n2, n3, n4, n5, n6, n7, n8, n9, m0, m1, m2, m3, m4, m5, m6, m7, m8, m9, o0, o1, o2, o3, o4, ↓reduceIte] | rfl) ?_)
    refine DrawE_nil ⟨by kernel_rfl, ?_⟩
    repeat (first | refine R_seq ?_ | refine R_block ?_ | refine R_skip ?_)
    refine R_ret ?_
    exact ⟨trivial, _, rfl, rfl, rfl⟩
theorem c55_no (m : Nat) (s : List Int) (j : Int) (e : Evt) (W : List Bool) (hW : W.length = m) (hno : (inB m e && !(W.getD e.write.toNat false)) = false) :
    PC prog env 55 [.fn 56 [.ptr 1 0, .ptr 3 0], .ptr 9 0] [.box [.dat (intD 0), .dat (intD 0), .dat (intD 0), .dat (intD 0)], .box [.dat (intD m)], .box ((W).map fun m => .dat (boolD m)), .box [.arr 2 0 m m], .box [.dat (intsD s)], .box [.fn 56 [.ptr 1 0, .ptr 3 0], .fn 57 [.ptr 4 0]], .box [.arr 5 0 2 2], .box [.dat (intD 0)], .box [.dat (intD j)], .box [.dat (intD e.write), .dat (.raw (.bool e.fill)), .dat (intD e.buffer), .dat (intD e.offset)]] (boolPV true) [.box [.dat (intD 0), .dat (intD 0), .dat (intD 0), .dat (intD 0)], .box [.dat (intD m)], .box ((W).map fun m => .dat (boolD m)), .box [.arr 2 0 m m], .box [.dat (intsD s)], .box [.fn 56 [.ptr 1 0, .ptr 3 0], .fn 57 [.ptr 4 0]], .box [.arr 5 0 2 2], .box [.dat (intD 0)], .box [.dat (intD j)], .box [.dat (intD e.write), .dat (.raw (.bool e.fill)), .dat (intD e.buffer), .dat (intD e.offset)], .box [.dat (intD e.write), .dat (.raw (.bool e.fill)), .dat (intD e.buffer), .dat (intD e.offset)]] := by
  refine PC_body (fn := f55) (by kernel_rfl) rfl rfl (by kernel_rfl) rfl ?_
  refine R_eq (st' := ⟨[.fn 56 [.ptr 1 0, .ptr 3 0], .ptr 9 0, .tup [], .tup [], .tup [], .tup [], .tup [], .tup []], [.box [.dat (intD 0), .dat (intD 0), .dat (intD 0), .dat (intD 0)], .box [.dat (intD m)], .box ((W).map fun m => .dat (boolD m)), .box [.arr 2 0 m m], .box [.dat (intsD s)], .box [.fn 56 [.ptr 1 0, .ptr 3 0], .fn 57 [.ptr 4 0]], .box [.arr 5 0 2 2], .box [.dat (intD 0)], .box [.dat (intD j)], .box [.dat (intD e.write), .dat (.raw (.bool e.fill)), .dat (intD e.buffer), .dat (intD e.offset)]]⟩) rfl ?_
  repeat (first | refine R_seq ?_ | refine R_block ?_ | refine R_skip ?_)
  refine R_region ?_
  (refine OpsE_do rfl ?_; refine E_assign rfl rfl ?_; refine OpsE_eq (st' := _) (by first | dsimp only [n0, n1, n2, n3, n4, n5, n6, n7, n8, n9, m0, m1, m2, m3, m4, m5, m6, m7, m8, m9, o0, o1, o2, o3, o4, ↓reduceIte] | rfl) ?_)
  refine OpsE_nil ?_
  repeat (first | refine R_seq ?_ | refine R_block ?_ | refine R_skip ?_)
  refine R_region ?_
  iterate 2 ((refine OpsE_do rfl ?_; first | refine E_move rfl ?_ | refine E_loadi (ds := [_, _, _, _]) (d := .agg [_, _, _, _]) ag36 sz36 rfl rfl rfl rfl ?_ | refine E_loadp (ds := [_, _, _, _]) (v := .dat (.agg [_, _, _, _])) ag36 sz36 rfl rfl rfl rfl rfl ?_ | refine E_loadp (ds := [_, _, _, _]) (v := .agg [_, _, _, _]) ag36 sz36 rfl rfl rfl rfl rfl ?_); refine OpsE_eq (st' := _) (by first | dsimp only [n0, n1, n2, n3, n4, n5, n6, n7, n8, n9, m0, m1, m2, m3, m4, m5, m6, m7, m8, m9, o0, o1, o2, o3, o4, ↓reduceIte] | rfl) ?_)
  (refine OpsE_do rfl ?_; (first | refine E_call rfl rfl (c56_no m s j e W hW hno) ?_ | refine E_callfn rfl rfl (c56_no m s j e W hW hno) ?_); refine OpsE_eq (st' := _) (by first | dsimp only [n0, n1, n2, n3, n4, n5, n6, n7, n8, n9, m0, m1, m2, m3, m4, m5, m6, m7, m8, m9, o0, o1, o2, o3, o4, ↓reduceIte] | rfl) ?_)
  iterate 2 ((refine OpsE_do rfl ?_; first | refine E_not rfl rfl ?_ | refine E_assign rfl rfl ?_); refine OpsE_eq (st' := _) (by first | dsimp only [n0, n1, n2, n3, n4, n5, n6, n7, n8, n9, m0, m1, m2, m3, m4, m5, m6, m7, m8, m9, o0, o1, o2, o3, o4, ↓reduceIte] | rfl) ?_)
  refine OpsE_nil ?_
  repeat (first | refine R_seq ?_ | refine R_block ?_ | refine R_skip ?_)
  refine R_ret ?_
  exact ⟨trivial, _, rfl, rfl, rfl⟩
theorem c55_yes (m : Nat) (s : List Int) (j : Int) (e : Evt) (W : List Bool) (hW : W.length = m) (hin : inB m e = true) (hf : W.getD e.write.toNat false = false) :
    PC prog env 55 [.fn 56 [.ptr 1 0, .ptr 3 0], .ptr 9 0] [.box [.dat (intD 0), .dat (intD 0), .dat (intD 0), .dat (intD 0)], .box [.dat (intD m)], .box ((W).map fun m => .dat (boolD m)), .box [.arr 2 0 m m], .box [.dat (intsD s)], .box [.fn 56 [.ptr 1 0, .ptr 3 0], .fn 57 [.ptr 4 0]], .box [.arr 5 0 2 2], .box [.dat (intD 0)], .box [.dat (intD j)], .box [.dat (intD e.write), .dat (.raw (.bool e.fill)), .dat (intD e.buffer), .dat (intD e.offset)]] (boolPV false) [.box [.dat (intD 0), .dat (intD 0), .dat (intD 0), .dat (intD 0)], .box [.dat (intD m)], .box ((W.set e.write.toNat true).map fun m => .dat (boolD m)), .box [.arr 2 0 m m], .box [.dat (intsD s)], .box [.fn 56 [.ptr 1 0, .ptr 3 0], .fn 57 [.ptr 4 0]], .box [.arr 5 0 2 2], .box [.dat (intD 0)], .box [.dat (intD j)], .box [.dat (intD e.write), .dat (.raw (.bool e.fill)), .dat (intD e.buffer), .dat (intD e.offset)], .box [.dat (intD e.write), .dat (.raw (.bool e.fill)), .dat (intD e.buffer), .dat (intD e.offset)]] := by
  refine PC_body (fn := f55) (by kernel_rfl) rfl rfl (by kernel_rfl) rfl ?_
  refine R_eq (st' := ⟨[.fn 56 [.ptr 1 0, .ptr 3 0], .ptr 9 0, .tup [], .tup [], .tup [], .tup [], .tup [], .tup []], [.box [.dat (intD 0), .dat (intD 0), .dat (intD 0), .dat (intD 0)], .box [.dat (intD m)], .box ((W).map fun m => .dat (boolD m)), .box [.arr 2 0 m m], .box [.dat (intsD s)], .box [.fn 56 [.ptr 1 0, .ptr 3 0], .fn 57 [.ptr 4 0]], .box [.arr 5 0 2 2], .box [.dat (intD 0)], .box [.dat (intD j)], .box [.dat (intD e.write), .dat (.raw (.bool e.fill)), .dat (intD e.buffer), .dat (intD e.offset)]]⟩) rfl ?_
  repeat (first | refine R_seq ?_ | refine R_block ?_ | refine R_skip ?_)
  refine R_region ?_
  (refine OpsE_do rfl ?_; refine E_assign rfl rfl ?_; refine OpsE_eq (st' := _) (by first | dsimp only [n0, n1, n2, n3, n4, n5, n6, n7, n8, n9, m0, m1, m2, m3, m4, m5, m6, m7, m8, m9, o0, o1, o2, o3, o4, ↓reduceIte] | rfl) ?_)
  refine OpsE_nil ?_
  repeat (first | refine R_seq ?_ | refine R_block ?_ | refine R_skip ?_)
  refine R_region ?_
  iterate 2 ((refine OpsE_do rfl ?_; first | refine E_move rfl ?_ | refine E_loadi (ds := [_, _, _, _]) (d := .agg [_, _, _, _]) ag36 sz36 rfl rfl rfl rfl ?_ | refine E_loadp (ds := [_, _, _, _]) (v := .dat (.agg [_, _, _, _])) ag36 sz36 rfl rfl rfl rfl rfl ?_ | refine E_loadp (ds := [_, _, _, _]) (v := .agg [_, _, _, _]) ag36 sz36 rfl rfl rfl rfl rfl ?_); refine OpsE_eq (st' := _) (by first | dsimp only [n0, n1, n2, n3, n4, n5, n6, n7, n8, n9, m0, m1, m2, m3, m4, m5, m6, m7, m8, m9, o0, o1, o2, o3, o4, ↓reduceIte] | rfl) ?_)
  (refine OpsE_do rfl ?_; (first | refine E_call rfl rfl (c56_yes m s j e W hW hin hf) ?_ | refine E_callfn rfl rfl (c56_yes m s j e W hW hin hf) ?_); refine OpsE_eq (st' := _) (by first | dsimp only [n0, n1, n2, n3, n4, n5, n6, n7, n8, n9, m0, m1, m2, m3, m4, m5, m6, m7, m8, m9, o0, o1, o2, o3, o4, ↓reduceIte] | rfl) ?_)
  iterate 2 ((refine OpsE_do rfl ?_; first | refine E_not rfl rfl ?_ | refine E_assign rfl rfl ?_); refine OpsE_eq (st' := _) (by first | dsimp only [n0, n1, n2, n3, n4, n5, n6, n7, n8, n9, m0, m1, m2, m3, m4, m5, m6, m7, m8, m9, o0, o1, o2, o3, o4, ↓reduceIte] | rfl) ?_)
  refine OpsE_nil ?_
  repeat (first | refine R_seq ?_ | refine R_block ?_ | refine R_skip ?_)
  refine R_ret ?_
  exact ⟨trivial, _, rfl, rfl, rfl⟩
theorem c55_r (m : Nat) (s : List Int) (j : Int) (e : Evt) (W : List Bool)  :
    PC prog env 55 [.fn 57 [.ptr 4 0], .ptr 9 0] [.box [.dat (intD 0), .dat (intD 0), .dat (intD 0), .dat (intD 0)], .box [.dat (intD m)], .box ((W).map fun m => .dat (boolD m)), .box [.arr 2 0 m m], .box [.dat (intsD s)], .box [.fn 56 [.ptr 1 0, .ptr 3 0], .fn 57 [.ptr 4 0]], .box [.arr 5 0 2 2], .box [.dat (intD 0)], .box [.dat (intD j)], .box [.dat (intD e.write), .dat (.raw (.bool e.fill)), .dat (intD e.buffer), .dat (intD e.offset)]] (boolPV (!readOk s e)) [.box [.dat (intD 0), .dat (intD 0), .dat (intD 0), .dat (intD 0)], .box [.dat (intD m)], .box ((W).map fun m => .dat (boolD m)), .box [.arr 2 0 m m], .box [.dat (intsD s)], .box [.fn 56 [.ptr 1 0, .ptr 3 0], .fn 57 [.ptr 4 0]], .box [.arr 5 0 2 2], .box [.dat (intD 0)], .box [.dat (intD j)], .box [.dat (intD e.write), .dat (.raw (.bool e.fill)), .dat (intD e.buffer), .dat (intD e.offset)], .box [.dat (intD e.write), .dat (.raw (.bool e.fill)), .dat (intD e.buffer), .dat (intD e.offset)]] := by
  refine PC_body (fn := f55) (by kernel_rfl) rfl rfl (by kernel_rfl) rfl ?_
  refine R_eq (st' := ⟨[.fn 57 [.ptr 4 0], .ptr 9 0, .tup [], .tup [], .tup [], .tup [], .tup [], .tup []], [.box [.dat (intD 0), .dat (intD 0), .dat (intD 0), .dat (intD 0)], .box [.dat (intD m)], .box ((W).map fun m => .dat (boolD m)), .box [.arr 2 0 m m], .box [.dat (intsD s)], .box [.fn 56 [.ptr 1 0, .ptr 3 0], .fn 57 [.ptr 4 0]], .box [.arr 5 0 2 2], .box [.dat (intD 0)], .box [.dat (intD j)], .box [.dat (intD e.write), .dat (.raw (.bool e.fill)), .dat (intD e.buffer), .dat (intD e.offset)]]⟩) rfl ?_
  repeat (first | refine R_seq ?_ | refine R_block ?_ | refine R_skip ?_)
  refine R_region ?_
  (refine OpsE_do rfl ?_; refine E_assign rfl rfl ?_; refine OpsE_eq (st' := _) (by first | dsimp only [n0, n1, n2, n3, n4, n5, n6, n7, n8, n9, m0, m1, m2, m3, m4, m5, m6, m7, m8, m9, o0, o1, o2, o3, o4, ↓reduceIte] | rfl) ?_)
  refine OpsE_nil ?_
  repeat (first | refine R_seq ?_ | refine R_block ?_ | refine R_skip ?_)
  refine R_region ?_
  iterate 2 ((refine OpsE_do rfl ?_; first | refine E_move rfl ?_ | refine E_loadi (ds := [_, _, _, _]) (d := .agg [_, _, _, _]) ag36 sz36 rfl rfl rfl rfl ?_ | refine E_loadp (ds := [_, _, _, _]) (v := .dat (.agg [_, _, _, _])) ag36 sz36 rfl rfl rfl rfl rfl ?_ | refine E_loadp (ds := [_, _, _, _]) (v := .agg [_, _, _, _]) ag36 sz36 rfl rfl rfl rfl rfl ?_); refine OpsE_eq (st' := _) (by first | dsimp only [n0, n1, n2, n3, n4, n5, n6, n7, n8, n9, m0, m1, m2, m3, m4, m5, m6, m7, m8, m9, o0, o1, o2, o3, o4, ↓reduceIte] | rfl) ?_)
  (refine OpsE_do rfl ?_; (first | refine E_call rfl rfl (c57 m s j e W) ?_ | refine E_callfn rfl rfl (c57 m s j e W) ?_); refine OpsE_eq (st' := _) (by first | dsimp only [n0, n1, n2, n3, n4, n5, n6, n7, n8, n9, m0, m1, m2, m3, m4, m5, m6, m7, m8, m9, o0, o1, o2, o3, o4, ↓reduceIte] | rfl) ?_)
  iterate 2 ((refine OpsE_do rfl ?_; first | refine E_not rfl rfl ?_ | refine E_assign rfl rfl ?_); refine OpsE_eq (st' := _) (by first | dsimp only [n0, n1, n2, n3, n4, n5, n6, n7, n8, n9, m0, m1, m2, m3, m4, m5, m6, m7, m8, m9, o0, o1, o2, o3, o4, ↓reduceIte] | rfl) ?_)
  refine OpsE_nil ?_
  repeat (first | refine R_seq ?_ | refine R_block ?_ | refine R_skip ?_)
  refine R_ret ?_
  exact ⟨trivial, _, rfl, rfl, rfl⟩
theorem prune10 {keep : Option (List Nat)} {ks : List Nat} {s : List PV} {b0 b1 b2 b3 b4 b5 b6 b7 b8 b9 : Blk} (h : keep = some ks) : prune 10 keep ⟨s, [b0, b1, b2, b3, b4, b5, b6, b7, b8, b9]⟩ =
    ⟨keepS [b0, b1, b2, b3, b4, b5, b6, b7, b8, b9] 10 ks 0 s, [b0, b1, b2, b3, b4, b5, b6, b7, b8, b9].map (purgeB [b0, b1, b2, b3, b4, b5, b6, b7, b8, b9] 10)⟩ := by
  subst h; rfl
theorem prune11 {keep : Option (List Nat)} {ks : List Nat} {s : List PV} {b0 b1 b2 b3 b4 b5 b6 b7 b8 b9 b10 : Blk} (h : keep = some ks) : prune 10 keep ⟨s, [b0, b1, b2, b3, b4, b5, b6, b7, b8, b9, b10]⟩ =
    ⟨keepS [b0, b1, b2, b3, b4, b5, b6, b7, b8, b9, b10] 10 ks 0 s, [b0, b1, b2, b3, b4, b5, b6, b7, b8, b9].map (purgeB [b0, b1, b2, b3, b4, b5, b6, b7, b8, b9, b10] 10)⟩ := by
  subst h; rfl
theorem c60_a (m : Nat) (s : List Int) (j : Int) (e : Evt) (W : List Bool) (hW : W.length = m) (hno : (inB m e && !(W.getD e.write.toNat false)) = false) :
    PC prog env 60 [.arr 5 0 2 2, .fn 55 [.ptr 9 0]] [.box [.dat (intD 0), .dat (intD 0), .dat (intD 0), .dat (intD 0)], .box [.dat (intD m)], .box ((W).map fun m => .dat (boolD m)), .box [.arr 2 0 m m], .box [.dat (intsD s)], .box [.fn 56 [.ptr 1 0, .ptr 3 0], .fn 57 [.ptr 4 0]], .box [.arr 5 0 2 2], .box [.dat (intD 0)], .box [.dat (intD j)], .box [.dat (intD e.write), .dat (.raw (.bool e.fill)), .dat (intD e.buffer), .dat (intD e.offset)]] (intPV 0) [.box [.dat (intD 0), .dat (intD 0), .dat (intD 0), .dat (intD 0)], .box [.dat (intD m)], .box ((W).map fun m => .dat (boolD m)), .box [.arr 2 0 m m], .box [.dat (intsD s)], .box [.fn 56 [.ptr 1 0, .ptr 3 0], .fn 57 [.ptr 4 0]], .box [.arr 5 0 2 2], .box [.dat (intD 0)], .box [.dat (intD j)], .box [.dat (intD e.write), .dat (.raw (.bool e.fill)), .dat (intD e.buffer), .dat (intD e.offset)], .box [.dat (intD e.write), .dat (.raw (.bool e.fill)), .dat (intD e.buffer), .dat (intD e.offset)]] := by
  refine PC_body (fn := f60) (by kernel_rfl) rfl rfl (by kernel_rfl) rfl ?_
  refine R_eq (st' := ⟨[.arr 5 0 2 2, .fn 55 [.ptr 9 0], .tup [], .tup [], .tup [], .tup [], .tup [], .tup [], .tup [], .tup [], .tup [], .tup [], .tup [], .tup [], .tup [], .tup [], .tup [], .tup [], .tup []], [.box [.dat (intD 0), .dat (intD 0), .dat (intD 0), .dat (intD 0)], .box [.dat (intD m)], .box ((W).map fun m => .dat (boolD m)), .box [.arr 2 0 m m], .box [.dat (intsD s)], .box [.fn 56 [.ptr 1 0, .ptr 3 0], .fn 57 [.ptr 4 0]], .box [.arr 5 0 2 2], .box [.dat (intD 0)], .box [.dat (intD j)], .box [.dat (intD e.write), .dat (.raw (.bool e.fill)), .dat (intD e.buffer), .dat (intD e.offset)]]⟩) rfl ?_
  repeat (first | refine R_seq ?_ | refine R_block ?_ | refine R_skip ?_)
  refine R_region ?_
  (refine OpsE_do rfl ?_; refine E_assign rfl rfl ?_; refine OpsE_eq (st' := _) (by first | dsimp only [n0, n1, n2, n3, n4, n5, n6, n7, n8, n9, m0, m1, m2, m3, m4, m5, m6, m7, m8, m9, o0, o1, o2, o3, o4, ↓reduceIte] | rfl) ?_)
  refine OpsE_nil ?_
  repeat (first | refine R_seq ?_ | refine R_block ?_ | refine R_skip ?_)
  refine R_region ?_
  iterate 3 ((refine OpsE_do rfl ?_; first | refine E_move rfl ?_ | refine E_len un100 rfl rfl ?_); refine OpsE_eq (st' := _) (by first | dsimp only [n0, n1, n2, n3, n4, n5, n6, n7, n8, n9, m0, m1, m2, m3, m4, m5, m6, m7, m8, m9, o0, o1, o2, o3, o4, ↓reduceIte] | rfl) ?_)
  refine OpsE_nil ?_
  repeat (first | refine R_seq ?_ | refine R_block ?_ | refine R_skip ?_)
  refine R_loop ?_
  refine RL_ind (fun (_ : Unit) => ⟨[.arr 5 0 2 2, .fn 55 [.ptr 9 0], .undef, .undef, .undef, .undef, .undef, intPV (2 : Int), intPV (0 : Int), .undef, .undef, .undef, .undef, .undef, .undef, .undef, .undef, .undef, .undef], [.box [.dat (intD 0), .dat (intD 0), .dat (intD 0), .dat (intD 0)], .box [.dat (intD m)], .box ((W).map fun m => .dat (boolD m)), .box [.arr 2 0 m m], .box [.dat (intsD s)], .box [.fn 56 [.ptr 1 0, .ptr 3 0], .fn 57 [.ptr 4 0]], .box [.arr 5 0 2 2], .box [.dat (intD 0)], .box [.dat (intD j)], .box [.dat (intD e.write), .dat (.raw (.bool e.fill)), .dat (intD e.buffer), .dat (intD e.offset)]]⟩) (fun _ => True) (fun _ => 0) (fun _ _ => ?_) _ () _ (Nat.lt_succ_self _) trivial (by refine (prune10 rfl).trans ?_; simp only [List.map_cons, List.map_nil, purge_map]; rfl)
  repeat (first | refine R_seq ?_ | refine R_block ?_ | refine R_skip ?_)
  refine R_region ?_
  (refine OpsE_do rfl ?_; (first | refine E_int rfl rfl rfl rfl ?_ | refine E_bin rfl rfl rfl rfl ?_); refine OpsE_eq (st' := _) (by first | dsimp only [n0, n1, n2, n3, n4, n5, n6, n7, n8, n9, m0, m1, m2, m3, m4, m5, m6, m7, m8, m9, o0, o1, o2, o3, o4, ↓reduceIte] | rfl) ?_)
  refine OpsE_nil ?_
  repeat (first | refine R_seq ?_ | refine R_block ?_ | refine R_skip ?_)
  refine R_true rfl ?_
  repeat (first | refine R_seq ?_ | refine R_block ?_ | refine R_skip ?_)
  refine R_region ?_
  iterate 2 ((refine OpsE_do rfl ?_; first | refine E_move rfl ?_ | refine E_assign rfl rfl ?_); refine OpsE_eq (st' := _) (by first | dsimp only [n0, n1, n2, n3, n4, n5, n6, n7, n8, n9, m0, m1, m2, m3, m4, m5, m6, m7, m8, m9, o0, o1, o2, o3, o4, ↓reduceIte] | rfl) ?_)
  refine OpsE_nil ?_
  repeat (first | refine R_seq ?_ | refine R_block ?_ | refine R_skip ?_)
  refine R_region ?_
  iterate 3 ((refine OpsE_do rfl ?_; refine E_move rfl ?_); refine OpsE_eq (st' := _) (by first | dsimp only [n0, n1, n2, n3, n4, n5, n6, n7, n8, n9, m0, m1, m2, m3, m4, m5, m6, m7, m8, m9, o0, o1, o2, o3, o4, ↓reduceIte] | rfl) ?_)
  (refine OpsE_do rfl ?_; refine E_index0 (j := 0) el100 sz83 rfl rfl rfl rfl (by decide) ?_; refine OpsE_eq (st' := _) (by first | dsimp only [n0, n1, n2, n3, n4, n5, n6, n7, n8, n9, m0, m1, m2, m3, m4, m5, m6, m7, m8, m9, o0, o1, o2, o3, o4, ↓reduceIte] | rfl) ?_)
  (refine OpsE_do rfl ?_; (first | refine E_loadi (ds := [_]) ag83 sz83 rfl rfl rfl rfl ?_ | refine E_loadp (ds := [_]) ag83 sz83 rfl rfl rfl rfl rfl ?_); refine OpsE_eq (st' := _) (by first | dsimp only [n0, n1, n2, n3, n4, n5, n6, n7, n8, n9, m0, m1, m2, m3, m4, m5, m6, m7, m8, m9, o0, o1, o2, o3, o4, ↓reduceIte] | rfl) ?_)
  (refine OpsE_do rfl ?_; (first | refine E_call rfl rfl (c55_no m s j e W hW hno) ?_ | refine E_callfn rfl rfl (c55_no m s j e W hW hno) ?_); refine OpsE_eq (st' := _) (by first | dsimp only [n0, n1, n2, n3, n4, n5, n6, n7, n8, n9, m0, m1, m2, m3, m4, m5, m6, m7, m8, m9, o0, o1, o2, o3, o4, ↓reduceIte] | rfl) ?_)
  refine OpsE_nil ?_
  repeat (first | refine R_seq ?_ | refine R_block ?_ | refine R_skip ?_)
  refine R_true rfl ?_
  repeat (first | refine R_seq ?_ | refine R_block ?_ | refine R_skip ?_)
  refine R_region ?_
  iterate 2 ((refine OpsE_do rfl ?_; first | refine E_move rfl ?_ | refine E_assign rfl rfl ?_); refine OpsE_eq (st' := _) (by first | dsimp only [n0, n1, n2, n3, n4, n5, n6, n7, n8, n9, m0, m1, m2, m3, m4, m5, m6, m7, m8, m9, o0, o1, o2, o3, o4, ↓reduceIte] | rfl) ?_)
  refine OpsE_nil ?_
  repeat (first | refine R_seq ?_ | refine R_block ?_ | refine R_skip ?_)
  refine R_ret ?_
  exact ⟨trivial, _, rfl, rfl, rfl⟩
theorem c60_b (m : Nat) (s : List Int) (j : Int) (e : Evt) (W : List Bool) (hW : W.length = m) (hin : inB m e = true) (hf : W.getD e.write.toNat false = false) (hr : readOk s e = false) :
    PC prog env 60 [.arr 5 0 2 2, .fn 55 [.ptr 9 0]] [.box [.dat (intD 0), .dat (intD 0), .dat (intD 0), .dat (intD 0)], .box [.dat (intD m)], .box ((W).map fun m => .dat (boolD m)), .box [.arr 2 0 m m], .box [.dat (intsD s)], .box [.fn 56 [.ptr 1 0, .ptr 3 0], .fn 57 [.ptr 4 0]], .box [.arr 5 0 2 2], .box [.dat (intD 0)], .box [.dat (intD j)], .box [.dat (intD e.write), .dat (.raw (.bool e.fill)), .dat (intD e.buffer), .dat (intD e.offset)]] (intPV 1) [.box [.dat (intD 0), .dat (intD 0), .dat (intD 0), .dat (intD 0)], .box [.dat (intD m)], .box ((W.set e.write.toNat true).map fun m => .dat (boolD m)), .box [.arr 2 0 m m], .box [.dat (intsD s)], .box [.fn 56 [.ptr 1 0, .ptr 3 0], .fn 57 [.ptr 4 0]], .box [.arr 5 0 2 2], .box [.dat (intD 0)], .box [.dat (intD j)], .box [.dat (intD e.write), .dat (.raw (.bool e.fill)), .dat (intD e.buffer), .dat (intD e.offset)], .box [.dat (intD e.write), .dat (.raw (.bool e.fill)), .dat (intD e.buffer), .dat (intD e.offset)]] := by
  refine PC_body (fn := f60) (by kernel_rfl) rfl rfl (by kernel_rfl) rfl ?_
  refine R_eq (st' := ⟨[.arr 5 0 2 2, .fn 55 [.ptr 9 0], .tup [], .tup [], .tup [], .tup [], .tup [], .tup [], .tup [], .tup [], .tup [], .tup [], .tup [], .tup [], .tup [], .tup [], .tup [], .tup [], .tup []], [.box [.dat (intD 0), .dat (intD 0), .dat (intD 0), .dat (intD 0)], .box [.dat (intD m)], .box ((W).map fun m => .dat (boolD m)), .box [.arr 2 0 m m], .box [.dat (intsD s)], .box [.fn 56 [.ptr 1 0, .ptr 3 0], .fn 57 [.ptr 4 0]], .box [.arr 5 0 2 2], .box [.dat (intD 0)], .box [.dat (intD j)], .box [.dat (intD e.write), .dat (.raw (.bool e.fill)), .dat (intD e.buffer), .dat (intD e.offset)]]⟩) rfl ?_
  repeat (first | refine R_seq ?_ | refine R_block ?_ | refine R_skip ?_)
  refine R_region ?_
  (refine OpsE_do rfl ?_; refine E_assign rfl rfl ?_; refine OpsE_eq (st' := _) (by first | dsimp only [n0, n1, n2, n3, n4, n5, n6, n7, n8, n9, m0, m1, m2, m3, m4, m5, m6, m7, m8, m9, o0, o1, o2, o3, o4, ↓reduceIte] | rfl) ?_)
  refine OpsE_nil ?_
  repeat (first | refine R_seq ?_ | refine R_block ?_ | refine R_skip ?_)
  refine R_region ?_
  iterate 3 ((refine OpsE_do rfl ?_; first | refine E_move rfl ?_ | refine E_len un100 rfl rfl ?_); refine OpsE_eq (st' := _) (by first | dsimp only [n0, n1, n2, n3, n4, n5, n6, n7, n8, n9, m0, m1, m2, m3, m4, m5, m6, m7, m8, m9, o0, o1, o2, o3, o4, ↓reduceIte] | rfl) ?_)
  refine OpsE_nil ?_
  repeat (first | refine R_seq ?_ | refine R_block ?_ | refine R_skip ?_)
  refine R_loop ?_
  refine RL_ind (fun (i : Fin 3) => match i with | 0 => ⟨[.arr 5 0 2 2, .fn 55 [.ptr 9 0], .undef, .undef, .undef, .undef, .undef, intPV (2 : Int), intPV (0 : Int), .undef, .undef, .undef, .undef, .undef, .undef, .undef, .undef, .undef, .undef], [.box [.dat (intD 0), .dat (intD 0), .dat (intD 0), .dat (intD 0)], .box [.dat (intD m)], .box ((W).map fun m => .dat (boolD m)), .box [.arr 2 0 m m], .box [.dat (intsD s)], .box [.fn 56 [.ptr 1 0, .ptr 3 0], .fn 57 [.ptr 4 0]], .box [.arr 5 0 2 2], .box [.dat (intD 0)], .box [.dat (intD j)], .box [.dat (intD e.write), .dat (.raw (.bool e.fill)), .dat (intD e.buffer), .dat (intD e.offset)]]⟩ | 1 => ⟨[.arr 5 0 2 2, .fn 55 [.ptr 9 0], .undef, .undef, .undef, .undef, .undef, intPV (2 : Int), intPV (1 : Int), .undef, .undef, .undef, .undef, .undef, .undef, .undef, .undef, .undef, .undef], [.box [.dat (intD 0), .dat (intD 0), .dat (intD 0), .dat (intD 0)], .box [.dat (intD m)], .box ((W.set e.write.toNat true).map fun m => .dat (boolD m)), .box [.arr 2 0 m m], .box [.dat (intsD s)], .box [.fn 56 [.ptr 1 0, .ptr 3 0], .fn 57 [.ptr 4 0]], .box [.arr 5 0 2 2], .box [.dat (intD 0)], .box [.dat (intD j)], .box [.dat (intD e.write), .dat (.raw (.bool e.fill)), .dat (intD e.buffer), .dat (intD e.offset)]]⟩ | 2 => ⟨[.arr 5 0 2 2, .fn 55 [.ptr 9 0], .undef, .undef, .undef, .undef, .undef, intPV (2 : Int), intPV (2 : Int), .undef, .undef, .undef, .undef, .undef, .undef, .undef, .undef, .undef, .undef], [.box [.dat (intD 0), .dat (intD 0), .dat (intD 0), .dat (intD 0)], .box [.dat (intD m)], .box ((W.set e.write.toNat true).map fun m => .dat (boolD m)), .box [.arr 2 0 m m], .box [.dat (intsD s)], .box [.fn 56 [.ptr 1 0, .ptr 3 0], .fn 57 [.ptr 4 0]], .box [.arr 5 0 2 2], .box [.dat (intD 0)], .box [.dat (intD j)], .box [.dat (intD e.write), .dat (.raw (.bool e.fill)), .dat (intD e.buffer), .dat (intD e.offset)]]⟩) (fun i => i.val ≤ 1) (fun i => 3 - i.val) (fun i hi => ?_) _ 0 _ (Nat.lt_succ_self _) (by decide) (by refine (prune10 rfl).trans ?_; simp only [List.map_cons, List.map_nil, purge_map]; rfl)
  match i with
  | 0 =>
    show R _ _ _ _ _ ⟨[.arr 5 0 2 2, .fn 55 [.ptr 9 0], .undef, .undef, .undef, .undef, .undef, intPV (2 : Int), intPV (0 : Int), .undef, .undef, .undef, .undef, .undef, .undef, .undef, .undef, .undef, .undef], [.box [.dat (intD 0), .dat (intD 0), .dat (intD 0), .dat (intD 0)], .box [.dat (intD m)], .box ((W).map fun m => .dat (boolD m)), .box [.arr 2 0 m m], .box [.dat (intsD s)], .box [.fn 56 [.ptr 1 0, .ptr 3 0], .fn 57 [.ptr 4 0]], .box [.arr 5 0 2 2], .box [.dat (intD 0)], .box [.dat (intD j)], .box [.dat (intD e.write), .dat (.raw (.bool e.fill)), .dat (intD e.buffer), .dat (intD e.offset)]]⟩ _
    repeat (first | refine R_seq ?_ | refine R_block ?_ | refine R_skip ?_)
    refine R_region ?_
    (refine OpsE_do rfl ?_; (first | refine E_int rfl rfl rfl rfl ?_ | refine E_bin rfl rfl rfl rfl ?_); refine OpsE_eq (st' := _) (by first | dsimp only [n0, n1, n2, n3, n4, n5, n6, n7, n8, n9, m0, m1, m2, m3, m4, m5, m6, m7, m8, m9, o0, o1, o2, o3, o4, ↓reduceIte] | rfl) ?_)
    refine OpsE_nil ?_
    repeat (first | refine R_seq ?_ | refine R_block ?_ | refine R_skip ?_)
    refine R_true rfl ?_
    repeat (first | refine R_seq ?_ | refine R_block ?_ | refine R_skip ?_)
    refine R_region ?_
    iterate 2 ((refine OpsE_do rfl ?_; first | refine E_move rfl ?_ | refine E_assign rfl rfl ?_); refine OpsE_eq (st' := _) (by first | dsimp only [n0, n1, n2, n3, n4, n5, n6, n7, n8, n9, m0, m1, m2, m3, m4, m5, m6, m7, m8, m9, o0, o1, o2, o3, o4, ↓reduceIte] | rfl) ?_)
    refine OpsE_nil ?_
    repeat (first | refine R_seq ?_ | refine R_block ?_ | refine R_skip ?_)
    refine R_region ?_
    iterate 3 ((refine OpsE_do rfl ?_; refine E_move rfl ?_); refine OpsE_eq (st' := _) (by first | dsimp only [n0, n1, n2, n3, n4, n5, n6, n7, n8, n9, m0, m1, m2, m3, m4, m5, m6, m7, m8, m9, o0, o1, o2, o3, o4, ↓reduceIte] | rfl) ?_)
    (refine OpsE_do rfl ?_; refine E_index0 (j := 0) el100 sz83 rfl rfl rfl rfl (by decide) ?_; refine OpsE_eq (st' := _) (by first | dsimp only [n0, n1, n2, n3, n4, n5, n6, n7, n8, n9, m0, m1, m2, m3, m4, m5, m6, m7, m8, m9, o0, o1, o2, o3, o4, ↓reduceIte] | rfl) ?_)
    (refine OpsE_do rfl ?_; (first | refine E_loadi (ds := [_]) ag83 sz83 rfl rfl rfl rfl ?_ | refine E_loadp (ds := [_]) ag83 sz83 rfl rfl rfl rfl rfl ?_); refine OpsE_eq (st' := _) (by first | dsimp only [n0, n1, n2, n3, n4, n5, n6, n7, n8, n9, m0, m1, m2, m3, m4, m5, m6, m7, m8, m9, o0, o1, o2, o3, o4, ↓reduceIte] | rfl) ?_)
    (refine OpsE_do rfl ?_; (first | refine E_call rfl rfl (c55_yes m s j e W hW hin hf) ?_ | refine E_callfn rfl rfl (c55_yes m s j e W hW hin hf) ?_); refine OpsE_eq (st' := _) (by first | dsimp only [n0, n1, n2, n3, n4, n5, n6, n7, n8, n9, m0, m1, m2, m3, m4, m5, m6, m7, m8, m9, o0, o1, o2, o3, o4, ↓reduceIte] | rfl) ?_)
    refine OpsE_nil ?_
    repeat (first | refine R_seq ?_ | refine R_block ?_ | refine R_skip ?_)
    refine R_false rfl ?_
    repeat (first | refine R_seq ?_ | refine R_block ?_ | refine R_skip ?_)
    refine R_region ?_
    iterate 2 ((refine OpsE_do rfl ?_; first | refine E_int rfl rfl rfl rfl ?_ | refine E_move rfl ?_); refine OpsE_eq (st' := _) (by first | dsimp only [n0, n1, n2, n3, n4, n5, n6, n7, n8, n9, m0, m1, m2, m3, m4, m5, m6, m7, m8, m9, o0, o1, o2, o3, o4, ↓reduceIte] | rfl) ?_)
    refine OpsE_nil ?_
    refine ⟨1, ?_, by decide, by decide⟩
    refine (prune11 rfl).trans ?_
    simp only [List.map_cons, List.map_nil, purge_map]
    rfl
  | 1 =>
    show R _ _ _ _ _ ⟨[.arr 5 0 2 2, .fn 55 [.ptr 9 0], .undef, .undef, .undef, .undef, .undef, intPV (2 : Int), intPV (1 : Int), .undef, .undef, .undef, .undef, .undef, .undef, .undef, .undef, .undef, .undef], [.box [.dat (intD 0), .dat (intD 0), .dat (intD 0), .dat (intD 0)], .box [.dat (intD m)], .box ((W.set e.write.toNat true).map fun m => .dat (boolD m)), .box [.arr 2 0 m m], .box [.dat (intsD s)], .box [.fn 56 [.ptr 1 0, .ptr 3 0], .fn 57 [.ptr 4 0]], .box [.arr 5 0 2 2], .box [.dat (intD 0)], .box [.dat (intD j)], .box [.dat (intD e.write), .dat (.raw (.bool e.fill)), .dat (intD e.buffer), .dat (intD e.offset)]]⟩ _
    repeat (first | refine R_seq ?_ | refine R_block ?_ | refine R_skip ?_)
    refine R_region ?_
    (refine OpsE_do rfl ?_; (first | refine E_int rfl rfl rfl rfl ?_ | refine E_bin rfl rfl rfl rfl ?_); refine OpsE_eq (st' := _) (by first | dsimp only [n0, n1, n2, n3, n4, n5, n6, n7, n8, n9, m0, m1, m2, m3, m4, m5, m6, m7, m8, m9, o0, o1, o2, o3, o4, ↓reduceIte] | rfl) ?_)
    refine OpsE_nil ?_
    repeat (first | refine R_seq ?_ | refine R_block ?_ | refine R_skip ?_)
    refine R_true rfl ?_
    repeat (first | refine R_seq ?_ | refine R_block ?_ | refine R_skip ?_)
    refine R_region ?_
    iterate 2 ((refine OpsE_do rfl ?_; first | refine E_move rfl ?_ | refine E_assign rfl rfl ?_); refine OpsE_eq (st' := _) (by first | dsimp only [n0, n1, n2, n3, n4, n5, n6, n7, n8, n9, m0, m1, m2, m3, m4, m5, m6, m7, m8, m9, o0, o1, o2, o3, o4, ↓reduceIte] | rfl) ?_)
    refine OpsE_nil ?_
    repeat (first | refine R_seq ?_ | refine R_block ?_ | refine R_skip ?_)
    refine R_region ?_
    iterate 3 ((refine OpsE_do rfl ?_; refine E_move rfl ?_); refine OpsE_eq (st' := _) (by first | dsimp only [n0, n1, n2, n3, n4, n5, n6, n7, n8, n9, m0, m1, m2, m3, m4, m5, m6, m7, m8, m9, o0, o1, o2, o3, o4, ↓reduceIte] | rfl) ?_)
    (refine OpsE_do rfl ?_; refine E_index0 (j := 1) el100 sz83 rfl rfl rfl rfl (by decide) ?_; refine OpsE_eq (st' := _) (by first | dsimp only [n0, n1, n2, n3, n4, n5, n6, n7, n8, n9, m0, m1, m2, m3, m4, m5, m6, m7, m8, m9, o0, o1, o2, o3, o4, ↓reduceIte] | rfl) ?_)
    (refine OpsE_do rfl ?_; (first | refine E_loadi (ds := [_]) ag83 sz83 rfl rfl rfl rfl ?_ | refine E_loadp (ds := [_]) ag83 sz83 rfl rfl rfl rfl rfl ?_); refine OpsE_eq (st' := _) (by first | dsimp only [n0, n1, n2, n3, n4, n5, n6, n7, n8, n9, m0, m1, m2, m3, m4, m5, m6, m7, m8, m9, o0, o1, o2, o3, o4, ↓reduceIte] | rfl) ?_)
    (refine OpsE_do rfl ?_; (first | refine E_call rfl rfl (c55_r m s j e (W.set e.write.toNat true)) ?_ | refine E_callfn rfl rfl (c55_r m s j e (W.set e.write.toNat true)) ?_); refine OpsE_eq (st' := _) (by first | dsimp only [n0, n1, n2, n3, n4, n5, n6, n7, n8, n9, m0, m1, m2, m3, m4, m5, m6, m7, m8, m9, o0, o1, o2, o3, o4, ↓reduceIte] | rfl) ?_)
    refine OpsE_nil ?_
    rw [hr]
    repeat (first | refine R_seq ?_ | refine R_block ?_ | refine R_skip ?_)
    refine R_true rfl ?_
    repeat (first | refine R_seq ?_ | refine R_block ?_ | refine R_skip ?_)
    refine R_region ?_
    iterate 2 ((refine OpsE_do rfl ?_; first | refine E_move rfl ?_ | refine E_assign rfl rfl ?_); refine OpsE_eq (st' := _) (by first | dsimp only [n0, n1, n2, n3, n4, n5, n6, n7, n8, n9, m0, m1, m2, m3, m4, m5, m6, m7, m8, m9, o0, o1, o2, o3, o4, ↓reduceIte] | rfl) ?_)
    refine OpsE_nil ?_
    repeat (first | refine R_seq ?_ | refine R_block ?_ | refine R_skip ?_)
    refine R_ret ?_
    exact ⟨trivial, _, rfl, rfl, rfl⟩
  | 2 => exact absurd hi (by decide)
theorem c60_c (m : Nat) (s : List Int) (j : Int) (e : Evt) (W : List Bool) (hW : W.length = m) (hin : inB m e = true) (hf : W.getD e.write.toNat false = false) (hr : readOk s e = true) :
    PC prog env 60 [.arr 5 0 2 2, .fn 55 [.ptr 9 0]] [.box [.dat (intD 0), .dat (intD 0), .dat (intD 0), .dat (intD 0)], .box [.dat (intD m)], .box ((W).map fun m => .dat (boolD m)), .box [.arr 2 0 m m], .box [.dat (intsD s)], .box [.fn 56 [.ptr 1 0, .ptr 3 0], .fn 57 [.ptr 4 0]], .box [.arr 5 0 2 2], .box [.dat (intD 0)], .box [.dat (intD j)], .box [.dat (intD e.write), .dat (.raw (.bool e.fill)), .dat (intD e.buffer), .dat (intD e.offset)]] (intPV (-1)) [.box [.dat (intD 0), .dat (intD 0), .dat (intD 0), .dat (intD 0)], .box [.dat (intD m)], .box ((W.set e.write.toNat true).map fun m => .dat (boolD m)), .box [.arr 2 0 m m], .box [.dat (intsD s)], .box [.fn 56 [.ptr 1 0, .ptr 3 0], .fn 57 [.ptr 4 0]], .box [.arr 5 0 2 2], .box [.dat (intD 0)], .box [.dat (intD j)], .box [.dat (intD e.write), .dat (.raw (.bool e.fill)), .dat (intD e.buffer), .dat (intD e.offset)]] := by
  refine PC_body (fn := f60) (by kernel_rfl) rfl rfl (by kernel_rfl) rfl ?_
  refine R_eq (st' := ⟨[.arr 5 0 2 2, .fn 55 [.ptr 9 0], .tup [], .tup [], .tup [], .tup [], .tup [], .tup [], .tup [], .tup [], .tup [], .tup [], .tup [], .tup [], .tup [], .tup [], .tup [], .tup [], .tup []], [.box [.dat (intD 0), .dat (intD 0), .dat (intD 0), .dat (intD 0)], .box [.dat (intD m)], .box ((W).map fun m => .dat (boolD m)), .box [.arr 2 0 m m], .box [.dat (intsD s)], .box [.fn 56 [.ptr 1 0, .ptr 3 0], .fn 57 [.ptr 4 0]], .box [.arr 5 0 2 2], .box [.dat (intD 0)], .box [.dat (intD j)], .box [.dat (intD e.write), .dat (.raw (.bool e.fill)), .dat (intD e.buffer), .dat (intD e.offset)]]⟩) rfl ?_
  repeat (first | refine R_seq ?_ | refine R_block ?_ | refine R_skip ?_)
  refine R_region ?_
  (refine OpsE_do rfl ?_; refine E_assign rfl rfl ?_; refine OpsE_eq (st' := _) (by first | dsimp only [n0, n1, n2, n3, n4, n5, n6, n7, n8, n9, m0, m1, m2, m3, m4, m5, m6, m7, m8, m9, o0, o1, o2, o3, o4, ↓reduceIte] | rfl) ?_)
  refine OpsE_nil ?_
  repeat (first | refine R_seq ?_ | refine R_block ?_ | refine R_skip ?_)
  refine R_region ?_
  iterate 3 ((refine OpsE_do rfl ?_; first | refine E_move rfl ?_ | refine E_len un100 rfl rfl ?_); refine OpsE_eq (st' := _) (by first | dsimp only [n0, n1, n2, n3, n4, n5, n6, n7, n8, n9, m0, m1, m2, m3, m4, m5, m6, m7, m8, m9, o0, o1, o2, o3, o4, ↓reduceIte] | rfl) ?_)
  refine OpsE_nil ?_
  repeat (first | refine R_seq ?_ | refine R_block ?_ | refine R_skip ?_)
  refine R_loop ?_
  refine RL_ind (fun (i : Fin 3) => match i with | 0 => ⟨[.arr 5 0 2 2, .fn 55 [.ptr 9 0], .undef, .undef, .undef, .undef, .undef, intPV (2 : Int), intPV (0 : Int), .undef, .undef, .undef, .undef, .undef, .undef, .undef, .undef, .undef, .undef], [.box [.dat (intD 0), .dat (intD 0), .dat (intD 0), .dat (intD 0)], .box [.dat (intD m)], .box ((W).map fun m => .dat (boolD m)), .box [.arr 2 0 m m], .box [.dat (intsD s)], .box [.fn 56 [.ptr 1 0, .ptr 3 0], .fn 57 [.ptr 4 0]], .box [.arr 5 0 2 2], .box [.dat (intD 0)], .box [.dat (intD j)], .box [.dat (intD e.write), .dat (.raw (.bool e.fill)), .dat (intD e.buffer), .dat (intD e.offset)]]⟩ | 1 => ⟨[.arr 5 0 2 2, .fn 55 [.ptr 9 0], .undef, .undef, .undef, .undef, .undef, intPV (2 : Int), intPV (1 : Int), .undef, .undef, .undef, .undef, .undef, .undef, .undef, .undef, .undef, .undef], [.box [.dat (intD 0), .dat (intD 0), .dat (intD 0), .dat (intD 0)], .box [.dat (intD m)], .box ((W.set e.write.toNat true).map fun m => .dat (boolD m)), .box [.arr 2 0 m m], .box [.dat (intsD s)], .box [.fn 56 [.ptr 1 0, .ptr 3 0], .fn 57 [.ptr 4 0]], .box [.arr 5 0 2 2], .box [.dat (intD 0)], .box [.dat (intD j)], .box [.dat (intD e.write), .dat (.raw (.bool e.fill)), .dat (intD e.buffer), .dat (intD e.offset)]]⟩ | 2 => ⟨[.arr 5 0 2 2, .fn 55 [.ptr 9 0], .undef, .undef, .undef, .undef, .undef, intPV (2 : Int), intPV (2 : Int), .undef, .undef, .undef, .undef, .undef, .undef, .undef, .undef, .undef, .undef], [.box [.dat (intD 0), .dat (intD 0), .dat (intD 0), .dat (intD 0)], .box [.dat (intD m)], .box ((W.set e.write.toNat true).map fun m => .dat (boolD m)), .box [.arr 2 0 m m], .box [.dat (intsD s)], .box [.fn 56 [.ptr 1 0, .ptr 3 0], .fn 57 [.ptr 4 0]], .box [.arr 5 0 2 2], .box [.dat (intD 0)], .box [.dat (intD j)], .box [.dat (intD e.write), .dat (.raw (.bool e.fill)), .dat (intD e.buffer), .dat (intD e.offset)]]⟩) (fun i => True) (fun i => 3 - i.val) (fun i hi => ?_) _ 0 _ (Nat.lt_succ_self _) trivial (by refine (prune10 rfl).trans ?_; simp only [List.map_cons, List.map_nil, purge_map]; rfl)
  match i with
  | 0 =>
    show R _ _ _ _ _ ⟨[.arr 5 0 2 2, .fn 55 [.ptr 9 0], .undef, .undef, .undef, .undef, .undef, intPV (2 : Int), intPV (0 : Int), .undef, .undef, .undef, .undef, .undef, .undef, .undef, .undef, .undef, .undef], [.box [.dat (intD 0), .dat (intD 0), .dat (intD 0), .dat (intD 0)], .box [.dat (intD m)], .box ((W).map fun m => .dat (boolD m)), .box [.arr 2 0 m m], .box [.dat (intsD s)], .box [.fn 56 [.ptr 1 0, .ptr 3 0], .fn 57 [.ptr 4 0]], .box [.arr 5 0 2 2], .box [.dat (intD 0)], .box [.dat (intD j)], .box [.dat (intD e.write), .dat (.raw (.bool e.fill)), .dat (intD e.buffer), .dat (intD e.offset)]]⟩ _
    repeat (first | refine R_seq ?_ | refine R_block ?_ | refine R_skip ?_)
    refine R_region ?_
    (refine OpsE_do rfl ?_; (first | refine E_int rfl rfl rfl rfl ?_ | refine E_bin rfl rfl rfl rfl ?_); refine OpsE_eq (st' := _) (by first | dsimp only [n0, n1, n2, n3, n4, n5, n6, n7, n8, n9, m0, m1, m2, m3, m4, m5, m6, m7, m8, m9, o0, o1, o2, o3, o4, ↓reduceIte] | rfl) ?_)
    refine OpsE_nil ?_
    repeat (first | refine R_seq ?_ | refine R_block ?_ | refine R_skip ?_)
    refine R_true rfl ?_
    repeat (first | refine R_seq ?_ | refine R_block ?_ | refine R_skip ?_)
    refine R_region ?_
    iterate 2 ((refine OpsE_do rfl ?_; first | refine E_move rfl ?_ | refine E_assign rfl rfl ?_); refine OpsE_eq (st' := _) (by first | dsimp only [n0, n1, n2, n3, n4, n5, n6, n7, n8, n9, m0, m1, m2, m3, m4, m5, m6, m7, m8, m9, o0, o1, o2, o3, o4, ↓reduceIte] | rfl) ?_)
    refine OpsE_nil ?_
    repeat (first | refine R_seq ?_ | refine R_block ?_ | refine R_skip ?_)
    refine R_region ?_
    iterate 3 ((refine OpsE_do rfl ?_; refine E_move rfl ?_); refine OpsE_eq (st' := _) (by first | dsimp only [n0, n1, n2, n3, n4, n5, n6, n7, n8, n9, m0, m1, m2, m3, m4, m5, m6, m7, m8, m9, o0, o1, o2, o3, o4, ↓reduceIte] | rfl) ?_)
    (refine OpsE_do rfl ?_; refine E_index0 (j := 0) el100 sz83 rfl rfl rfl rfl (by decide) ?_; refine OpsE_eq (st' := _) (by first | dsimp only [n0, n1, n2, n3, n4, n5, n6, n7, n8, n9, m0, m1, m2, m3, m4, m5, m6, m7, m8, m9, o0, o1, o2, o3, o4, ↓reduceIte] | rfl) ?_)
    (refine OpsE_do rfl ?_; (first | refine E_loadi (ds := [_]) ag83 sz83 rfl rfl rfl rfl ?_ | refine E_loadp (ds := [_]) ag83 sz83 rfl rfl rfl rfl rfl ?_); refine OpsE_eq (st' := _) (by first | dsimp only [n0, n1, n2, n3, n4, n5, n6, n7, n8, n9, m0, m1, m2, m3, m4, m5, m6, m7, m8, m9, o0, o1, o2, o3, o4, ↓reduceIte] | rfl) ?_)
    (refine OpsE_do rfl ?_; (first | refine E_call rfl rfl (c55_yes m s j e W hW hin hf) ?_ | refine E_callfn rfl rfl (c55_yes m s j e W hW hin hf) ?_); refine OpsE_eq (st' := _) (by first | dsimp only [n0, n1, n2, n3, n4, n5, n6, n7, n8, n9, m0, m1, m2, m3, m4, m5, m6, m7, m8, m9, o0, o1, o2, o3, o4, ↓reduceIte] | rfl) ?_)
    refine OpsE_nil ?_
    repeat (first | refine R_seq ?_ | refine R_block ?_ | refine R_skip ?_)
    refine R_false rfl ?_
    repeat (first | refine R_seq ?_ | refine R_block ?_ | refine R_skip ?_)
    refine R_region ?_
    iterate 2 ((refine OpsE_do rfl ?_; first | refine E_int rfl rfl rfl rfl ?_ | refine E_move rfl ?_); refine OpsE_eq (st' := _) (by first | dsimp only [n0, n1, n2, n3, n4, n5, n6, n7, n8, n9, m0, m1, m2, m3, m4, m5, m6, m7, m8, m9, o0, o1, o2, o3, o4, ↓reduceIte] | rfl) ?_)
    refine OpsE_nil ?_
    refine ⟨1, ?_, by decide, trivial⟩
    refine (prune11 rfl).trans ?_
    simp only [List.map_cons, List.map_nil, purge_map]
    rfl
  | 1 =>
    show R _ _ _ _ _ ⟨[.arr 5 0 2 2, .fn 55 [.ptr 9 0], .undef, .undef, .undef, .undef, .undef, intPV (2 : Int), intPV (1 : Int), .undef, .undef, .undef, .undef, .undef, .undef, .undef, .undef, .undef, .undef], [.box [.dat (intD 0), .dat (intD 0), .dat (intD 0), .dat (intD 0)], .box [.dat (intD m)], .box ((W.set e.write.toNat true).map fun m => .dat (boolD m)), .box [.arr 2 0 m m], .box [.dat (intsD s)], .box [.fn 56 [.ptr 1 0, .ptr 3 0], .fn 57 [.ptr 4 0]], .box [.arr 5 0 2 2], .box [.dat (intD 0)], .box [.dat (intD j)], .box [.dat (intD e.write), .dat (.raw (.bool e.fill)), .dat (intD e.buffer), .dat (intD e.offset)]]⟩ _
    repeat (first | refine R_seq ?_ | refine R_block ?_ | refine R_skip ?_)
    refine R_region ?_
    (refine OpsE_do rfl ?_; (first | refine E_int rfl rfl rfl rfl ?_ | refine E_bin rfl rfl rfl rfl ?_); refine OpsE_eq (st' := _) (by first | dsimp only [n0, n1, n2, n3, n4, n5, n6, n7, n8, n9, m0, m1, m2, m3, m4, m5, m6, m7, m8, m9, o0, o1, o2, o3, o4, ↓reduceIte] | rfl) ?_)
    refine OpsE_nil ?_
    repeat (first | refine R_seq ?_ | refine R_block ?_ | refine R_skip ?_)
    refine R_true rfl ?_
    repeat (first | refine R_seq ?_ | refine R_block ?_ | refine R_skip ?_)
    refine R_region ?_
    iterate 2 ((refine OpsE_do rfl ?_; first | refine E_move rfl ?_ | refine E_assign rfl rfl ?_); refine OpsE_eq (st' := _) (by first | dsimp only [n0, n1, n2, n3, n4, n5, n6, n7, n8, n9, m0, m1, m2, m3, m4, m5, m6, m7, m8, m9, o0, o1, o2, o3, o4, ↓reduceIte] | rfl) ?_)
    refine OpsE_nil ?_
    repeat (first | refine R_seq ?_ | refine R_block ?_ | refine R_skip ?_)
    refine R_region ?_
    iterate 3 ((refine OpsE_do rfl ?_; refine E_move rfl ?_); refine OpsE_eq (st' := _) (by first | dsimp only [n0, n1, n2, n3, n4, n5, n6, n7, n8, n9, m0, m1, m2, m3, m4, m5, m6, m7, m8, m9, o0, o1, o2, o3, o4, ↓reduceIte] | rfl) ?_)
    (refine OpsE_do rfl ?_; refine E_index0 (j := 1) el100 sz83 rfl rfl rfl rfl (by decide) ?_; refine OpsE_eq (st' := _) (by first | dsimp only [n0, n1, n2, n3, n4, n5, n6, n7, n8, n9, m0, m1, m2, m3, m4, m5, m6, m7, m8, m9, o0, o1, o2, o3, o4, ↓reduceIte] | rfl) ?_)
    (refine OpsE_do rfl ?_; (first | refine E_loadi (ds := [_]) ag83 sz83 rfl rfl rfl rfl ?_ | refine E_loadp (ds := [_]) ag83 sz83 rfl rfl rfl rfl rfl ?_); refine OpsE_eq (st' := _) (by first | dsimp only [n0, n1, n2, n3, n4, n5, n6, n7, n8, n9, m0, m1, m2, m3, m4, m5, m6, m7, m8, m9, o0, o1, o2, o3, o4, ↓reduceIte] | rfl) ?_)
    (refine OpsE_do rfl ?_; (first | refine E_call rfl rfl (c55_r m s j e (W.set e.write.toNat true)) ?_ | refine E_callfn rfl rfl (c55_r m s j e (W.set e.write.toNat true)) ?_); refine OpsE_eq (st' := _) (by first | dsimp only [n0, n1, n2, n3, n4, n5, n6, n7, n8, n9, m0, m1, m2, m3, m4, m5, m6, m7, m8, m9, o0, o1, o2, o3, o4, ↓reduceIte] | rfl) ?_)
    refine OpsE_nil ?_
    rw [hr]
    repeat (first | refine R_seq ?_ | refine R_block ?_ | refine R_skip ?_)
    refine R_false rfl ?_
    repeat (first | refine R_seq ?_ | refine R_block ?_ | refine R_skip ?_)
    refine R_region ?_
    iterate 2 ((refine OpsE_do rfl ?_; first | refine E_int rfl rfl rfl rfl ?_ | refine E_move rfl ?_); refine OpsE_eq (st' := _) (by first | dsimp only [n0, n1, n2, n3, n4, n5, n6, n7, n8, n9, m0, m1, m2, m3, m4, m5, m6, m7, m8, m9, o0, o1, o2, o3, o4, ↓reduceIte] | rfl) ?_)
    refine OpsE_nil ?_
    refine ⟨2, ?_, by decide, trivial⟩
    refine (prune11 rfl).trans ?_
    simp only [List.map_cons, List.map_nil, purge_map]
    rfl
  | 2 =>
    show R _ _ _ _ _ ⟨[.arr 5 0 2 2, .fn 55 [.ptr 9 0], .undef, .undef, .undef, .undef, .undef, intPV (2 : Int), intPV (2 : Int), .undef, .undef, .undef, .undef, .undef, .undef, .undef, .undef, .undef, .undef], [.box [.dat (intD 0), .dat (intD 0), .dat (intD 0), .dat (intD 0)], .box [.dat (intD m)], .box ((W.set e.write.toNat true).map fun m => .dat (boolD m)), .box [.arr 2 0 m m], .box [.dat (intsD s)], .box [.fn 56 [.ptr 1 0, .ptr 3 0], .fn 57 [.ptr 4 0]], .box [.arr 5 0 2 2], .box [.dat (intD 0)], .box [.dat (intD j)], .box [.dat (intD e.write), .dat (.raw (.bool e.fill)), .dat (intD e.buffer), .dat (intD e.offset)]]⟩ _
    repeat (first | refine R_seq ?_ | refine R_block ?_ | refine R_skip ?_)
    refine R_region ?_
    (refine OpsE_do rfl ?_; (first | refine E_int rfl rfl rfl rfl ?_ | refine E_bin rfl rfl rfl rfl ?_); refine OpsE_eq (st' := _) (by first | dsimp only [n0, n1, n2, n3, n4, n5, n6, n7, n8, n9, m0, m1, m2, m3, m4, m5, m6, m7, m8, m9, o0, o1, o2, o3, o4, ↓reduceIte] | rfl) ?_)
    refine OpsE_nil ?_
    repeat (first | refine R_seq ?_ | refine R_block ?_ | refine R_skip ?_)
    refine R_false rfl ?_
    repeat (first | refine R_seq ?_ | refine R_block ?_ | refine R_skip ?_)
    refine R_exit ?_
    repeat (first | refine R_seq ?_ | refine R_block ?_ | refine R_skip ?_)
    refine R_region ?_
    (refine OpsE_do rfl ?_; refine E_assign rfl rfl ?_; refine OpsE_eq (st' := _) (by first | dsimp only [n0, n1, n2, n3, n4, n5, n6, n7, n8, n9, m0, m1, m2, m3, m4, m5, m6, m7, m8, m9, o0, o1, o2, o3, o4, ↓reduceIte] | rfl) ?_)
    refine OpsE_nil ?_
    repeat (first | refine R_seq ?_ | refine R_block ?_ | refine R_skip ?_)
    refine R_ret ?_
    exact ⟨trivial, _, rfl, rfl, rfl⟩
theorem c54_a (m : Nat) (s : List Int) (j : Int) (e : Evt) (W : List Bool) (hW : W.length = m) (hno : (inB m e && !(W.getD e.write.toNat false)) = false) :
    PC prog env 54 [.arr 5 0 2 2, .fn 55 [.ptr 9 0]] [.box [.dat (intD 0), .dat (intD 0), .dat (intD 0), .dat (intD 0)], .box [.dat (intD m)], .box ((W).map fun m => .dat (boolD m)), .box [.arr 2 0 m m], .box [.dat (intsD s)], .box [.fn 56 [.ptr 1 0, .ptr 3 0], .fn 57 [.ptr 4 0]], .box [.arr 5 0 2 2], .box [.dat (intD 0)], .box [.dat (intD j)], .box [.dat (intD e.write), .dat (.raw (.bool e.fill)), .dat (intD e.buffer), .dat (intD e.offset)]] (boolPV true) [.box [.dat (intD 0), .dat (intD 0), .dat (intD 0), .dat (intD 0)], .box [.dat (intD m)], .box ((W).map fun m => .dat (boolD m)), .box [.arr 2 0 m m], .box [.dat (intsD s)], .box [.fn 56 [.ptr 1 0, .ptr 3 0], .fn 57 [.ptr 4 0]], .box [.arr 5 0 2 2], .box [.dat (intD 0)], .box [.dat (intD j)], .box [.dat (intD e.write), .dat (.raw (.bool e.fill)), .dat (intD e.buffer), .dat (intD e.offset)], .box [.dat (intD e.write), .dat (.raw (.bool e.fill)), .dat (intD e.buffer), .dat (intD e.offset)]] := by
  refine PC_body (fn := f54) (by kernel_rfl) rfl rfl (by kernel_rfl) rfl ?_
  refine R_eq (st' := ⟨[.arr 5 0 2 2, .fn 55 [.ptr 9 0], .tup [], .tup [], .tup [], .tup [], .tup [], .tup [], .tup []], [.box [.dat (intD 0), .dat (intD 0), .dat (intD 0), .dat (intD 0)], .box [.dat (intD m)], .box ((W).map fun m => .dat (boolD m)), .box [.arr 2 0 m m], .box [.dat (intsD s)], .box [.fn 56 [.ptr 1 0, .ptr 3 0], .fn 57 [.ptr 4 0]], .box [.arr 5 0 2 2], .box [.dat (intD 0)], .box [.dat (intD j)], .box [.dat (intD e.write), .dat (.raw (.bool e.fill)), .dat (intD e.buffer), .dat (intD e.offset)]]⟩) rfl ?_
  repeat (first | refine R_seq ?_ | refine R_block ?_ | refine R_skip ?_)
  refine R_region ?_
  (refine OpsE_do rfl ?_; refine E_assign rfl rfl ?_; refine OpsE_eq (st' := _) (by first | dsimp only [n0, n1, n2, n3, n4, n5, n6, n7, n8, n9, m0, m1, m2, m3, m4, m5, m6, m7, m8, m9, o0, o1, o2, o3, o4, ↓reduceIte] | rfl) ?_)
  refine OpsE_nil ?_
  repeat (first | refine R_seq ?_ | refine R_block ?_ | refine R_skip ?_)
  refine R_region ?_
  iterate 2 ((refine OpsE_do rfl ?_; refine E_move rfl ?_); refine OpsE_eq (st' := _) (by first | dsimp only [n0, n1, n2, n3, n4, n5, n6, n7, n8, n9, m0, m1, m2, m3, m4, m5, m6, m7, m8, m9, o0, o1, o2, o3, o4, ↓reduceIte] | rfl) ?_)
  (refine OpsE_do rfl ?_; (first | refine E_call rfl rfl (c60_a m s j e W hW hno) ?_ | refine E_callfn rfl rfl (c60_a m s j e W hW hno) ?_); refine OpsE_eq (st' := _) (by first | dsimp only [n0, n1, n2, n3, n4, n5, n6, n7, n8, n9, m0, m1, m2, m3, m4, m5, m6, m7, m8, m9, o0, o1, o2, o3, o4, ↓reduceIte] | rfl) ?_)
  iterate 2 ((refine OpsE_do rfl ?_; first | refine E_int rfl rfl rfl rfl ?_ | refine E_assign rfl rfl ?_); refine OpsE_eq (st' := _) (by first | dsimp only [n0, n1, n2, n3, n4, n5, n6, n7, n8, n9, m0, m1, m2, m3, m4, m5, m6, m7, m8, m9, o0, o1, o2, o3, o4, ↓reduceIte] | rfl) ?_)
  refine OpsE_nil ?_
  repeat (first | refine R_seq ?_ | refine R_block ?_ | refine R_skip ?_)
  refine R_ret ?_
  exact ⟨trivial, _, rfl, rfl, rfl⟩
theorem c54_b (m : Nat) (s : List Int) (j : Int) (e : Evt) (W : List Bool) (hW : W.length = m) (hin : inB m e = true) (hf : W.getD e.write.toNat false = false) (hr : readOk s e = false) :
    PC prog env 54 [.arr 5 0 2 2, .fn 55 [.ptr 9 0]] [.box [.dat (intD 0), .dat (intD 0), .dat (intD 0), .dat (intD 0)], .box [.dat (intD m)], .box ((W).map fun m => .dat (boolD m)), .box [.arr 2 0 m m], .box [.dat (intsD s)], .box [.fn 56 [.ptr 1 0, .ptr 3 0], .fn 57 [.ptr 4 0]], .box [.arr 5 0 2 2], .box [.dat (intD 0)], .box [.dat (intD j)], .box [.dat (intD e.write), .dat (.raw (.bool e.fill)), .dat (intD e.buffer), .dat (intD e.offset)]] (boolPV true) [.box [.dat (intD 0), .dat (intD 0), .dat (intD 0), .dat (intD 0)], .box [.dat (intD m)], .box ((W.set e.write.toNat true).map fun m => .dat (boolD m)), .box [.arr 2 0 m m], .box [.dat (intsD s)], .box [.fn 56 [.ptr 1 0, .ptr 3 0], .fn 57 [.ptr 4 0]], .box [.arr 5 0 2 2], .box [.dat (intD 0)], .box [.dat (intD j)], .box [.dat (intD e.write), .dat (.raw (.bool e.fill)), .dat (intD e.buffer), .dat (intD e.offset)], .box [.dat (intD e.write), .dat (.raw (.bool e.fill)), .dat (intD e.buffer), .dat (intD e.offset)]] := by
  refine PC_body (fn := f54) (by kernel_rfl) rfl rfl (by kernel_rfl) rfl ?_
  refine R_eq (st' := ⟨[.arr 5 0 2 2, .fn 55 [.ptr 9 0], .tup [], .tup [], .tup [], .tup [], .tup [], .tup [], .tup []], [.box [.dat (intD 0), .dat (intD 0), .dat (intD 0), .dat (intD 0)], .box [.dat (intD m)], .box ((W).map fun m => .dat (boolD m)), .box [.arr 2 0 m m], .box [.dat (intsD s)], .box [.fn 56 [.ptr 1 0, .ptr 3 0], .fn 57 [.ptr 4 0]], .box [.arr 5 0 2 2], .box [.dat (intD 0)], .box [.dat (intD j)], .box [.dat (intD e.write), .dat (.raw (.bool e.fill)), .dat (intD e.buffer), .dat (intD e.offset)]]⟩) rfl ?_
  repeat (first | refine R_seq ?_ | refine R_block ?_ | refine R_skip ?_)
  refine R_region ?_
  (refine OpsE_do rfl ?_; refine E_assign rfl rfl ?_; refine OpsE_eq (st' := _) (by first | dsimp only [n0, n1, n2, n3, n4, n5, n6, n7, n8, n9, m0, m1, m2, m3, m4, m5, m6, m7, m8, m9, o0, o1, o2, o3, o4, ↓reduceIte] | rfl) ?_)
  refine OpsE_nil ?_
  repeat (first | refine R_seq ?_ | refine R_block ?_ | refine R_skip ?_)
  refine R_region ?_
  iterate 2 ((refine OpsE_do rfl ?_; refine E_move rfl ?_); refine OpsE_eq (st' := _) (by first | dsimp only [n0, n1, n2, n3, n4, n5, n6, n7, n8, n9, m0, m1, m2, m3, m4, m5, m6, m7, m8, m9, o0, o1, o2, o3, o4, ↓reduceIte] | rfl) ?_)
  (refine OpsE_do rfl ?_; (first | refine E_call rfl rfl (c60_b m s j e W hW hin hf hr) ?_ | refine E_callfn rfl rfl (c60_b m s j e W hW hin hf hr) ?_); refine OpsE_eq (st' := _) (by first | dsimp only [n0, n1, n2, n3, n4, n5, n6, n7, n8, n9, m0, m1, m2, m3, m4, m5, m6, m7, m8, m9, o0, o1, o2, o3, o4, ↓reduceIte] | rfl) ?_)
  iterate 2 ((refine OpsE_do rfl ?_; first | refine E_int rfl rfl rfl rfl ?_ | refine E_assign rfl rfl ?_); refine OpsE_eq (st' := _) (by first | dsimp only [n0, n1, n2, n3, n4, n5, n6, n7, n8, n9, m0, m1, m2, m3, m4, m5, m6, m7, m8, m9, o0, o1, o2, o3, o4, ↓reduceIte] | rfl) ?_)
  refine OpsE_nil ?_
  repeat (first | refine R_seq ?_ | refine R_block ?_ | refine R_skip ?_)
  refine R_ret ?_
  exact ⟨trivial, _, rfl, rfl, rfl⟩
theorem c54_c (m : Nat) (s : List Int) (j : Int) (e : Evt) (W : List Bool) (hW : W.length = m) (hin : inB m e = true) (hf : W.getD e.write.toNat false = false) (hr : readOk s e = true) :
    PC prog env 54 [.arr 5 0 2 2, .fn 55 [.ptr 9 0]] [.box [.dat (intD 0), .dat (intD 0), .dat (intD 0), .dat (intD 0)], .box [.dat (intD m)], .box ((W).map fun m => .dat (boolD m)), .box [.arr 2 0 m m], .box [.dat (intsD s)], .box [.fn 56 [.ptr 1 0, .ptr 3 0], .fn 57 [.ptr 4 0]], .box [.arr 5 0 2 2], .box [.dat (intD 0)], .box [.dat (intD j)], .box [.dat (intD e.write), .dat (.raw (.bool e.fill)), .dat (intD e.buffer), .dat (intD e.offset)]] (boolPV false) [.box [.dat (intD 0), .dat (intD 0), .dat (intD 0), .dat (intD 0)], .box [.dat (intD m)], .box ((W.set e.write.toNat true).map fun m => .dat (boolD m)), .box [.arr 2 0 m m], .box [.dat (intsD s)], .box [.fn 56 [.ptr 1 0, .ptr 3 0], .fn 57 [.ptr 4 0]], .box [.arr 5 0 2 2], .box [.dat (intD 0)], .box [.dat (intD j)], .box [.dat (intD e.write), .dat (.raw (.bool e.fill)), .dat (intD e.buffer), .dat (intD e.offset)]] := by
  refine PC_body (fn := f54) (by kernel_rfl) rfl rfl (by kernel_rfl) rfl ?_
  refine R_eq (st' := ⟨[.arr 5 0 2 2, .fn 55 [.ptr 9 0], .tup [], .tup [], .tup [], .tup [], .tup [], .tup [], .tup []], [.box [.dat (intD 0), .dat (intD 0), .dat (intD 0), .dat (intD 0)], .box [.dat (intD m)], .box ((W).map fun m => .dat (boolD m)), .box [.arr 2 0 m m], .box [.dat (intsD s)], .box [.fn 56 [.ptr 1 0, .ptr 3 0], .fn 57 [.ptr 4 0]], .box [.arr 5 0 2 2], .box [.dat (intD 0)], .box [.dat (intD j)], .box [.dat (intD e.write), .dat (.raw (.bool e.fill)), .dat (intD e.buffer), .dat (intD e.offset)]]⟩) rfl ?_
  repeat (first | refine R_seq ?_ | refine R_block ?_ | refine R_skip ?_)
  refine R_region ?_
  (refine OpsE_do rfl ?_; refine E_assign rfl rfl ?_; refine OpsE_eq (st' := _) (by first | dsimp only [n0, n1, n2, n3, n4, n5, n6, n7, n8, n9, m0, m1, m2, m3, m4, m5, m6, m7, m8, m9, o0, o1, o2, o3, o4, ↓reduceIte] | rfl) ?_)
  refine OpsE_nil ?_
  repeat (first | refine R_seq ?_ | refine R_block ?_ | refine R_skip ?_)
  refine R_region ?_
  iterate 2 ((refine OpsE_do rfl ?_; refine E_move rfl ?_); refine OpsE_eq (st' := _) (by first | dsimp only [n0, n1, n2, n3, n4, n5, n6, n7, n8, n9, m0, m1, m2, m3, m4, m5, m6, m7, m8, m9, o0, o1, o2, o3, o4, ↓reduceIte] | rfl) ?_)
  (refine OpsE_do rfl ?_; (first | refine E_call rfl rfl (c60_c m s j e W hW hin hf hr) ?_ | refine E_callfn rfl rfl (c60_c m s j e W hW hin hf hr) ?_); refine OpsE_eq (st' := _) (by first | dsimp only [n0, n1, n2, n3, n4, n5, n6, n7, n8, n9, m0, m1, m2, m3, m4, m5, m6, m7, m8, m9, o0, o1, o2, o3, o4, ↓reduceIte] | rfl) ?_)
  iterate 2 ((refine OpsE_do rfl ?_; first | refine E_int rfl rfl rfl rfl ?_ | refine E_assign rfl rfl ?_); refine OpsE_eq (st' := _) (by first | dsimp only [n0, n1, n2, n3, n4, n5, n6, n7, n8, n9, m0, m1, m2, m3, m4, m5, m6, m7, m8, m9, o0, o1, o2, o3, o4, ↓reduceIte] | rfl) ?_)
  refine OpsE_nil ?_
  repeat (first | refine R_seq ?_ | refine R_block ?_ | refine R_skip ?_)
  refine R_ret ?_
  exact ⟨trivial, _, rfl, rfl, rfl⟩
end Go.Proofs.Try
