/-
  Seat a: the counter advances.
-/
import Derived.Test.YtbknblppjhfkmaaA7
namespace Go.Proofs.Try
open Go Go.Pm
set_option linter.unusedVariables false
set_option linter.unusedSimpArgs false
set_option maxRecDepth 2000

theorem nextFrom_len (dims : List Int) : ∀ (m : Nat) (js : List Int), (nextFrom dims m js).1.length = js.length
  | 0, js => rfl
  | m + 1, js => by
    rw [nextFrom]
    split
    · simp
    · rw [nextFrom_len dims m]; simp
theorem nextFrom_ok (dims : List Int) : ∀ (m : Nat) (js : List Int), (nextFrom dims m js).2.2 = true → ∃ q, q < m ∧ (nextFrom dims m js).2.1 = (q : Int)
  | 0, js, h => by simp [nextFrom] at h
  | m + 1, js, h => by
    rw [nextFrom] at h ⊢
    split
    · exact ⟨m, Nat.lt_succ_self m, rfl⟩
    · rename_i hc
      rw [if_neg hc] at h
      obtain ⟨q, h1, h2⟩ := nextFrom_ok dims m _ h
      exact ⟨q, by omega, h2⟩
/-- what the loops within take back -/
def subW (dims st : List Int) (w : Int) (lo i : Nat) : Int := (List.range' lo (i - lo)).foldl (fun w i => IntKind.i64.wrap (w - IntKind.i64.wrap (IntKind.i64.wrap (dims.getD i 0 - 1) * st.getD i 0))) w
theorem subW_succ {dims st : List Int} {w : Int} {lo i : Nat} (h : lo ≤ i) : subW dims st w lo (i + 1) = IntKind.i64.wrap (subW dims st w lo i - IntKind.i64.wrap (IntKind.i64.wrap (dims.getD i 0 - 1) * st.getD i 0)) := by
  rw [subW, subW, show i + 1 - lo = (i - lo) + 1 by omega, List.range'_1_concat, List.foldl_append, show lo + (i - lo) = i by omega]; rfl
theorem subW_self (dims st : List Int) (w : Int) (lo : Nat) : subW dims st w lo lo = w := by simp [subW]
/-- the sum after the loop q has been advanced -/
def moved (dims st : List Int) (w : Int) (q : Nat) : Int := subW dims st (IntKind.i64.wrap (w + st.getD q 0)) (q + 1) dims.length

theorem c36_no (n : Nst) (js : List Int) (k : Nat) (w a : Int) (e : Evt) (hk : js.length = k) (hd : n.dims.length = k) (hl : k ≤ 1048576) (hno : (nextFrom n.dims k js).2.2 = false) :
    PC prog env 36 [.ptr 3 0] [.box [.dat (intsD n.dims), .dat (intD n.write), .dat (intsD n.steps), .dat (intD n.read.kind), .dat (intD n.read.buffer), .dat (intD n.read.base), .dat (intsD n.read.strides), .dat (intD n.read.start), .dat (intD n.read.step), .dat (intD n.read.mod)], .box [.dat (intsD n.dims), .dat (intD n.write), .dat (intsD n.steps), .dat (intD n.read.kind), .dat (intD n.read.buffer), .dat (intD n.read.base), .dat (intsD n.read.strides), .dat (intD n.read.start), .dat (intD n.read.step), .dat (intD n.read.mod)], .box (js.map fun m => .dat (intD m)), .box [.arr 2 0 k k, .dat (intsD n.dims), .dat (intsD n.dims), .dat (intD n.write), .dat (intsD n.steps), .dat (intD n.read.kind), .dat (intD n.read.buffer), .dat (intD n.read.base), .dat (intsD n.read.strides), .dat (intD n.read.start), .dat (intD n.read.step), .dat (intD n.read.mod), .dat (intD (w)), .dat (intD (a))], e.box, n.read.box] (boolPV false) [.box [.dat (intsD n.dims), .dat (intD n.write), .dat (intsD n.steps), .dat (intD n.read.kind), .dat (intD n.read.buffer), .dat (intD n.read.base), .dat (intsD n.read.strides), .dat (intD n.read.start), .dat (intD n.read.step), .dat (intD n.read.mod)], .box [.dat (intsD n.dims), .dat (intD n.write), .dat (intsD n.steps), .dat (intD n.read.kind), .dat (intD n.read.buffer), .dat (intD n.read.base), .dat (intsD n.read.strides), .dat (intD n.read.start), .dat (intD n.read.step), .dat (intD n.read.mod)], .box ((nextFrom n.dims k js).1.map fun m => .dat (intD m)), .box [.arr 2 0 k k, .dat (intsD n.dims), .dat (intsD n.dims), .dat (intD n.write), .dat (intsD n.steps), .dat (intD n.read.kind), .dat (intD n.read.buffer), .dat (intD n.read.base), .dat (intsD n.read.strides), .dat (intD n.read.start), .dat (intD n.read.step), .dat (intD n.read.mod), .dat (intD (w)), .dat (intD (a))], e.box, n.read.box] := by
  refine PC_body (fn := f36) (by kernel_rfl) rfl rfl (by kernel_rfl) rfl ?_
  refine R_eq (st' := ⟨[.ptr 3 0, .tup [], .tup [], .tup [], .tup [], .tup [], .tup [], .tup [], .tup [], .tup [], .tup [], .tup [], .tup [], .tup [], .tup [], .tup [], .tup [], .tup [], .tup [], .tup [], .tup [], .tup [], .tup [], .tup [], .tup [], .tup [], .tup [], .tup [], .tup [], .tup [], .tup [], .tup [], .tup [], .tup [], .tup [], .tup [], .tup [], .tup [], .tup [], .tup [], .tup [], .tup [], .tup [], .tup [], .tup [], .tup [], .tup [], .tup [], .tup [], .tup [], .tup [], .tup [], .tup [], .tup [], .tup [], .tup [], .tup [], .tup [], .tup [], .tup [], .tup [], .tup [], .tup [], .tup [], .tup [], .tup [], .tup [], .tup [], .tup [], .tup [], .tup [], .tup [], .tup [], .tup [], .tup [], .tup [], .tup [], .tup [], .tup [], .tup [], .tup [], .tup [], .tup [], .tup [], .tup [], .tup [], .tup [], .tup [], .tup [], .tup [], .tup [], .tup [], .tup [], .tup [], .tup [], .tup [], .tup [], .tup [], .tup [], .tup [], .tup [], .tup [], .tup [], .tup [], .tup [], .tup [], .tup [], .tup [], .tup [], .tup [], .tup [], .tup [], .tup [], .tup [], .tup [], .tup [], .tup [], .tup [], .tup [], .tup [], .tup [], .tup [], .tup [], .tup [], .tup [], .tup [], .tup [], .tup [], .tup []], [.box [.dat (intsD n.dims), .dat (intD n.write), .dat (intsD n.steps), .dat (intD n.read.kind), .dat (intD n.read.buffer), .dat (intD n.read.base), .dat (intsD n.read.strides), .dat (intD n.read.start), .dat (intD n.read.step), .dat (intD n.read.mod)], .box [.dat (intsD n.dims), .dat (intD n.write), .dat (intsD n.steps), .dat (intD n.read.kind), .dat (intD n.read.buffer), .dat (intD n.read.base), .dat (intsD n.read.strides), .dat (intD n.read.start), .dat (intD n.read.step), .dat (intD n.read.mod)], .box (js.map fun m => .dat (intD m)), .box [.arr 2 0 k k, .dat (intsD n.dims), .dat (intsD n.dims), .dat (intD n.write), .dat (intsD n.steps), .dat (intD n.read.kind), .dat (intD n.read.buffer), .dat (intD n.read.base), .dat (intsD n.read.strides), .dat (intD n.read.start), .dat (intD n.read.step), .dat (intD n.read.mod), .dat (intD (w)), .dat (intD (a))], e.box, n.read.box]⟩) rfl ?_
  repeat (first | refine R_seq ?_ | refine R_block ?_ | refine R_skip ?_)
  refine R_region ?_
  (refine OpsE_do rfl ?_; refine E_assign rfl rfl ?_; refine OpsE_eq (st' := _) (by first | dsimp only [n0, n1, n2, n3, n4, n5, n6, n7, n8, n9, m0, m1, m2, m3, m4, m5, m6, m7, m8, m9, o0, o1, o2, o3, o4, ↓reduceIte] | rfl) ?_)
  refine OpsE_nil ?_
  repeat (first | refine R_seq ?_ | refine R_block ?_ | refine R_skip ?_)
  refine R_region ?_
  iterate 3 ((refine OpsE_do rfl ?_; first | refine E_move rfl ?_ | refine E_nilp rfl rfl ?_ | refine E_nili rfl rfl ?_ | refine E_nilf rfl rfl ?_ | refine E_fieldp fo97_0 rfl rfl ?_ | refine E_fieldi fo97_0 rfl rfl ?_); refine OpsE_eq (st' := _) (by first | dsimp only [n0, n1, n2, n3, n4, n5, n6, n7, n8, n9, m0, m1, m2, m3, m4, m5, m6, m7, m8, m9, o0, o1, o2, o3, o4, ↓reduceIte] | rfl) ?_)
  (refine OpsE_do rfl ?_; (first | refine E_call rfl rfl rfl (c52 n js k w a e hk hd hl) ?_ | refine E_callfn rfl rfl rfl (c52 n js k w a e hk hd hl) ?_); refine OpsE_eq (st' := _) (by first | dsimp only [n0, n1, n2, n3, n4, n5, n6, n7, n8, n9, m0, m1, m2, m3, m4, m5, m6, m7, m8, m9, o0, o1, o2, o3, o4, ↓reduceIte] | rfl) ?_)
  iterate 5 ((refine OpsE_do rfl ?_; first | refine E_move rfl ?_ | refine E_extract rfl rfl rfl ?_ | refine E_assign rfl rfl ?_); refine OpsE_eq (st' := _) (by first | dsimp only [n0, n1, n2, n3, n4, n5, n6, n7, n8, n9, m0, m1, m2, m3, m4, m5, m6, m7, m8, m9, o0, o1, o2, o3, o4, ↓reduceIte] | rfl) ?_)
  refine OpsE_nil ?_
  rw [hno]
  repeat (first | refine R_seq ?_ | refine R_block ?_ | refine R_skip ?_)
  refine R_region ?_
  iterate 2 ((refine OpsE_do rfl ?_; first | refine E_move rfl ?_ | refine E_not rfl rfl ?_); refine OpsE_eq (st' := _) (by first | dsimp only [n0, n1, n2, n3, n4, n5, n6, n7, n8, n9, m0, m1, m2, m3, m4, m5, m6, m7, m8, m9, o0, o1, o2, o3, o4, ↓reduceIte] | rfl) ?_)
  refine OpsE_nil ?_
  repeat (first | refine R_seq ?_ | refine R_block ?_ | refine R_skip ?_)
  refine R_true rfl ?_
  repeat (first | refine R_seq ?_ | refine R_block ?_ | refine R_skip ?_)
  refine R_region ?_
  (refine OpsE_do rfl ?_; refine E_assign rfl rfl ?_; refine OpsE_eq (st' := _) (by first | dsimp only [n0, n1, n2, n3, n4, n5, n6, n7, n8, n9, m0, m1, m2, m3, m4, m5, m6, m7, m8, m9, o0, o1, o2, o3, o4, ↓reduceIte] | rfl) ?_)
  refine OpsE_nil ?_
  repeat (first | refine R_seq ?_ | refine R_block ?_ | refine R_skip ?_)
  refine R_ret ?_
  exact ⟨trivial, _, rfl, rfl, rfl⟩

theorem c36_yes (n : Nst) (js : List Int) (k : Nat) (w a : Int) (e : Evt) (hk : js.length = k) (hd : n.dims.length = k) (hs : n.steps.length = k) (hl : k ≤ 1048576) (q : Nat) (hq : q < k) (hkind : n.read.kind ≠ 1 → n.read.strides.length = k)
    (hyes : (nextFrom n.dims k js).2.2 = true) (hqe : (nextFrom n.dims k js).2.1 = (q : Int)) :
    PC prog env 36 [.ptr 3 0] [.box [.dat (intsD n.dims), .dat (intD n.write), .dat (intsD n.steps), .dat (intD n.read.kind), .dat (intD n.read.buffer), .dat (intD n.read.base), .dat (intsD n.read.strides), .dat (intD n.read.start), .dat (intD n.read.step), .dat (intD n.read.mod)], .box [.dat (intsD n.dims), .dat (intD n.write), .dat (intsD n.steps), .dat (intD n.read.kind), .dat (intD n.read.buffer), .dat (intD n.read.base), .dat (intsD n.read.strides), .dat (intD n.read.start), .dat (intD n.read.step), .dat (intD n.read.mod)], .box (js.map fun m => .dat (intD m)), .box [.arr 2 0 k k, .dat (intsD n.dims), .dat (intsD n.dims), .dat (intD n.write), .dat (intsD n.steps), .dat (intD n.read.kind), .dat (intD n.read.buffer), .dat (intD n.read.base), .dat (intsD n.read.strides), .dat (intD n.read.start), .dat (intD n.read.step), .dat (intD n.read.mod), .dat (intD (w)), .dat (intD (a))], e.box, n.read.box] (boolPV true) [.box [.dat (intsD n.dims), .dat (intD n.write), .dat (intsD n.steps), .dat (intD n.read.kind), .dat (intD n.read.buffer), .dat (intD n.read.base), .dat (intsD n.read.strides), .dat (intD n.read.start), .dat (intD n.read.step), .dat (intD n.read.mod)], .box [.dat (intsD n.dims), .dat (intD n.write), .dat (intsD n.steps), .dat (intD n.read.kind), .dat (intD n.read.buffer), .dat (intD n.read.base), .dat (intsD n.read.strides), .dat (intD n.read.start), .dat (intD n.read.step), .dat (intD n.read.mod)], .box ((nextFrom n.dims k js).1.map fun m => .dat (intD m)), .box [.arr 2 0 k k, .dat (intsD n.dims), .dat (intsD n.dims), .dat (intD n.write), .dat (intsD n.steps), .dat (intD n.read.kind), .dat (intD n.read.buffer), .dat (intD n.read.base), .dat (intsD n.read.strides), .dat (intD n.read.start), .dat (intD n.read.step), .dat (intD n.read.mod), .dat (intD (moved n.dims n.steps w q)), .dat (intD (if n.read.kind = 1 then a else moved n.dims n.read.strides a q))], e.box, n.read.box] := by
  refine PC_body (fn := f36) (by kernel_rfl) rfl rfl (by kernel_rfl) rfl ?_
  refine R_eq (st' := ⟨[.ptr 3 0, .tup [], .tup [], .tup [], .tup [], .tup [], .tup [], .tup [], .tup [], .tup [], .tup [], .tup [], .tup [], .tup [], .tup [], .tup [], .tup [], .tup [], .tup [], .tup [], .tup [], .tup [], .tup [], .tup [], .tup [], .tup [], .tup [], .tup [], .tup [], .tup [], .tup [], .tup [], .tup [], .tup [], .tup [], .tup [], .tup [], .tup [], .tup [], .tup [], .tup [], .tup [], .tup [], .tup [], .tup [], .tup [], .tup [], .tup [], .tup [], .tup [], .tup [], .tup [], .tup [], .tup [], .tup [], .tup [], .tup [], .tup [], .tup [], .tup [], .tup [], .tup [], .tup [], .tup [], .tup [], .tup [], .tup [], .tup [], .tup [], .tup [], .tup [], .tup [], .tup [], .tup [], .tup [], .tup [], .tup [], .tup [], .tup [], .tup [], .tup [], .tup [], .tup [], .tup [], .tup [], .tup [], .tup [], .tup [], .tup [], .tup [], .tup [], .tup [], .tup [], .tup [], .tup [], .tup [], .tup [], .tup [], .tup [], .tup [], .tup [], .tup [], .tup [], .tup [], .tup [], .tup [], .tup [], .tup [], .tup [], .tup [], .tup [], .tup [], .tup [], .tup [], .tup [], .tup [], .tup [], .tup [], .tup [], .tup [], .tup [], .tup [], .tup [], .tup [], .tup [], .tup [], .tup [], .tup [], .tup []], [.box [.dat (intsD n.dims), .dat (intD n.write), .dat (intsD n.steps), .dat (intD n.read.kind), .dat (intD n.read.buffer), .dat (intD n.read.base), .dat (intsD n.read.strides), .dat (intD n.read.start), .dat (intD n.read.step), .dat (intD n.read.mod)], .box [.dat (intsD n.dims), .dat (intD n.write), .dat (intsD n.steps), .dat (intD n.read.kind), .dat (intD n.read.buffer), .dat (intD n.read.base), .dat (intsD n.read.strides), .dat (intD n.read.start), .dat (intD n.read.step), .dat (intD n.read.mod)], .box (js.map fun m => .dat (intD m)), .box [.arr 2 0 k k, .dat (intsD n.dims), .dat (intsD n.dims), .dat (intD n.write), .dat (intsD n.steps), .dat (intD n.read.kind), .dat (intD n.read.buffer), .dat (intD n.read.base), .dat (intsD n.read.strides), .dat (intD n.read.start), .dat (intD n.read.step), .dat (intD n.read.mod), .dat (intD (w)), .dat (intD (a))], e.box, n.read.box]⟩) rfl ?_
  repeat (first | refine R_seq ?_ | refine R_block ?_ | refine R_skip ?_)
  refine R_region ?_
  (refine OpsE_do rfl ?_; refine E_assign rfl rfl ?_; refine OpsE_eq (st' := _) (by first | dsimp only [n0, n1, n2, n3, n4, n5, n6, n7, n8, n9, m0, m1, m2, m3, m4, m5, m6, m7, m8, m9, o0, o1, o2, o3, o4, ↓reduceIte] | rfl) ?_)
  refine OpsE_nil ?_
  repeat (first | refine R_seq ?_ | refine R_block ?_ | refine R_skip ?_)
  refine R_region ?_
  iterate 3 ((refine OpsE_do rfl ?_; first | refine E_move rfl ?_ | refine E_nilp rfl rfl ?_ | refine E_nili rfl rfl ?_ | refine E_nilf rfl rfl ?_ | refine E_fieldp fo97_0 rfl rfl ?_ | refine E_fieldi fo97_0 rfl rfl ?_); refine OpsE_eq (st' := _) (by first | dsimp only [n0, n1, n2, n3, n4, n5, n6, n7, n8, n9, m0, m1, m2, m3, m4, m5, m6, m7, m8, m9, o0, o1, o2, o3, o4, ↓reduceIte] | rfl) ?_)
  (refine OpsE_do rfl ?_; (first | refine E_call rfl rfl rfl (c52 n js k w a e hk hd hl) ?_ | refine E_callfn rfl rfl rfl (c52 n js k w a e hk hd hl) ?_); refine OpsE_eq (st' := _) (by first | dsimp only [n0, n1, n2, n3, n4, n5, n6, n7, n8, n9, m0, m1, m2, m3, m4, m5, m6, m7, m8, m9, o0, o1, o2, o3, o4, ↓reduceIte] | rfl) ?_)
  iterate 5 ((refine OpsE_do rfl ?_; first | refine E_move rfl ?_ | refine E_extract rfl rfl rfl ?_ | refine E_assign rfl rfl ?_); refine OpsE_eq (st' := _) (by first | dsimp only [n0, n1, n2, n3, n4, n5, n6, n7, n8, n9, m0, m1, m2, m3, m4, m5, m6, m7, m8, m9, o0, o1, o2, o3, o4, ↓reduceIte] | rfl) ?_)
  refine OpsE_nil ?_
  rw [hyes, hqe]
  generalize (nextFrom n.dims k js).1 = js'
  have hqs : q < n.steps.length := by omega
  have s1 : n.steps.getD q 0 = n.steps[q] := by simp [hqs]
  repeat (first | refine R_seq ?_ | refine R_block ?_ | refine R_skip ?_)
  refine R_region ?_
  iterate 2 ((refine OpsE_do rfl ?_; first | refine E_move rfl ?_ | refine E_not rfl rfl ?_); refine OpsE_eq (st' := _) (by first | dsimp only [n0, n1, n2, n3, n4, n5, n6, n7, n8, n9, m0, m1, m2, m3, m4, m5, m6, m7, m8, m9, o0, o1, o2, o3, o4, ↓reduceIte] | rfl) ?_)
  refine OpsE_nil ?_
  repeat (first | refine R_seq ?_ | refine R_block ?_ | refine R_skip ?_)
  refine R_false rfl ?_
  repeat (first | refine R_seq ?_ | refine R_block ?_ | refine R_skip ?_)
  refine R_draw ?_
  iterate 10 ((refine DrawE_do rfl ?_; first | refine E_move rfl ?_ | refine E_nilp rfl rfl ?_ | refine E_nili rfl rfl ?_ | refine E_nilf rfl rfl ?_ | refine E_fieldp fo97_2 rfl rfl ?_ | refine E_fieldi fo97_2 rfl rfl ?_ | refine E_loadi (ds := [_]) ag3 sz3 rfl rfl rfl rfl ?_ | refine E_loadp (ds := [_]) ag3 sz3 rfl rfl rfl rfl rfl ?_ | refine E_fieldp fo97_1 rfl rfl ?_ | refine E_fieldi fo97_1 rfl rfl ?_ | refine E_fieldp fo53_2 rfl rfl ?_ | refine E_fieldi fo53_2 rfl rfl ?_ | refine E_loadi (ds := [_]) ag49 sz49 rfl rfl rfl rfl ?_ | refine E_loadp (ds := [_]) ag49 sz49 rfl rfl rfl rfl rfl ?_); refine DrawE_eq (st' := _) (by first | dsimp only [n0, n1, n2, n3, n4, n5, n6, n7, n8, n9, m0, m1, m2, m3, m4, m5, m6, m7, m8, m9, o0, o1, o2, o3, o4, ↓reduceIte] | rfl) ?_)
  (refine DrawE_do rfl ?_; (first | refine E_index el49 sz3 rfl rfl rfl rfl (ints_get hqs) rfl ?_ | refine E_index0 el49 sz3 rfl rfl rfl rfl (ints_get hqs) ?_ | refine E_indexArr el49 sz3 rfl rfl rfl rfl (ints_get hqs) ?_); refine DrawE_eq (st' := _) (by first | dsimp only [n0, n1, n2, n3, n4, n5, n6, n7, n8, n9, m0, m1, m2, m3, m4, m5, m6, m7, m8, m9, o0, o1, o2, o3, o4, ↓reduceIte] | rfl) ?_)
  iterate 5 ((refine DrawE_do rfl ?_; first | refine E_loadi (ds := [_]) ag3 sz3 rfl rfl rfl rfl ?_ | refine E_loadp (ds := [_]) ag3 sz3 rfl rfl rfl rfl rfl ?_ | refine E_int rfl rfl rfl rfl ?_ | refine E_nilp rfl rfl ?_ | refine E_nili rfl rfl ?_ | refine E_nilf rfl rfl ?_ | refine E_fieldp fo97_2 rfl rfl ?_ | refine E_fieldi fo97_2 rfl rfl ?_ | refine E_store (vs := [_]) sz3 rfl rfl rfl rfl rfl rfl rfl ?_); refine DrawE_eq (st' := _) (by first | dsimp only [n0, n1, n2, n3, n4, n5, n6, n7, n8, n9, m0, m1, m2, m3, m4, m5, m6, m7, m8, m9, o0, o1, o2, o3, o4, ↓reduceIte] | rfl) ?_)
  refine DrawE_nil ⟨by kernel_rfl, ?_⟩
  repeat (first | refine R_seq ?_ | refine R_block ?_ | refine R_skip ?_)
  refine R_region ?_
  iterate 3 ((refine OpsE_do rfl ?_; first | refine E_move rfl ?_ | refine E_int rfl rfl rfl rfl ?_ | refine E_assign rfl rfl ?_); refine OpsE_eq (st' := _) (by first | dsimp only [n0, n1, n2, n3, n4, n5, n6, n7, n8, n9, m0, m1, m2, m3, m4, m5, m6, m7, m8, m9, o0, o1, o2, o3, o4, ↓reduceIte] | rfl) ?_)
  refine OpsE_nil ?_
  repeat (first | refine R_seq ?_ | refine R_block ?_ | refine R_skip ?_)
  refine R_loop ?_
  refine RL_ind (fun (i : Nat) => ⟨[.ptr 3 0, .undef, .undef, intPV (q : Int), .undef, intPV (i : Int), .undef, .undef, .undef, .undef, .undef, .undef, .undef, .undef, .undef, .undef, .undef, .undef, .undef, .undef, .undef, .undef, .undef, .undef, .undef, .undef, .undef, .undef, .undef, .undef, .undef, .undef, .undef, .undef, .undef, .undef, .undef, .undef, .undef, .undef, .undef, .undef, .undef, .undef, .undef, .undef, .undef, .undef, .undef, .undef, .undef, .undef, .undef, .undef, .undef, .undef, .undef, .undef, .undef, .undef, .undef, .undef, .undef, .undef, .undef, .undef, .undef, .undef, .undef, .undef, .undef, .undef, .undef, .undef, .undef, .undef, .undef, .undef, .undef, .undef, .undef, .undef, .undef, .undef, .undef, .undef, .undef, .undef, .undef, .undef, .undef, .undef, .undef, .undef, .undef, .undef, .undef, .undef, .undef, .undef, .undef, .undef, .undef, .undef, .undef, .undef, .undef, .undef, .undef, .undef, .undef, .undef, .undef, .undef, .undef, .undef, .undef, .undef, .undef, .undef, .undef, .undef, .undef, .undef, .undef, .undef, .undef, .undef, .undef], [.box [.dat (intsD n.dims), .dat (intD n.write), .dat (intsD n.steps), .dat (intD n.read.kind), .dat (intD n.read.buffer), .dat (intD n.read.base), .dat (intsD n.read.strides), .dat (intD n.read.start), .dat (intD n.read.step), .dat (intD n.read.mod)], .box [.dat (intsD n.dims), .dat (intD n.write), .dat (intsD n.steps), .dat (intD n.read.kind), .dat (intD n.read.buffer), .dat (intD n.read.base), .dat (intsD n.read.strides), .dat (intD n.read.start), .dat (intD n.read.step), .dat (intD n.read.mod)], .box (js'.map fun m => .dat (intD m)), .box [.arr 2 0 k k, .dat (intsD n.dims), .dat (intsD n.dims), .dat (intD n.write), .dat (intsD n.steps), .dat (intD n.read.kind), .dat (intD n.read.buffer), .dat (intD n.read.base), .dat (intsD n.read.strides), .dat (intD n.read.start), .dat (intD n.read.step), .dat (intD n.read.mod), .dat (intD (subW n.dims n.steps (IntKind.i64.wrap (w + n.steps.getD q 0)) (q + 1) i)), .dat (intD (a))], e.box, n.read.box]⟩)
    (fun i => q + 1 ≤ i ∧ i ≤ k) (fun i => k - i) (fun i hi => ?_) _ (q + 1) _ (Nat.lt_succ_self _) ⟨Nat.le_refl _, hq⟩ (by refine (prune6 rfl).trans ?_; rw [purge_js, wrap_succ (by omega), subW_self, s1]; rfl)
  obtain ⟨hi1, hi2⟩ := hi
  repeat (first | refine R_seq ?_ | refine R_block ?_ | refine R_skip ?_)
  refine R_region ?_
  iterate 8 ((refine OpsE_do rfl ?_; first | refine E_move rfl ?_ | refine E_nilp rfl rfl ?_ | refine E_nili rfl rfl ?_ | refine E_nilf rfl rfl ?_ | refine E_fieldp fo97_0 rfl rfl ?_ | refine E_fieldi fo97_0 rfl rfl ?_ | refine E_fieldp fo95_1 rfl rfl ?_ | refine E_fieldi fo95_1 rfl rfl ?_ | refine E_loadi (ds := [_]) ag49 sz49 rfl rfl rfl rfl ?_ | refine E_loadp (ds := [_]) ag49 sz49 rfl rfl rfl rfl rfl ?_ | refine E_len un49 rfl rfl ?_ | refine E_int rfl rfl rfl rfl ?_); refine OpsE_eq (st' := _) (by first | dsimp only [n0, n1, n2, n3, n4, n5, n6, n7, n8, n9, m0, m1, m2, m3, m4, m5, m6, m7, m8, m9, o0, o1, o2, o3, o4, ↓reduceIte] | rfl) ?_)
  refine OpsE_nil ?_
  repeat (first | refine R_seq ?_ | refine R_block ?_ | refine R_skip ?_)
  refine R_if rfl (fun h => ?_) (fun h => ?_)
  · have hi' : i < k := by simp at h; omega
    have hid : i < n.dims.length := by omega
    have his : i < n.steps.length := by omega
    have t1 : n.steps.getD i 0 = n.steps[i] := by simp [his]
    have t2 : n.dims.getD i 0 = n.dims[i] := by simp [hid]
    repeat (first | refine R_seq ?_ | refine R_block ?_ | refine R_skip ?_)
    refine R_draw ?_
    iterate 10 ((refine DrawE_do rfl ?_; first | refine E_move rfl ?_ | refine E_nilp rfl rfl ?_ | refine E_nili rfl rfl ?_ | refine E_nilf rfl rfl ?_ | refine E_fieldp fo97_2 rfl rfl ?_ | refine E_fieldi fo97_2 rfl rfl ?_ | refine E_loadi (ds := [_]) ag3 sz3 rfl rfl rfl rfl ?_ | refine E_loadp (ds := [_]) ag3 sz3 rfl rfl rfl rfl rfl ?_ | refine E_fieldp fo97_0 rfl rfl ?_ | refine E_fieldi fo97_0 rfl rfl ?_ | refine E_fieldp fo95_1 rfl rfl ?_ | refine E_fieldi fo95_1 rfl rfl ?_ | refine E_loadi (ds := [_]) ag49 sz49 rfl rfl rfl rfl ?_ | refine E_loadp (ds := [_]) ag49 sz49 rfl rfl rfl rfl rfl ?_); refine DrawE_eq (st' := _) (by first | dsimp only [n0, n1, n2, n3, n4, n5, n6, n7, n8, n9, m0, m1, m2, m3, m4, m5, m6, m7, m8, m9, o0, o1, o2, o3, o4, ↓reduceIte] | rfl) ?_)
    (refine DrawE_do rfl ?_; (first | refine E_index el49 sz3 rfl rfl rfl rfl (ints_get hid) rfl ?_ | refine E_index0 el49 sz3 rfl rfl rfl rfl (ints_get hid) ?_ | refine E_indexArr el49 sz3 rfl rfl rfl rfl (ints_get hid) ?_); refine DrawE_eq (st' := _) (by first | dsimp only [n0, n1, n2, n3, n4, n5, n6, n7, n8, n9, m0, m1, m2, m3, m4, m5, m6, m7, m8, m9, o0, o1, o2, o3, o4, ↓reduceIte] | rfl) ?_)
    iterate 8 ((refine DrawE_do rfl ?_; first | refine E_loadi (ds := [_]) ag3 sz3 rfl rfl rfl rfl ?_ | refine E_loadp (ds := [_]) ag3 sz3 rfl rfl rfl rfl rfl ?_ | refine E_int rfl rfl rfl rfl ?_ | refine E_move rfl ?_ | refine E_nilp rfl rfl ?_ | refine E_nili rfl rfl ?_ | refine E_nilf rfl rfl ?_ | refine E_fieldp fo97_1 rfl rfl ?_ | refine E_fieldi fo97_1 rfl rfl ?_ | refine E_fieldp fo53_2 rfl rfl ?_ | refine E_fieldi fo53_2 rfl rfl ?_ | refine E_loadi (ds := [_]) ag49 sz49 rfl rfl rfl rfl ?_ | refine E_loadp (ds := [_]) ag49 sz49 rfl rfl rfl rfl rfl ?_); refine DrawE_eq (st' := _) (by first | dsimp only [n0, n1, n2, n3, n4, n5, n6, n7, n8, n9, m0, m1, m2, m3, m4, m5, m6, m7, m8, m9, o0, o1, o2, o3, o4, ↓reduceIte] | rfl) ?_)
    (refine DrawE_do rfl ?_; (first | refine E_index el49 sz3 rfl rfl rfl rfl (ints_get his) rfl ?_ | refine E_index0 el49 sz3 rfl rfl rfl rfl (ints_get his) ?_ | refine E_indexArr el49 sz3 rfl rfl rfl rfl (ints_get his) ?_); refine DrawE_eq (st' := _) (by first | dsimp only [n0, n1, n2, n3, n4, n5, n6, n7, n8, n9, m0, m1, m2, m3, m4, m5, m6, m7, m8, m9, o0, o1, o2, o3, o4, ↓reduceIte] | rfl) ?_)
    iterate 6 ((refine DrawE_do rfl ?_; first | refine E_loadi (ds := [_]) ag3 sz3 rfl rfl rfl rfl ?_ | refine E_loadp (ds := [_]) ag3 sz3 rfl rfl rfl rfl rfl ?_ | refine E_int rfl rfl rfl rfl ?_ | refine E_nilp rfl rfl ?_ | refine E_nili rfl rfl ?_ | refine E_nilf rfl rfl ?_ | refine E_fieldp fo97_2 rfl rfl ?_ | refine E_fieldi fo97_2 rfl rfl ?_ | refine E_store (vs := [_]) sz3 rfl rfl rfl rfl rfl rfl rfl ?_); refine DrawE_eq (st' := _) (by first | dsimp only [n0, n1, n2, n3, n4, n5, n6, n7, n8, n9, m0, m1, m2, m3, m4, m5, m6, m7, m8, m9, o0, o1, o2, o3, o4, ↓reduceIte] | rfl) ?_)
    refine DrawE_nil ⟨by kernel_rfl, ?_⟩
    repeat (first | refine R_seq ?_ | refine R_block ?_ | refine R_skip ?_)
    refine R_region ?_
    iterate 3 ((refine OpsE_do rfl ?_; first | refine E_move rfl ?_ | refine E_int rfl rfl rfl rfl ?_ | refine E_assign rfl rfl ?_); refine OpsE_eq (st' := _) (by first | dsimp only [n0, n1, n2, n3, n4, n5, n6, n7, n8, n9, m0, m1, m2, m3, m4, m5, m6, m7, m8, m9, o0, o1, o2, o3, o4, ↓reduceIte] | rfl) ?_)
    refine OpsE_nil ?_
    refine ⟨i + 1, ?_, by omega, by omega, hi'⟩
    rw [subW_succ hi1, t1, t2]
    refine (prune6 rfl).trans ?_
    rw [purge_js, wrap_succ (by omega)]
    rfl
  · have hi' : i = k := by simp at h; omega
    have hmv : subW n.dims n.steps (IntKind.i64.wrap (w + n.steps.getD q 0)) (q + 1) i = moved n.dims n.steps w q := by rw [moved, hd, hi']
    rw [hmv]
    generalize moved n.dims n.steps w q = w'
    repeat (first | refine R_seq ?_ | refine R_block ?_ | refine R_skip ?_)
    refine R_exit ?_
    repeat (first | refine R_seq ?_ | refine R_block ?_ | refine R_skip ?_)
    refine R_region ?_
    iterate 7 ((refine OpsE_do rfl ?_; first | refine E_move rfl ?_ | refine E_nilp rfl rfl ?_ | refine E_nili rfl rfl ?_ | refine E_nilf rfl rfl ?_ | refine E_fieldp fo97_1 rfl rfl ?_ | refine E_fieldi fo97_1 rfl rfl ?_ | refine E_fieldp fo53_3 rfl rfl ?_ | refine E_fieldi fo53_3 rfl rfl ?_ | refine E_fieldp fo51_0 rfl rfl ?_ | refine E_fieldi fo51_0 rfl rfl ?_ | refine E_loadi (ds := [_]) ag3 sz3 rfl rfl rfl rfl ?_ | refine E_loadp (ds := [_]) ag3 sz3 rfl rfl rfl rfl rfl ?_ | refine E_int rfl rfl rfl rfl ?_); refine OpsE_eq (st' := _) (by first | dsimp only [n0, n1, n2, n3, n4, n5, n6, n7, n8, n9, m0, m1, m2, m3, m4, m5, m6, m7, m8, m9, o0, o1, o2, o3, o4, ↓reduceIte] | rfl) ?_)
    refine OpsE_nil ?_
    repeat (first | refine R_seq ?_ | refine R_block ?_ | refine R_skip ?_)
    refine R_cond rfl (fun hk1 => ?_) (fun hk1 => ?_)
    · have hk1' : n.read.kind ≠ 1 := by simpa using hk1
      have hst := hkind hk1'
      have hqt : q < n.read.strides.length := by omega
      have u1 : n.read.strides.getD q 0 = n.read.strides[q] := by simp [hqt]
      repeat (first | refine R_seq ?_ | refine R_block ?_ | refine R_skip ?_)
      refine R_draw ?_
      iterate 11 ((refine DrawE_do rfl ?_; first | refine E_move rfl ?_ | refine E_nilp rfl rfl ?_ | refine E_nili rfl rfl ?_ | refine E_nilf rfl rfl ?_ | refine E_fieldp fo97_3 rfl rfl ?_ | refine E_fieldi fo97_3 rfl rfl ?_ | refine E_loadi (ds := [_]) ag3 sz3 rfl rfl rfl rfl ?_ | refine E_loadp (ds := [_]) ag3 sz3 rfl rfl rfl rfl rfl ?_ | refine E_fieldp fo97_1 rfl rfl ?_ | refine E_fieldi fo97_1 rfl rfl ?_ | refine E_fieldp fo53_3 rfl rfl ?_ | refine E_fieldi fo53_3 rfl rfl ?_ | refine E_fieldp fo51_3 rfl rfl ?_ | refine E_fieldi fo51_3 rfl rfl ?_ | refine E_loadi (ds := [_]) ag49 sz49 rfl rfl rfl rfl ?_ | refine E_loadp (ds := [_]) ag49 sz49 rfl rfl rfl rfl rfl ?_); refine DrawE_eq (st' := _) (by first | dsimp only [n0, n1, n2, n3, n4, n5, n6, n7, n8, n9, m0, m1, m2, m3, m4, m5, m6, m7, m8, m9, o0, o1, o2, o3, o4, ↓reduceIte] | rfl) ?_)
      (refine DrawE_do rfl ?_; (first | refine E_index el49 sz3 rfl rfl rfl rfl (ints_get hqt) rfl ?_ | refine E_index0 el49 sz3 rfl rfl rfl rfl (ints_get hqt) ?_ | refine E_indexArr el49 sz3 rfl rfl rfl rfl (ints_get hqt) ?_); refine DrawE_eq (st' := _) (by first | dsimp only [n0, n1, n2, n3, n4, n5, n6, n7, n8, n9, m0, m1, m2, m3, m4, m5, m6, m7, m8, m9, o0, o1, o2, o3, o4, ↓reduceIte] | rfl) ?_)
      iterate 5 ((refine DrawE_do rfl ?_; first | refine E_loadi (ds := [_]) ag3 sz3 rfl rfl rfl rfl ?_ | refine E_loadp (ds := [_]) ag3 sz3 rfl rfl rfl rfl rfl ?_ | refine E_int rfl rfl rfl rfl ?_ | refine E_nilp rfl rfl ?_ | refine E_nili rfl rfl ?_ | refine E_nilf rfl rfl ?_ | refine E_fieldp fo97_3 rfl rfl ?_ | refine E_fieldi fo97_3 rfl rfl ?_ | refine E_store (vs := [_]) sz3 rfl rfl rfl rfl rfl rfl rfl ?_); refine DrawE_eq (st' := _) (by first | dsimp only [n0, n1, n2, n3, n4, n5, n6, n7, n8, n9, m0, m1, m2, m3, m4, m5, m6, m7, m8, m9, o0, o1, o2, o3, o4, ↓reduceIte] | rfl) ?_)
      refine DrawE_nil ⟨by kernel_rfl, ?_⟩
      repeat (first | refine R_seq ?_ | refine R_block ?_ | refine R_skip ?_)
      refine R_region ?_
      iterate 3 ((refine OpsE_do rfl ?_; first | refine E_move rfl ?_ | refine E_int rfl rfl rfl rfl ?_ | refine E_assign rfl rfl ?_); refine OpsE_eq (st' := _) (by first | dsimp only [n0, n1, n2, n3, n4, n5, n6, n7, n8, n9, m0, m1, m2, m3, m4, m5, m6, m7, m8, m9, o0, o1, o2, o3, o4, ↓reduceIte] | rfl) ?_)
      refine OpsE_nil ?_
      repeat (first | refine R_seq ?_ | refine R_block ?_ | refine R_skip ?_)
      refine R_loop ?_
      refine RL_ind (fun (i : Nat) => ⟨[.ptr 3 0, .undef, .undef, .undef, .undef, .undef, intPV (i : Int), .undef, .undef, .undef, .undef, .undef, .undef, .undef, .undef, .undef, .undef, .undef, .undef, .undef, .undef, .undef, .undef, .undef, .undef, .undef, .undef, .undef, .undef, .undef, .undef, .undef, .undef, .undef, .undef, .undef, .undef, .undef, .undef, .undef, .undef, .undef, .undef, .undef, .undef, .undef, .undef, .undef, .undef, .undef, .undef, .undef, .undef, .undef, .undef, .undef, .undef, .undef, .undef, .undef, .undef, .undef, .undef, .undef, .undef, .undef, .undef, .undef, .undef, .undef, .undef, .undef, .undef, .undef, .undef, .undef, .undef, .undef, .undef, .undef, .undef, .undef, .undef, .undef, .undef, .undef, .undef, .undef, .undef, .undef, .undef, .undef, .undef, .undef, .undef, .undef, .undef, .undef, .undef, .undef, .undef, .undef, .undef, .undef, .undef, .undef, .undef, .undef, .undef, .undef, .undef, .undef, .undef, .undef, .undef, .undef, .undef, .undef, .undef, .undef, .undef, .undef, .undef, .undef, .undef, .undef, .undef, .undef, .undef], [.box [.dat (intsD n.dims), .dat (intD n.write), .dat (intsD n.steps), .dat (intD n.read.kind), .dat (intD n.read.buffer), .dat (intD n.read.base), .dat (intsD n.read.strides), .dat (intD n.read.start), .dat (intD n.read.step), .dat (intD n.read.mod)], .box [.dat (intsD n.dims), .dat (intD n.write), .dat (intsD n.steps), .dat (intD n.read.kind), .dat (intD n.read.buffer), .dat (intD n.read.base), .dat (intsD n.read.strides), .dat (intD n.read.start), .dat (intD n.read.step), .dat (intD n.read.mod)], .box (js'.map fun m => .dat (intD m)), .box [.arr 2 0 k k, .dat (intsD n.dims), .dat (intsD n.dims), .dat (intD n.write), .dat (intsD n.steps), .dat (intD n.read.kind), .dat (intD n.read.buffer), .dat (intD n.read.base), .dat (intsD n.read.strides), .dat (intD n.read.start), .dat (intD n.read.step), .dat (intD n.read.mod), .dat (intD (w')), .dat (intD (subW n.dims n.read.strides (IntKind.i64.wrap (a + n.read.strides.getD q 0)) (q + 1) i))], e.box, n.read.box]⟩)
        (fun i => q + 1 ≤ i ∧ i ≤ k) (fun i => k - i) (fun i hi => ?_) _ (q + 1) _ (Nat.lt_succ_self _) ⟨Nat.le_refl _, hq⟩ (by refine (prune6 rfl).trans ?_; rw [purge_js, wrap_succ (by omega), subW_self, u1]; rfl)
      obtain ⟨hi1, hi2⟩ := hi
      repeat (first | refine R_seq ?_ | refine R_block ?_ | refine R_skip ?_)
      refine R_region ?_
      iterate 8 ((refine OpsE_do rfl ?_; first | refine E_move rfl ?_ | refine E_nilp rfl rfl ?_ | refine E_nili rfl rfl ?_ | refine E_nilf rfl rfl ?_ | refine E_fieldp fo97_0 rfl rfl ?_ | refine E_fieldi fo97_0 rfl rfl ?_ | refine E_fieldp fo95_1 rfl rfl ?_ | refine E_fieldi fo95_1 rfl rfl ?_ | refine E_loadi (ds := [_]) ag49 sz49 rfl rfl rfl rfl ?_ | refine E_loadp (ds := [_]) ag49 sz49 rfl rfl rfl rfl rfl ?_ | refine E_len un49 rfl rfl ?_ | refine E_int rfl rfl rfl rfl ?_); refine OpsE_eq (st' := _) (by first | dsimp only [n0, n1, n2, n3, n4, n5, n6, n7, n8, n9, m0, m1, m2, m3, m4, m5, m6, m7, m8, m9, o0, o1, o2, o3, o4, ↓reduceIte] | rfl) ?_)
      refine OpsE_nil ?_
      repeat (first | refine R_seq ?_ | refine R_block ?_ | refine R_skip ?_)
      refine R_if rfl (fun h => ?_) (fun h => ?_)
      · have hi' : i < k := by simp at h; omega
        have hid : i < n.dims.length := by omega
        have his : i < n.read.strides.length := by omega
        have t1 : n.read.strides.getD i 0 = n.read.strides[i] := by simp [his]
        have t2 : n.dims.getD i 0 = n.dims[i] := by simp [hid]
        repeat (first | refine R_seq ?_ | refine R_block ?_ | refine R_skip ?_)
        refine R_draw ?_
        iterate 10 ((refine DrawE_do rfl ?_; first | refine E_move rfl ?_ | refine E_nilp rfl rfl ?_ | refine E_nili rfl rfl ?_ | refine E_nilf rfl rfl ?_ | refine E_fieldp fo97_3 rfl rfl ?_ | refine E_fieldi fo97_3 rfl rfl ?_ | refine E_loadi (ds := [_]) ag3 sz3 rfl rfl rfl rfl ?_ | refine E_loadp (ds := [_]) ag3 sz3 rfl rfl rfl rfl rfl ?_ | refine E_fieldp fo97_0 rfl rfl ?_ | refine E_fieldi fo97_0 rfl rfl ?_ | refine E_fieldp fo95_1 rfl rfl ?_ | refine E_fieldi fo95_1 rfl rfl ?_ | refine E_loadi (ds := [_]) ag49 sz49 rfl rfl rfl rfl ?_ | refine E_loadp (ds := [_]) ag49 sz49 rfl rfl rfl rfl rfl ?_); refine DrawE_eq (st' := _) (by first | dsimp only [n0, n1, n2, n3, n4, n5, n6, n7, n8, n9, m0, m1, m2, m3, m4, m5, m6, m7, m8, m9, o0, o1, o2, o3, o4, ↓reduceIte] | rfl) ?_)
        (refine DrawE_do rfl ?_; (first | refine E_index el49 sz3 rfl rfl rfl rfl (ints_get hid) rfl ?_ | refine E_index0 el49 sz3 rfl rfl rfl rfl (ints_get hid) ?_ | refine E_indexArr el49 sz3 rfl rfl rfl rfl (ints_get hid) ?_); refine DrawE_eq (st' := _) (by first | dsimp only [n0, n1, n2, n3, n4, n5, n6, n7, n8, n9, m0, m1, m2, m3, m4, m5, m6, m7, m8, m9, o0, o1, o2, o3, o4, ↓reduceIte] | rfl) ?_)
        iterate 9 ((refine DrawE_do rfl ?_; first | refine E_loadi (ds := [_]) ag3 sz3 rfl rfl rfl rfl ?_ | refine E_loadp (ds := [_]) ag3 sz3 rfl rfl rfl rfl rfl ?_ | refine E_int rfl rfl rfl rfl ?_ | refine E_move rfl ?_ | refine E_nilp rfl rfl ?_ | refine E_nili rfl rfl ?_ | refine E_nilf rfl rfl ?_ | refine E_fieldp fo97_1 rfl rfl ?_ | refine E_fieldi fo97_1 rfl rfl ?_ | refine E_fieldp fo53_3 rfl rfl ?_ | refine E_fieldi fo53_3 rfl rfl ?_ | refine E_fieldp fo51_3 rfl rfl ?_ | refine E_fieldi fo51_3 rfl rfl ?_ | refine E_loadi (ds := [_]) ag49 sz49 rfl rfl rfl rfl ?_ | refine E_loadp (ds := [_]) ag49 sz49 rfl rfl rfl rfl rfl ?_); refine DrawE_eq (st' := _) (by first | dsimp only [n0, n1, n2, n3, n4, n5, n6, n7, n8, n9, m0, m1, m2, m3, m4, m5, m6, m7, m8, m9, o0, o1, o2, o3, o4, ↓reduceIte] | rfl) ?_)
        (refine DrawE_do rfl ?_; (first | refine E_index el49 sz3 rfl rfl rfl rfl (ints_get his) rfl ?_ | refine E_index0 el49 sz3 rfl rfl rfl rfl (ints_get his) ?_ | refine E_indexArr el49 sz3 rfl rfl rfl rfl (ints_get his) ?_); refine DrawE_eq (st' := _) (by first | dsimp only [n0, n1, n2, n3, n4, n5, n6, n7, n8, n9, m0, m1, m2, m3, m4, m5, m6, m7, m8, m9, o0, o1, o2, o3, o4, ↓reduceIte] | rfl) ?_)
        iterate 6 ((refine DrawE_do rfl ?_; first | refine E_loadi (ds := [_]) ag3 sz3 rfl rfl rfl rfl ?_ | refine E_loadp (ds := [_]) ag3 sz3 rfl rfl rfl rfl rfl ?_ | refine E_int rfl rfl rfl rfl ?_ | refine E_nilp rfl rfl ?_ | refine E_nili rfl rfl ?_ | refine E_nilf rfl rfl ?_ | refine E_fieldp fo97_3 rfl rfl ?_ | refine E_fieldi fo97_3 rfl rfl ?_ | refine E_store (vs := [_]) sz3 rfl rfl rfl rfl rfl rfl rfl ?_); refine DrawE_eq (st' := _) (by first | dsimp only [n0, n1, n2, n3, n4, n5, n6, n7, n8, n9, m0, m1, m2, m3, m4, m5, m6, m7, m8, m9, o0, o1, o2, o3, o4, ↓reduceIte] | rfl) ?_)
        refine DrawE_nil ⟨by kernel_rfl, ?_⟩
        repeat (first | refine R_seq ?_ | refine R_block ?_ | refine R_skip ?_)
        refine R_region ?_
        iterate 3 ((refine OpsE_do rfl ?_; first | refine E_move rfl ?_ | refine E_int rfl rfl rfl rfl ?_ | refine E_assign rfl rfl ?_); refine OpsE_eq (st' := _) (by first | dsimp only [n0, n1, n2, n3, n4, n5, n6, n7, n8, n9, m0, m1, m2, m3, m4, m5, m6, m7, m8, m9, o0, o1, o2, o3, o4, ↓reduceIte] | rfl) ?_)
        refine OpsE_nil ?_
        refine ⟨i + 1, ?_, by omega, by omega, hi'⟩
        rw [subW_succ hi1, t1, t2]
        refine (prune6 rfl).trans ?_
        rw [purge_js, wrap_succ (by omega)]
        rfl
      · have hi' : i = k := by simp at h; omega
        have hmv : subW n.dims n.read.strides (IntKind.i64.wrap (a + n.read.strides.getD q 0)) (q + 1) i = moved n.dims n.read.strides a q := by rw [moved, hd, hi']
        rw [hmv, if_neg hk1']
        repeat (first | refine R_seq ?_ | refine R_block ?_ | refine R_skip ?_)
        refine R_exit ?_
        repeat (first | refine R_seq ?_ | refine R_block ?_ | refine R_skip ?_)
        refine R_region ?_
        (refine OpsE_do rfl ?_; refine E_assign rfl rfl ?_; refine OpsE_eq (st' := _) (by first | dsimp only [n0, n1, n2, n3, n4, n5, n6, n7, n8, n9, m0, m1, m2, m3, m4, m5, m6, m7, m8, m9, o0, o1, o2, o3, o4, ↓reduceIte] | rfl) ?_)
        refine OpsE_nil ?_
        repeat (first | refine R_seq ?_ | refine R_block ?_ | refine R_skip ?_)
        refine R_ret ?_
        exact ⟨trivial, _, rfl, rfl, rfl⟩
    · have hk1' : n.read.kind = 1 := by simpa using hk1
      rw [if_pos hk1']
      repeat (first | refine R_seq ?_ | refine R_block ?_ | refine R_skip ?_)
      refine R_region ?_
      (refine OpsE_do rfl ?_; refine E_assign rfl rfl ?_; refine OpsE_eq (st' := _) (by first | dsimp only [n0, n1, n2, n3, n4, n5, n6, n7, n8, n9, m0, m1, m2, m3, m4, m5, m6, m7, m8, m9, o0, o1, o2, o3, o4, ↓reduceIte] | rfl) ?_)
      refine OpsE_nil ?_
      repeat (first | refine R_seq ?_ | refine R_block ?_ | refine R_skip ?_)
      refine R_ret ?_
      exact ⟨trivial, _, rfl, rfl, rfl⟩
end Go.Proofs.Try
