/-
  Seat a: the next round.
-/
import Derived.Test.YtbknblppjhfkmaaA6
namespace Go.Proofs.Try
open Go Go.Pm
set_option linter.unusedVariables false
set_option linter.unusedSimpArgs false
set_option maxRecDepth 2000

/-- one less than m -/
def kInt : Nat → Int
  | 0 => -1
  | m + 1 => (m : Int)
theorem kInt_sub (m : Nat) (h : m ≤ 1048576) : IntKind.i64.wrap ((m : Int) - 1) = kInt m := by
  cases m with
  | zero => rfl
  | succ m => rw [wrap_i64 (by omega) (by omega)]; simp only [kInt]; omega
/-- the next round: from the last of m loops on -/
def nextFrom (dims : List Int) : Nat → List Int → List Int × Int × Bool
  | 0, js => (js, 0, false)
  | m + 1, js => if IntKind.i64.wrap (js.getD m 0 + 1) < dims.getD m 0 then (js.set m (IntKind.i64.wrap (js.getD m 0 + 1)), (m : Int), true) else nextFrom dims m (js.set m 0)
theorem js_get {js : List Int} {q : Nat} (h : q < js.length) : (js.map fun m => PV.dat (intD m))[q]? = some (.dat (intD (js.getD q 0))) := by simp [h]
theorem js_set (js : List Int) (q : Nat) (v : Int) : (js.map fun m => PV.dat (intD m)).set q (.dat (intD v)) = (js.set q v).map fun m => .dat (intD m) := by rw [List.map_set]

theorem purge_js (H : List Blk) (h0 : Nat) (js : List Int) : purgeB H h0 (.box (js.map fun m => .dat (intD m))) = .box (js.map fun m => .dat (intD m)) := by
  simp only [purgeB, List.map_map]; rfl
theorem prune6 {keep : Option (List Nat)} {ks : List Nat} {s : List PV} {b0 b1 b2 b3 b4 b5 : Blk} (h : keep = some ks) : prune 6 keep ⟨s, [b0, b1, b2, b3, b4, b5]⟩ =
    ⟨keepS [b0, b1, b2, b3, b4, b5] 6 ks 0 s, [purgeB [b0, b1, b2, b3, b4, b5] 6 b0, purgeB [b0, b1, b2, b3, b4, b5] 6 b1, purgeB [b0, b1, b2, b3, b4, b5] 6 b2, purgeB [b0, b1, b2, b3, b4, b5] 6 b3, purgeB [b0, b1, b2, b3, b4, b5] 6 b4, purgeB [b0, b1, b2, b3, b4, b5] 6 b5]⟩ := by
  subst h; rfl

theorem c52 (n : Nst) (js : List Int) (k : Nat) (w a : Int) (e : Evt) (hk : js.length = k) (hd : n.dims.length = k) (hl : k ≤ 1048576) :
    PC prog env 52 [.ptr 3 0] [.box [.dat (intsD n.dims), .dat (intD n.write), .dat (intsD n.steps), .dat (intD n.read.kind), .dat (intD n.read.buffer), .dat (intD n.read.base), .dat (intsD n.read.strides), .dat (intD n.read.start), .dat (intD n.read.step), .dat (intD n.read.mod)], .box [.dat (intsD n.dims), .dat (intD n.write), .dat (intsD n.steps), .dat (intD n.read.kind), .dat (intD n.read.buffer), .dat (intD n.read.base), .dat (intsD n.read.strides), .dat (intD n.read.start), .dat (intD n.read.step), .dat (intD n.read.mod)], .box (js.map fun m => .dat (intD m)), .box [.arr 2 0 k k, .dat (intsD n.dims), .dat (intsD n.dims), .dat (intD n.write), .dat (intsD n.steps), .dat (intD n.read.kind), .dat (intD n.read.buffer), .dat (intD n.read.base), .dat (intsD n.read.strides), .dat (intD n.read.start), .dat (intD n.read.step), .dat (intD n.read.mod), .dat (intD w), .dat (intD a)], e.box, n.read.box] (.tup [intPV (nextFrom n.dims k js).2.1, boolPV (nextFrom n.dims k js).2.2])
      [.box [.dat (intsD n.dims), .dat (intD n.write), .dat (intsD n.steps), .dat (intD n.read.kind), .dat (intD n.read.buffer), .dat (intD n.read.base), .dat (intsD n.read.strides), .dat (intD n.read.start), .dat (intD n.read.step), .dat (intD n.read.mod)], .box [.dat (intsD n.dims), .dat (intD n.write), .dat (intsD n.steps), .dat (intD n.read.kind), .dat (intD n.read.buffer), .dat (intD n.read.base), .dat (intsD n.read.strides), .dat (intD n.read.start), .dat (intD n.read.step), .dat (intD n.read.mod)], .box ((nextFrom n.dims k js).1.map fun m => .dat (intD m)), .box [.arr 2 0 k k, .dat (intsD n.dims), .dat (intsD n.dims), .dat (intD n.write), .dat (intsD n.steps), .dat (intD n.read.kind), .dat (intD n.read.buffer), .dat (intD n.read.base), .dat (intsD n.read.strides), .dat (intD n.read.start), .dat (intD n.read.step), .dat (intD n.read.mod), .dat (intD w), .dat (intD a)], e.box, n.read.box] := by
  refine PC_body (fn := f52) (by kernel_rfl) rfl rfl (by kernel_rfl) rfl ?_
  refine R_eq (st' := ⟨[.ptr 3 0, .tup [], .tup [], .tup [], .tup [], .tup [], .tup [], .tup [], .tup [], .tup [], .tup [], .tup [], .tup [], .tup [], .tup [], .tup [], .tup [], .tup [], .tup [], .tup [], .tup [], .tup [], .tup [], .tup [], .tup [], .tup [], .tup [], .tup [], .tup [], .tup [], .tup [], .tup [], .tup [], .tup [], .tup [], .tup [], .tup [], .tup [], .tup [], .tup [], .tup [], .tup [], .tup [], .tup [], .tup [], .tup []], [.box [.dat (intsD n.dims), .dat (intD n.write), .dat (intsD n.steps), .dat (intD n.read.kind), .dat (intD n.read.buffer), .dat (intD n.read.base), .dat (intsD n.read.strides), .dat (intD n.read.start), .dat (intD n.read.step), .dat (intD n.read.mod)], .box [.dat (intsD n.dims), .dat (intD n.write), .dat (intsD n.steps), .dat (intD n.read.kind), .dat (intD n.read.buffer), .dat (intD n.read.base), .dat (intsD n.read.strides), .dat (intD n.read.start), .dat (intD n.read.step), .dat (intD n.read.mod)], .box (js.map fun m => .dat (intD m)), .box [.arr 2 0 k k, .dat (intsD n.dims), .dat (intsD n.dims), .dat (intD n.write), .dat (intsD n.steps), .dat (intD n.read.kind), .dat (intD n.read.buffer), .dat (intD n.read.base), .dat (intsD n.read.strides), .dat (intD n.read.start), .dat (intD n.read.step), .dat (intD n.read.mod), .dat (intD w), .dat (intD a)], e.box, n.read.box]⟩) rfl ?_
  repeat (first | refine R_seq ?_ | refine R_block ?_ | refine R_skip ?_)
  refine R_region ?_
  iterate 2 ((refine OpsE_do rfl ?_; refine E_assign rfl rfl ?_); refine OpsE_eq (st' := _) (by first | dsimp only [n0, n1, n2, n3, n4, n5, n6, n7, n8, n9, m0, m1, m2, m3, m4, m5, m6, m7, m8, m9, o0, o1, o2, o3, o4, ↓reduceIte] | rfl) ?_)
  refine OpsE_nil ?_
  repeat (first | refine R_seq ?_ | refine R_block ?_ | refine R_skip ?_)
  refine R_region ?_
  iterate 7 ((refine OpsE_do rfl ?_; first | refine E_move rfl ?_ | refine E_nilp rfl rfl ?_ | refine E_nili rfl rfl ?_ | refine E_nilf rfl rfl ?_ | refine E_fieldp fo95_0 rfl rfl ?_ | refine E_fieldi fo95_0 rfl rfl ?_ | refine E_loadi (ds := [_]) ag49 sz49 rfl rfl rfl rfl ?_ | refine E_loadp (ds := [_]) ag49 sz49 rfl rfl rfl rfl rfl ?_ | refine E_len un49 rfl rfl ?_ | refine E_int rfl rfl rfl rfl ?_ | refine E_assign rfl rfl ?_); refine OpsE_eq (st' := _) (by first | dsimp only [n0, n1, n2, n3, n4, n5, n6, n7, n8, n9, m0, m1, m2, m3, m4, m5, m6, m7, m8, m9, o0, o1, o2, o3, o4, ↓reduceIte] | rfl) ?_)
  refine OpsE_nil ?_
  repeat (first | refine R_seq ?_ | refine R_block ?_ | refine R_skip ?_)
  refine R_loop ?_
  refine RL_ind (fun (x : List Int × Nat) => ⟨[.ptr 3 0, .undef, .undef, .undef, intPV (kInt x.2), .undef, .undef, .undef, .undef, .undef, .undef, .undef, .undef, .undef, .undef, .undef, .undef, .undef, .undef, .undef, .undef, .undef, .undef, .undef, .undef, .undef, .undef, .undef, .undef, .undef, .undef, .undef, .undef, .undef, .undef, .undef, .undef, .undef, .undef, .undef, .undef, .undef, .undef, .undef, .undef, .undef], [.box [.dat (intsD n.dims), .dat (intD n.write), .dat (intsD n.steps), .dat (intD n.read.kind), .dat (intD n.read.buffer), .dat (intD n.read.base), .dat (intsD n.read.strides), .dat (intD n.read.start), .dat (intD n.read.step), .dat (intD n.read.mod)], .box [.dat (intsD n.dims), .dat (intD n.write), .dat (intsD n.steps), .dat (intD n.read.kind), .dat (intD n.read.buffer), .dat (intD n.read.base), .dat (intsD n.read.strides), .dat (intD n.read.start), .dat (intD n.read.step), .dat (intD n.read.mod)], .box (x.1.map fun m => .dat (intD m)), .box [.arr 2 0 k k, .dat (intsD n.dims), .dat (intsD n.dims), .dat (intD n.write), .dat (intsD n.steps), .dat (intD n.read.kind), .dat (intD n.read.buffer), .dat (intD n.read.base), .dat (intsD n.read.strides), .dat (intD n.read.start), .dat (intD n.read.step), .dat (intD n.read.mod), .dat (intD w), .dat (intD a)], e.box, n.read.box]⟩)
    (fun x => x.1.length = k ∧ x.2 ≤ k ∧ nextFrom n.dims x.2 x.1 = nextFrom n.dims k js) (fun x => x.2) (fun x hx => ?_) _ (js, k) _ (Nat.lt_succ_self _) ⟨hk, Nat.le_refl _, rfl⟩ (by rw [kInt_sub k hl]; refine (prune6 rfl).trans ?_; rw [purge_js]; rfl)
  obtain ⟨js', m⟩ := x
  obtain ⟨h1, h2, h3⟩ := hx
  simp only at h1 h2 h3
  cases m with
  | zero =>
    repeat (first | refine R_seq ?_ | refine R_block ?_ | refine R_skip ?_)
    refine R_region ?_
    iterate 2 ((refine OpsE_do rfl ?_; first | refine E_move rfl ?_ | refine E_int rfl rfl rfl rfl ?_); refine OpsE_eq (st' := _) (by first | dsimp only [n0, n1, n2, n3, n4, n5, n6, n7, n8, n9, m0, m1, m2, m3, m4, m5, m6, m7, m8, m9, o0, o1, o2, o3, o4, ↓reduceIte] | rfl) ?_)
    refine OpsE_nil ?_
    repeat (first | refine R_seq ?_ | refine R_block ?_ | refine R_skip ?_)
    refine R_false rfl ?_
    repeat (first | refine R_seq ?_ | refine R_block ?_ | refine R_skip ?_)
    refine R_exit ?_
    repeat (first | refine R_seq ?_ | refine R_block ?_ | refine R_skip ?_)
    refine R_region ?_
    iterate 2 ((refine OpsE_do rfl ?_; refine E_assign rfl rfl ?_); refine OpsE_eq (st' := _) (by first | dsimp only [n0, n1, n2, n3, n4, n5, n6, n7, n8, n9, m0, m1, m2, m3, m4, m5, m6, m7, m8, m9, o0, o1, o2, o3, o4, ↓reduceIte] | rfl) ?_)
    refine OpsE_nil ?_
    repeat (first | refine R_seq ?_ | refine R_block ?_ | refine R_skip ?_)
    refine R_ret ?_
    rw [← h3]
    exact ⟨trivial, _, rfl, rfl, rfl⟩
  | succ q =>
    have hq : q < js'.length := by omega
    have hqd : q < n.dims.length := by omega
    have hqk : q < k := by omega
    have d2 : n.dims.getD q 0 = n.dims[q] := by simp [hqd]
    repeat (first | refine R_seq ?_ | refine R_block ?_ | refine R_skip ?_)
    refine R_region ?_
    iterate 2 ((refine OpsE_do rfl ?_; first | refine E_move rfl ?_ | refine E_int rfl rfl rfl rfl ?_); refine OpsE_eq (st' := _) (by first | dsimp only [n0, n1, n2, n3, n4, n5, n6, n7, n8, n9, m0, m1, m2, m3, m4, m5, m6, m7, m8, m9, o0, o1, o2, o3, o4, ↓reduceIte] | rfl) ?_)
    refine OpsE_nil ?_
    repeat (first | refine R_seq ?_ | refine R_block ?_ | refine R_skip ?_)
    refine R_if rfl (fun hq0 => ?_) (fun hq0 => ?_)
    · repeat (first | refine R_seq ?_ | refine R_block ?_ | refine R_skip ?_)
      refine R_region ?_
      iterate 5 ((refine OpsE_do rfl ?_; first | refine E_move rfl ?_ | refine E_nilp rfl rfl ?_ | refine E_nili rfl rfl ?_ | refine E_nilf rfl rfl ?_ | refine E_fieldp fo95_0 rfl rfl ?_ | refine E_fieldi fo95_0 rfl rfl ?_ | refine E_loadi (ds := [_]) ag49 sz49 rfl rfl rfl rfl ?_ | refine E_loadp (ds := [_]) ag49 sz49 rfl rfl rfl rfl rfl ?_); refine OpsE_eq (st' := _) (by first | dsimp only [n0, n1, n2, n3, n4, n5, n6, n7, n8, n9, m0, m1, m2, m3, m4, m5, m6, m7, m8, m9, o0, o1, o2, o3, o4, ↓reduceIte] | rfl) ?_)
      (refine OpsE_do rfl ?_; (first | refine E_index el49 sz3 rfl rfl rfl rfl hqk rfl ?_ | refine E_index0 el49 sz3 rfl rfl rfl rfl hqk ?_ | refine E_indexArr el49 sz3 rfl rfl rfl rfl hqk ?_); refine OpsE_eq (st' := _) (by first | dsimp only [n0, n1, n2, n3, n4, n5, n6, n7, n8, n9, m0, m1, m2, m3, m4, m5, m6, m7, m8, m9, o0, o1, o2, o3, o4, ↓reduceIte] | rfl) ?_)
      (refine OpsE_do rfl ?_; refine E_loadArr ag3 sz3 rfl rfl rfl (js_get hq) ?_; refine OpsE_eq (st' := _) (by first | dsimp only [n0, n1, n2, n3, n4, n5, n6, n7, n8, n9, m0, m1, m2, m3, m4, m5, m6, m7, m8, m9, o0, o1, o2, o3, o4, ↓reduceIte] | rfl) ?_)
      (refine OpsE_do rfl ?_; (first | refine E_int rfl rfl rfl rfl ?_ | refine E_bin rfl rfl rfl rfl ?_); refine OpsE_eq (st' := _) (by first | dsimp only [n0, n1, n2, n3, n4, n5, n6, n7, n8, n9, m0, m1, m2, m3, m4, m5, m6, m7, m8, m9, o0, o1, o2, o3, o4, ↓reduceIte] | rfl) ?_)
      (refine OpsE_do rfl ?_; (first | refine E_index el49 sz3 rfl rfl rfl rfl hqk rfl ?_ | refine E_index0 el49 sz3 rfl rfl rfl rfl hqk ?_ | refine E_indexArr el49 sz3 rfl rfl rfl rfl hqk ?_); refine OpsE_eq (st' := _) (by first | dsimp only [n0, n1, n2, n3, n4, n5, n6, n7, n8, n9, m0, m1, m2, m3, m4, m5, m6, m7, m8, m9, o0, o1, o2, o3, o4, ↓reduceIte] | rfl) ?_)
      (refine OpsE_do rfl ?_; refine E_storeArr sz3 rfl rfl rfl rfl rfl (by simp; omega) ?_; refine OpsE_eq (st' := _) (by first | dsimp only [n0, n1, n2, n3, n4, n5, n6, n7, n8, n9, m0, m1, m2, m3, m4, m5, m6, m7, m8, m9, o0, o1, o2, o3, o4, ↓reduceIte] | rfl) ?_)
      refine OpsE_nil ?_
      repeat (first | refine R_seq ?_ | refine R_block ?_ | refine R_skip ?_)
      refine R_draw ?_
      iterate 5 ((refine DrawE_do rfl ?_; first | refine E_move rfl ?_ | refine E_nilp rfl rfl ?_ | refine E_nili rfl rfl ?_ | refine E_nilf rfl rfl ?_ | refine E_fieldp fo95_0 rfl rfl ?_ | refine E_fieldi fo95_0 rfl rfl ?_ | refine E_loadi (ds := [_]) ag49 sz49 rfl rfl rfl rfl ?_ | refine E_loadp (ds := [_]) ag49 sz49 rfl rfl rfl rfl rfl ?_); refine DrawE_eq (st' := _) (by first | dsimp only [n0, n1, n2, n3, n4, n5, n6, n7, n8, n9, m0, m1, m2, m3, m4, m5, m6, m7, m8, m9, o0, o1, o2, o3, o4, ↓reduceIte] | rfl) ?_)
      (refine DrawE_do rfl ?_; (first | refine E_index el49 sz3 rfl rfl rfl rfl hqk rfl ?_ | refine E_index0 el49 sz3 rfl rfl rfl rfl hqk ?_ | refine E_indexArr el49 sz3 rfl rfl rfl rfl hqk ?_); refine DrawE_eq (st' := _) (by first | dsimp only [n0, n1, n2, n3, n4, n5, n6, n7, n8, n9, m0, m1, m2, m3, m4, m5, m6, m7, m8, m9, o0, o1, o2, o3, o4, ↓reduceIte] | rfl) ?_)
      (refine DrawE_do rfl ?_; refine E_loadArr ag3 sz3 rfl rfl rfl (List.getElem?_set_self (by simp; omega)) ?_; refine DrawE_eq (st' := _) (by first | dsimp only [n0, n1, n2, n3, n4, n5, n6, n7, n8, n9, m0, m1, m2, m3, m4, m5, m6, m7, m8, m9, o0, o1, o2, o3, o4, ↓reduceIte] | rfl) ?_)
      iterate 5 ((refine DrawE_do rfl ?_; first | refine E_move rfl ?_ | refine E_nilp rfl rfl ?_ | refine E_nili rfl rfl ?_ | refine E_nilf rfl rfl ?_ | refine E_fieldp fo95_1 rfl rfl ?_ | refine E_fieldi fo95_1 rfl rfl ?_ | refine E_loadi (ds := [_]) ag49 sz49 rfl rfl rfl rfl ?_ | refine E_loadp (ds := [_]) ag49 sz49 rfl rfl rfl rfl rfl ?_); refine DrawE_eq (st' := _) (by first | dsimp only [n0, n1, n2, n3, n4, n5, n6, n7, n8, n9, m0, m1, m2, m3, m4, m5, m6, m7, m8, m9, o0, o1, o2, o3, o4, ↓reduceIte] | rfl) ?_)
      (refine DrawE_do rfl ?_; (first | refine E_index el49 sz3 rfl rfl rfl rfl (ints_get hqd) rfl ?_ | refine E_index0 el49 sz3 rfl rfl rfl rfl (ints_get hqd) ?_ | refine E_indexArr el49 sz3 rfl rfl rfl rfl (ints_get hqd) ?_); refine DrawE_eq (st' := _) (by first | dsimp only [n0, n1, n2, n3, n4, n5, n6, n7, n8, n9, m0, m1, m2, m3, m4, m5, m6, m7, m8, m9, o0, o1, o2, o3, o4, ↓reduceIte] | rfl) ?_)
      iterate 2 ((refine DrawE_do rfl ?_; first | refine E_loadi (ds := [_]) ag3 sz3 rfl rfl rfl rfl ?_ | refine E_loadp (ds := [_]) ag3 sz3 rfl rfl rfl rfl rfl ?_ | refine E_int rfl rfl rfl rfl ?_); refine DrawE_eq (st' := _) (by first | dsimp only [n0, n1, n2, n3, n4, n5, n6, n7, n8, n9, m0, m1, m2, m3, m4, m5, m6, m7, m8, m9, o0, o1, o2, o3, o4, ↓reduceIte] | rfl) ?_)
      refine DrawE_nil ⟨by kernel_rfl, ?_⟩
      repeat (first | refine R_seq ?_ | refine R_block ?_ | refine R_skip ?_)
      refine R_if rfl (fun hlt => ?_) (fun hlt => ?_)
      · repeat (first | refine R_seq ?_ | refine R_block ?_ | refine R_skip ?_)
        refine R_region ?_
        iterate 3 ((refine OpsE_do rfl ?_; first | refine E_move rfl ?_ | refine E_assign rfl rfl ?_); refine OpsE_eq (st' := _) (by first | dsimp only [n0, n1, n2, n3, n4, n5, n6, n7, n8, n9, m0, m1, m2, m3, m4, m5, m6, m7, m8, m9, o0, o1, o2, o3, o4, ↓reduceIte] | rfl) ?_)
        refine OpsE_nil ?_
        repeat (first | refine R_seq ?_ | refine R_block ?_ | refine R_skip ?_)
        refine R_ret ?_
        have e1 : nextFrom n.dims (q + 1) js' = (js'.set q (IntKind.i64.wrap (js'.getD q 0 + 1)), (q : Int), true) := by rw [nextFrom, d2, if_pos hlt]
        rw [← h3, e1]
        refine ⟨trivial, _, rfl, rfl, ?_⟩
        rw [← js_set]
        rfl
      · repeat (first | refine R_seq ?_ | refine R_block ?_ | refine R_skip ?_)
        refine R_region ?_
        iterate 5 ((refine OpsE_do rfl ?_; first | refine E_move rfl ?_ | refine E_nilp rfl rfl ?_ | refine E_nili rfl rfl ?_ | refine E_nilf rfl rfl ?_ | refine E_fieldp fo95_0 rfl rfl ?_ | refine E_fieldi fo95_0 rfl rfl ?_ | refine E_loadi (ds := [_]) ag49 sz49 rfl rfl rfl rfl ?_ | refine E_loadp (ds := [_]) ag49 sz49 rfl rfl rfl rfl rfl ?_); refine OpsE_eq (st' := _) (by first | dsimp only [n0, n1, n2, n3, n4, n5, n6, n7, n8, n9, m0, m1, m2, m3, m4, m5, m6, m7, m8, m9, o0, o1, o2, o3, o4, ↓reduceIte] | rfl) ?_)
        (refine OpsE_do rfl ?_; (first | refine E_index el49 sz3 rfl rfl rfl rfl hqk rfl ?_ | refine E_index0 el49 sz3 rfl rfl rfl rfl hqk ?_ | refine E_indexArr el49 sz3 rfl rfl rfl rfl hqk ?_); refine OpsE_eq (st' := _) (by first | dsimp only [n0, n1, n2, n3, n4, n5, n6, n7, n8, n9, m0, m1, m2, m3, m4, m5, m6, m7, m8, m9, o0, o1, o2, o3, o4, ↓reduceIte] | rfl) ?_)
        (refine OpsE_do rfl ?_; refine E_storeArr sz3 rfl rfl rfl rfl rfl (by simp; omega) ?_; refine OpsE_eq (st' := _) (by first | dsimp only [n0, n1, n2, n3, n4, n5, n6, n7, n8, n9, m0, m1, m2, m3, m4, m5, m6, m7, m8, m9, o0, o1, o2, o3, o4, ↓reduceIte] | rfl) ?_)
        refine OpsE_nil ?_
        repeat (first | refine R_seq ?_ | refine R_block ?_ | refine R_skip ?_)
        refine R_region ?_
        iterate 3 ((refine OpsE_do rfl ?_; first | refine E_move rfl ?_ | refine E_int rfl rfl rfl rfl ?_ | refine E_assign rfl rfl ?_); refine OpsE_eq (st' := _) (by first | dsimp only [n0, n1, n2, n3, n4, n5, n6, n7, n8, n9, m0, m1, m2, m3, m4, m5, m6, m7, m8, m9, o0, o1, o2, o3, o4, ↓reduceIte] | rfl) ?_)
        refine OpsE_nil ?_
        have e1 : nextFrom n.dims (q + 1) js' = nextFrom n.dims q (js'.set q 0) := by rw [nextFrom, d2, if_neg hlt]
        refine ⟨(js'.set q 0, q), ?_, by simp, by simp [h1], by simp only; omega, by simp only; rw [← h3, e1]⟩
        rw [List.set_set, show (PV.dat (.raw (.int .i64 0))) = .dat (intD 0) from rfl, js_set]
        refine (prune6 rfl).trans ?_
        rw [purge_js]
        simp only [kInt]
        rw [show ((q : Int) - 1) = ((q : Int) - 1) from rfl, kInt_sub q (by omega)]
        rfl
    · exact absurd (Int.natCast_nonneg q) hq0
end Go.Proofs.Try
