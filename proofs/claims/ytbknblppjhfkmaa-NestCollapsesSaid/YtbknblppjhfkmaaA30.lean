/-
  Seat a: nests collapsed, the loops joined.
-/
import Derived.Test.YtbknblppjhfkmaaA29
namespace Go.Proofs.Try
open Go Go.Pm
set_option linter.unusedVariables false
set_option linter.unusedSimpArgs false
set_option maxRecDepth 2000

/-- two neighboring loops joined -/
def joinN (n : Nst) (k : Nat) : Nst :=
  { dims := (n.dims.set (k + 1) (IntKind.i64.wrap (n.dims.getD (k + 1) 0 * n.dims.getD k 0))).eraseIdx k, write := n.write, steps := n.steps.eraseIdx k,
    read := { kind := n.read.kind, buffer := n.read.buffer, base := n.read.base, strides := n.read.strides.eraseIdx k, start := n.read.start, step := n.read.step, mod := n.read.mod } }

theorem c41 (n : Nst) (k c0 c1 c2 q0 q1 q2 : Nat) (b0 b1 : Blk) (hk : k + 1 < n.dims.length) (hd : n.dims.length ≤ 1048576) (hs : n.steps.length = n.dims.length) (hl : n.read.strides.length = 0 ∨ n.read.strides.length = n.dims.length)
    (h0 : n.dims.length ≤ c0) (h1 : n.steps.length ≤ c1) (h2 : n.read.strides.length ≤ c2) :
    ∃ q2', PC prog env 41 [.agg [.ms 3 0 0 n.dims.length c0, .dat (intD n.write), .ms 4 0 0 n.steps.length c1, .dat (intD n.read.kind), .dat (intD n.read.buffer), .dat (intD n.read.base), .ms 5 0 0 n.read.strides.length c2, .dat (intD n.read.start), .dat (intD n.read.step), .dat (intD n.read.mod)], intPV (k : Int)] [b0, b1, .box [.ms 3 0 0 n.dims.length c0, .dat (intD n.write), .ms 4 0 0 n.steps.length c1, .dat (intD n.read.kind), .dat (intD n.read.buffer), .dat (intD n.read.base), .ms 5 0 0 n.read.strides.length c2, .dat (intD n.read.start), .dat (intD n.read.step), .dat (intD n.read.mod)], .mt 3 0 (cellsOf intD (n.dims ++ List.replicate q0 0)), .mt 3 0 (cellsOf intD (n.steps ++ List.replicate q1 0)), .mt 3 0 (cellsOf intD (n.read.strides ++ List.replicate q2 0))] (.agg [.ms 3 0 0 (joinN n k).dims.length c0, .dat (intD (joinN n k).write), .ms 4 0 0 (joinN n k).steps.length c1, .dat (intD (joinN n k).read.kind), .dat (intD (joinN n k).read.buffer), .dat (intD (joinN n k).read.base), .ms 5 0 0 (joinN n k).read.strides.length c2, .dat (intD (joinN n k).read.start), .dat (intD (joinN n k).read.step), .dat (intD (joinN n k).read.mod)])
      [b0, b1, .box [.ms 3 0 0 n.dims.length c0, .dat (intD n.write), .ms 4 0 0 n.steps.length c1, .dat (intD n.read.kind), .dat (intD n.read.buffer), .dat (intD n.read.base), .ms 5 0 0 n.read.strides.length c2, .dat (intD n.read.start), .dat (intD n.read.step), .dat (intD n.read.mod)], .mt 3 0 (cellsOf intD ((joinN n k).dims ++ List.replicate (q0 + 1) 0)), .mt 3 0 (cellsOf intD ((joinN n k).steps ++ List.replicate (q1 + 1) 0)), .mt 3 0 (cellsOf intD ((joinN n k).read.strides ++ List.replicate q2' 0)), .box [.ms 3 0 0 (joinN n k).dims.length c0, .dat (intD (joinN n k).write), .ms 4 0 0 (joinN n k).steps.length c1, .dat (intD (joinN n k).read.kind), .dat (intD (joinN n k).read.buffer), .dat (intD (joinN n k).read.base), .ms 5 0 0 (joinN n k).read.strides.length c2, .dat (intD (joinN n k).read.start), .dat (intD (joinN n k).read.step), .dat (intD (joinN n k).read.mod)], .box [.ms 3 0 0 (joinN n k).dims.length c0, .dat (intD (joinN n k).write), .ms 4 0 0 (joinN n k).steps.length c1, .dat (intD (joinN n k).read.kind), .dat (intD (joinN n k).read.buffer), .dat (intD (joinN n k).read.base), .ms 5 0 0 (joinN n k).read.strides.length c2, .dat (intD (joinN n k).read.start), .dat (intD (joinN n k).read.step), .dat (intD (joinN n k).read.mod)]] := by
  have hw : intBin .add .i64 (k : Int) 1 = some (.int .i64 ((k + 1 : Nat) : Int)) := by rw [intBin, wrap_succ (by omega)]
  have hk' : k < n.dims.length := by omega
  have p1 : (cellsOf intD (n.dims ++ List.replicate q0 0))[k + 1]? = some (.dat (intD n.dims[k + 1])) := by rw [cellsOf_get intD (by simp; omega), List.getElem_append_left hk]
  have p2 : (cellsOf intD (n.dims ++ List.replicate q0 0))[k]? = some (.dat (intD n.dims[k])) := by rw [cellsOf_get intD (by simp; omega), List.getElem_append_left hk']
  have e0 : (cellsOf intD (n.dims ++ List.replicate q0 0)).set (0 + (k + 1)) (.dat (intD (IntKind.i64.wrap (n.dims[k + 1] * n.dims[k])))) = cellsOf intD (n.dims.set (k + 1) (IntKind.i64.wrap (n.dims[k + 1] * n.dims[k])) ++ List.replicate q0 0) := by
    rw [Nat.zero_add, cellsOf_set, List.set_append_left _ _ hk]
  have hj : joinN n k = { dims := (n.dims.set (k + 1) (IntKind.i64.wrap (n.dims[k + 1] * n.dims[k]))).eraseIdx k, write := n.write, steps := n.steps.eraseIdx k, read := { kind := n.read.kind, buffer := n.read.buffer, base := n.read.base, strides := n.read.strides.eraseIdx k, start := n.read.start, step := n.read.step, mod := n.read.mod } } := by
    simp [joinN, hk, hk']
  generalize hv : IntKind.i64.wrap (n.dims[k + 1] * n.dims[k]) = v at e0 hj
  generalize hD : n.dims.set (k + 1) v = D at e0 hj
  have hDl : D.length = n.dims.length := by rw [← hD]; simp
  rcases hl with hl | hl
  · refine ⟨q2, ?_⟩
    refine PC_body (fn := f41) (by kernel_rfl) rfl rfl (by kernel_rfl) rfl ?_
    have hz : intBin .gtr .i64 ((n.read.strides.length : Nat) : Int) 0 = some (.bool false) := by rw [hl]; rfl
    have hn : n.read.strides.eraseIdx k = n.read.strides := by rw [List.eraseIdx_of_length_le (by omega)]
    refine R_eq (st' := ⟨[.agg [.ms 3 0 0 n.dims.length c0, .dat (intD n.write), .ms 4 0 0 n.steps.length c1, .dat (intD n.read.kind), .dat (intD n.read.buffer), .dat (intD n.read.base), .ms 5 0 0 n.read.strides.length c2, .dat (intD n.read.start), .dat (intD n.read.step), .dat (intD n.read.mod)], intPV (k : Int), .tup [], .tup [], .tup [], .tup [], .tup [], .tup [], .tup [], .tup [], .tup [], .tup [], .tup [], .tup [], .tup [], .tup [], .tup [], .tup [], .tup [], .tup [], .tup [], .tup [], .tup [], .tup [], .tup [], .tup [], .tup [], .tup [], .tup [], .tup [], .tup [], .tup [], .tup [], .tup [], .tup [], .tup [], .tup [], .tup [], .tup [], .tup [], .tup [], .tup [], .tup [], .tup [], .tup [], .tup [], .tup []], [b0, b1, .box [.ms 3 0 0 n.dims.length c0, .dat (intD n.write), .ms 4 0 0 n.steps.length c1, .dat (intD n.read.kind), .dat (intD n.read.buffer), .dat (intD n.read.base), .ms 5 0 0 n.read.strides.length c2, .dat (intD n.read.start), .dat (intD n.read.step), .dat (intD n.read.mod)], .mt 3 0 (cellsOf intD (n.dims ++ List.replicate q0 0)), .mt 3 0 (cellsOf intD (n.steps ++ List.replicate q1 0)), .mt 3 0 (cellsOf intD (n.read.strides ++ List.replicate q2 0))]⟩) rfl ?_
    repeat (first | refine R_seq ?_ | refine R_block ?_ | refine R_skip ?_)
    refine R_region ?_
    iterate 2 ((refine OpsE_do rfl ?_; first | refine E_box (cs := [_, _, _, _, _, _, _, _, _, _]) rfl rfl rfl ?_ | refine E_alloc (cs := [_, _, _, _, _, _, _, _, _, _]) ze53 rfl rfl ?_); refine OpsE_eq (st' := _) (by first | dsimp only [n0, n1, n2, n3, n4, n5, n6, n7, n8, n9, m0, m1, m2, m3, m4, m5, m6, m7, m8, m9, o0, o1, o2, o3, o4, ↓reduceIte] | rfl) ?_)
    refine OpsE_nil ?_
    repeat (first | refine R_seq ?_ | refine R_block ?_ | refine R_skip ?_)
    refine R_draw ?_
    iterate 3 ((refine DrawE_do rfl ?_; first | refine E_fieldp fo53_0 rfl rfl ?_ | refine E_fieldi fo53_0 rfl rfl ?_ | refine E_loadi (ds := [_]) ag49 sz49 rfl rfl rfl rfl ?_ | refine E_loadp (ds := [_]) ag49 sz49 rfl rfl rfl rfl rfl ?_ | refine E_move rfl ?_); refine DrawE_eq (st' := _) (by first | dsimp only [n0, n1, n2, n3, n4, n5, n6, n7, n8, n9, m0, m1, m2, m3, m4, m5, m6, m7, m8, m9, o0, o1, o2, o3, o4, ↓reduceIte] | rfl) ?_)
    (refine DrawE_do rfl ?_; refine E_int rfl rfl rfl hw ?_; refine DrawE_eq (st' := _) (by first | dsimp only [n0, n1, n2, n3, n4, n5, n6, n7, n8, n9, m0, m1, m2, m3, m4, m5, m6, m7, m8, m9, o0, o1, o2, o3, o4, ↓reduceIte] | rfl) ?_)
    (refine DrawE_do rfl ?_; refine E_indexMs el49 sz3 rfl rfl rfl rfl hk ?_; refine DrawE_eq (st' := _) (by first | dsimp only [n0, n1, n2, n3, n4, n5, n6, n7, n8, n9, m0, m1, m2, m3, m4, m5, m6, m7, m8, m9, o0, o1, o2, o3, o4, ↓reduceIte] | rfl) ?_)
    (refine DrawE_do rfl ?_; refine E_loadMs ag3 sz3 rfl rfl (mtOf_at rfl) (by rw [Nat.zero_add]; exact p1) ?_; refine DrawE_eq (st' := _) (by first | dsimp only [n0, n1, n2, n3, n4, n5, n6, n7, n8, n9, m0, m1, m2, m3, m4, m5, m6, m7, m8, m9, o0, o1, o2, o3, o4, ↓reduceIte] | rfl) ?_)
    iterate 3 ((refine DrawE_do rfl ?_; first | refine E_fieldp fo53_0 rfl rfl ?_ | refine E_fieldi fo53_0 rfl rfl ?_ | refine E_loadi (ds := [_]) ag49 sz49 rfl rfl rfl rfl ?_ | refine E_loadp (ds := [_]) ag49 sz49 rfl rfl rfl rfl rfl ?_ | refine E_move rfl ?_); refine DrawE_eq (st' := _) (by first | dsimp only [n0, n1, n2, n3, n4, n5, n6, n7, n8, n9, m0, m1, m2, m3, m4, m5, m6, m7, m8, m9, o0, o1, o2, o3, o4, ↓reduceIte] | rfl) ?_)
    (refine DrawE_do rfl ?_; refine E_indexMs el49 sz3 rfl rfl rfl rfl hk' ?_; refine DrawE_eq (st' := _) (by first | dsimp only [n0, n1, n2, n3, n4, n5, n6, n7, n8, n9, m0, m1, m2, m3, m4, m5, m6, m7, m8, m9, o0, o1, o2, o3, o4, ↓reduceIte] | rfl) ?_)
    (refine DrawE_do rfl ?_; refine E_loadMs ag3 sz3 rfl rfl (mtOf_at rfl) (by rw [Nat.zero_add]; exact p2) ?_; refine DrawE_eq (st' := _) (by first | dsimp only [n0, n1, n2, n3, n4, n5, n6, n7, n8, n9, m0, m1, m2, m3, m4, m5, m6, m7, m8, m9, o0, o1, o2, o3, o4, ↓reduceIte] | rfl) ?_)
    (refine DrawE_do rfl ?_; refine E_int rfl rfl rfl (congrArg (fun x => some (Value.int IntKind.i64 x)) hv) ?_; refine DrawE_eq (st' := _) (by first | dsimp only [n0, n1, n2, n3, n4, n5, n6, n7, n8, n9, m0, m1, m2, m3, m4, m5, m6, m7, m8, m9, o0, o1, o2, o3, o4, ↓reduceIte] | rfl) ?_)
    (refine DrawE_do rfl ?_; refine E_indexMs el49 sz3 rfl rfl rfl rfl hk ?_; refine DrawE_eq (st' := _) (by first | dsimp only [n0, n1, n2, n3, n4, n5, n6, n7, n8, n9, m0, m1, m2, m3, m4, m5, m6, m7, m8, m9, o0, o1, o2, o3, o4, ↓reduceIte] | rfl) ?_)
    (refine DrawE_do rfl ?_; refine E_storeMs (v := .dat (intD v)) sz3 rfl rfl (mtOf_at rfl) rfl rfl (by rw [cellsOf_len, List.length_append]; omega) ?_; refine DrawE_eq (st' := _) (by first | dsimp only [n0, n1, n2, n3, n4, n5, n6, n7, n8, n9, m0, m1, m2, m3, m4, m5, m6, m7, m8, m9, o0, o1, o2, o3, o4, ↓reduceIte] | rfl) ?_)
    refine DrawE_nil ⟨by kernel_rfl, ?_⟩
    rw [e0]
    repeat (first | refine R_seq ?_ | refine R_block ?_ | refine R_skip ?_)
    refine R_region ?_
    iterate 4 ((refine OpsE_do rfl ?_; first | refine E_fieldp fo53_0 rfl rfl ?_ | refine E_fieldi fo53_0 rfl rfl ?_ | refine E_loadi (ds := [_]) ag49 sz49 rfl rfl rfl rfl ?_ | refine E_loadp (ds := [_]) ag49 sz49 rfl rfl rfl rfl rfl ?_ | refine E_move rfl ?_); refine OpsE_eq (st' := _) (by first | dsimp only [n0, n1, n2, n3, n4, n5, n6, n7, n8, n9, m0, m1, m2, m3, m4, m5, m6, m7, m8, m9, o0, o1, o2, o3, o4, ↓reduceIte] | rfl) ?_)
    (refine OpsE_do rfl ?_; refine E_int rfl rfl rfl hw ?_; refine OpsE_eq (st' := _) (by first | dsimp only [n0, n1, n2, n3, n4, n5, n6, n7, n8, n9, m0, m1, m2, m3, m4, m5, m6, m7, m8, m9, o0, o1, o2, o3, o4, ↓reduceIte] | rfl) ?_)
    (refine OpsE_do rfl ?_; (first | refine E_call rfl rfl rfl (c53 D _ hDl (mtOf_at rfl) (by omega) (by omega) (by omega)) ?_ | refine E_callfn rfl rfl rfl (c53 D _ hDl (mtOf_at rfl) (by omega) (by omega) (by omega)) ?_); refine OpsE_eq (st' := _) (by first | dsimp only [n0, n1, n2, n3, n4, n5, n6, n7, n8, n9, m0, m1, m2, m3, m4, m5, m6, m7, m8, m9, o0, o1, o2, o3, o4, ↓reduceIte] | rfl) ?_)
    iterate 2 ((refine OpsE_do rfl ?_; first | refine E_fieldp fo53_0 rfl rfl ?_ | refine E_fieldi fo53_0 rfl rfl ?_ | refine E_store (vs := [_]) sz49 rfl rfl rfl rfl rfl rfl rfl ?_); refine OpsE_eq (st' := _) (by first | dsimp only [n0, n1, n2, n3, n4, n5, n6, n7, n8, n9, m0, m1, m2, m3, m4, m5, m6, m7, m8, m9, o0, o1, o2, o3, o4, ↓reduceIte] | rfl) ?_)
    refine OpsE_nil ?_
    repeat (first | refine R_seq ?_ | refine R_block ?_ | refine R_skip ?_)
    refine R_region ?_
    iterate 4 ((refine OpsE_do rfl ?_; first | refine E_fieldp fo53_2 rfl rfl ?_ | refine E_fieldi fo53_2 rfl rfl ?_ | refine E_loadi (ds := [_]) ag49 sz49 rfl rfl rfl rfl ?_ | refine E_loadp (ds := [_]) ag49 sz49 rfl rfl rfl rfl rfl ?_ | refine E_move rfl ?_); refine OpsE_eq (st' := _) (by first | dsimp only [n0, n1, n2, n3, n4, n5, n6, n7, n8, n9, m0, m1, m2, m3, m4, m5, m6, m7, m8, m9, o0, o1, o2, o3, o4, ↓reduceIte] | rfl) ?_)
    (refine OpsE_do rfl ?_; refine E_int rfl rfl rfl hw ?_; refine OpsE_eq (st' := _) (by first | dsimp only [n0, n1, n2, n3, n4, n5, n6, n7, n8, n9, m0, m1, m2, m3, m4, m5, m6, m7, m8, m9, o0, o1, o2, o3, o4, ↓reduceIte] | rfl) ?_)
    (refine OpsE_do rfl ?_; (first | refine E_call rfl rfl rfl (c53 n.steps _ rfl (mtOf_at rfl) (by omega) h1 (by omega)) ?_ | refine E_callfn rfl rfl rfl (c53 n.steps _ rfl (mtOf_at rfl) (by omega) h1 (by omega)) ?_); refine OpsE_eq (st' := _) (by first | dsimp only [n0, n1, n2, n3, n4, n5, n6, n7, n8, n9, m0, m1, m2, m3, m4, m5, m6, m7, m8, m9, o0, o1, o2, o3, o4, ↓reduceIte] | rfl) ?_)
    iterate 2 ((refine OpsE_do rfl ?_; first | refine E_fieldp fo53_2 rfl rfl ?_ | refine E_fieldi fo53_2 rfl rfl ?_ | refine E_store (vs := [_]) sz49 rfl rfl rfl rfl rfl rfl rfl ?_); refine OpsE_eq (st' := _) (by first | dsimp only [n0, n1, n2, n3, n4, n5, n6, n7, n8, n9, m0, m1, m2, m3, m4, m5, m6, m7, m8, m9, o0, o1, o2, o3, o4, ↓reduceIte] | rfl) ?_)
    refine OpsE_nil ?_
    repeat (first | refine R_seq ?_ | refine R_block ?_ | refine R_skip ?_)
    refine R_region ?_
    iterate 4 ((refine OpsE_do rfl ?_; first | refine E_fieldp fo53_3 rfl rfl ?_ | refine E_fieldi fo53_3 rfl rfl ?_ | refine E_fieldp fo51_3 rfl rfl ?_ | refine E_fieldi fo51_3 rfl rfl ?_ | refine E_loadi (ds := [_]) ag49 sz49 rfl rfl rfl rfl ?_ | refine E_loadp (ds := [_]) ag49 sz49 rfl rfl rfl rfl rfl ?_ | refine E_len un49 rfl rfl ?_); refine OpsE_eq (st' := _) (by first | dsimp only [n0, n1, n2, n3, n4, n5, n6, n7, n8, n9, m0, m1, m2, m3, m4, m5, m6, m7, m8, m9, o0, o1, o2, o3, o4, ↓reduceIte] | rfl) ?_)
    (refine OpsE_do rfl ?_; refine E_int rfl rfl rfl hz ?_; refine OpsE_eq (st' := _) (by first | dsimp only [n0, n1, n2, n3, n4, n5, n6, n7, n8, n9, m0, m1, m2, m3, m4, m5, m6, m7, m8, m9, o0, o1, o2, o3, o4, ↓reduceIte] | rfl) ?_)
    refine OpsE_nil ?_
    repeat (first | refine R_seq ?_ | refine R_block ?_ | refine R_skip ?_)
    refine R_false rfl ?_
    repeat (first | refine R_seq ?_ | refine R_block ?_ | refine R_skip ?_)
    refine R_region ?_
    iterate 2 ((refine OpsE_do rfl ?_; first | refine E_loadi (ds := [_, _, _, _, _, _, _, _, _, _]) (d := .agg [_, _, _, _, _, _, _, _, _, _]) ag53 sz53 rfl rfl rfl rfl ?_ | refine E_loadp (ds := [_, _, _, _, _, _, _, _, _, _]) (v := .dat (.agg [_, _, _, _, _, _, _, _, _, _])) ag53 sz53 rfl rfl rfl rfl rfl ?_ | refine E_loadp (ds := [_, _, _, _, _, _, _, _, _, _]) (v := .agg [_, _, _, _, _, _, _, _, _, _]) ag53 sz53 rfl rfl rfl rfl rfl ?_ | refine E_store (vs := [_, _, _, _, _, _, _, _, _, _]) sz53 rfl rfl rfl rfl rfl rfl rfl ?_); refine OpsE_eq (st' := _) (by first | dsimp only [n0, n1, n2, n3, n4, n5, n6, n7, n8, n9, m0, m1, m2, m3, m4, m5, m6, m7, m8, m9, o0, o1, o2, o3, o4, ↓reduceIte] | rfl) ?_)
    refine OpsE_nil ?_
    repeat (first | refine R_seq ?_ | refine R_block ?_ | refine R_skip ?_)
    refine R_ret ?_
    rw [hj, hn]
    exact ⟨trivial, _, rfl, rfl, rfl⟩
  · refine ⟨q2 + 1, ?_⟩
    refine PC_body (fn := f41) (by kernel_rfl) rfl rfl (by kernel_rfl) rfl ?_
    have hz : intBin .gtr .i64 ((n.read.strides.length : Nat) : Int) 0 = some (.bool true) := by simp only [intBin, Option.some.injEq, Value.bool.injEq, decide_eq_true_eq]; omega
    refine R_eq (st' := ⟨[.agg [.ms 3 0 0 n.dims.length c0, .dat (intD n.write), .ms 4 0 0 n.steps.length c1, .dat (intD n.read.kind), .dat (intD n.read.buffer), .dat (intD n.read.base), .ms 5 0 0 n.read.strides.length c2, .dat (intD n.read.start), .dat (intD n.read.step), .dat (intD n.read.mod)], intPV (k : Int), .tup [], .tup [], .tup [], .tup [], .tup [], .tup [], .tup [], .tup [], .tup [], .tup [], .tup [], .tup [], .tup [], .tup [], .tup [], .tup [], .tup [], .tup [], .tup [], .tup [], .tup [], .tup [], .tup [], .tup [], .tup [], .tup [], .tup [], .tup [], .tup [], .tup [], .tup [], .tup [], .tup [], .tup [], .tup [], .tup [], .tup [], .tup [], .tup [], .tup [], .tup [], .tup [], .tup [], .tup [], .tup []], [b0, b1, .box [.ms 3 0 0 n.dims.length c0, .dat (intD n.write), .ms 4 0 0 n.steps.length c1, .dat (intD n.read.kind), .dat (intD n.read.buffer), .dat (intD n.read.base), .ms 5 0 0 n.read.strides.length c2, .dat (intD n.read.start), .dat (intD n.read.step), .dat (intD n.read.mod)], .mt 3 0 (cellsOf intD (n.dims ++ List.replicate q0 0)), .mt 3 0 (cellsOf intD (n.steps ++ List.replicate q1 0)), .mt 3 0 (cellsOf intD (n.read.strides ++ List.replicate q2 0))]⟩) rfl ?_
    repeat (first | refine R_seq ?_ | refine R_block ?_ | refine R_skip ?_)
    refine R_region ?_
    iterate 2 ((refine OpsE_do rfl ?_; first | refine E_box (cs := [_, _, _, _, _, _, _, _, _, _]) rfl rfl rfl ?_ | refine E_alloc (cs := [_, _, _, _, _, _, _, _, _, _]) ze53 rfl rfl ?_); refine OpsE_eq (st' := _) (by first | dsimp only [n0, n1, n2, n3, n4, n5, n6, n7, n8, n9, m0, m1, m2, m3, m4, m5, m6, m7, m8, m9, o0, o1, o2, o3, o4, ↓reduceIte] | rfl) ?_)
    refine OpsE_nil ?_
    repeat (first | refine R_seq ?_ | refine R_block ?_ | refine R_skip ?_)
    refine R_draw ?_
    iterate 3 ((refine DrawE_do rfl ?_; first | refine E_fieldp fo53_0 rfl rfl ?_ | refine E_fieldi fo53_0 rfl rfl ?_ | refine E_loadi (ds := [_]) ag49 sz49 rfl rfl rfl rfl ?_ | refine E_loadp (ds := [_]) ag49 sz49 rfl rfl rfl rfl rfl ?_ | refine E_move rfl ?_); refine DrawE_eq (st' := _) (by first | dsimp only [n0, n1, n2, n3, n4, n5, n6, n7, n8, n9, m0, m1, m2, m3, m4, m5, m6, m7, m8, m9, o0, o1, o2, o3, o4, ↓reduceIte] | rfl) ?_)
    (refine DrawE_do rfl ?_; refine E_int rfl rfl rfl hw ?_; refine DrawE_eq (st' := _) (by first | dsimp only [n0, n1, n2, n3, n4, n5, n6, n7, n8, n9, m0, m1, m2, m3, m4, m5, m6, m7, m8, m9, o0, o1, o2, o3, o4, ↓reduceIte] | rfl) ?_)
    (refine DrawE_do rfl ?_; refine E_indexMs el49 sz3 rfl rfl rfl rfl hk ?_; refine DrawE_eq (st' := _) (by first | dsimp only [n0, n1, n2, n3, n4, n5, n6, n7, n8, n9, m0, m1, m2, m3, m4, m5, m6, m7, m8, m9, o0, o1, o2, o3, o4, ↓reduceIte] | rfl) ?_)
    (refine DrawE_do rfl ?_; refine E_loadMs ag3 sz3 rfl rfl (mtOf_at rfl) (by rw [Nat.zero_add]; exact p1) ?_; refine DrawE_eq (st' := _) (by first | dsimp only [n0, n1, n2, n3, n4, n5, n6, n7, n8, n9, m0, m1, m2, m3, m4, m5, m6, m7, m8, m9, o0, o1, o2, o3, o4, ↓reduceIte] | rfl) ?_)
    iterate 3 ((refine DrawE_do rfl ?_; first | refine E_fieldp fo53_0 rfl rfl ?_ | refine E_fieldi fo53_0 rfl rfl ?_ | refine E_loadi (ds := [_]) ag49 sz49 rfl rfl rfl rfl ?_ | refine E_loadp (ds := [_]) ag49 sz49 rfl rfl rfl rfl rfl ?_ | refine E_move rfl ?_); refine DrawE_eq (st' := _) (by first | dsimp only [n0, n1, n2, n3, n4, n5, n6, n7, n8, n9, m0, m1, m2, m3, m4, m5, m6, m7, m8, m9, o0, o1, o2, o3, o4, ↓reduceIte] | rfl) ?_)
    (refine DrawE_do rfl ?_; refine E_indexMs el49 sz3 rfl rfl rfl rfl hk' ?_; refine DrawE_eq (st' := _) (by first | dsimp only [n0, n1, n2, n3, n4, n5, n6, n7, n8, n9, m0, m1, m2, m3, m4, m5, m6, m7, m8, m9, o0, o1, o2, o3, o4, ↓reduceIte] | rfl) ?_)
    (refine DrawE_do rfl ?_; refine E_loadMs ag3 sz3 rfl rfl (mtOf_at rfl) (by rw [Nat.zero_add]; exact p2) ?_; refine DrawE_eq (st' := _) (by first | dsimp only [n0, n1, n2, n3, n4, n5, n6, n7, n8, n9, m0, m1, m2, m3, m4, m5, m6, m7, m8, m9, o0, o1, o2, o3, o4, ↓reduceIte] | rfl) ?_)
    (refine DrawE_do rfl ?_; refine E_int rfl rfl rfl (congrArg (fun x => some (Value.int IntKind.i64 x)) hv) ?_; refine DrawE_eq (st' := _) (by first | dsimp only [n0, n1, n2, n3, n4, n5, n6, n7, n8, n9, m0, m1, m2, m3, m4, m5, m6, m7, m8, m9, o0, o1, o2, o3, o4, ↓reduceIte] | rfl) ?_)
    (refine DrawE_do rfl ?_; refine E_indexMs el49 sz3 rfl rfl rfl rfl hk ?_; refine DrawE_eq (st' := _) (by first | dsimp only [n0, n1, n2, n3, n4, n5, n6, n7, n8, n9, m0, m1, m2, m3, m4, m5, m6, m7, m8, m9, o0, o1, o2, o3, o4, ↓reduceIte] | rfl) ?_)
    (refine DrawE_do rfl ?_; refine E_storeMs (v := .dat (intD v)) sz3 rfl rfl (mtOf_at rfl) rfl rfl (by rw [cellsOf_len, List.length_append]; omega) ?_; refine DrawE_eq (st' := _) (by first | dsimp only [n0, n1, n2, n3, n4, n5, n6, n7, n8, n9, m0, m1, m2, m3, m4, m5, m6, m7, m8, m9, o0, o1, o2, o3, o4, ↓reduceIte] | rfl) ?_)
    refine DrawE_nil ⟨by kernel_rfl, ?_⟩
    rw [e0]
    repeat (first | refine R_seq ?_ | refine R_block ?_ | refine R_skip ?_)
    refine R_region ?_
    iterate 4 ((refine OpsE_do rfl ?_; first | refine E_fieldp fo53_0 rfl rfl ?_ | refine E_fieldi fo53_0 rfl rfl ?_ | refine E_loadi (ds := [_]) ag49 sz49 rfl rfl rfl rfl ?_ | refine E_loadp (ds := [_]) ag49 sz49 rfl rfl rfl rfl rfl ?_ | refine E_move rfl ?_); refine OpsE_eq (st' := _) (by first | dsimp only [n0, n1, n2, n3, n4, n5, n6, n7, n8, n9, m0, m1, m2, m3, m4, m5, m6, m7, m8, m9, o0, o1, o2, o3, o4, ↓reduceIte] | rfl) ?_)
    (refine OpsE_do rfl ?_; refine E_int rfl rfl rfl hw ?_; refine OpsE_eq (st' := _) (by first | dsimp only [n0, n1, n2, n3, n4, n5, n6, n7, n8, n9, m0, m1, m2, m3, m4, m5, m6, m7, m8, m9, o0, o1, o2, o3, o4, ↓reduceIte] | rfl) ?_)
    (refine OpsE_do rfl ?_; (first | refine E_call rfl rfl rfl (c53 D _ hDl (mtOf_at rfl) (by omega) (by omega) (by omega)) ?_ | refine E_callfn rfl rfl rfl (c53 D _ hDl (mtOf_at rfl) (by omega) (by omega) (by omega)) ?_); refine OpsE_eq (st' := _) (by first | dsimp only [n0, n1, n2, n3, n4, n5, n6, n7, n8, n9, m0, m1, m2, m3, m4, m5, m6, m7, m8, m9, o0, o1, o2, o3, o4, ↓reduceIte] | rfl) ?_)
    iterate 2 ((refine OpsE_do rfl ?_; first | refine E_fieldp fo53_0 rfl rfl ?_ | refine E_fieldi fo53_0 rfl rfl ?_ | refine E_store (vs := [_]) sz49 rfl rfl rfl rfl rfl rfl rfl ?_); refine OpsE_eq (st' := _) (by first | dsimp only [n0, n1, n2, n3, n4, n5, n6, n7, n8, n9, m0, m1, m2, m3, m4, m5, m6, m7, m8, m9, o0, o1, o2, o3, o4, ↓reduceIte] | rfl) ?_)
    refine OpsE_nil ?_
    repeat (first | refine R_seq ?_ | refine R_block ?_ | refine R_skip ?_)
    refine R_region ?_
    iterate 4 ((refine OpsE_do rfl ?_; first | refine E_fieldp fo53_2 rfl rfl ?_ | refine E_fieldi fo53_2 rfl rfl ?_ | refine E_loadi (ds := [_]) ag49 sz49 rfl rfl rfl rfl ?_ | refine E_loadp (ds := [_]) ag49 sz49 rfl rfl rfl rfl rfl ?_ | refine E_move rfl ?_); refine OpsE_eq (st' := _) (by first | dsimp only [n0, n1, n2, n3, n4, n5, n6, n7, n8, n9, m0, m1, m2, m3, m4, m5, m6, m7, m8, m9, o0, o1, o2, o3, o4, ↓reduceIte] | rfl) ?_)
    (refine OpsE_do rfl ?_; refine E_int rfl rfl rfl hw ?_; refine OpsE_eq (st' := _) (by first | dsimp only [n0, n1, n2, n3, n4, n5, n6, n7, n8, n9, m0, m1, m2, m3, m4, m5, m6, m7, m8, m9, o0, o1, o2, o3, o4, ↓reduceIte] | rfl) ?_)
    (refine OpsE_do rfl ?_; (first | refine E_call rfl rfl rfl (c53 n.steps _ rfl (mtOf_at rfl) (by omega) h1 (by omega)) ?_ | refine E_callfn rfl rfl rfl (c53 n.steps _ rfl (mtOf_at rfl) (by omega) h1 (by omega)) ?_); refine OpsE_eq (st' := _) (by first | dsimp only [n0, n1, n2, n3, n4, n5, n6, n7, n8, n9, m0, m1, m2, m3, m4, m5, m6, m7, m8, m9, o0, o1, o2, o3, o4, ↓reduceIte] | rfl) ?_)
    iterate 2 ((refine OpsE_do rfl ?_; first | refine E_fieldp fo53_2 rfl rfl ?_ | refine E_fieldi fo53_2 rfl rfl ?_ | refine E_store (vs := [_]) sz49 rfl rfl rfl rfl rfl rfl rfl ?_); refine OpsE_eq (st' := _) (by first | dsimp only [n0, n1, n2, n3, n4, n5, n6, n7, n8, n9, m0, m1, m2, m3, m4, m5, m6, m7, m8, m9, o0, o1, o2, o3, o4, ↓reduceIte] | rfl) ?_)
    refine OpsE_nil ?_
    repeat (first | refine R_seq ?_ | refine R_block ?_ | refine R_skip ?_)
    refine R_region ?_
    iterate 4 ((refine OpsE_do rfl ?_; first | refine E_fieldp fo53_3 rfl rfl ?_ | refine E_fieldi fo53_3 rfl rfl ?_ | refine E_fieldp fo51_3 rfl rfl ?_ | refine E_fieldi fo51_3 rfl rfl ?_ | refine E_loadi (ds := [_]) ag49 sz49 rfl rfl rfl rfl ?_ | refine E_loadp (ds := [_]) ag49 sz49 rfl rfl rfl rfl rfl ?_ | refine E_len un49 rfl rfl ?_); refine OpsE_eq (st' := _) (by first | dsimp only [n0, n1, n2, n3, n4, n5, n6, n7, n8, n9, m0, m1, m2, m3, m4, m5, m6, m7, m8, m9, o0, o1, o2, o3, o4, ↓reduceIte] | rfl) ?_)
    (refine OpsE_do rfl ?_; refine E_int rfl rfl rfl hz ?_; refine OpsE_eq (st' := _) (by first | dsimp only [n0, n1, n2, n3, n4, n5, n6, n7, n8, n9, m0, m1, m2, m3, m4, m5, m6, m7, m8, m9, o0, o1, o2, o3, o4, ↓reduceIte] | rfl) ?_)
    refine OpsE_nil ?_
    repeat (first | refine R_seq ?_ | refine R_block ?_ | refine R_skip ?_)
    refine R_true rfl ?_
    repeat (first | refine R_seq ?_ | refine R_block ?_ | refine R_skip ?_)
    refine R_region ?_
    iterate 5 ((refine OpsE_do rfl ?_; first | refine E_fieldp fo53_3 rfl rfl ?_ | refine E_fieldi fo53_3 rfl rfl ?_ | refine E_fieldp fo51_3 rfl rfl ?_ | refine E_fieldi fo51_3 rfl rfl ?_ | refine E_loadi (ds := [_]) ag49 sz49 rfl rfl rfl rfl ?_ | refine E_loadp (ds := [_]) ag49 sz49 rfl rfl rfl rfl rfl ?_ | refine E_move rfl ?_); refine OpsE_eq (st' := _) (by first | dsimp only [n0, n1, n2, n3, n4, n5, n6, n7, n8, n9, m0, m1, m2, m3, m4, m5, m6, m7, m8, m9, o0, o1, o2, o3, o4, ↓reduceIte] | rfl) ?_)
    (refine OpsE_do rfl ?_; refine E_int rfl rfl rfl hw ?_; refine OpsE_eq (st' := _) (by first | dsimp only [n0, n1, n2, n3, n4, n5, n6, n7, n8, n9, m0, m1, m2, m3, m4, m5, m6, m7, m8, m9, o0, o1, o2, o3, o4, ↓reduceIte] | rfl) ?_)
    (refine OpsE_do rfl ?_; (first | refine E_call rfl rfl rfl (c53 n.read.strides _ rfl (mtOf_at rfl) (by omega) h2 (by omega)) ?_ | refine E_callfn rfl rfl rfl (c53 n.read.strides _ rfl (mtOf_at rfl) (by omega) h2 (by omega)) ?_); refine OpsE_eq (st' := _) (by first | dsimp only [n0, n1, n2, n3, n4, n5, n6, n7, n8, n9, m0, m1, m2, m3, m4, m5, m6, m7, m8, m9, o0, o1, o2, o3, o4, ↓reduceIte] | rfl) ?_)
    iterate 3 ((refine OpsE_do rfl ?_; first | refine E_fieldp fo53_3 rfl rfl ?_ | refine E_fieldi fo53_3 rfl rfl ?_ | refine E_fieldp fo51_3 rfl rfl ?_ | refine E_fieldi fo51_3 rfl rfl ?_ | refine E_store (vs := [_]) sz49 rfl rfl rfl rfl rfl rfl rfl ?_); refine OpsE_eq (st' := _) (by first | dsimp only [n0, n1, n2, n3, n4, n5, n6, n7, n8, n9, m0, m1, m2, m3, m4, m5, m6, m7, m8, m9, o0, o1, o2, o3, o4, ↓reduceIte] | rfl) ?_)
    refine OpsE_nil ?_
    repeat (first | refine R_seq ?_ | refine R_block ?_ | refine R_skip ?_)
    refine R_region ?_
    iterate 2 ((refine OpsE_do rfl ?_; first | refine E_loadi (ds := [_, _, _, _, _, _, _, _, _, _]) (d := .agg [_, _, _, _, _, _, _, _, _, _]) ag53 sz53 rfl rfl rfl rfl ?_ | refine E_loadp (ds := [_, _, _, _, _, _, _, _, _, _]) (v := .dat (.agg [_, _, _, _, _, _, _, _, _, _])) ag53 sz53 rfl rfl rfl rfl rfl ?_ | refine E_loadp (ds := [_, _, _, _, _, _, _, _, _, _]) (v := .agg [_, _, _, _, _, _, _, _, _, _]) ag53 sz53 rfl rfl rfl rfl rfl ?_ | refine E_store (vs := [_, _, _, _, _, _, _, _, _, _]) sz53 rfl rfl rfl rfl rfl rfl rfl ?_); refine OpsE_eq (st' := _) (by first | dsimp only [n0, n1, n2, n3, n4, n5, n6, n7, n8, n9, m0, m1, m2, m3, m4, m5, m6, m7, m8, m9, o0, o1, o2, o3, o4, ↓reduceIte] | rfl) ?_)
    refine OpsE_nil ?_
    repeat (first | refine R_seq ?_ | refine R_block ?_ | refine R_skip ?_)
    refine R_ret ?_
    rw [hj]
    exact ⟨trivial, _, rfl, rfl, rfl⟩

/-- the loop that joins, from the loop k on outwards -/
def loopN : Nat → Nst → Nst
  | 0, n => n
  | k + 1, n => loopN k (if fitsB n.dims n.steps k && fitsB n.dims n.read.strides k then joinN n k else n)
def selN (n : Nst) : Nst :=
  { dims := selM n.dims n.dims, write := n.write, steps := selM n.steps n.dims,
    read := { kind := n.read.kind, buffer := n.read.buffer, base := n.read.base, strides := selM n.read.strides n.dims, start := n.read.start, step := n.read.step, mod := n.read.mod } }
def collapseM (n : Nst) : Nst := loopN ((selN n).dims.length - 1) (selN n)
theorem selM_same {l dims : List Int} (h : l.length = dims.length) : (selM l dims).length = (selM dims dims).length := by
  have : ∀ (d l : List Int), l.length = d.length → ((l.zip d).filter fun x => x.2 != 1).length = (d.filter (· != 1)).length := by
    intro d
    induction d with
    | nil => intro l hl; simp
    | cons x d ih =>
      intro l hl
      cases l with
      | nil => simp at hl
      | cons y l =>
        have := ih l (by simpa using hl)
        by_cases h1 : x = 1 <;> simp [h1, this]
  rw [selM, selM, List.length_map, List.length_map, this _ _ h, this _ _ rfl]
theorem joinN_len {n : Nst} {k : Nat} (hk : k + 1 < n.dims.length) : (joinN n k).dims.length = n.dims.length - 1 := by
  simp only [joinN]; rw [erase_len _ _ (by simp; omega)]; simp
theorem joinN_steps {n : Nst} {k : Nat} (hk : k + 1 < n.dims.length) (hs : n.steps.length = n.dims.length) : (joinN n k).steps.length = n.dims.length - 1 := by
  simp only [joinN]; rw [erase_len _ _ (by omega), hs]
theorem joinN_strides {n : Nst} {k : Nat} (hk : k + 1 < n.dims.length) (hl : n.read.strides.length = 0 ∨ n.read.strides.length = n.dims.length) : (joinN n k).read.strides.length = 0 ∨ (joinN n k).read.strides.length = n.dims.length - 1 := by
  simp only [joinN]
  rcases hl with hl | hl
  · left; rw [List.eraseIdx_of_length_le (by omega)]; exact hl
  · right; rw [erase_len _ _ (by omega), hl]
theorem joinN_le {n : Nst} {k : Nat} : (joinN n k).read.strides.length ≤ n.read.strides.length := by
  simp only [joinN]; rw [List.length_eraseIdx]; split <;> omega

structure CX where
  j : Nat
  κ : Int
  n : Nst
  q0 : Nat
  q1 : Nat
  q2 : Nat

set_option maxHeartbeats 4000000 in
theorem c22 (n : Nst) (H : List Blk) (hd : n.dims.length ≤ 1048576) (hs : n.steps.length = n.dims.length) (hl : n.read.strides.length = 0 ∨ n.read.strides.length = n.dims.length) :
    PC prog env 22 [.dat n.toD] H (.dat (collapseM n).toD) H := by
  refine PC_pure (fn := f22) (by kernel_rfl) rfl rfl (by kernel_rfl) rfl rfl ?_ (by simp [PV.lends])
  have hz0 : selM [] n.dims = [] := by simp [selM]
  have l0 : (selN n).steps.length = (selN n).dims.length := selM_same hs
  have l1 : (selN n).read.strides.length = 0 ∨ (selN n).read.strides.length = (selN n).dims.length := by
    rcases hl with hl | hl
    · left; have := selM_len n.read.strides n.dims; simp only [selN]; omega
    · right; exact selM_same hl
  have l2 : (selN n).dims.length ≤ 1048576 := Nat.le_trans (selM_len _ _) hd
  refine R_eq (st' := ⟨[.dat (n.toD), .tup [], .tup [], .tup [], .tup [], .tup [], .tup [], .tup [], .tup [], .tup [], .tup [], .tup [], .tup [], .tup [], .tup [], .tup [], .tup [], .tup [], .tup [], .tup [], .tup [], .tup [], .tup [], .tup [], .tup [], .tup [], .tup [], .tup [], .tup [], .tup [], .tup [], .tup [], .tup [], .tup [], .tup [], .tup [], .tup [], .tup [], .tup [], .tup [], .tup [], .tup [], .tup [], .tup [], .tup [], .tup [], .tup [], .tup [], .tup [], .tup [], .tup [], .tup [], .tup []], []⟩) rfl ?_
  repeat (first | refine R_seq ?_ | refine R_block ?_ | refine R_skip ?_)
  refine R_region ?_
  iterate 2 ((refine OpsE_do rfl ?_; first | refine E_box (cs := [_, _, _, _, _, _, _, _, _, _]) rfl rfl rfl ?_ | refine E_alloc (cs := [_, _, _, _, _, _, _, _, _, _]) ze53 rfl rfl ?_); refine OpsE_eq (st' := _) (by first | dsimp only [n0, n1, n2, n3, n4, n5, n6, n7, n8, n9, m0, m1, m2, m3, m4, m5, m6, m7, m8, m9, o0, o1, o2, o3, o4, ↓reduceIte] | rfl) ?_)
  refine OpsE_nil ?_
  repeat (first | refine R_seq ?_ | refine R_block ?_ | refine R_skip ?_)
  refine R_region ?_
  iterate 3 ((refine OpsE_do rfl ?_; first | refine E_loadi (ds := [_, _, _, _, _, _, _, _, _, _]) (d := .agg [_, _, _, _, _, _, _, _, _, _]) ag53 sz53 rfl rfl rfl rfl ?_ | refine E_loadp (ds := [_, _, _, _, _, _, _, _, _, _]) (v := .dat (.agg [_, _, _, _, _, _, _, _, _, _])) ag53 sz53 rfl rfl rfl rfl rfl ?_ | refine E_loadp (ds := [_, _, _, _, _, _, _, _, _, _]) (v := .agg [_, _, _, _, _, _, _, _, _, _]) ag53 sz53 rfl rfl rfl rfl rfl ?_ | refine E_alloc (cs := [_, _, _, _, _, _, _, _, _, _]) ze53 rfl rfl ?_ | refine E_store (vs := [_, _, _, _, _, _, _, _, _, _]) sz53 rfl rfl rfl rfl rfl rfl rfl ?_); refine OpsE_eq (st' := _) (by first | dsimp only [n0, n1, n2, n3, n4, n5, n6, n7, n8, n9, m0, m1, m2, m3, m4, m5, m6, m7, m8, m9, o0, o1, o2, o3, o4, ↓reduceIte] | rfl) ?_)
  refine OpsE_nil ?_
  repeat (first | refine R_seq ?_ | refine R_block ?_ | refine R_skip ?_)
  refine R_draw ?_
  iterate 4 ((refine DrawE_do rfl ?_; first | refine E_fieldp fo53_0 rfl rfl ?_ | refine E_fieldi fo53_0 rfl rfl ?_ | refine E_loadi (ds := [_]) ag49 sz49 rfl rfl rfl rfl ?_ | refine E_loadp (ds := [_]) ag49 sz49 rfl rfl rfl rfl rfl ?_); refine DrawE_eq (st' := _) (by first | dsimp only [n0, n1, n2, n3, n4, n5, n6, n7, n8, n9, m0, m1, m2, m3, m4, m5, m6, m7, m8, m9, o0, o1, o2, o3, o4, ↓reduceIte] | rfl) ?_)
  (refine DrawE_do rfl ?_; refine E_callMt rfl rfl rfl rfl rfl (c39 n.dims n.dims (Nat.le_refl _) hd) (mtOf_at rfl) ?_; refine DrawE_eq (st' := _) (by first | dsimp only [n0, n1, n2, n3, n4, n5, n6, n7, n8, n9, m0, m1, m2, m3, m4, m5, m6, m7, m8, m9, o0, o1, o2, o3, o4, ↓reduceIte] | rfl) ?_)
  iterate 4 ((refine DrawE_do rfl ?_; first | refine E_fieldp fo53_2 rfl rfl ?_ | refine E_fieldi fo53_2 rfl rfl ?_ | refine E_loadi (ds := [_]) ag49 sz49 rfl rfl rfl rfl ?_ | refine E_loadp (ds := [_]) ag49 sz49 rfl rfl rfl rfl rfl ?_ | refine E_fieldp fo53_0 rfl rfl ?_ | refine E_fieldi fo53_0 rfl rfl ?_); refine DrawE_eq (st' := _) (by first | dsimp only [n0, n1, n2, n3, n4, n5, n6, n7, n8, n9, m0, m1, m2, m3, m4, m5, m6, m7, m8, m9, o0, o1, o2, o3, o4, ↓reduceIte] | rfl) ?_)
  (refine DrawE_do rfl ?_; refine E_callMt rfl rfl rfl rfl rfl (c39 n.steps n.dims (by omega) (by omega)) (mtOf_at rfl) ?_; refine DrawE_eq (st' := _) (by first | dsimp only [n0, n1, n2, n3, n4, n5, n6, n7, n8, n9, m0, m1, m2, m3, m4, m5, m6, m7, m8, m9, o0, o1, o2, o3, o4, ↓reduceIte] | rfl) ?_)
  iterate 5 ((refine DrawE_do rfl ?_; first | refine E_fieldp fo53_3 rfl rfl ?_ | refine E_fieldi fo53_3 rfl rfl ?_ | refine E_fieldp fo51_3 rfl rfl ?_ | refine E_fieldi fo51_3 rfl rfl ?_ | refine E_loadi (ds := [_]) ag49 sz49 rfl rfl rfl rfl ?_ | refine E_loadp (ds := [_]) ag49 sz49 rfl rfl rfl rfl rfl ?_ | refine E_fieldp fo53_0 rfl rfl ?_ | refine E_fieldi fo53_0 rfl rfl ?_); refine DrawE_eq (st' := _) (by first | dsimp only [n0, n1, n2, n3, n4, n5, n6, n7, n8, n9, m0, m1, m2, m3, m4, m5, m6, m7, m8, m9, o0, o1, o2, o3, o4, ↓reduceIte] | rfl) ?_)
  (refine DrawE_do rfl ?_; refine E_callMt rfl rfl rfl rfl rfl (c39 n.read.strides n.dims (by omega) (by omega)) (mtOf_at rfl) ?_; refine DrawE_eq (st' := _) (by first | dsimp only [n0, n1, n2, n3, n4, n5, n6, n7, n8, n9, m0, m1, m2, m3, m4, m5, m6, m7, m8, m9, o0, o1, o2, o3, o4, ↓reduceIte] | rfl) ?_)
  iterate 7 ((refine DrawE_do rfl ?_; first | refine E_fieldp fo53_0 rfl rfl ?_ | refine E_fieldi fo53_0 rfl rfl ?_ | refine E_store (vs := [_]) sz49 rfl rfl rfl rfl rfl rfl rfl ?_ | refine E_fieldp fo53_2 rfl rfl ?_ | refine E_fieldi fo53_2 rfl rfl ?_ | refine E_fieldp fo53_3 rfl rfl ?_ | refine E_fieldi fo53_3 rfl rfl ?_ | refine E_fieldp fo51_3 rfl rfl ?_ | refine E_fieldi fo51_3 rfl rfl ?_); refine DrawE_eq (st' := _) (by first | dsimp only [n0, n1, n2, n3, n4, n5, n6, n7, n8, n9, m0, m1, m2, m3, m4, m5, m6, m7, m8, m9, o0, o1, o2, o3, o4, ↓reduceIte] | rfl) ?_)
  refine DrawE_nil ⟨by kernel_rfl, ?_⟩
  repeat (first | refine R_seq ?_ | refine R_block ?_ | refine R_skip ?_)
  refine R_region ?_
  iterate 2 ((refine OpsE_do rfl ?_; first | refine E_func rfl ?_ | refine E_closure rfl rfl rfl ?_ | refine E_assign rfl rfl ?_); refine OpsE_eq (st' := _) (by first | dsimp only [n0, n1, n2, n3, n4, n5, n6, n7, n8, n9, m0, m1, m2, m3, m4, m5, m6, m7, m8, m9, o0, o1, o2, o3, o4, ↓reduceIte] | rfl) ?_)
  refine OpsE_nil ?_
  repeat (first | refine R_seq ?_ | refine R_block ?_ | refine R_skip ?_)
  refine R_region ?_
  iterate 5 ((refine OpsE_do rfl ?_; first | refine E_fieldp fo53_0 rfl rfl ?_ | refine E_fieldi fo53_0 rfl rfl ?_ | refine E_loadi (ds := [_]) ag49 sz49 rfl rfl rfl rfl ?_ | refine E_loadp (ds := [_]) ag49 sz49 rfl rfl rfl rfl rfl ?_ | refine E_len un49 rfl rfl ?_ | refine E_int rfl rfl rfl rfl ?_ | refine E_assign rfl rfl ?_); refine OpsE_eq (st' := _) (by first | dsimp only [n0, n1, n2, n3, n4, n5, n6, n7, n8, n9, m0, m1, m2, m3, m4, m5, m6, m7, m8, m9, o0, o1, o2, o3, o4, ↓reduceIte] | rfl) ?_)
  refine OpsE_nil ?_
  generalize hm0 : selN n = na at *
  have d0 : selM n.dims n.dims = na.dims := by rw [← hm0]; rfl
  have d1 : selM n.steps n.dims = na.steps := by rw [← hm0]; rfl
  have d2 : selM n.read.strides n.dims = na.read.strides := by rw [← hm0]; rfl
  have k1 : n.write = na.write := by rw [← hm0]; rfl
  have k2 : n.read.kind = na.read.kind := by rw [← hm0]; rfl
  have k3 : n.read.buffer = na.read.buffer := by rw [← hm0]; rfl
  have k4 : n.read.base = na.read.base := by rw [← hm0]; rfl
  have k5 : n.read.start = na.read.start := by rw [← hm0]; rfl
  have k6 : n.read.step = na.read.step := by rw [← hm0]; rfl
  have k7 : n.read.mod = na.read.mod := by rw [← hm0]; rfl
  rw [d0, d1, d2]
  repeat (first | refine R_seq ?_ | refine R_block ?_ | refine R_skip ?_)
  refine R_loop ?_
  refine RL_h0 (h1 := 6) rfl ?_
  refine RL_ind (fun (x : CX) => ⟨[.undef, .undef, .ptr 1 0, .ptr 2 0, .fn 40 [.ptr 2 0], intPV x.κ, .undef, .undef, .undef, .undef, .undef, .undef, .undef, .undef, .undef, .undef, .undef, .undef, .undef, .undef, .undef, .undef, .undef, .undef, .undef, .undef, .undef, .undef, .undef, .undef, .undef, .undef, .undef, .undef, .undef, .undef, .undef, .undef, .undef, .undef, .undef, .undef, .undef, .undef, .undef, .undef, .undef, .undef, .undef, .undef, .undef, .undef, .undef], [.box (n.toD.cells.map .dat), .box [.dat (.lst []), .dat (intD 0), .dat (.lst []), .dat (intD 0), .dat (intD 0), .dat (intD 0), .dat (.lst []), .dat (intD 0), .dat (intD 0), .dat (intD 0)], .box [.ms 3 0 0 x.n.dims.length na.dims.length, .dat (intD x.n.write), .ms 4 0 0 x.n.steps.length na.steps.length, .dat (intD x.n.read.kind), .dat (intD x.n.read.buffer), .dat (intD x.n.read.base), .ms 5 0 0 x.n.read.strides.length na.read.strides.length, .dat (intD x.n.read.start), .dat (intD x.n.read.step), .dat (intD x.n.read.mod)], .mt 3 0 (cellsOf intD (x.n.dims ++ List.replicate x.q0 0)), .mt 3 0 (cellsOf intD (x.n.steps ++ List.replicate x.q1 0)), .mt 3 0 (cellsOf intD (x.n.read.strides ++ List.replicate x.q2 0))]⟩)
    (fun x => (0 < x.j → x.κ = (x.j : Int) - 1) ∧ (x.j = 0 → x.κ < 0) ∧ (0 < x.j → x.j + 1 ≤ x.n.dims.length) ∧ x.n.dims.length ≤ na.dims.length ∧ x.n.steps.length = x.n.dims.length ∧ (x.n.read.strides.length = 0 ∨ x.n.read.strides.length = x.n.dims.length) ∧ x.n.read.strides.length ≤ na.read.strides.length ∧ loopN x.j x.n = collapseM n)
    (fun x => x.j) (fun x hx => ?_) _ ⟨na.dims.length - 1, IntKind.i64.wrap ((na.dims.length : Int) - 2), na, 0, 0, 0⟩ _ (Nat.lt_succ_self _) ⟨?_, ?_, ?_, Nat.le_refl _, by omega, ?_, Nat.le_refl _, ?_⟩ ?_
  · obtain ⟨j, κ, n', q0, q1, q2⟩ := x
    obtain ⟨x1, x2, x3, x4, x5, x6, x7, x8⟩ := hx
    simp only at x1 x2 x3 x4 x5 x6 x7 x8
    cases j with
    | zero =>
      have hg : intBin .geq .i64 κ 0 = some (.bool false) := by have := x2 rfl; simp only [intBin, Option.some.injEq, Value.bool.injEq, decide_eq_false_iff_not]; omega
      repeat (first | refine R_seq ?_ | refine R_block ?_ | refine R_skip ?_)
      refine R_region ?_
      (refine OpsE_do rfl ?_; refine E_move rfl ?_; refine OpsE_eq (st' := _) (by first | dsimp only [n0, n1, n2, n3, n4, n5, n6, n7, n8, n9, m0, m1, m2, m3, m4, m5, m6, m7, m8, m9, o0, o1, o2, o3, o4, ↓reduceIte] | rfl) ?_)
      (refine OpsE_do rfl ?_; refine E_int rfl rfl rfl hg ?_; refine OpsE_eq (st' := _) (by first | dsimp only [n0, n1, n2, n3, n4, n5, n6, n7, n8, n9, m0, m1, m2, m3, m4, m5, m6, m7, m8, m9, o0, o1, o2, o3, o4, ↓reduceIte] | rfl) ?_)
      refine OpsE_nil ?_
      repeat (first | refine R_seq ?_ | refine R_block ?_ | refine R_skip ?_)
      refine R_false rfl ?_
      repeat (first | refine R_seq ?_ | refine R_block ?_ | refine R_skip ?_)
      refine R_exit ?_
      repeat (first | refine R_seq ?_ | refine R_block ?_ | refine R_skip ?_)
      refine R_region ?_
      iterate 2 ((refine OpsE_do rfl ?_; first | refine E_loadi (ds := [_, _, _, _, _, _, _, _, _, _]) (d := .agg [_, _, _, _, _, _, _, _, _, _]) ag53 sz53 rfl rfl rfl rfl ?_ | refine E_loadp (ds := [_, _, _, _, _, _, _, _, _, _]) (v := .dat (.agg [_, _, _, _, _, _, _, _, _, _])) ag53 sz53 rfl rfl rfl rfl rfl ?_ | refine E_loadp (ds := [_, _, _, _, _, _, _, _, _, _]) (v := .agg [_, _, _, _, _, _, _, _, _, _]) ag53 sz53 rfl rfl rfl rfl rfl ?_ | refine E_store (vs := [_, _, _, _, _, _, _, _, _, _]) sz53 rfl rfl rfl rfl rfl rfl rfl ?_); refine OpsE_eq (st' := _) (by first | dsimp only [n0, n1, n2, n3, n4, n5, n6, n7, n8, n9, m0, m1, m2, m3, m4, m5, m6, m7, m8, m9, o0, o1, o2, o3, o4, ↓reduceIte] | rfl) ?_)
      refine OpsE_nil ?_
      repeat (first | refine R_seq ?_ | refine R_block ?_ | refine R_skip ?_)
      refine R_ret ?_
      refine ⟨trivial, _, rfl, ?_⟩
      have r0 := pure_ms (g := 0) (t := 3) (cap := na.dims.length) (f := intD) (fun _ => rfl) (mtOf_at (H := [.box (n.toD.cells.map .dat), .box [.ms 3 0 0 n'.dims.length na.dims.length, .dat (intD n'.write), .ms 4 0 0 n'.steps.length na.steps.length, .dat (intD n'.read.kind), .dat (intD n'.read.buffer), .dat (intD n'.read.base), .ms 5 0 0 n'.read.strides.length na.read.strides.length, .dat (intD n'.read.start), .dat (intD n'.read.step), .dat (intD n'.read.mod)], .box [.ms 3 0 0 n'.dims.length na.dims.length, .dat (intD n'.write), .ms 4 0 0 n'.steps.length na.steps.length, .dat (intD n'.read.kind), .dat (intD n'.read.buffer), .dat (intD n'.read.base), .ms 5 0 0 n'.read.strides.length na.read.strides.length, .dat (intD n'.read.start), .dat (intD n'.read.step), .dat (intD n'.read.mod)], .mt 3 0 (cellsOf intD (n'.dims ++ List.replicate q0 0)), .mt 3 0 (cellsOf intD (n'.steps ++ List.replicate q1 0)), .mt 3 0 (cellsOf intD (n'.read.strides ++ List.replicate q2 0))]) rfl) (show n'.dims.length ≤ (n'.dims ++ List.replicate q0 0).length by simp)
      have r1 := pure_ms (g := 0) (t := 4) (cap := na.steps.length) (f := intD) (fun _ => rfl) (mtOf_at (H := [.box (n.toD.cells.map .dat), .box [.ms 3 0 0 n'.dims.length na.dims.length, .dat (intD n'.write), .ms 4 0 0 n'.steps.length na.steps.length, .dat (intD n'.read.kind), .dat (intD n'.read.buffer), .dat (intD n'.read.base), .ms 5 0 0 n'.read.strides.length na.read.strides.length, .dat (intD n'.read.start), .dat (intD n'.read.step), .dat (intD n'.read.mod)], .box [.ms 3 0 0 n'.dims.length na.dims.length, .dat (intD n'.write), .ms 4 0 0 n'.steps.length na.steps.length, .dat (intD n'.read.kind), .dat (intD n'.read.buffer), .dat (intD n'.read.base), .ms 5 0 0 n'.read.strides.length na.read.strides.length, .dat (intD n'.read.start), .dat (intD n'.read.step), .dat (intD n'.read.mod)], .mt 3 0 (cellsOf intD (n'.dims ++ List.replicate q0 0)), .mt 3 0 (cellsOf intD (n'.steps ++ List.replicate q1 0)), .mt 3 0 (cellsOf intD (n'.read.strides ++ List.replicate q2 0))]) rfl) (show n'.steps.length ≤ (n'.steps ++ List.replicate q1 0).length by simp)
      have r2 := pure_ms (g := 0) (t := 5) (cap := na.read.strides.length) (f := intD) (fun _ => rfl) (mtOf_at (H := [.box (n.toD.cells.map .dat), .box [.ms 3 0 0 n'.dims.length na.dims.length, .dat (intD n'.write), .ms 4 0 0 n'.steps.length na.steps.length, .dat (intD n'.read.kind), .dat (intD n'.read.buffer), .dat (intD n'.read.base), .ms 5 0 0 n'.read.strides.length na.read.strides.length, .dat (intD n'.read.start), .dat (intD n'.read.step), .dat (intD n'.read.mod)], .box [.ms 3 0 0 n'.dims.length na.dims.length, .dat (intD n'.write), .ms 4 0 0 n'.steps.length na.steps.length, .dat (intD n'.read.kind), .dat (intD n'.read.buffer), .dat (intD n'.read.base), .ms 5 0 0 n'.read.strides.length na.read.strides.length, .dat (intD n'.read.start), .dat (intD n'.read.step), .dat (intD n'.read.mod)], .mt 3 0 (cellsOf intD (n'.dims ++ List.replicate q0 0)), .mt 3 0 (cellsOf intD (n'.steps ++ List.replicate q1 0)), .mt 3 0 (cellsOf intD (n'.read.strides ++ List.replicate q2 0))]) rfl) (show n'.read.strides.length ≤ (n'.read.strides ++ List.replicate q2 0).length by simp)
      rw [List.take_left' rfl] at r0 r1 r2
      have hw : n' = collapseM n := x8
      rw [← hw]
      show (pure1 [.box (n.toD.cells.map .dat), .box [.ms 3 0 0 n'.dims.length na.dims.length, .dat (intD n'.write), .ms 4 0 0 n'.steps.length na.steps.length, .dat (intD n'.read.kind), .dat (intD n'.read.buffer), .dat (intD n'.read.base), .ms 5 0 0 n'.read.strides.length na.read.strides.length, .dat (intD n'.read.start), .dat (intD n'.read.step), .dat (intD n'.read.mod)], .box [.ms 3 0 0 n'.dims.length na.dims.length, .dat (intD n'.write), .ms 4 0 0 n'.steps.length na.steps.length, .dat (intD n'.read.kind), .dat (intD n'.read.buffer), .dat (intD n'.read.base), .ms 5 0 0 n'.read.strides.length na.read.strides.length, .dat (intD n'.read.start), .dat (intD n'.read.step), .dat (intD n'.read.mod)], .mt 3 0 (cellsOf intD (n'.dims ++ List.replicate q0 0)), .mt 3 0 (cellsOf intD (n'.steps ++ List.replicate q1 0)), .mt 3 0 (cellsOf intD (n'.read.strides ++ List.replicate q2 0))] (.agg [.ms 3 0 0 n'.dims.length na.dims.length, .dat (intD n'.write), .ms 4 0 0 n'.steps.length na.steps.length, .dat (intD n'.read.kind), .dat (intD n'.read.buffer), .dat (intD n'.read.base), .ms 5 0 0 n'.read.strides.length na.read.strides.length, .dat (intD n'.read.start), .dat (intD n'.read.step), .dat (intD n'.read.mod)])).map PV.dat = _
      simp only [pure1, pureCs, r0, r1, r2]
      rfl
    | succ k =>
      have hκ : κ = (k : Int) := by have := x1 (by omega); omega
      subst hκ
      have hk : k + 1 < n'.dims.length := by have := x3 (by omega); omega
      have hg : intBin .geq .i64 (k : Int) 0 = some (.bool true) := by simp [intBin]
      have hsub : IntKind.i64.wrap ((k : Int) - 1) = (k : Int) - 1 := wrap_i64 (by omega) (by omega)
      repeat (first | refine R_seq ?_ | refine R_block ?_ | refine R_skip ?_)
      refine R_region ?_
      (refine OpsE_do rfl ?_; refine E_move rfl ?_; refine OpsE_eq (st' := _) (by first | dsimp only [n0, n1, n2, n3, n4, n5, n6, n7, n8, n9, m0, m1, m2, m3, m4, m5, m6, m7, m8, m9, o0, o1, o2, o3, o4, ↓reduceIte] | rfl) ?_)
      (refine OpsE_do rfl ?_; refine E_int rfl rfl rfl hg ?_; refine OpsE_eq (st' := _) (by first | dsimp only [n0, n1, n2, n3, n4, n5, n6, n7, n8, n9, m0, m1, m2, m3, m4, m5, m6, m7, m8, m9, o0, o1, o2, o3, o4, ↓reduceIte] | rfl) ?_)
      refine OpsE_nil ?_
      repeat (first | refine R_seq ?_ | refine R_block ?_ | refine R_skip ?_)
      refine R_true rfl ?_
      have keep : (fitsB n'.dims n'.steps k && fitsB n'.dims n'.read.strides k) = false → loopN k n' = collapseM n := fun h => by rw [← x8, loopN, h, if_neg (by simp)]
      cases hf1 : fitsB n'.dims n'.steps k
      · repeat (first | refine R_seq ?_ | refine R_block ?_ | refine R_skip ?_)
        refine R_region ?_
        iterate 4 ((refine OpsE_do rfl ?_; first | refine E_move rfl ?_ | refine E_fieldp fo53_2 rfl rfl ?_ | refine E_fieldi fo53_2 rfl rfl ?_ | refine E_loadi (ds := [_]) ag49 sz49 rfl rfl rfl rfl ?_ | refine E_loadp (ds := [_]) ag49 sz49 rfl rfl rfl rfl rfl ?_); refine OpsE_eq (st' := _) (by first | (simp only [n0, n1, n2, n3, n4, n5, n6, n7, n8, n9, m0, m1, m2, m3, m4, m5, m6, m7, m8, m9, o0, o1, o2, o3, o4, ↓reduceIte, hf1] <;> rfl) | rfl) ?_)
        (refine OpsE_do rfl ?_; (first | refine E_call rfl rfl rfl (c40_steps n' k na.dims.length na.steps.length na.read.strides.length q0 q1 q2 _ _ hk (by omega) (Or.inr x5)) ?_ | refine E_callfn rfl rfl rfl (c40_steps n' k na.dims.length na.steps.length na.read.strides.length q0 q1 q2 _ _ hk (by omega) (Or.inr x5)) ?_); refine OpsE_eq (st' := _) (by first | (simp only [n0, n1, n2, n3, n4, n5, n6, n7, n8, n9, m0, m1, m2, m3, m4, m5, m6, m7, m8, m9, o0, o1, o2, o3, o4, ↓reduceIte, hf1] <;> rfl) | rfl) ?_)
        iterate 6 ((first | (refine OpsE_do rfl ?_; first | refine E_move rfl ?_ | refine E_fieldp fo53_3 rfl rfl ?_ | refine E_fieldi fo53_3 rfl rfl ?_ | refine E_fieldp fo51_3 rfl rfl ?_ | refine E_fieldi fo51_3 rfl rfl ?_ | refine E_loadi (ds := [_]) ag49 sz49 rfl rfl rfl rfl ?_ | refine E_loadp (ds := [_]) ag49 sz49 rfl rfl rfl rfl rfl ?_) | refine OpsE_not rfl ?_); refine OpsE_eq (st' := _) (by first | (simp only [n0, n1, n2, n3, n4, n5, n6, n7, n8, n9, m0, m1, m2, m3, m4, m5, m6, m7, m8, m9, o0, o1, o2, o3, o4, ↓reduceIte, hf1] <;> rfl) | rfl) ?_)
        ((first | (refine OpsE_do rfl ?_; refine (by exact absurd rfl (by decide))) | refine OpsE_not rfl ?_); refine OpsE_eq (st' := _) (by first | (simp only [n0, n1, n2, n3, n4, n5, n6, n7, n8, n9, m0, m1, m2, m3, m4, m5, m6, m7, m8, m9, o0, o1, o2, o3, o4, ↓reduceIte, hf1] <;> rfl) | rfl) ?_)
        (refine OpsE_do rfl ?_; refine E_pick rfl rfl ?_; refine OpsE_eq (st' := _) (by first | (simp only [n0, n1, n2, n3, n4, n5, n6, n7, n8, n9, m0, m1, m2, m3, m4, m5, m6, m7, m8, m9, o0, o1, o2, o3, o4, ↓reduceIte, hf1] <;> rfl) | rfl) ?_)
        refine OpsE_nil ?_
        repeat (first | refine R_seq ?_ | refine R_block ?_ | refine R_skip ?_)
        refine R_false rfl ?_
        repeat (first | refine R_seq ?_ | refine R_block ?_ | refine R_skip ?_)
        refine R_region ?_
        iterate 3 ((refine OpsE_do rfl ?_; first | refine E_move rfl ?_ | refine E_int rfl rfl rfl rfl ?_ | refine E_assign rfl rfl ?_); refine OpsE_eq (st' := _) (by first | dsimp only [n0, n1, n2, n3, n4, n5, n6, n7, n8, n9, m0, m1, m2, m3, m4, m5, m6, m7, m8, m9, o0, o1, o2, o3, o4, ↓reduceIte] | rfl) ?_)
        refine OpsE_nil ?_
        refine ⟨⟨k, (k : Int) - 1, n', q0, q1, q2⟩, ?_, by simp, ⟨fun _ => rfl, fun h => by simp only at h ⊢; omega, fun h => by simp only at h ⊢; omega, x4, x5, x6, x7, keep (by rw [hf1]; rfl)⟩⟩
        rw [hsub]
        refine (prune_some rfl).trans ?_
        dsimp only [m6, m7, o0, o1]
        rw [purge_mt, purge_mt, purge_mt]
        rfl
      · cases hf2 : fitsB n'.dims n'.read.strides k
        · repeat (first | refine R_seq ?_ | refine R_block ?_ | refine R_skip ?_)
          refine R_region ?_
          iterate 4 ((refine OpsE_do rfl ?_; first | refine E_move rfl ?_ | refine E_fieldp fo53_2 rfl rfl ?_ | refine E_fieldi fo53_2 rfl rfl ?_ | refine E_loadi (ds := [_]) ag49 sz49 rfl rfl rfl rfl ?_ | refine E_loadp (ds := [_]) ag49 sz49 rfl rfl rfl rfl rfl ?_); refine OpsE_eq (st' := _) (by first | (simp only [n0, n1, n2, n3, n4, n5, n6, n7, n8, n9, m0, m1, m2, m3, m4, m5, m6, m7, m8, m9, o0, o1, o2, o3, o4, ↓reduceIte, hf1, hf2] <;> rfl) | rfl) ?_)
          (refine OpsE_do rfl ?_; (first | refine E_call rfl rfl rfl (c40_steps n' k na.dims.length na.steps.length na.read.strides.length q0 q1 q2 _ _ hk (by omega) (Or.inr x5)) ?_ | refine E_callfn rfl rfl rfl (c40_steps n' k na.dims.length na.steps.length na.read.strides.length q0 q1 q2 _ _ hk (by omega) (Or.inr x5)) ?_); refine OpsE_eq (st' := _) (by first | (simp only [n0, n1, n2, n3, n4, n5, n6, n7, n8, n9, m0, m1, m2, m3, m4, m5, m6, m7, m8, m9, o0, o1, o2, o3, o4, ↓reduceIte, hf1, hf2] <;> rfl) | rfl) ?_)
          iterate 6 ((first | (refine OpsE_do rfl ?_; first | refine E_move rfl ?_ | refine E_fieldp fo53_3 rfl rfl ?_ | refine E_fieldi fo53_3 rfl rfl ?_ | refine E_fieldp fo51_3 rfl rfl ?_ | refine E_fieldi fo51_3 rfl rfl ?_ | refine E_loadi (ds := [_]) ag49 sz49 rfl rfl rfl rfl ?_ | refine E_loadp (ds := [_]) ag49 sz49 rfl rfl rfl rfl rfl ?_) | refine OpsE_not rfl ?_); refine OpsE_eq (st' := _) (by first | (simp only [n0, n1, n2, n3, n4, n5, n6, n7, n8, n9, m0, m1, m2, m3, m4, m5, m6, m7, m8, m9, o0, o1, o2, o3, o4, ↓reduceIte, hf1, hf2] <;> rfl) | rfl) ?_)
          ((first | (refine OpsE_do rfl ?_; (first | refine E_call rfl rfl rfl (c40_strides n' k na.dims.length na.steps.length na.read.strides.length q0 q1 q2 _ _ hk (by omega) x6) ?_ | refine E_callfn rfl rfl rfl (c40_strides n' k na.dims.length na.steps.length na.read.strides.length q0 q1 q2 _ _ hk (by omega) x6) ?_)) | refine OpsE_not rfl ?_); refine OpsE_eq (st' := _) (by first | (simp only [n0, n1, n2, n3, n4, n5, n6, n7, n8, n9, m0, m1, m2, m3, m4, m5, m6, m7, m8, m9, o0, o1, o2, o3, o4, ↓reduceIte, hf1, hf2] <;> rfl) | rfl) ?_)
          (refine OpsE_do rfl ?_; refine E_pick rfl rfl ?_; refine OpsE_eq (st' := _) (by first | (simp only [n0, n1, n2, n3, n4, n5, n6, n7, n8, n9, m0, m1, m2, m3, m4, m5, m6, m7, m8, m9, o0, o1, o2, o3, o4, ↓reduceIte, hf1, hf2] <;> rfl) | rfl) ?_)
          refine OpsE_nil ?_
          repeat (first | refine R_seq ?_ | refine R_block ?_ | refine R_skip ?_)
          refine R_false rfl ?_
          repeat (first | refine R_seq ?_ | refine R_block ?_ | refine R_skip ?_)
          refine R_region ?_
          iterate 3 ((refine OpsE_do rfl ?_; first | refine E_move rfl ?_ | refine E_int rfl rfl rfl rfl ?_ | refine E_assign rfl rfl ?_); refine OpsE_eq (st' := _) (by first | dsimp only [n0, n1, n2, n3, n4, n5, n6, n7, n8, n9, m0, m1, m2, m3, m4, m5, m6, m7, m8, m9, o0, o1, o2, o3, o4, ↓reduceIte] | rfl) ?_)
          refine OpsE_nil ?_
          refine ⟨⟨k, (k : Int) - 1, n', q0, q1, q2⟩, ?_, by simp, ⟨fun _ => rfl, fun h => by simp only at h ⊢; omega, fun h => by simp only at h ⊢; omega, x4, x5, x6, x7, keep (by rw [hf1, hf2]; rfl)⟩⟩
          rw [hsub]
          refine (prune_some rfl).trans ?_
          dsimp only [m6, m7, o0, o1]
          rw [purge_mt, purge_mt, purge_mt]
          rfl
        · obtain ⟨q2', hc⟩ := c41 n' k na.dims.length na.steps.length na.read.strides.length q0 q1 q2 (.box (n.toD.cells.map .dat)) (.box [.dat (.lst []), .dat (intD 0), .dat (.lst []), .dat (intD 0), .dat (intD 0), .dat (intD 0), .dat (.lst []), .dat (intD 0), .dat (intD 0), .dat (intD 0)]) hk (by omega) x5 x6 x4 (by omega) x7
          repeat (first | refine R_seq ?_ | refine R_block ?_ | refine R_skip ?_)
          refine R_region ?_
          iterate 4 ((refine OpsE_do rfl ?_; first | refine E_move rfl ?_ | refine E_fieldp fo53_2 rfl rfl ?_ | refine E_fieldi fo53_2 rfl rfl ?_ | refine E_loadi (ds := [_]) ag49 sz49 rfl rfl rfl rfl ?_ | refine E_loadp (ds := [_]) ag49 sz49 rfl rfl rfl rfl rfl ?_); refine OpsE_eq (st' := _) (by first | (simp only [n0, n1, n2, n3, n4, n5, n6, n7, n8, n9, m0, m1, m2, m3, m4, m5, m6, m7, m8, m9, o0, o1, o2, o3, o4, ↓reduceIte, hf1, hf2] <;> rfl) | rfl) ?_)
          (refine OpsE_do rfl ?_; (first | refine E_call rfl rfl rfl (c40_steps n' k na.dims.length na.steps.length na.read.strides.length q0 q1 q2 _ _ hk (by omega) (Or.inr x5)) ?_ | refine E_callfn rfl rfl rfl (c40_steps n' k na.dims.length na.steps.length na.read.strides.length q0 q1 q2 _ _ hk (by omega) (Or.inr x5)) ?_); refine OpsE_eq (st' := _) (by first | (simp only [n0, n1, n2, n3, n4, n5, n6, n7, n8, n9, m0, m1, m2, m3, m4, m5, m6, m7, m8, m9, o0, o1, o2, o3, o4, ↓reduceIte, hf1, hf2] <;> rfl) | rfl) ?_)
          iterate 6 ((first | (refine OpsE_do rfl ?_; first | refine E_move rfl ?_ | refine E_fieldp fo53_3 rfl rfl ?_ | refine E_fieldi fo53_3 rfl rfl ?_ | refine E_fieldp fo51_3 rfl rfl ?_ | refine E_fieldi fo51_3 rfl rfl ?_ | refine E_loadi (ds := [_]) ag49 sz49 rfl rfl rfl rfl ?_ | refine E_loadp (ds := [_]) ag49 sz49 rfl rfl rfl rfl rfl ?_) | refine OpsE_not rfl ?_); refine OpsE_eq (st' := _) (by first | (simp only [n0, n1, n2, n3, n4, n5, n6, n7, n8, n9, m0, m1, m2, m3, m4, m5, m6, m7, m8, m9, o0, o1, o2, o3, o4, ↓reduceIte, hf1, hf2] <;> rfl) | rfl) ?_)
          ((first | (refine OpsE_do rfl ?_; (first | refine E_call rfl rfl rfl (c40_strides n' k na.dims.length na.steps.length na.read.strides.length q0 q1 q2 _ _ hk (by omega) x6) ?_ | refine E_callfn rfl rfl rfl (c40_strides n' k na.dims.length na.steps.length na.read.strides.length q0 q1 q2 _ _ hk (by omega) x6) ?_)) | refine OpsE_not rfl ?_); refine OpsE_eq (st' := _) (by first | (simp only [n0, n1, n2, n3, n4, n5, n6, n7, n8, n9, m0, m1, m2, m3, m4, m5, m6, m7, m8, m9, o0, o1, o2, o3, o4, ↓reduceIte, hf1, hf2] <;> rfl) | rfl) ?_)
          (refine OpsE_do rfl ?_; refine E_pick rfl rfl ?_; refine OpsE_eq (st' := _) (by first | (simp only [n0, n1, n2, n3, n4, n5, n6, n7, n8, n9, m0, m1, m2, m3, m4, m5, m6, m7, m8, m9, o0, o1, o2, o3, o4, ↓reduceIte, hf1, hf2] <;> rfl) | rfl) ?_)
          refine OpsE_nil ?_
          repeat (first | refine R_seq ?_ | refine R_block ?_ | refine R_skip ?_)
          refine R_true rfl ?_
          repeat (first | refine R_seq ?_ | refine R_block ?_ | refine R_skip ?_)
          refine R_region ?_
          iterate 2 ((refine OpsE_do rfl ?_; first | refine E_loadi (ds := [_, _, _, _, _, _, _, _, _, _]) (d := .agg [_, _, _, _, _, _, _, _, _, _]) ag53 sz53 rfl rfl rfl rfl ?_ | refine E_loadp (ds := [_, _, _, _, _, _, _, _, _, _]) (v := .dat (.agg [_, _, _, _, _, _, _, _, _, _])) ag53 sz53 rfl rfl rfl rfl rfl ?_ | refine E_loadp (ds := [_, _, _, _, _, _, _, _, _, _]) (v := .agg [_, _, _, _, _, _, _, _, _, _]) ag53 sz53 rfl rfl rfl rfl rfl ?_ | refine E_move rfl ?_); refine OpsE_eq (st' := _) (by first | dsimp only [n0, n1, n2, n3, n4, n5, n6, n7, n8, n9, m0, m1, m2, m3, m4, m5, m6, m7, m8, m9, o0, o1, o2, o3, o4, ↓reduceIte] | rfl) ?_)
          (refine OpsE_do rfl ?_; (first | refine E_call rfl rfl rfl hc ?_ | refine E_callfn rfl rfl rfl hc ?_); refine OpsE_eq (st' := _) (by first | dsimp only [n0, n1, n2, n3, n4, n5, n6, n7, n8, n9, m0, m1, m2, m3, m4, m5, m6, m7, m8, m9, o0, o1, o2, o3, o4, ↓reduceIte] | rfl) ?_)
          (refine OpsE_do rfl ?_; refine E_store (vs := [_, _, _, _, _, _, _, _, _, _]) sz53 rfl rfl rfl rfl rfl rfl rfl ?_; refine OpsE_eq (st' := _) (by first | dsimp only [n0, n1, n2, n3, n4, n5, n6, n7, n8, n9, m0, m1, m2, m3, m4, m5, m6, m7, m8, m9, o0, o1, o2, o3, o4, ↓reduceIte] | rfl) ?_)
          refine OpsE_nil ?_
          repeat (first | refine R_seq ?_ | refine R_block ?_ | refine R_skip ?_)
          refine R_region ?_
          iterate 3 ((refine OpsE_do rfl ?_; first | refine E_move rfl ?_ | refine E_int rfl rfl rfl rfl ?_ | refine E_assign rfl rfl ?_); refine OpsE_eq (st' := _) (by first | dsimp only [n0, n1, n2, n3, n4, n5, n6, n7, n8, n9, m0, m1, m2, m3, m4, m5, m6, m7, m8, m9, o0, o1, o2, o3, o4, ↓reduceIte] | rfl) ?_)
          refine OpsE_nil ?_
          refine ⟨⟨k, (k : Int) - 1, joinN n' k, q0 + 1, q1 + 1, q2'⟩, ?_, by simp, ⟨fun _ => rfl, fun h => by simp only at h ⊢; omega, fun h => by simp only at h ⊢; rw [joinN_len hk]; omega, by simp only; rw [joinN_len hk]; omega, by simp only; rw [joinN_len hk, joinN_steps hk x5], by simp only; rw [joinN_len hk]; exact joinN_strides hk x6, by simp only; exact Nat.le_trans joinN_le x7, by simp only; rw [← x8, loopN, hf1, hf2]; rfl⟩⟩
          rw [hsub]
          refine (prune_some rfl).trans ?_
          dsimp only [m6, m7, o0, o1]
          rw [purge_mt, purge_mt, purge_mt]
          rfl
  · intro h; simp only at h ⊢; rw [wrap_i64 (by omega) (by omega)]; omega
  · intro h; simp only at h ⊢; rw [wrap_i64 (by omega) (by omega)]; omega
  · intro h; simp only at h ⊢; omega
  · exact l1
  · show loopN (na.dims.length - 1) na = collapseM n
    rw [← hm0]; rfl
  · refine (prune_some rfl).trans ?_
    dsimp only [m6, m7, o0, o1]
    rw [purge_mt, purge_mt, purge_mt, ← k1, ← k2, ← k3, ← k4, ← k5, ← k6, ← k7]
    simp only [List.replicate_zero, List.append_nil]
    rfl
end Go.Proofs.Try
