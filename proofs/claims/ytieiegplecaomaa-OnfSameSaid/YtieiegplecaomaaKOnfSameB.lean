/-
  Models of functions, their walks, and plain laws.
-/
import Derived.Test.YtieiegplecaomaaPmLaw
import Derived.Test.YtieiegplecaomaaKOnfSameA
namespace Go.Proofs.Try
open Go Go.Pm
set_option linter.unusedVariables false
set_option maxHeartbeats 2000000
set_option maxRecDepth 2000
def m_law21_OnfSame_L1 (x : ((List Int) × T_ref21_Nest × T_ref21_Nest × (List Int) × T_onf_Nest × (List Int) × (List Int) × Nat × (List Int) × Nat × (List Int) × Nat × Nat × Nat × Nat × Nat × Nat × Nat × (List Int) × Int)) : Option ((List Int)) :=
  match x with
  | (v11, p0, p1, v8, v7, v9, v10, v14, v12, v15, v13, v16, v17, v18, v19, v20, v21, v22, v223, v224) =>
  if v224 < (v11.length : Int) then
    guardM (v223.length = v11.length) >>= fun (_ : Unit) =>
    idx v223 v224 >>= fun v624 =>
    idx v223 v224 >>= fun v626 =>
    guardM (v223.length = v11.length) >>= fun (_ : Unit) =>
    idx v223 v224 >>= fun v627 =>
    setM v223 v224 (W (v626 + 1)) >>= fun v629 =>
    m_law21_OnfSame_L1 (v11, p0, p1, v8, v7, v9, v10, v14, v12, v15, v13, v16, v17, v18, v19, v20, v21, v22, v629, (W (v224 + 1)))
  else
  some v223
  partial_fixpoint
def P_law21_OnfSame_L1 : ((List Int) × T_ref21_Nest × T_ref21_Nest × (List Int) × T_onf_Nest × (List Int) × (List Int) × Nat × (List Int) × Nat × (List Int) × Nat × Nat × Nat × Nat × Nat × Nat × Nat × (List Int) × Int) → (List Int) → Prop := fun x r => match x with
  | (v11, p0, p1, v8, v7, v9, v10, v14, v12, v15, v13, v16, v17, v18, v19, v20, v21, v22, v223, v224) => ∀ st, prune 13 ((firstRegion (codeAt [1, 1, 1, 1, 1, 1, 1, 0, 1, 0, 0] (bodyOf f8))).bind (env.hint 8).keepAt) st = ⟨kp 103 [(2, (.ptr 0 0)), (3, (.ptr 1 0)), (5, (.ptr 2 0)), (6, (.ptr 12 0)), (7, (intPV v224))], [(.box [(.dat (.lst ((List.map intD) p0.dims))), (intPV p0.write), (.dat (.lst ((List.map intD) p0.steps))), (intPV p0.read.kind), (intPV p0.read.buffer), (intPV p0.read.base), (.dat (.lst ((List.map intD) p0.read.strides))), (intPV p0.read.start), (intPV p0.read.step), (intPV p0.read.mod)]), (.box [(.dat (.lst ((List.map intD) p1.dims))), (intPV p1.write), (.dat (.lst ((List.map intD) p1.steps))), (intPV p1.read.kind), (intPV p1.read.buffer), (intPV p1.read.base), (.dat (.lst ((List.map intD) p1.read.strides))), (intPV p1.read.start), (intPV p1.read.step), (intPV p1.read.mod)]), (.box [(.vec 3 ((List.map intD) v8)), (intPV v7.write), (.vec 4 ((List.map intD) v9)), (intPV v7.read.kind), (intPV v7.read.buffer), (intPV v7.read.base), (.vec 5 ((List.map intD) v10)), (intPV v7.read.start), (intPV v7.read.step), (intPV v7.read.mod)]), (.tok 3 v8.length), (.tok 3 v9.length), (.tok 3 v10.length), (.box [(.vec 3 ((List.map intD) v8)), (intPV v7.write), (.vec 4 ((List.map intD) v9)), (intPV v7.read.kind), (intPV v7.read.buffer), (intPV v7.read.base), (.vec 5 ((List.map intD) v10)), (intPV v7.read.start), (intPV v7.read.step), (intPV v7.read.mod)]), (.box [(.ms 9 1 0 v11.length v14), (intPV v7.write), (.ms 10 1 0 v12.length v15), (intPV v7.read.kind), (intPV v7.read.buffer), (intPV v7.read.base), (.ms 11 1 0 v13.length v16), (intPV v7.read.start), (intPV v7.read.step), (intPV v7.read.mod)]), (.box [(.ms 9 1 0 v11.length v17), (intPV v7.write), (.ms 10 1 0 v12.length v18), (intPV v7.read.kind), (intPV v7.read.buffer), (intPV v7.read.base), (.ms 11 1 0 v13.length v19), (intPV v7.read.start), (intPV v7.read.step), (intPV v7.read.mod)]), (.mt 3 1 (cellsOf intD v223)), (.mt 3 1 (cellsOf intD v12)), (.mt 3 1 (cellsOf intD v13)), (.box [(.ms 9 1 0 v11.length v20), (intPV v7.write), (.ms 10 1 0 v12.length v21), (intPV v7.read.kind), (intPV v7.read.buffer), (intPV v7.read.base), (.ms 11 1 0 v13.length v22), (intPV v7.read.start), (intPV v7.read.step), (intPV v7.read.mod)])]⟩ →
    RL prog env (env.hint 8) true (codeAt [1, 1, 1, 1, 1, 1, 1, 0, 1, 0, 0] (bodyOf f8)) 13 st (fun e s => match r with | v623 => e = .exit 0 ∧ ∃ d, s = ⟨sl d 103 [(2, (.ptr 0 0)), (3, (.ptr 1 0)), (5, (.ptr 2 0)), (6, (.ptr 12 0))], [(.box [(.dat (.lst ((List.map intD) p0.dims))), (intPV p0.write), (.dat (.lst ((List.map intD) p0.steps))), (intPV p0.read.kind), (intPV p0.read.buffer), (intPV p0.read.base), (.dat (.lst ((List.map intD) p0.read.strides))), (intPV p0.read.start), (intPV p0.read.step), (intPV p0.read.mod)]), (.box [(.dat (.lst ((List.map intD) p1.dims))), (intPV p1.write), (.dat (.lst ((List.map intD) p1.steps))), (intPV p1.read.kind), (intPV p1.read.buffer), (intPV p1.read.base), (.dat (.lst ((List.map intD) p1.read.strides))), (intPV p1.read.start), (intPV p1.read.step), (intPV p1.read.mod)]), (.box [(.vec 3 ((List.map intD) v8)), (intPV v7.write), (.vec 4 ((List.map intD) v9)), (intPV v7.read.kind), (intPV v7.read.buffer), (intPV v7.read.base), (.vec 5 ((List.map intD) v10)), (intPV v7.read.start), (intPV v7.read.step), (intPV v7.read.mod)]), (.tok 3 v8.length), (.tok 3 v9.length), (.tok 3 v10.length), (.box [(.vec 3 ((List.map intD) v8)), (intPV v7.write), (.vec 4 ((List.map intD) v9)), (intPV v7.read.kind), (intPV v7.read.buffer), (intPV v7.read.base), (.vec 5 ((List.map intD) v10)), (intPV v7.read.start), (intPV v7.read.step), (intPV v7.read.mod)]), (.box [(.ms 9 1 0 v11.length v14), (intPV v7.write), (.ms 10 1 0 v12.length v15), (intPV v7.read.kind), (intPV v7.read.buffer), (intPV v7.read.base), (.ms 11 1 0 v13.length v16), (intPV v7.read.start), (intPV v7.read.step), (intPV v7.read.mod)]), (.box [(.ms 9 1 0 v11.length v17), (intPV v7.write), (.ms 10 1 0 v12.length v18), (intPV v7.read.kind), (intPV v7.read.buffer), (intPV v7.read.base), (.ms 11 1 0 v13.length v19), (intPV v7.read.start), (intPV v7.read.step), (intPV v7.read.mod)]), (.mt 3 1 (cellsOf intD v623)), (.mt 3 1 (cellsOf intD v12)), (.mt 3 1 (cellsOf intD v13)), (.box [(.ms 9 1 0 v11.length v20), (intPV v7.write), (.ms 10 1 0 v12.length v21), (intPV v7.read.kind), (intPV v7.read.buffer), (intPV v7.read.base), (.ms 11 1 0 v13.length v22), (intPV v7.read.start), (intPV v7.read.step), (intPV v7.read.mod)])]⟩)
theorem w_law21_OnfSame_L1 : ∀ x r, m_law21_OnfSame_L1 x = some r → P_law21_OnfSame_L1 x r := by
  refine m_law21_OnfSame_L1.partial_correctness _ (fun m_law21_OnfSame_L1 w_law21_OnfSame_L1 x r hm => ?_)
  unfold P_law21_OnfSame_L1
  obtain ⟨v11, p0, p1, v8, v7, v9, v10, v14, v12, v15, v13, v16, v17, v18, v19, v20, v21, v22, v223, v224⟩ := x
  intro st hst
  refine RL_at hst ?_
  clear hst
  refine R_seq ?_
  refine R_seq ?_
  refine R_G ?_
  refine G_run 3 ?_
  refine G_run 1 ?_
  refine G_run 1 ?_
  refine G_end ?_
  refine R_ifp (p := v224 < (v11.length : Int)) (rfl) (fun hc => ?_) (fun hc => ?_)
  · replace hm := pos_inv hc hm
    refine R_skip ?_
    refine R_seq ?_
    refine R_block ?_
    refine R_G ?_
    refine G_run 3 ?_
    obtain ⟨_, hl625, hm⟩ := bind_inv hm
    replace hl625 := guard_inv hl625
    obtain ⟨v624, hx, hm⟩ := bind_inv hm
    refine G_semN rfl (by kernel_rfl) (fun _ => E_indexMs (e := 3) (n := v224) (j := (v224).toNat) (tt := 9) (g := 1) (lo := 0) (len := v11.length) (cap := v20) (k := .i64) (by kernel_rfl) (by kernel_rfl) rfl (by kernel_rfl) (by kernel_rfl) (idx_nat hx) (Nat.lt_of_lt_of_eq (idx_lt hx) hl625)) ?_
    obtain ⟨v626, hx, hm⟩ := bind_inv hm
    refine G_semN rfl (by kernel_rfl) (fun _ => E_loadMs (tt := 9) (g := 1) (j := (0 + (v224).toNat)) (e := 3) (cs := cellsOf intD v223) (v := .dat (intD v626)) (by kernel_rfl) (by kernel_rfl) rfl (by kernel_rfl) (mtOf_at (by kernel_rfl)) (cells_idx intD hx)) ?_
    refine G_run 1 ?_
    obtain ⟨_, hl628, hm⟩ := bind_inv hm
    replace hl628 := guard_inv hl628
    obtain ⟨v627, hx, hm⟩ := bind_inv hm
    refine G_semN rfl (by kernel_rfl) (fun _ => E_indexMs (e := 3) (n := v224) (j := (v224).toNat) (tt := 9) (g := 1) (lo := 0) (len := v11.length) (cap := v20) (k := .i64) (by kernel_rfl) (by kernel_rfl) rfl (by kernel_rfl) (by kernel_rfl) (idx_nat hx) (Nat.lt_of_lt_of_eq (idx_lt hx) hl628)) ?_
    obtain ⟨v629, hx, hm⟩ := bind_inv hm
    refine G_semH (fun H => H.set 9 (.mt 3 1 (cellsOf intD v629))) rfl (by kernel_rfl) (fun _ => E_stMs intD (l := v223) (n := v224) (y := (W (v626 + 1))) hx (fun _ => rfl) (by kernel_rfl) rfl (by kernel_rfl) (by kernel_rfl) (by kernel_rfl) (by kernel_rfl)) ?_
    refine G_end ?_
    refine R_G ?_
    refine G_run 3 ?_
    refine G_end ?_
    exact w_law21_OnfSame_L1 _ _ hm _ (prune_of2 [(.box [(.dat (.lst ((List.map intD) p0.dims))), (intPV p0.write), (.dat (.lst ((List.map intD) p0.steps))), (intPV p0.read.kind), (intPV p0.read.buffer), (intPV p0.read.base), (.dat (.lst ((List.map intD) p0.read.strides))), (intPV p0.read.start), (intPV p0.read.step), (intPV p0.read.mod)]), (.box [(.dat (.lst ((List.map intD) p1.dims))), (intPV p1.write), (.dat (.lst ((List.map intD) p1.steps))), (intPV p1.read.kind), (intPV p1.read.buffer), (intPV p1.read.base), (.dat (.lst ((List.map intD) p1.read.strides))), (intPV p1.read.start), (intPV p1.read.step), (intPV p1.read.mod)]), (.box [(.vec 3 ((List.map intD) v8)), (intPV v7.write), (.vec 4 ((List.map intD) v9)), (intPV v7.read.kind), (intPV v7.read.buffer), (intPV v7.read.base), (.vec 5 ((List.map intD) v10)), (intPV v7.read.start), (intPV v7.read.step), (intPV v7.read.mod)]), (.tok 3 v8.length), (.tok 3 v9.length), (.tok 3 v10.length), (.box [(.vec 3 ((List.map intD) v8)), (intPV v7.write), (.vec 4 ((List.map intD) v9)), (intPV v7.read.kind), (intPV v7.read.buffer), (intPV v7.read.base), (.vec 5 ((List.map intD) v10)), (intPV v7.read.start), (intPV v7.read.step), (intPV v7.read.mod)]), (.box [(.ms 9 1 0 v11.length v14), (intPV v7.write), (.ms 10 1 0 v12.length v15), (intPV v7.read.kind), (intPV v7.read.buffer), (intPV v7.read.base), (.ms 11 1 0 v13.length v16), (intPV v7.read.start), (intPV v7.read.step), (intPV v7.read.mod)]), (.box [(.ms 9 1 0 v11.length v17), (intPV v7.write), (.ms 10 1 0 v12.length v18), (intPV v7.read.kind), (intPV v7.read.buffer), (intPV v7.read.base), (.ms 11 1 0 v13.length v19), (intPV v7.read.start), (intPV v7.read.step), (intPV v7.read.mod)]), (.mt 3 1 (cellsOf intD v629)), (.mt 3 1 (cellsOf intD v12)), (.mt 3 1 (cellsOf intD v13)), (.box [(.ms 9 1 0 v11.length v20), (intPV v7.write), (.ms 10 1 0 v12.length v21), (intPV v7.read.kind), (intPV v7.read.buffer), (intPV v7.read.base), (.ms 11 1 0 v13.length v22), (intPV v7.read.start), (intPV v7.read.step), (intPV v7.read.mod)])] (fun _ => (pg_cons (by kernel_rfl) (pg_cons (by kernel_rfl) (pg_cons (by kernel_rfl) (pg_cons (by kernel_rfl) (pg_cons (by kernel_rfl) (pg_cons (by kernel_rfl) (pg_cons (by kernel_rfl) (pg_cons (by kernel_rfl) (pg_cons (by kernel_rfl) (pg_cons (purge_mt intD _ _ _ _ _) (pg_cons (purge_mt intD _ _ _ _ _) (pg_cons (purge_mt intD _ _ _ _ _) (pg_cons (by kernel_rfl) pg_nil)))))))))))))) rfl)
  replace hm := neg_inv hc hm
  refine R_exit ?_
  obtain rfl := inj1 hm
  exact ⟨rfl, cut_leaf (by kernel_rfl)⟩
def m_law21_OnfSame_L2 (x : ((List Int) × T_ref21_Nest × T_ref21_Nest × (List Int) × T_onf_Nest × (List Int) × (List Int) × (List Int) × Nat × Nat × (List Int) × Nat × Nat × Nat × Nat × (List Int) × Nat × Nat × Nat × (List Int) × Int)) : Option ((List Int)) :=
  match x with
  | (v12, p0, p1, v8, v7, v9, v10, v11, v14, v15, v13, v16, v17, v18, v19, v623, v20, v21, v22, v830, v831) =>
  if v831 < (v12.length : Int) then
    guardM (v830.length = v12.length) >>= fun (_ : Unit) =>
    idx v830 v831 >>= fun v1231 =>
    idx v830 v831 >>= fun v1233 =>
    guardM (v830.length = v12.length) >>= fun (_ : Unit) =>
    idx v830 v831 >>= fun v1234 =>
    setM v830 v831 (W (v1233 + 1)) >>= fun v1236 =>
    m_law21_OnfSame_L2 (v12, p0, p1, v8, v7, v9, v10, v11, v14, v15, v13, v16, v17, v18, v19, v623, v20, v21, v22, v1236, (W (v831 + 1)))
  else
  some v830
  partial_fixpoint
def P_law21_OnfSame_L2 : ((List Int) × T_ref21_Nest × T_ref21_Nest × (List Int) × T_onf_Nest × (List Int) × (List Int) × (List Int) × Nat × Nat × (List Int) × Nat × Nat × Nat × Nat × (List Int) × Nat × Nat × Nat × (List Int) × Int) → (List Int) → Prop := fun x r => match x with
  | (v12, p0, p1, v8, v7, v9, v10, v11, v14, v15, v13, v16, v17, v18, v19, v623, v20, v21, v22, v830, v831) => ∀ st, prune 13 ((firstRegion (codeAt [1, 1, 1, 1, 1, 1, 1, 1, 0, 1, 0, 0] (bodyOf f8))).bind (env.hint 8).keepAt) st = ⟨kp 103 [(2, (.ptr 0 0)), (3, (.ptr 1 0)), (5, (.ptr 2 0)), (6, (.ptr 12 0)), (8, (intPV v831))], [(.box [(.dat (.lst ((List.map intD) p0.dims))), (intPV p0.write), (.dat (.lst ((List.map intD) p0.steps))), (intPV p0.read.kind), (intPV p0.read.buffer), (intPV p0.read.base), (.dat (.lst ((List.map intD) p0.read.strides))), (intPV p0.read.start), (intPV p0.read.step), (intPV p0.read.mod)]), (.box [(.dat (.lst ((List.map intD) p1.dims))), (intPV p1.write), (.dat (.lst ((List.map intD) p1.steps))), (intPV p1.read.kind), (intPV p1.read.buffer), (intPV p1.read.base), (.dat (.lst ((List.map intD) p1.read.strides))), (intPV p1.read.start), (intPV p1.read.step), (intPV p1.read.mod)]), (.box [(.vec 3 ((List.map intD) v8)), (intPV v7.write), (.vec 4 ((List.map intD) v9)), (intPV v7.read.kind), (intPV v7.read.buffer), (intPV v7.read.base), (.vec 5 ((List.map intD) v10)), (intPV v7.read.start), (intPV v7.read.step), (intPV v7.read.mod)]), (.tok 3 v8.length), (.tok 3 v9.length), (.tok 3 v10.length), (.box [(.vec 3 ((List.map intD) v8)), (intPV v7.write), (.vec 4 ((List.map intD) v9)), (intPV v7.read.kind), (intPV v7.read.buffer), (intPV v7.read.base), (.vec 5 ((List.map intD) v10)), (intPV v7.read.start), (intPV v7.read.step), (intPV v7.read.mod)]), (.box [(.ms 9 1 0 v11.length v14), (intPV v7.write), (.ms 10 1 0 v12.length v15), (intPV v7.read.kind), (intPV v7.read.buffer), (intPV v7.read.base), (.ms 11 1 0 v13.length v16), (intPV v7.read.start), (intPV v7.read.step), (intPV v7.read.mod)]), (.box [(.ms 9 1 0 v11.length v17), (intPV v7.write), (.ms 10 1 0 v12.length v18), (intPV v7.read.kind), (intPV v7.read.buffer), (intPV v7.read.base), (.ms 11 1 0 v13.length v19), (intPV v7.read.start), (intPV v7.read.step), (intPV v7.read.mod)]), (.mt 3 1 (cellsOf intD v623)), (.mt 3 1 (cellsOf intD v830)), (.mt 3 1 (cellsOf intD v13)), (.box [(.ms 9 1 0 v11.length v20), (intPV v7.write), (.ms 10 1 0 v12.length v21), (intPV v7.read.kind), (intPV v7.read.buffer), (intPV v7.read.base), (.ms 11 1 0 v13.length v22), (intPV v7.read.start), (intPV v7.read.step), (intPV v7.read.mod)])]⟩ →
    RL prog env (env.hint 8) true (codeAt [1, 1, 1, 1, 1, 1, 1, 1, 0, 1, 0, 0] (bodyOf f8)) 13 st (fun e s => match r with | v1230 => e = .exit 2 ∧ ∃ d, s = ⟨sl d 103 [(2, (.ptr 0 0)), (3, (.ptr 1 0)), (5, (.ptr 2 0)), (6, (.ptr 12 0))], [(.box [(.dat (.lst ((List.map intD) p0.dims))), (intPV p0.write), (.dat (.lst ((List.map intD) p0.steps))), (intPV p0.read.kind), (intPV p0.read.buffer), (intPV p0.read.base), (.dat (.lst ((List.map intD) p0.read.strides))), (intPV p0.read.start), (intPV p0.read.step), (intPV p0.read.mod)]), (.box [(.dat (.lst ((List.map intD) p1.dims))), (intPV p1.write), (.dat (.lst ((List.map intD) p1.steps))), (intPV p1.read.kind), (intPV p1.read.buffer), (intPV p1.read.base), (.dat (.lst ((List.map intD) p1.read.strides))), (intPV p1.read.start), (intPV p1.read.step), (intPV p1.read.mod)]), (.box [(.vec 3 ((List.map intD) v8)), (intPV v7.write), (.vec 4 ((List.map intD) v9)), (intPV v7.read.kind), (intPV v7.read.buffer), (intPV v7.read.base), (.vec 5 ((List.map intD) v10)), (intPV v7.read.start), (intPV v7.read.step), (intPV v7.read.mod)]), (.tok 3 v8.length), (.tok 3 v9.length), (.tok 3 v10.length), (.box [(.vec 3 ((List.map intD) v8)), (intPV v7.write), (.vec 4 ((List.map intD) v9)), (intPV v7.read.kind), (intPV v7.read.buffer), (intPV v7.read.base), (.vec 5 ((List.map intD) v10)), (intPV v7.read.start), (intPV v7.read.step), (intPV v7.read.mod)]), (.box [(.ms 9 1 0 v11.length v14), (intPV v7.write), (.ms 10 1 0 v12.length v15), (intPV v7.read.kind), (intPV v7.read.buffer), (intPV v7.read.base), (.ms 11 1 0 v13.length v16), (intPV v7.read.start), (intPV v7.read.step), (intPV v7.read.mod)]), (.box [(.ms 9 1 0 v11.length v17), (intPV v7.write), (.ms 10 1 0 v12.length v18), (intPV v7.read.kind), (intPV v7.read.buffer), (intPV v7.read.base), (.ms 11 1 0 v13.length v19), (intPV v7.read.start), (intPV v7.read.step), (intPV v7.read.mod)]), (.mt 3 1 (cellsOf intD v623)), (.mt 3 1 (cellsOf intD v1230)), (.mt 3 1 (cellsOf intD v13)), (.box [(.ms 9 1 0 v11.length v20), (intPV v7.write), (.ms 10 1 0 v12.length v21), (intPV v7.read.kind), (intPV v7.read.buffer), (intPV v7.read.base), (.ms 11 1 0 v13.length v22), (intPV v7.read.start), (intPV v7.read.step), (intPV v7.read.mod)])]⟩)
theorem w_law21_OnfSame_L2 : ∀ x r, m_law21_OnfSame_L2 x = some r → P_law21_OnfSame_L2 x r := by
  refine m_law21_OnfSame_L2.partial_correctness _ (fun m_law21_OnfSame_L2 w_law21_OnfSame_L2 x r hm => ?_)
  unfold P_law21_OnfSame_L2
  obtain ⟨v12, p0, p1, v8, v7, v9, v10, v11, v14, v15, v13, v16, v17, v18, v19, v623, v20, v21, v22, v830, v831⟩ := x
  intro st hst
  refine RL_at hst ?_
  clear hst
  refine R_seq ?_
  refine R_seq ?_
  refine R_G ?_
  refine G_run 3 ?_
  refine G_run 1 ?_
  refine G_run 1 ?_
  refine G_end ?_
  refine R_ifp (p := v831 < (v12.length : Int)) (rfl) (fun hc => ?_) (fun hc => ?_)
  · replace hm := pos_inv hc hm
    refine R_skip ?_
    refine R_seq ?_
    refine R_block ?_
    refine R_G ?_
    refine G_run 3 ?_
    obtain ⟨_, hl1232, hm⟩ := bind_inv hm
    replace hl1232 := guard_inv hl1232
    obtain ⟨v1231, hx, hm⟩ := bind_inv hm
    refine G_semN rfl (by kernel_rfl) (fun _ => E_indexMs (e := 3) (n := v831) (j := (v831).toNat) (tt := 10) (g := 1) (lo := 0) (len := v12.length) (cap := v21) (k := .i64) (by kernel_rfl) (by kernel_rfl) rfl (by kernel_rfl) (by kernel_rfl) (idx_nat hx) (Nat.lt_of_lt_of_eq (idx_lt hx) hl1232)) ?_
    obtain ⟨v1233, hx, hm⟩ := bind_inv hm
    refine G_semN rfl (by kernel_rfl) (fun _ => E_loadMs (tt := 10) (g := 1) (j := (0 + (v831).toNat)) (e := 3) (cs := cellsOf intD v830) (v := .dat (intD v1233)) (by kernel_rfl) (by kernel_rfl) rfl (by kernel_rfl) (mtOf_at (by kernel_rfl)) (cells_idx intD hx)) ?_
    refine G_run 1 ?_
    obtain ⟨_, hl1235, hm⟩ := bind_inv hm
    replace hl1235 := guard_inv hl1235
    obtain ⟨v1234, hx, hm⟩ := bind_inv hm
    refine G_semN rfl (by kernel_rfl) (fun _ => E_indexMs (e := 3) (n := v831) (j := (v831).toNat) (tt := 10) (g := 1) (lo := 0) (len := v12.length) (cap := v21) (k := .i64) (by kernel_rfl) (by kernel_rfl) rfl (by kernel_rfl) (by kernel_rfl) (idx_nat hx) (Nat.lt_of_lt_of_eq (idx_lt hx) hl1235)) ?_
    obtain ⟨v1236, hx, hm⟩ := bind_inv hm
    refine G_semH (fun H => H.set 10 (.mt 3 1 (cellsOf intD v1236))) rfl (by kernel_rfl) (fun _ => E_stMs intD (l := v830) (n := v831) (y := (W (v1233 + 1))) hx (fun _ => rfl) (by kernel_rfl) rfl (by kernel_rfl) (by kernel_rfl) (by kernel_rfl) (by kernel_rfl)) ?_
    refine G_end ?_
    refine R_G ?_
    refine G_run 3 ?_
    refine G_end ?_
    exact w_law21_OnfSame_L2 _ _ hm _ (prune_of2 [(.box [(.dat (.lst ((List.map intD) p0.dims))), (intPV p0.write), (.dat (.lst ((List.map intD) p0.steps))), (intPV p0.read.kind), (intPV p0.read.buffer), (intPV p0.read.base), (.dat (.lst ((List.map intD) p0.read.strides))), (intPV p0.read.start), (intPV p0.read.step), (intPV p0.read.mod)]), (.box [(.dat (.lst ((List.map intD) p1.dims))), (intPV p1.write), (.dat (.lst ((List.map intD) p1.steps))), (intPV p1.read.kind), (intPV p1.read.buffer), (intPV p1.read.base), (.dat (.lst ((List.map intD) p1.read.strides))), (intPV p1.read.start), (intPV p1.read.step), (intPV p1.read.mod)]), (.box [(.vec 3 ((List.map intD) v8)), (intPV v7.write), (.vec 4 ((List.map intD) v9)), (intPV v7.read.kind), (intPV v7.read.buffer), (intPV v7.read.base), (.vec 5 ((List.map intD) v10)), (intPV v7.read.start), (intPV v7.read.step), (intPV v7.read.mod)]), (.tok 3 v8.length), (.tok 3 v9.length), (.tok 3 v10.length), (.box [(.vec 3 ((List.map intD) v8)), (intPV v7.write), (.vec 4 ((List.map intD) v9)), (intPV v7.read.kind), (intPV v7.read.buffer), (intPV v7.read.base), (.vec 5 ((List.map intD) v10)), (intPV v7.read.start), (intPV v7.read.step), (intPV v7.read.mod)]), (.box [(.ms 9 1 0 v11.length v14), (intPV v7.write), (.ms 10 1 0 v12.length v15), (intPV v7.read.kind), (intPV v7.read.buffer), (intPV v7.read.base), (.ms 11 1 0 v13.length v16), (intPV v7.read.start), (intPV v7.read.step), (intPV v7.read.mod)]), (.box [(.ms 9 1 0 v11.length v17), (intPV v7.write), (.ms 10 1 0 v12.length v18), (intPV v7.read.kind), (intPV v7.read.buffer), (intPV v7.read.base), (.ms 11 1 0 v13.length v19), (intPV v7.read.start), (intPV v7.read.step), (intPV v7.read.mod)]), (.mt 3 1 (cellsOf intD v623)), (.mt 3 1 (cellsOf intD v1236)), (.mt 3 1 (cellsOf intD v13)), (.box [(.ms 9 1 0 v11.length v20), (intPV v7.write), (.ms 10 1 0 v12.length v21), (intPV v7.read.kind), (intPV v7.read.buffer), (intPV v7.read.base), (.ms 11 1 0 v13.length v22), (intPV v7.read.start), (intPV v7.read.step), (intPV v7.read.mod)])] (fun _ => (pg_cons (by kernel_rfl) (pg_cons (by kernel_rfl) (pg_cons (by kernel_rfl) (pg_cons (by kernel_rfl) (pg_cons (by kernel_rfl) (pg_cons (by kernel_rfl) (pg_cons (by kernel_rfl) (pg_cons (by kernel_rfl) (pg_cons (by kernel_rfl) (pg_cons (purge_mt intD _ _ _ _ _) (pg_cons (purge_mt intD _ _ _ _ _) (pg_cons (purge_mt intD _ _ _ _ _) (pg_cons (by kernel_rfl) pg_nil)))))))))))))) rfl)
  replace hm := neg_inv hc hm
  refine R_exit ?_
  obtain rfl := inj1 hm
  exact ⟨rfl, cut_leaf (by kernel_rfl)⟩
def m_law21_OnfSame_L3 (x : ((List Int) × T_ref21_Nest × T_ref21_Nest × (List Int) × T_onf_Nest × (List Int) × (List Int) × (List Int) × Nat × (List Int) × Nat × Nat × Nat × Nat × Nat × (List Int) × (List Int) × Nat × Nat × Nat × (List Int) × Int)) : Option ((List Int)) :=
  match x with
  | (v13, p0, p1, v8, v7, v9, v10, v11, v14, v12, v15, v16, v17, v18, v19, v623, v1230, v20, v21, v22, v1437, v1438) =>
  if v1438 < (v13.length : Int) then
    guardM (v1437.length = v13.length) >>= fun (_ : Unit) =>
    idx v1437 v1438 >>= fun v1838 =>
    idx v1437 v1438 >>= fun v1840 =>
    guardM (v1437.length = v13.length) >>= fun (_ : Unit) =>
    idx v1437 v1438 >>= fun v1841 =>
    setM v1437 v1438 (W (v1840 + 1)) >>= fun v1843 =>
    m_law21_OnfSame_L3 (v13, p0, p1, v8, v7, v9, v10, v11, v14, v12, v15, v16, v17, v18, v19, v623, v1230, v20, v21, v22, v1843, (W (v1438 + 1)))
  else
  some v1437
  partial_fixpoint
def P_law21_OnfSame_L3 : ((List Int) × T_ref21_Nest × T_ref21_Nest × (List Int) × T_onf_Nest × (List Int) × (List Int) × (List Int) × Nat × (List Int) × Nat × Nat × Nat × Nat × Nat × (List Int) × (List Int) × Nat × Nat × Nat × (List Int) × Int) → (List Int) → Prop := fun x r => match x with
  | (v13, p0, p1, v8, v7, v9, v10, v11, v14, v12, v15, v16, v17, v18, v19, v623, v1230, v20, v21, v22, v1437, v1438) => ∀ st, prune 13 ((firstRegion (codeAt [1, 1, 1, 1, 1, 1, 1, 1, 1, 0, 1, 0, 0] (bodyOf f8))).bind (env.hint 8).keepAt) st = ⟨kp 103 [(2, (.ptr 0 0)), (3, (.ptr 1 0)), (5, (.ptr 2 0)), (6, (.ptr 12 0)), (9, (intPV v1438))], [(.box [(.dat (.lst ((List.map intD) p0.dims))), (intPV p0.write), (.dat (.lst ((List.map intD) p0.steps))), (intPV p0.read.kind), (intPV p0.read.buffer), (intPV p0.read.base), (.dat (.lst ((List.map intD) p0.read.strides))), (intPV p0.read.start), (intPV p0.read.step), (intPV p0.read.mod)]), (.box [(.dat (.lst ((List.map intD) p1.dims))), (intPV p1.write), (.dat (.lst ((List.map intD) p1.steps))), (intPV p1.read.kind), (intPV p1.read.buffer), (intPV p1.read.base), (.dat (.lst ((List.map intD) p1.read.strides))), (intPV p1.read.start), (intPV p1.read.step), (intPV p1.read.mod)]), (.box [(.vec 3 ((List.map intD) v8)), (intPV v7.write), (.vec 4 ((List.map intD) v9)), (intPV v7.read.kind), (intPV v7.read.buffer), (intPV v7.read.base), (.vec 5 ((List.map intD) v10)), (intPV v7.read.start), (intPV v7.read.step), (intPV v7.read.mod)]), (.tok 3 v8.length), (.tok 3 v9.length), (.tok 3 v10.length), (.box [(.vec 3 ((List.map intD) v8)), (intPV v7.write), (.vec 4 ((List.map intD) v9)), (intPV v7.read.kind), (intPV v7.read.buffer), (intPV v7.read.base), (.vec 5 ((List.map intD) v10)), (intPV v7.read.start), (intPV v7.read.step), (intPV v7.read.mod)]), (.box [(.ms 9 1 0 v11.length v14), (intPV v7.write), (.ms 10 1 0 v12.length v15), (intPV v7.read.kind), (intPV v7.read.buffer), (intPV v7.read.base), (.ms 11 1 0 v13.length v16), (intPV v7.read.start), (intPV v7.read.step), (intPV v7.read.mod)]), (.box [(.ms 9 1 0 v11.length v17), (intPV v7.write), (.ms 10 1 0 v12.length v18), (intPV v7.read.kind), (intPV v7.read.buffer), (intPV v7.read.base), (.ms 11 1 0 v13.length v19), (intPV v7.read.start), (intPV v7.read.step), (intPV v7.read.mod)]), (.mt 3 1 (cellsOf intD v623)), (.mt 3 1 (cellsOf intD v1230)), (.mt 3 1 (cellsOf intD v1437)), (.box [(.ms 9 1 0 v11.length v20), (intPV v7.write), (.ms 10 1 0 v12.length v21), (intPV v7.read.kind), (intPV v7.read.buffer), (intPV v7.read.base), (.ms 11 1 0 v13.length v22), (intPV v7.read.start), (intPV v7.read.step), (intPV v7.read.mod)])]⟩ →
    RL prog env (env.hint 8) true (codeAt [1, 1, 1, 1, 1, 1, 1, 1, 1, 0, 1, 0, 0] (bodyOf f8)) 13 st (fun e s => match r with | v1837 => e = .exit 4 ∧ ∃ d, s = ⟨sl d 103 [(2, (.ptr 0 0)), (3, (.ptr 1 0)), (5, (.ptr 2 0))], [(.box [(.dat (.lst ((List.map intD) p0.dims))), (intPV p0.write), (.dat (.lst ((List.map intD) p0.steps))), (intPV p0.read.kind), (intPV p0.read.buffer), (intPV p0.read.base), (.dat (.lst ((List.map intD) p0.read.strides))), (intPV p0.read.start), (intPV p0.read.step), (intPV p0.read.mod)]), (.box [(.dat (.lst ((List.map intD) p1.dims))), (intPV p1.write), (.dat (.lst ((List.map intD) p1.steps))), (intPV p1.read.kind), (intPV p1.read.buffer), (intPV p1.read.base), (.dat (.lst ((List.map intD) p1.read.strides))), (intPV p1.read.start), (intPV p1.read.step), (intPV p1.read.mod)]), (.box [(.vec 3 ((List.map intD) v8)), (intPV v7.write), (.vec 4 ((List.map intD) v9)), (intPV v7.read.kind), (intPV v7.read.buffer), (intPV v7.read.base), (.vec 5 ((List.map intD) v10)), (intPV v7.read.start), (intPV v7.read.step), (intPV v7.read.mod)]), (.tok 3 v8.length), (.tok 3 v9.length), (.tok 3 v10.length), (.box [(.vec 3 ((List.map intD) v8)), (intPV v7.write), (.vec 4 ((List.map intD) v9)), (intPV v7.read.kind), (intPV v7.read.buffer), (intPV v7.read.base), (.vec 5 ((List.map intD) v10)), (intPV v7.read.start), (intPV v7.read.step), (intPV v7.read.mod)]), (.box [(.ms 9 1 0 v11.length v14), (intPV v7.write), (.ms 10 1 0 v12.length v15), (intPV v7.read.kind), (intPV v7.read.buffer), (intPV v7.read.base), (.ms 11 1 0 v13.length v16), (intPV v7.read.start), (intPV v7.read.step), (intPV v7.read.mod)]), (.box [(.ms 9 1 0 v11.length v17), (intPV v7.write), (.ms 10 1 0 v12.length v18), (intPV v7.read.kind), (intPV v7.read.buffer), (intPV v7.read.base), (.ms 11 1 0 v13.length v19), (intPV v7.read.start), (intPV v7.read.step), (intPV v7.read.mod)]), (.mt 3 1 (cellsOf intD v623)), (.mt 3 1 (cellsOf intD v1230)), (.mt 3 1 (cellsOf intD v1837)), (.box [(.ms 9 1 0 v11.length v20), (intPV v7.write), (.ms 10 1 0 v12.length v21), (intPV v7.read.kind), (intPV v7.read.buffer), (intPV v7.read.base), (.ms 11 1 0 v13.length v22), (intPV v7.read.start), (intPV v7.read.step), (intPV v7.read.mod)])]⟩)
theorem w_law21_OnfSame_L3 : ∀ x r, m_law21_OnfSame_L3 x = some r → P_law21_OnfSame_L3 x r := by
  refine m_law21_OnfSame_L3.partial_correctness _ (fun m_law21_OnfSame_L3 w_law21_OnfSame_L3 x r hm => ?_)
  unfold P_law21_OnfSame_L3
  obtain ⟨v13, p0, p1, v8, v7, v9, v10, v11, v14, v12, v15, v16, v17, v18, v19, v623, v1230, v20, v21, v22, v1437, v1438⟩ := x
  intro st hst
  refine RL_at hst ?_
  clear hst
  refine R_seq ?_
  refine R_seq ?_
  refine R_G ?_
  refine G_run 4 ?_
  refine G_run 1 ?_
  refine G_run 1 ?_
  refine G_end ?_
  refine R_ifp (p := v1438 < (v13.length : Int)) (rfl) (fun hc => ?_) (fun hc => ?_)
  · replace hm := pos_inv hc hm
    refine R_skip ?_
    refine R_seq ?_
    refine R_block ?_
    refine R_G ?_
    refine G_run 4 ?_
    obtain ⟨_, hl1839, hm⟩ := bind_inv hm
    replace hl1839 := guard_inv hl1839
    obtain ⟨v1838, hx, hm⟩ := bind_inv hm
    refine G_semN rfl (by kernel_rfl) (fun _ => E_indexMs (e := 3) (n := v1438) (j := (v1438).toNat) (tt := 11) (g := 1) (lo := 0) (len := v13.length) (cap := v22) (k := .i64) (by kernel_rfl) (by kernel_rfl) rfl (by kernel_rfl) (by kernel_rfl) (idx_nat hx) (Nat.lt_of_lt_of_eq (idx_lt hx) hl1839)) ?_
    obtain ⟨v1840, hx, hm⟩ := bind_inv hm
    refine G_semN rfl (by kernel_rfl) (fun _ => E_loadMs (tt := 11) (g := 1) (j := (0 + (v1438).toNat)) (e := 3) (cs := cellsOf intD v1437) (v := .dat (intD v1840)) (by kernel_rfl) (by kernel_rfl) rfl (by kernel_rfl) (mtOf_at (by kernel_rfl)) (cells_idx intD hx)) ?_
    refine G_run 1 ?_
    obtain ⟨_, hl1842, hm⟩ := bind_inv hm
    replace hl1842 := guard_inv hl1842
    obtain ⟨v1841, hx, hm⟩ := bind_inv hm
    refine G_semN rfl (by kernel_rfl) (fun _ => E_indexMs (e := 3) (n := v1438) (j := (v1438).toNat) (tt := 11) (g := 1) (lo := 0) (len := v13.length) (cap := v22) (k := .i64) (by kernel_rfl) (by kernel_rfl) rfl (by kernel_rfl) (by kernel_rfl) (idx_nat hx) (Nat.lt_of_lt_of_eq (idx_lt hx) hl1842)) ?_
    obtain ⟨v1843, hx, hm⟩ := bind_inv hm
    refine G_semH (fun H => H.set 11 (.mt 3 1 (cellsOf intD v1843))) rfl (by kernel_rfl) (fun _ => E_stMs intD (l := v1437) (n := v1438) (y := (W (v1840 + 1))) hx (fun _ => rfl) (by kernel_rfl) rfl (by kernel_rfl) (by kernel_rfl) (by kernel_rfl) (by kernel_rfl)) ?_
    refine G_end ?_
    refine R_G ?_
    refine G_run 3 ?_
    refine G_end ?_
    exact w_law21_OnfSame_L3 _ _ hm _ (prune_of2 [(.box [(.dat (.lst ((List.map intD) p0.dims))), (intPV p0.write), (.dat (.lst ((List.map intD) p0.steps))), (intPV p0.read.kind), (intPV p0.read.buffer), (intPV p0.read.base), (.dat (.lst ((List.map intD) p0.read.strides))), (intPV p0.read.start), (intPV p0.read.step), (intPV p0.read.mod)]), (.box [(.dat (.lst ((List.map intD) p1.dims))), (intPV p1.write), (.dat (.lst ((List.map intD) p1.steps))), (intPV p1.read.kind), (intPV p1.read.buffer), (intPV p1.read.base), (.dat (.lst ((List.map intD) p1.read.strides))), (intPV p1.read.start), (intPV p1.read.step), (intPV p1.read.mod)]), (.box [(.vec 3 ((List.map intD) v8)), (intPV v7.write), (.vec 4 ((List.map intD) v9)), (intPV v7.read.kind), (intPV v7.read.buffer), (intPV v7.read.base), (.vec 5 ((List.map intD) v10)), (intPV v7.read.start), (intPV v7.read.step), (intPV v7.read.mod)]), (.tok 3 v8.length), (.tok 3 v9.length), (.tok 3 v10.length), (.box [(.vec 3 ((List.map intD) v8)), (intPV v7.write), (.vec 4 ((List.map intD) v9)), (intPV v7.read.kind), (intPV v7.read.buffer), (intPV v7.read.base), (.vec 5 ((List.map intD) v10)), (intPV v7.read.start), (intPV v7.read.step), (intPV v7.read.mod)]), (.box [(.ms 9 1 0 v11.length v14), (intPV v7.write), (.ms 10 1 0 v12.length v15), (intPV v7.read.kind), (intPV v7.read.buffer), (intPV v7.read.base), (.ms 11 1 0 v13.length v16), (intPV v7.read.start), (intPV v7.read.step), (intPV v7.read.mod)]), (.box [(.ms 9 1 0 v11.length v17), (intPV v7.write), (.ms 10 1 0 v12.length v18), (intPV v7.read.kind), (intPV v7.read.buffer), (intPV v7.read.base), (.ms 11 1 0 v13.length v19), (intPV v7.read.start), (intPV v7.read.step), (intPV v7.read.mod)]), (.mt 3 1 (cellsOf intD v623)), (.mt 3 1 (cellsOf intD v1230)), (.mt 3 1 (cellsOf intD v1843)), (.box [(.ms 9 1 0 v11.length v20), (intPV v7.write), (.ms 10 1 0 v12.length v21), (intPV v7.read.kind), (intPV v7.read.buffer), (intPV v7.read.base), (.ms 11 1 0 v13.length v22), (intPV v7.read.start), (intPV v7.read.step), (intPV v7.read.mod)])] (fun _ => (pg_cons (by kernel_rfl) (pg_cons (by kernel_rfl) (pg_cons (by kernel_rfl) (pg_cons (by kernel_rfl) (pg_cons (by kernel_rfl) (pg_cons (by kernel_rfl) (pg_cons (by kernel_rfl) (pg_cons (by kernel_rfl) (pg_cons (by kernel_rfl) (pg_cons (purge_mt intD _ _ _ _ _) (pg_cons (purge_mt intD _ _ _ _ _) (pg_cons (purge_mt intD _ _ _ _ _) (pg_cons (by kernel_rfl) pg_nil)))))))))))))) rfl)
  replace hm := neg_inv hc hm
  refine R_exit ?_
  obtain rfl := inj1 hm
  exact ⟨rfl, cut_leaf (by kernel_rfl)⟩
def m_law21_OnfSame (x : (T_ref21_Nest × T_ref21_Nest)) : Option Bool :=
  match x with
  | (p0, p1) =>
  (m_law21_awake () >>= fun (v2 : Bool) =>
  (if v2 = false then
    some true
  else
  m_ref21_Small ((⟨p0.dims, p0.write, p0.steps, (⟨p0.read.kind, p0.read.buffer, p0.read.base, p0.read.strides, p0.read.start, p0.read.step, p0.read.mod⟩ : T_ref17_Access)⟩ : T_ref21_Nest), 200) >>= fun (v4 : Bool) =>
  some (!v4)
  ) >>= fun (v3 : Bool) =>
  if v3 = true then
    some true
  else
  m_ref21_Small ((⟨p1.dims, p1.write, p1.steps, (⟨p1.read.kind, p1.read.buffer, p1.read.base, p1.read.strides, p1.read.start, p1.read.step, p1.read.mod⟩ : T_ref17_Access)⟩ : T_ref21_Nest), 200) >>= fun (v5 : Bool) =>
  some (!v5)
  ) >>= fun (v1 : Bool) =>
  if v1 = true then
    m_law21_awake () >>= fun (v6 : Bool) =>
    some v6
  else
  m_law21_Nest p0 >>= fun (v7 : T_onf_Nest) =>
  app 8 ([] : List Int) p0.dims >>= fun v8 =>
  app 8 ([] : List Int) p0.steps >>= fun v9 =>
  app 8 ([] : List Int) p0.read.strides >>= fun v10 =>
  m_onf_Collapse_bd01c (v8, v7.write, v9, v7.read.kind, v7.read.buffer, v7.read.base, v10, v7.read.start, v7.read.step, v7.read.mod, p0.dims, p0.write, p0.steps, p0.read.kind, p0.read.buffer, p0.read.base, p0.read.strides, p0.read.start, p0.read.step, p0.read.mod, p1.dims, p1.write, p1.steps, p1.read.kind, p1.read.buffer, p1.read.base, p1.read.strides, p1.read.start, p1.read.step, p1.read.mod) >>= fun ((v11, v12, v13, v14, v15, v16, v17, v18, v19, v20, v21, v22) : ((List Int) × (List Int) × (List Int) × Nat × Nat × Nat × Nat × Nat × Nat × Nat × Nat × Nat)) =>
  m_law21_OnfSame_L1 (v11, p0, p1, v8, v7, v9, v10, v14, v12, v15, v13, v16, v17, v18, v19, v20, v21, v22, v11, 0) >>= fun (v623 : (List Int)) =>
  m_law21_OnfSame_L2 (v12, p0, p1, v8, v7, v9, v10, v11, v14, v15, v13, v16, v17, v18, v19, v623, v20, v21, v22, v12, 0) >>= fun (v1230 : (List Int)) =>
  m_law21_OnfSame_L3 (v13, p0, p1, v8, v7, v9, v10, v11, v14, v12, v15, v16, v17, v18, v19, v623, v1230, v20, v21, v22, v13, 0) >>= fun (v1837 : (List Int)) =>
  m_law21_Nest p0 >>= fun (v1844 : T_onf_Nest) =>
  m_law21_Nest (⟨p1.dims, p1.write, p1.steps, (⟨p1.read.kind, p1.read.buffer, p1.read.base, p1.read.strides, p1.read.start, p1.read.step, p1.read.mod⟩ : T_ref17_Access)⟩ : T_ref21_Nest) >>= fun (v1845 : T_onf_Nest) =>
  m_onf_Same (v1844, v1845) >>= fun (v1846 : Bool) =>
  m_ref21_Same ((⟨p0.dims, p0.write, p0.steps, (⟨p0.read.kind, p0.read.buffer, p0.read.base, p0.read.strides, p0.read.start, p0.read.step, p0.read.mod⟩ : T_ref17_Access)⟩ : T_ref21_Nest), (⟨p1.dims, p1.write, p1.steps, (⟨p1.read.kind, p1.read.buffer, p1.read.base, p1.read.strides, p1.read.start, p1.read.step, p1.read.mod⟩ : T_ref17_Access)⟩ : T_ref21_Nest)) >>= fun (v1847 : Bool) =>
  if (v1846 == v1847) = true then
    m_law21_Back (⟨v8, v7.write, v9, (⟨v7.read.kind, v7.read.buffer, v7.read.base, v10, v7.read.start, v7.read.step, v7.read.mod⟩ : T_access_Access)⟩ : T_onf_Nest) >>= fun (v1848 : T_ref21_Nest) =>
    m_ref21_Same (v1848, (⟨p0.dims, p0.write, p0.steps, (⟨p0.read.kind, p0.read.buffer, p0.read.base, p0.read.strides, p0.read.start, p0.read.step, p0.read.mod⟩ : T_ref17_Access)⟩ : T_ref21_Nest)) >>= fun (v1849 : Bool) =>
    some v1849
  else
  some false
def P_law21_OnfSame : (T_ref21_Nest × T_ref21_Nest) → Bool → Prop := fun x r => match x, r with
  | (p0, p1), r0 => ∀ H, PC prog env 8 ([(T_ref21_Nest.toD p0), (T_ref21_Nest.toD p1)].map .dat) H (boolPV r0) H
theorem w_law21_OnfSame : ∀ x r, m_law21_OnfSame x = some r → P_law21_OnfSame x r := by
  intro x r0 hm
  unfold m_law21_OnfSame at hm
  unfold P_law21_OnfSame
  obtain ⟨p0, p1⟩ := x
  intro H
  refine PC_sx (ds := [(T_ref21_Nest.toD p0), (T_ref21_Nest.toD p1)]) (fn := f8) (by kernel_rfl) (by kernel_rfl) rfl ?_ (by kernel_rfl)
  refine R_seq ?_
  refine R_G ?_
  refine G_run 3 ?_
  refine G_end ?_
  refine R_seq ?_
  refine R_seq ?_
  obtain ⟨v1, hs, hm⟩ := bind_inv hm
  refine R_cut (fun d => ⟨sl d 103 [(2, (.ptr 0 0)), (3, (.ptr 1 0)), (21, (boolPV v1))], [(.box [(.dat (.lst ((List.map intD) p0.dims))), (intPV p0.write), (.dat (.lst ((List.map intD) p0.steps))), (intPV p0.read.kind), (intPV p0.read.buffer), (intPV p0.read.base), (.dat (.lst ((List.map intD) p0.read.strides))), (intPV p0.read.start), (intPV p0.read.step), (intPV p0.read.mod)]), (.box [(.dat (.lst ((List.map intD) p1.dims))), (intPV p1.write), (.dat (.lst ((List.map intD) p1.steps))), (intPV p1.read.kind), (intPV p1.read.buffer), (intPV p1.read.base), (.dat (.lst ((List.map intD) p1.read.strides))), (intPV p1.read.start), (intPV p1.read.step), (intPV p1.read.mod)])]⟩) ?_ (fun d => ?_)
  · replace hm := hs
    clear hs
    refine R_GN ?_
    obtain ⟨v2, hx, hm⟩ := bind_inv hm
    have hq := w_law21_awake _ _ hx []
    refine G_callP hq ?_
    refine G_run 2 ?_
    obtain ⟨v3, hs, hm⟩ := bind_inv hm
    refine G_cut (j := 7) (fun d => ⟨sl d 103 [(0, (.dat (.agg [(.lst ((List.map intD) p0.dims)), (intD p0.write), (.lst ((List.map intD) p0.steps)), (intD p0.read.kind), (intD p0.read.buffer), (intD p0.read.base), (.lst ((List.map intD) p0.read.strides)), (intD p0.read.start), (intD p0.read.step), (intD p0.read.mod)]))), (1, (.dat (.agg [(.lst ((List.map intD) p1.dims)), (intD p1.write), (.lst ((List.map intD) p1.steps)), (intD p1.read.kind), (intD p1.read.buffer), (intD p1.read.base), (.lst ((List.map intD) p1.read.strides)), (intD p1.read.start), (intD p1.read.step), (intD p1.read.mod)]))), (2, (.ptr 0 0)), (3, (.ptr 1 0)), (4, (boolPV false)), (10, (boolPV v2)), (11, (boolPV (!v2))), (16, (boolPV v3))], [(.box [(.dat (.lst ((List.map intD) p0.dims))), (intPV p0.write), (.dat (.lst ((List.map intD) p0.steps))), (intPV p0.read.kind), (intPV p0.read.buffer), (intPV p0.read.base), (.dat (.lst ((List.map intD) p0.read.strides))), (intPV p0.read.start), (intPV p0.read.step), (intPV p0.read.mod)]), (.box [(.dat (.lst ((List.map intD) p1.dims))), (intPV p1.write), (.dat (.lst ((List.map intD) p1.steps))), (intPV p1.read.kind), (intPV p1.read.buffer), (intPV p1.read.base), (.dat (.lst ((List.map intD) p1.read.strides))), (intPV p1.read.start), (intPV p1.read.step), (intPV p1.read.mod)])]⟩) (fun d => ?_) (fun hJ => ?_)
    · clear hs
      refine G_run 1 ?_
      refine G_split (p := v3 = true) 17 (bool_dec _) (fun hc => ?_) (fun hc => ?_)
      · replace hm := pos_inv hc hm
        refine G_run 4 ?_
        refine G_end ⟨by kernel_rfl, ?_⟩
        obtain rfl := inj1 hm
        exact cut_leaf (by kernel_rfl)
      replace hm := neg_inv hc hm
      refine G_run 1 ?_
      obtain ⟨v5, hx, hm⟩ := bind_inv hm
      have hq := w_ref21_Small _ _ hx []
      refine G_callP hq ?_
      refine G_run 2 ?_
      refine G_end ⟨by kernel_rfl, ?_⟩
      obtain rfl := inj1 hm
      exact cut_leaf (by kernel_rfl)
    replace hm := hs
    clear hs
    refine G_split (p := v2 = false) 12 (not_dec _) (fun hc => ?_) (fun hc => ?_)
    · replace hm := pos_inv hc hm
      refine G_run 4 ?_
      obtain rfl := inj1 hm
      exact hJ _ _ (by kernel_rfl) (by kernel_rfl)
    replace hm := neg_inv hc hm
    refine G_run 1 ?_
    obtain ⟨v4, hx, hm⟩ := bind_inv hm
    have hq := w_ref21_Small _ _ hx []
    refine G_callP hq ?_
    refine G_run 2 ?_
    obtain rfl := inj1 hm
    exact hJ _ _ (by kernel_rfl) (by kernel_rfl)
  clear hs
  refine R_ifp (p := v1 = true) (bool_dec _) (fun hc => ?_) (fun hc => ?_)
  · replace hm := pos_inv hc hm
    refine R_seq ?_
    refine R_G ?_
    obtain ⟨v6, hx, hm⟩ := bind_inv hm
    have hq := w_law21_awake _ _ hx []
    refine G_callP hq ?_
    refine G_run 1 ?_
    refine G_end ?_
    refine R_ret ?_
    obtain rfl := inj1 hm
    exact ⟨trivial, fin_pure (by kernel_rfl)⟩
  replace hm := neg_inv hc hm
  refine R_skip ?_
  refine R_seq ?_
  refine R_G ?_
  refine G_run 1 ?_
  obtain ⟨v7, hx, hm⟩ := bind_inv hm
  have hq := w_law21_Nest _ _ hx []
  refine G_callP hq ?_
  refine G_run 2 ?_
  refine G_end ?_
  refine R_seq ?_
  refine R_G ?_
  refine G_run 3 ?_
  obtain ⟨v8, hx, hm⟩ := bind_inv hm
  refine I_app 3 1 8 3 intD ([] : List Int) p0.dims v8 (xs := (List.map intD) ([] : List Int)) (es := (List.map intD) p0.dims) (L := (List.map intD)) (fun _ => rfl) rfl rfl (fun _ => rfl) hx ?_
  refine G_run 2 ?_
  refine G_end ?_
  refine R_seq ?_
  refine R_G ?_
  refine G_run 3 ?_
  obtain ⟨v9, hx, hm⟩ := bind_inv hm
  refine I_app 3 1 8 4 intD ([] : List Int) p0.steps v9 (xs := (List.map intD) ([] : List Int)) (es := (List.map intD) p0.steps) (L := (List.map intD)) (fun _ => rfl) rfl rfl (fun _ => rfl) hx ?_
  refine G_run 2 ?_
  refine G_end ?_
  refine R_seq ?_
  refine R_G ?_
  refine G_run 4 ?_
  obtain ⟨v10, hx, hm⟩ := bind_inv hm
  refine I_app 3 1 8 5 intD ([] : List Int) p0.read.strides v10 (xs := (List.map intD) ([] : List Int)) (es := (List.map intD) p0.read.strides) (L := (List.map intD)) (fun _ => rfl) rfl rfl (fun _ => rfl) hx ?_
  refine G_run 3 ?_
  refine G_end ?_
  refine R_seq ?_
  refine R_G ?_
  refine G_run 1 ?_
  obtain ⟨⟨v11, v12, v13, v14, v15, v16, v17, v18, v19, v20, v21, v22⟩, hx, hm⟩ := bind_inv hm
  have hq := w_onf_Collapse_bd01c _ _ hx
  dsimp only [P_onf_Collapse_bd01c] at hq
  refine G_callB hq ?_
  refine G_run 2 ?_
  refine G_end ?_
  refine R_seq ?_
  refine R_seq ?_
  refine R_G ?_
  refine G_run 1 ?_
  refine G_end ?_
  refine R_block ?_
  obtain ⟨v623, hs, hm⟩ := bind_inv hm
  refine R_loop ?_
  refine RL_use (w_law21_OnfSame_L1 _ _ hs) (prune_of2 [(.box [(.dat (.lst ((List.map intD) p0.dims))), (intPV p0.write), (.dat (.lst ((List.map intD) p0.steps))), (intPV p0.read.kind), (intPV p0.read.buffer), (intPV p0.read.base), (.dat (.lst ((List.map intD) p0.read.strides))), (intPV p0.read.start), (intPV p0.read.step), (intPV p0.read.mod)]), (.box [(.dat (.lst ((List.map intD) p1.dims))), (intPV p1.write), (.dat (.lst ((List.map intD) p1.steps))), (intPV p1.read.kind), (intPV p1.read.buffer), (intPV p1.read.base), (.dat (.lst ((List.map intD) p1.read.strides))), (intPV p1.read.start), (intPV p1.read.step), (intPV p1.read.mod)]), (.box [(.vec 3 ((List.map intD) v8)), (intPV v7.write), (.vec 4 ((List.map intD) v9)), (intPV v7.read.kind), (intPV v7.read.buffer), (intPV v7.read.base), (.vec 5 ((List.map intD) v10)), (intPV v7.read.start), (intPV v7.read.step), (intPV v7.read.mod)]), (.tok 3 v8.length), (.tok 3 v9.length), (.tok 3 v10.length), (.box [(.vec 3 ((List.map intD) v8)), (intPV v7.write), (.vec 4 ((List.map intD) v9)), (intPV v7.read.kind), (intPV v7.read.buffer), (intPV v7.read.base), (.vec 5 ((List.map intD) v10)), (intPV v7.read.start), (intPV v7.read.step), (intPV v7.read.mod)]), (.box [(.ms 9 1 0 v11.length v14), (intPV v7.write), (.ms 10 1 0 v12.length v15), (intPV v7.read.kind), (intPV v7.read.buffer), (intPV v7.read.base), (.ms 11 1 0 v13.length v16), (intPV v7.read.start), (intPV v7.read.step), (intPV v7.read.mod)]), (.box [(.ms 9 1 0 v11.length v17), (intPV v7.write), (.ms 10 1 0 v12.length v18), (intPV v7.read.kind), (intPV v7.read.buffer), (intPV v7.read.base), (.ms 11 1 0 v13.length v19), (intPV v7.read.start), (intPV v7.read.step), (intPV v7.read.mod)]), (.mt 3 1 (cellsOf intD v11)), (.mt 3 1 (cellsOf intD v12)), (.mt 3 1 (cellsOf intD v13)), (.box [(.ms 9 1 0 v11.length v20), (intPV v7.write), (.ms 10 1 0 v12.length v21), (intPV v7.read.kind), (intPV v7.read.buffer), (intPV v7.read.base), (.ms 11 1 0 v13.length v22), (intPV v7.read.start), (intPV v7.read.step), (intPV v7.read.mod)])] (fun _ => (pg_cons (by kernel_rfl) (pg_cons (by kernel_rfl) (pg_cons (by kernel_rfl) (pg_cons (by kernel_rfl) (pg_cons (by kernel_rfl) (pg_cons (by kernel_rfl) (pg_cons (by kernel_rfl) (pg_cons (by kernel_rfl) (pg_cons (by kernel_rfl) (pg_cons (purge_mt intD _ _ _ _ _) (pg_cons (purge_mt intD _ _ _ _ _) (pg_cons (purge_mt intD _ _ _ _ _) (pg_cons (by kernel_rfl) pg_nil)))))))))))))) rfl) ?_
  clear hs
  intro e s hp
  obtain ⟨rfl, d, rfl⟩ := hp
  refine R_seq ?_
  refine R_seq ?_
  refine R_G ?_
  refine G_run 1 ?_
  refine G_end ?_
  refine R_block ?_
  obtain ⟨v1230, hs, hm⟩ := bind_inv hm
  refine R_loop ?_
  refine RL_use (w_law21_OnfSame_L2 _ _ hs) (prune_of2 [(.box [(.dat (.lst ((List.map intD) p0.dims))), (intPV p0.write), (.dat (.lst ((List.map intD) p0.steps))), (intPV p0.read.kind), (intPV p0.read.buffer), (intPV p0.read.base), (.dat (.lst ((List.map intD) p0.read.strides))), (intPV p0.read.start), (intPV p0.read.step), (intPV p0.read.mod)]), (.box [(.dat (.lst ((List.map intD) p1.dims))), (intPV p1.write), (.dat (.lst ((List.map intD) p1.steps))), (intPV p1.read.kind), (intPV p1.read.buffer), (intPV p1.read.base), (.dat (.lst ((List.map intD) p1.read.strides))), (intPV p1.read.start), (intPV p1.read.step), (intPV p1.read.mod)]), (.box [(.vec 3 ((List.map intD) v8)), (intPV v7.write), (.vec 4 ((List.map intD) v9)), (intPV v7.read.kind), (intPV v7.read.buffer), (intPV v7.read.base), (.vec 5 ((List.map intD) v10)), (intPV v7.read.start), (intPV v7.read.step), (intPV v7.read.mod)]), (.tok 3 v8.length), (.tok 3 v9.length), (.tok 3 v10.length), (.box [(.vec 3 ((List.map intD) v8)), (intPV v7.write), (.vec 4 ((List.map intD) v9)), (intPV v7.read.kind), (intPV v7.read.buffer), (intPV v7.read.base), (.vec 5 ((List.map intD) v10)), (intPV v7.read.start), (intPV v7.read.step), (intPV v7.read.mod)]), (.box [(.ms 9 1 0 v11.length v14), (intPV v7.write), (.ms 10 1 0 v12.length v15), (intPV v7.read.kind), (intPV v7.read.buffer), (intPV v7.read.base), (.ms 11 1 0 v13.length v16), (intPV v7.read.start), (intPV v7.read.step), (intPV v7.read.mod)]), (.box [(.ms 9 1 0 v11.length v17), (intPV v7.write), (.ms 10 1 0 v12.length v18), (intPV v7.read.kind), (intPV v7.read.buffer), (intPV v7.read.base), (.ms 11 1 0 v13.length v19), (intPV v7.read.start), (intPV v7.read.step), (intPV v7.read.mod)]), (.mt 3 1 (cellsOf intD v623)), (.mt 3 1 (cellsOf intD v12)), (.mt 3 1 (cellsOf intD v13)), (.box [(.ms 9 1 0 v11.length v20), (intPV v7.write), (.ms 10 1 0 v12.length v21), (intPV v7.read.kind), (intPV v7.read.buffer), (intPV v7.read.base), (.ms 11 1 0 v13.length v22), (intPV v7.read.start), (intPV v7.read.step), (intPV v7.read.mod)])] (fun _ => (pg_cons (by kernel_rfl) (pg_cons (by kernel_rfl) (pg_cons (by kernel_rfl) (pg_cons (by kernel_rfl) (pg_cons (by kernel_rfl) (pg_cons (by kernel_rfl) (pg_cons (by kernel_rfl) (pg_cons (by kernel_rfl) (pg_cons (by kernel_rfl) (pg_cons (purge_mt intD _ _ _ _ _) (pg_cons (purge_mt intD _ _ _ _ _) (pg_cons (purge_mt intD _ _ _ _ _) (pg_cons (by kernel_rfl) pg_nil)))))))))))))) rfl) ?_
  clear hs
  intro e s hp
  obtain ⟨rfl, d, rfl⟩ := hp
  refine R_seq ?_
  refine R_seq ?_
  refine R_G ?_
  refine G_run 1 ?_
  refine G_end ?_
  refine R_block ?_
  obtain ⟨v1837, hs, hm⟩ := bind_inv hm
  refine R_loop ?_
  refine RL_use (w_law21_OnfSame_L3 _ _ hs) (prune_of2 [(.box [(.dat (.lst ((List.map intD) p0.dims))), (intPV p0.write), (.dat (.lst ((List.map intD) p0.steps))), (intPV p0.read.kind), (intPV p0.read.buffer), (intPV p0.read.base), (.dat (.lst ((List.map intD) p0.read.strides))), (intPV p0.read.start), (intPV p0.read.step), (intPV p0.read.mod)]), (.box [(.dat (.lst ((List.map intD) p1.dims))), (intPV p1.write), (.dat (.lst ((List.map intD) p1.steps))), (intPV p1.read.kind), (intPV p1.read.buffer), (intPV p1.read.base), (.dat (.lst ((List.map intD) p1.read.strides))), (intPV p1.read.start), (intPV p1.read.step), (intPV p1.read.mod)]), (.box [(.vec 3 ((List.map intD) v8)), (intPV v7.write), (.vec 4 ((List.map intD) v9)), (intPV v7.read.kind), (intPV v7.read.buffer), (intPV v7.read.base), (.vec 5 ((List.map intD) v10)), (intPV v7.read.start), (intPV v7.read.step), (intPV v7.read.mod)]), (.tok 3 v8.length), (.tok 3 v9.length), (.tok 3 v10.length), (.box [(.vec 3 ((List.map intD) v8)), (intPV v7.write), (.vec 4 ((List.map intD) v9)), (intPV v7.read.kind), (intPV v7.read.buffer), (intPV v7.read.base), (.vec 5 ((List.map intD) v10)), (intPV v7.read.start), (intPV v7.read.step), (intPV v7.read.mod)]), (.box [(.ms 9 1 0 v11.length v14), (intPV v7.write), (.ms 10 1 0 v12.length v15), (intPV v7.read.kind), (intPV v7.read.buffer), (intPV v7.read.base), (.ms 11 1 0 v13.length v16), (intPV v7.read.start), (intPV v7.read.step), (intPV v7.read.mod)]), (.box [(.ms 9 1 0 v11.length v17), (intPV v7.write), (.ms 10 1 0 v12.length v18), (intPV v7.read.kind), (intPV v7.read.buffer), (intPV v7.read.base), (.ms 11 1 0 v13.length v19), (intPV v7.read.start), (intPV v7.read.step), (intPV v7.read.mod)]), (.mt 3 1 (cellsOf intD v623)), (.mt 3 1 (cellsOf intD v1230)), (.mt 3 1 (cellsOf intD v13)), (.box [(.ms 9 1 0 v11.length v20), (intPV v7.write), (.ms 10 1 0 v12.length v21), (intPV v7.read.kind), (intPV v7.read.buffer), (intPV v7.read.base), (.ms 11 1 0 v13.length v22), (intPV v7.read.start), (intPV v7.read.step), (intPV v7.read.mod)])] (fun _ => (pg_cons (by kernel_rfl) (pg_cons (by kernel_rfl) (pg_cons (by kernel_rfl) (pg_cons (by kernel_rfl) (pg_cons (by kernel_rfl) (pg_cons (by kernel_rfl) (pg_cons (by kernel_rfl) (pg_cons (by kernel_rfl) (pg_cons (by kernel_rfl) (pg_cons (purge_mt intD _ _ _ _ _) (pg_cons (purge_mt intD _ _ _ _ _) (pg_cons (purge_mt intD _ _ _ _ _) (pg_cons (by kernel_rfl) pg_nil)))))))))))))) rfl) ?_
  clear hs
  intro e s hp
  obtain ⟨rfl, d, rfl⟩ := hp
  refine R_seq ?_
  refine R_GD ?_
  refine G_run 1 ?_
  obtain ⟨v1844, hx, hm⟩ := bind_inv hm
  have hq := w_law21_Nest _ _ hx []
  refine G_callP hq ?_
  refine G_run 1 ?_
  obtain ⟨v1845, hx, hm⟩ := bind_inv hm
  have hq := w_law21_Nest _ _ hx []
  refine G_callP hq ?_
  obtain ⟨v1846, hx, hm⟩ := bind_inv hm
  have hq := w_onf_Same _ _ hx []
  refine G_callP hq ?_
  refine G_run 2 ?_
  obtain ⟨v1847, hx, hm⟩ := bind_inv hm
  have hq := w_ref21_Same _ _ hx []
  refine G_callP hq ?_
  refine G_semN rfl (by kernel_rfl) (fun _ => E_eqlB (a := v1846) (b := v1847) (by kernel_rfl) rfl (by kernel_rfl) (by kernel_rfl)) ?_
  refine G_run 1 ?_
  refine G_split (p := (v1846 == v1847) = true) 97 (bool_dec _) (fun hc => ?_) (fun hc => ?_)
  · replace hm := pos_inv hc hm
    refine G_run 1 ?_
    obtain ⟨v1848, hx, hm⟩ := bind_inv hm
    have hq := w_law21_Back _ _ hx []
    refine G_callP hq ?_
    refine G_run 1 ?_
    obtain ⟨v1849, hx, hm⟩ := bind_inv hm
    have hq := w_ref21_Same _ _ hx []
    refine G_callP hq ?_
    refine G_run 2 ?_
    refine G_end ⟨by kernel_rfl, ?_⟩
    refine R_ret ?_
    obtain rfl := inj1 hm
    exact ⟨trivial, fin_pure (by kernel_rfl)⟩
  replace hm := neg_inv hc hm
  refine G_run 6 ?_
  refine G_end ⟨by kernel_rfl, ?_⟩
  refine R_ret ?_
  obtain rfl := inj1 hm
  exact ⟨trivial, fin_pure (by kernel_rfl)⟩
end Go.Proofs.Try
namespace Go.Proofs.Try
open Go Go.Pm
set_option linter.unusedVariables false
set_option linter.unusedSimpArgs false
set_option maxRecDepth 2000
theorem ite_some {c : Prop} [Decidable c] {α : Type} (a b : α) : (if c then some a else some b) = some (if c then a else b) := by split <;> rfl
/-- the product of the dimensions, where none counts less than one -/
def pm : List Int → Nat
  | [] => 1
  | n :: s => max n.toNat 1 * pm s
theorem pm_pos : ∀ s : List Int, 1 ≤ pm s
  | [] => Nat.le_refl _
  | n :: s => by
    have := pm_pos s
    rw [pm]
    exact Nat.mul_le_mul (show 1 ≤ max n.toNat 1 by omega) this
/-- accesses as the laws need them -/
def accF (a : T_ref17_Access) (n : Nat) : Prop := (a.kind = 1 ∧ a.strides.length = 0) ∨ (a.kind = 2 ∧ a.strides.length = n) ∨ (a.kind = 3 ∧ a.strides.length = n ∧ 0 < a.mod)
theorem near_tot (v m : Int) : ∃ b, m_ref17_near (v, m) = some b := by
  unfold m_ref17_near
  simp only [ite_some]
  exact ⟨_, rfl⟩
theorem bnd_L1 (m : Int) : ∀ (s p : List Int) (k b ba st se mo : Int), (p ++ s).length ≤ 9223372036854775807 → ∃ r, m_ref17_Bounded_L1 (⟨k, b, ba, p ++ s, st, se, mo⟩, m, (p.length : Int)) = some r
  | [], p, k, b, ba, st, se, mo, h => by
    rw [m_ref17_Bounded_L1]
    simp only [end_lt, if_false]
    exact ⟨_, rfl⟩
  | x :: s, p, k, b, ba, st, se, mo, h => by
    rw [m_ref17_Bounded_L1]
    obtain ⟨c, e⟩ := near_tot x m
    obtain ⟨r, e'⟩ := bnd_L1 m s (p ++ [x]) k b ba st se mo (by simpa using h)
    rw [← mid_app] at e'
    have w : W ((p.length : Int) + 1) = ((p ++ [x]).length : Int) := mid_W (Sm_of h)
    simp only [mid_lt, if_true, mid_idx, bind_ok, e, w, e']
    split <;> exact ⟨_, rfl⟩
theorem bnd_tot (a : T_ref17_Access) (m : Int) (h : a.strides.length ≤ 9223372036854775807) : ∃ b, m_ref17_Bounded (a, m) = some b := by
  obtain ⟨k, b, ba, s, st, se, mo⟩ := a
  obtain ⟨r, e⟩ := bnd_L1 m s [] k b ba st se mo (by simpa using h)
  simp only [List.nil_append, List.length_nil, Int.natCast_zero] at e
  obtain ⟨c1, e1⟩ := near_tot b m
  obtain ⟨c2, e2⟩ := near_tot ba m
  obtain ⟨c3, e3⟩ := near_tot st m
  obtain ⟨c4, e4⟩ := near_tot se m
  obtain ⟨c5, e5⟩ := near_tot mo m
  unfold m_ref17_Bounded
  simp only [e, bind_ok]
  cases r with
  | inl u => exact ⟨_, rfl⟩
  | inr u =>
    simp only [e1, e2, e3, e4, e5, bind_ok, ite_some]
    exact ⟨_, rfl⟩
theorem right_ok (a : T_ref17_Access) (n : Nat) (h : a.strides.length ≤ 9223372036854775807) : ∃ b, m_ref17_Right (a, (n : Int)) = some b ∧ (b = true → accF a n) := by
  obtain ⟨b, e⟩ := bnd_tot a 1099511627776 h
  unfold m_ref17_Right
  simp only [show ¬ ((n : Int) < 0) by omega, if_false, bind_ok, e, ite_some]
  refine ⟨_, rfl, fun hb => ?_⟩
  unfold accF
  by_cases k1 : a.kind = 1
  · simp [k1] at hb
    exact Or.inl ⟨k1, by rw [hb.2.1.1.1.2]; rfl⟩
  · by_cases k2 : a.kind = 2
    · simp [k2] at hb
      exact Or.inr (Or.inl ⟨k2, by omega⟩)
    · by_cases k3 : a.kind = 3
      · simp [k3] at hb
        exact Or.inr (Or.inr ⟨k3, by omega, by omega⟩)
      · simp [k1, k2, k3] at hb
theorem small_L1 (t : T_ref21_Nest) (hl : t.steps.length = t.dims.length) (h6 : t.dims.length ≤ 6) : ∀ (s p : List Int) (m : Nat), t.dims = p ++ s → m ≤ 200 →
    ∃ r, m_ref21_Small_L1 (t, 200, (m : Int), (p.length : Int)) = some r ∧ (r = .inr () → (∀ d ∈ s, 1 ≤ d) ∧ m * pm s ≤ 200)
  | [], p, m, hd, hm => by
    rw [m_ref21_Small_L1]
    have : ¬ ((p.length : Int) < (t.dims.length : Int)) := by rw [hd]; simp
    simp only [this, if_false]
    exact ⟨_, rfl, fun _ => ⟨fun d h => (by cases h), by rw [pm]; omega⟩⟩
  | x :: s, p, m, hd, hm => by
    rw [m_ref21_Small_L1]
    have h1 : ((p.length : Int) < (t.dims.length : Int)) := by rw [hd]; exact mid_lt
    have hpl : p.length < t.dims.length := by omega
    have e1 : idx t.dims (p.length : Int) = some x := by rw [hd]; exact mid_idx
    have e2 : idx t.steps (p.length : Int) = some (t.steps[p.length]'(by omega)) := idx_ok (by omega)
    generalize t.steps[p.length]'(by omega) = y at e2
    by_cases c1 : x < 1
    · simp only [h1, if_true, e1, bind_ok, c1]
      exact ⟨_, rfl, fun h => (by cases h)⟩
    · by_cases c2 : x > 200
      · simp only [h1, if_true, e1, bind_ok, c1, if_false, c2, decide_true]
        exact ⟨_, rfl, fun h => (by cases h)⟩
      · by_cases c3 : y < -1000000
        · simp only [h1, if_true, e1, e2, bind_ok, c1, if_false, c2, c3, decide_true, decide_false, Bool.false_eq_true]
          exact ⟨_, rfl, fun h => (by cases h)⟩
        · by_cases c4 : y > 1000000
          · simp only [h1, if_true, e1, e2, bind_ok, c1, if_false, c2, c3, c4, decide_true, decide_false, Bool.false_eq_true]
            exact ⟨_, rfl, fun h => (by cases h)⟩
          · have hx : ((x.toNat : Nat) : Int) = x := by omega
            have hle : m * x.toNat ≤ 200 * 200 := Nat.mul_le_mul hm (by omega)
            have w : W ((m : Int) * x) = ((m * x.toNat : Nat) : Int) := by
              rw [← hx, ← Int.natCast_mul, W_ok (by omega) (by omega)]; simp
            have w2 : W ((p.length : Int) + 1) = ((p ++ [x]).length : Int) := by rw [W_ok (by omega) (by omega)]; simp
            simp only [h1, if_true, e1, e2, bind_ok, c1, if_false, c2, c3, c4, decide_false, Bool.false_eq_true, w, w2]
            by_cases c5 : ((m * x.toNat : Nat) : Int) > 200
            · simp only [c5, if_true]
              exact ⟨_, rfl, fun h => (by cases h)⟩
            · obtain ⟨r, e, hr⟩ := small_L1 t hl h6 s (p ++ [x]) (m * x.toNat) (by rw [hd, mid_app]) (by omega)
              simp only [c5, if_false, e]
              refine ⟨r, rfl, fun h => ?_⟩
              obtain ⟨a, b⟩ := hr h
              refine ⟨fun d hd => ?_, ?_⟩
              · rcases List.mem_cons.1 hd with rfl | hd
                · omega
                · exact a d hd
              · rw [pm, Nat.max_eq_left (by omega), ← Nat.mul_assoc]; exact b
/-- small nests -/
structure smallF (t : T_ref21_Nest) : Prop where
  len : t.dims.length ≤ 6
  steps : t.steps.length = t.dims.length
  acc : accF t.read t.dims.length
  pos : ∀ d ∈ t.dims, 1 ≤ d
  prod : pm t.dims ≤ 200
theorem small_ok (t : T_ref21_Nest) (hd : t.dims.length ≤ 9223372036854775807) (hs : t.read.strides.length ≤ 9223372036854775807) : ∃ b, m_ref21_Small (t, 200) = some b ∧ (b = true → smallF t) := by
  obtain ⟨b1, e1, hb1⟩ := right_ok t.read t.dims.length hs
  obtain ⟨b2, e2⟩ := bnd_tot t.read 1000000 hs
  have e1' : m_ref17_Right (⟨t.read.kind, t.read.buffer, t.read.base, t.read.strides, t.read.start, t.read.step, t.read.mod⟩, (t.dims.length : Int)) = some b1 := e1
  have e2' : m_ref17_Bounded (⟨t.read.kind, t.read.buffer, t.read.base, t.read.strides, t.read.start, t.read.step, t.read.mod⟩, 1000000) = some b2 := e2
  unfold m_ref21_Small
  by_cases c1 : (t.dims.length : Int) > 6
  · simp only [c1, if_true, bind_ok]
    exact ⟨_, rfl, fun h => (by cases h)⟩
  · by_cases c2 : t.steps.length = t.dims.length
    · obtain ⟨r, e3, hr⟩ := small_L1 t c2 (by omega) t.dims [] 1 rfl (by omega)
      simp only [List.length_nil, Int.natCast_zero, Int.natCast_one] at e3
      simp only [c1, if_false, bind_ok, c2, bne_self_eq_false, Bool.false_eq_true, e1', e2', ite_some]
      cases b1 with
      | false =>
        simp only [Bool.not_false, if_true]
        exact ⟨_, rfl, fun h => (by cases h)⟩
      | true =>
        simp only [Bool.not_true, Bool.false_eq_true, if_false, e3, bind_ok]
        split
        · exact ⟨_, rfl, fun h => (by cases h)⟩
        · cases r with
          | inl u =>
            repeat' split
            all_goals first | contradiction | exact ⟨_, rfl, fun h => (by cases h)⟩
          | inr u =>
            obtain ⟨q1, q2⟩ := hr rfl
            repeat' split
            all_goals first | contradiction | exact ⟨_, rfl, fun _ => ⟨by omega, c2, hb1 rfl, q1, by omega⟩⟩
    · have hne : ((t.steps.length : Int) != (t.dims.length : Int)) = true := by simp; omega
      simp only [c1, if_false, bind_ok, hne, if_true]
      exact ⟨_, rfl, fun h => (by cases h)⟩
end Go.Proofs.Try
namespace Go.Proofs.Try
open Go Go.Pm
set_option linter.unusedVariables false
set_option linter.unusedSimpArgs false
set_option maxRecDepth 2000
theorem rEq_L1 : ∀ (s t p q : List Int), s.length = t.length → p.length = q.length → Sm (p ++ s).length → m_ref02_Equal_L1 (p ++ s, q ++ t, (p.length : Int)) = some (if s = t then .inr () else .inl ())
  | [], [], p, q, _, _, hs => by
    rw [m_ref02_Equal_L1]; simp only [end_lt, if_false, if_true]
  | x :: s, y :: t, p, q, h1, h2, hs => by
    rw [m_ref02_Equal_L1]
    have ih := rEq_L1 s t (p ++ [x]) (q ++ [y]) (by simpa using h1) (by simp [h2]) (by rw [← mid_app]; exact hs)
    rw [← mid_app, ← mid_app] at ih
    simp only [mid_lt, if_true, mid_idx, bind_ok, mid_W hs, ih]
    rw [h2, mid_idx]
    by_cases he : x = y <;> simp [he, bind_ok]
  | [], _ :: _, _, _, h, _, _ => by cases h
  | _ :: _, [], _, _, h, _, _ => by cases h
theorem rEq_ok (a b : List Int) (hs : Sm a.length) : m_ref02_Equal (a, b) = some (decide (a = b)) := by
  simp only [m_ref02_Equal]
  by_cases h : a.length = b.length
  · have e := rEq_L1 a b [] [] h rfl hs
    have e2 : ¬ ((a.length : Int) ≠ (b.length : Int)) := by omega
    simp only [e2, if_false]
    have e3 : m_ref02_Equal_L1 (a, b, 0) = _ := e
    rw [e3]
    by_cases hab : a = b
    · subst hab; simp
    · rw [if_neg hab, decide_eq_false hab]; rfl
  · have e2 : ((a.length : Int) ≠ (b.length : Int)) := by omega
    have e3 : a ≠ b := fun e => h (by rw [e])
    rw [if_pos e2, decide_eq_false e3]
theorem gEq_L1 : ∀ (s t p q : List Int), s.length = t.length → p.length = q.length → Sm (p ++ s).length → m_slices_Equal_int_int_L1 (p ++ s, q ++ t, (p.length : Int)) = some (if s = t then .inr () else .inl ())
  | [], [], p, q, _, _, hs => by
    rw [m_slices_Equal_int_int_L1]; simp only [end_lt, if_false, if_true]
  | x :: s, y :: t, p, q, h1, h2, hs => by
    rw [m_slices_Equal_int_int_L1]
    have ih := gEq_L1 s t (p ++ [x]) (q ++ [y]) (by simpa using h1) (by simp [h2]) (by rw [← mid_app]; exact hs)
    rw [← mid_app, ← mid_app] at ih
    simp only [mid_lt, if_true, mid_idx, bind_ok, mid_W hs, ih]
    rw [h2, mid_idx]
    by_cases he : x = y <;> simp [he, bind_ok]
  | [], _ :: _, _, _, h, _, _ => by cases h
  | _ :: _, [], _, _, h, _, _ => by cases h
theorem gEq_ok (a b : List Int) (hs : Sm a.length) : m_slices_Equal_int_int (a, b) = some (decide (a = b)) := by
  simp only [m_slices_Equal_int_int]
  by_cases h : a.length = b.length
  · have e := gEq_L1 a b [] [] h rfl hs
    have e2 : ¬ ((a.length : Int) ≠ (b.length : Int)) := by omega
    simp only [e2, if_false]
    have e3 : m_slices_Equal_int_int_L1 (a, b, 0) = _ := e
    rw [e3]
    by_cases hab : a = b
    · subst hab; simp
    · rw [if_neg hab, decide_eq_false hab]; rfl
  · have e2 : ((a.length : Int) ≠ (b.length : Int)) := by omega
    have e3 : a ≠ b := fun e => h (by rw [e])
    rw [if_pos e2, decide_eq_false e3]
def acc (a : T_ref17_Access) : T_access_Access := ⟨a.kind, a.buffer, a.base, a.strides, a.start, a.step, a.mod⟩
def onfN (t : T_ref21_Nest) : T_onf_Nest := ⟨t.dims, t.write, t.steps, acc t.read⟩
def sameB (a b : T_ref21_Nest) : Bool := decide (a.dims = b.dims ∧ a.write = b.write ∧ a.steps = b.steps ∧ a.read.kind = b.read.kind ∧ a.read.buffer = b.read.buffer ∧ a.read.base = b.read.base ∧ a.read.start = b.read.start ∧ a.read.step = b.read.step ∧ a.read.mod = b.read.mod ∧ a.read.strides = b.read.strides)
theorem rSame_ok (a b : T_ref21_Nest) (h1 : a.dims.length ≤ 1000) (h2 : a.steps.length ≤ 1000) (h3 : a.read.strides.length ≤ 1000) : m_ref21_Same (a, b) = some (sameB a b) := by
  obtain ⟨d, w, s, ⟨k, bu, ba, st, sa, se, mo⟩⟩ := a
  obtain ⟨d', w', s', ⟨k', bu', ba', st', sa', se', mo'⟩⟩ := b
  simp only at h1 h2 h3
  unfold m_ref21_Same m_ref17_Same sameB
  simp only [rEq_ok d d' (Sm_of h1), rEq_ok s s' (Sm_of h2), rEq_ok st st' (Sm_of h3), bind_ok, ite_some, T_ref21_Nest.mk.injEq, T_ref17_Access.mk.injEq]
  congr 1
  by_cases c1 : d = d' <;> by_cases c2 : w = w' <;> by_cases c3 : s = s' <;> simp [c1, c2, c3]
  by_cases c4 : k = k' <;> by_cases c5 : bu = bu' <;> by_cases c6 : ba = ba' <;> by_cases c7 : sa = sa' <;> by_cases c8 : se = se' <;> by_cases c9 : mo = mo' <;> simp [c4, c5, c6, c7, c8, c9]
theorem gSame_ok (a b : T_ref21_Nest) (h1 : a.dims.length ≤ 1000) (h2 : a.steps.length ≤ 1000) (h3 : a.read.strides.length ≤ 1000) : m_onf_Same (onfN a, onfN b) = some (sameB a b) := by
  obtain ⟨d, w, s, ⟨k, bu, ba, st, sa, se, mo⟩⟩ := a
  obtain ⟨d', w', s', ⟨k', bu', ba', st', sa', se', mo'⟩⟩ := b
  simp only at h1 h2 h3
  unfold m_onf_Same m_access_Same sameB onfN acc
  simp only [gEq_ok d d' (Sm_of h1), gEq_ok s s' (Sm_of h2), gEq_ok st st' (Sm_of h3), bind_ok, ite_some, T_ref21_Nest.mk.injEq, T_ref17_Access.mk.injEq]
  congr 1
  by_cases c1 : d = d' <;> by_cases c2 : w = w' <;> by_cases c3 : s = s' <;> simp [c1, c2, c3]
  by_cases c4 : k = k' <;> by_cases c5 : bu = bu' <;> by_cases c6 : ba = ba' <;> by_cases c7 : sa = sa' <;> by_cases c8 : se = se' <;> by_cases c9 : mo = mo' <;> by_cases c0 : st = st' <;> simp [c4, c5, c6, c7, c8, c9, c0]
/-- what is selected: as many of each list -/
def selL : List Int → List Int → List Int
  | x :: l, d :: ds => if d ≠ 1 then x :: selL l ds else selL l ds
  | _, _ => []
theorem selL_len : ∀ (l m ds : List Int), l.length = ds.length → m.length = ds.length → (selL l ds).length = (selL m ds).length
  | [], [], [], _, _ => rfl
  | [], _ :: _, [], _, h => by cases h
  | [], _, _ :: _, h, _ => by cases h
  | _ :: _, _, [], h, _ => by cases h
  | _ :: _, [], _ :: _, _, h => by cases h
  | x :: l, y :: m, d :: ds, h1, h2 => by
    have := selL_len l m ds (by simpa using h1) (by simpa using h2)
    rw [selL, selL]
    split <;> simp [this]
theorem selL_le : ∀ (l ds : List Int), (selL l ds).length ≤ l.length
  | [], _ => by simp [selL]
  | x :: l, [] => by simp [selL]
  | x :: l, d :: ds => by
    have := selL_le l ds
    rw [selL]
    split <;> simp <;> omega
theorem app8 {l es : List Int} (h : l.length + es.length ≤ 100000) : app 8 l es = some (l ++ es) := app_ok (by
  have h1 : (l.length + es.length) * 8 ≤ 100000 * 8 := Nat.mul_le_mul_right _ h
  have h2 : 100000 * 8 ≤ room := by decide +kernel
  omega)
theorem sel_L1 : ∀ (s t p q o : List Int) (g : Nat), s.length ≤ t.length → p.length = q.length → (p ++ s).length ≤ 1000 → o.length ≤ p.length → ∃ g', m_onf_selected_int_b769e_L1 (p ++ s, q ++ t, g, o, (p.length : Int)) = some (g', o ++ selL s t)
  | [], t, p, q, o, g, h1, h2, h3, h4 => by
    rw [m_onf_selected_int_b769e_L1]
    simp only [List.append_nil, Int.lt_irrefl, if_false, selL]
    exact ⟨_, rfl⟩
  | x :: s, d :: t, p, q, o, g, h1, h2, h3, h4 => by
    rw [m_onf_selected_int_b769e_L1]
    have e2 : idx (q ++ d :: t) (p.length : Int) = some d := by rw [h2]; exact mid_idx
    have w : W ((p.length : Int) + 1) = ((p ++ [x]).length : Int) := mid_W (Sm_of h3)
    simp only [mid_lt, if_true, mid_idx, bind_ok, e2, w, selL]
    by_cases hd : d ≠ 1
    · obtain ⟨g', e⟩ := sel_L1 s t (p ++ [x]) (q ++ [d]) (o ++ [x]) (gb g ([x] : List Int).isEmpty) (by simpa using h1) (by simp [h2]) (by simpa using h3) (by simp; omega)
      rw [← mid_app, ← mid_app] at e
      have ha : app 8 o [x] = some (o ++ [x]) := app8 (by simp at h3 ⊢; omega)
      simp only [hd, if_true, not_false_eq_true, ne_eq, ha, bind_ok, e]
      exact ⟨g', by simp⟩
    · obtain ⟨g', e⟩ := sel_L1 s t (p ++ [x]) (q ++ [d]) o g (by simpa using h1) (by simp [h2]) (by simpa using h3) (by simp; omega)
      rw [← mid_app, ← mid_app] at e
      simp only [hd, if_false, e]
      exact ⟨g', rfl⟩
theorem sel_ok {l ds : List Int} (h : l.length ≤ ds.length) (hl : l.length ≤ 1000) : ∃ g, m_onf_selected_int_b769e (l, ds) = some (g, selL l ds) := by
  obtain ⟨g, e⟩ := sel_L1 l ds [] [] [] 0 h rfl (by simpa using hl) (by simp)
  simp only [List.nil_append, List.length_nil, Int.natCast_zero] at e
  unfold m_onf_selected_int_b769e
  simp only [e, bind_ok]
  exact ⟨g, rfl⟩
theorem selD_L1 : ∀ (s p o : List Int) (g : Nat), (p ++ s).length ≤ 1000 → o.length ≤ p.length → ∃ g', m_onf_selected_int_b8645_L1 (p ++ s, g, o, (p.length : Int)) = some (g', o ++ selL s s)
  | [], p, o, g, h3, h4 => by
    rw [m_onf_selected_int_b8645_L1]
    simp only [List.append_nil, Int.lt_irrefl, if_false, selL]
    exact ⟨_, rfl⟩
  | x :: s, p, o, g, h3, h4 => by
    rw [m_onf_selected_int_b8645_L1]
    have w : W ((p.length : Int) + 1) = ((p ++ [x]).length : Int) := mid_W (Sm_of h3)
    simp only [mid_lt, if_true, mid_idx, bind_ok, w, selL]
    by_cases hd : x ≠ 1
    · obtain ⟨g', e⟩ := selD_L1 s (p ++ [x]) (o ++ [x]) (gb g ([x] : List Int).isEmpty) (by simpa using h3) (by simp; omega)
      rw [← mid_app] at e
      have ha : app 8 o [x] = some (o ++ [x]) := app8 (by simp at h3 ⊢; omega)
      simp only [hd, if_true, not_false_eq_true, ne_eq, ha, bind_ok, e]
      exact ⟨g', by simp⟩
    · obtain ⟨g', e⟩ := selD_L1 s (p ++ [x]) o g (by simpa using h3) (by simp; omega)
      rw [← mid_app] at e
      simp only [hd, if_false, e]
      exact ⟨g', rfl⟩
theorem selD_ok {l : List Int} (hl : l.length ≤ 1000) : ∃ g, m_onf_selected_int_b8645 l = some (g, selL l l) := by
  obtain ⟨g, e⟩ := selD_L1 l [] [] 0 (by simpa using hl) (by simp)
  simp only [List.nil_append, List.length_nil, Int.natCast_zero] at e
  unfold m_onf_selected_int_b8645
  simp only [e, bind_ok]
  exact ⟨g, rfl⟩
theorem idx_at {l : List Int} {k : Nat} {i : Int} (hi : i = (k : Int)) (h : k < l.length) : ∃ v, idx l i = some v := by subst hi; exact ⟨_, idx_ok h⟩
theorem del_ok {l : List Int} {cap k : Nat} {i j : Int} (hi : i = (k : Int)) (hj : j = ((k + 1 : Nat) : Int)) (h : k + 1 < l.length) (hl : l.length ≤ 1000) (hc : l.length ≤ cap) : ∃ r, delM l cap i j = some r ∧ r.length + 1 = l.length := by
  subst hi hj
  refine ⟨l.eraseIdx k, ?_, by rw [List.length_eraseIdx, if_pos (by omega)]; omega⟩
  unfold delM
  rw [if_pos ⟨by omega, by omega, by omega, by omega, hc⟩]
  rfl
theorem set_ok {l : List Int} {k : Nat} {i y : Int} (hi : i = (k : Int)) (h : k < l.length) : ∃ r, setM l i y = some r ∧ r.length = l.length := by
  subst hi
  exact ⟨l.set k y, by unfold setM; rw [if_pos ⟨by omega, by omega⟩]; rfl, by simp⟩
theorem fits_tot (q0 : List Int) (q1 : Nat) (q2 : Int) (q3 : List Int) (q4 : Int) (q5 : List Int) (q6 q7 q8 : Int) (q9 : List Int) (q10 q11 q12 : Int) (q13 : List Int) (q14 : Int) (q15 : List Int) (q16 q17 q18 : Int) (q19 : List Int) (q20 q21 q22 : Int) (q23 : List Int) (q24 : Int) (q25 : List Int) (q26 q27 q28 : Int) (q29 : List Int) (q30 q31 q32 : Int) (q33 : List Int) (q34 : Nat) (q35 : List Int) (q36 : Nat)
    {k : Nat} (hk : q2 = (k : Int)) (hk2 : k ≤ 1000) (h1 : k + 1 < q33.length) (h2 : q0.length = 0 ∨ k + 1 < q0.length) :
    (∃ b, m_onf_Collapse_1_b86f8 (q0, q1, q2, q3, q4, q5, q6, q7, q8, q9, q10, q11, q12, q13, q14, q15, q16, q17, q18, q19, q20, q21, q22, q23, q24, q25, q26, q27, q28, q29, q30, q31, q32, q33, q34, q35, q36) = some b) ∧
    (∃ b, m_onf_Collapse_1_b25bb (q0, q1, q2, q3, q4, q5, q6, q7, q8, q9, q10, q11, q12, q13, q14, q15, q16, q17, q18, q19, q20, q21, q22, q23, q24, q25, q26, q27, q28, q29, q30, q31, q32, q33, q34, q35, q36) = some b) := by
  have w : W (q2 + 1) = ((k + 1 : Nat) : Int) := by rw [W_ok (by omega) (by omega)]; omega
  unfold m_onf_Collapse_1_b86f8 m_onf_Collapse_1_b25bb
  rcases h2 with h2 | h2
  · have : (q0.length : Int) = 0 := by omega
    simp only [this, if_true]
    exact ⟨⟨_, rfl⟩, ⟨_, rfl⟩⟩
  · have hn : ¬ ((q0.length : Int) = 0) := by omega
    obtain ⟨a, ea⟩ := idx_at (l := q0) hk (by omega)
    obtain ⟨b, eb⟩ := idx_at (l := q33) (i := W (q2 + 1)) w h1
    obtain ⟨c, ec⟩ := idx_at (l := q0) (i := W (q2 + 1)) w h2
    simp only [hn, if_false, ea, eb, ec, bind_ok]
    exact ⟨⟨_, rfl⟩, ⟨_, rfl⟩⟩
theorem join_tot (q0 : List Int) (q1 : Nat) (q2 : Int) (q3 : List Int) (q4 : Nat) (q5 q6 q7 : Int) (q8 : List Int) (q9 : Nat) (q10 q11 q12 q13 : Int) (q14 : List Int) (q15 : Int) (q16 : List Int) (q17 q18 q19 : Int) (q20 : List Int) (q21 q22 q23 : Int) (q24 : List Int) (q25 : Int) (q26 : List Int) (q27 q28 q29 : Int) (q30 : List Int) (q31 q32 q33 : Int) (q34 q35 q36 : List Int)
    {k : Nat} (hk : q13 = (k : Int)) (hl : q0.length ≤ 1000) (h1 : k + 1 < q0.length) (h3 : q3.length = q0.length) (h8 : q8.length = 0 ∨ q8.length = q0.length) (c1 : q0.length ≤ q1) (c4 : q3.length ≤ q4) (c9 : q8.length ≤ q9) :
    ∃ a b c, m_onf_joined_b7bcd (q0, q1, q2, q3, q4, q5, q6, q7, q8, q9, q10, q11, q12, q13, q14, q15, q16, q17, q18, q19, q20, q21, q22, q23, q24, q25, q26, q27, q28, q29, q30, q31, q32, q33, q34, q35, q36) = some (a, b, c) ∧ a.length + 1 = q0.length ∧ b.length = a.length ∧ (c.length = 0 ∨ c.length = a.length) ∧ c.length ≤ q8.length := by
  have w : W (q13 + 1) = ((k + 1 : Nat) : Int) := by rw [W_ok (by omega) (by omega)]; omega
  obtain ⟨a, ea⟩ := idx_at (l := q0) hk (by omega)
  obtain ⟨b, eb⟩ := idx_at (l := q0) (i := W (q13 + 1)) w h1
  obtain ⟨c, ec, hc⟩ := set_ok (l := q0) (i := W (q13 + 1)) (y := W (b * a)) w h1
  obtain ⟨d, ed, hd⟩ := del_ok (l := c) (cap := q1) hk w (by omega) (by omega) (by omega)
  obtain ⟨e, ee, he⟩ := del_ok (l := q3) (cap := q4) hk w (by omega) (by omega) (by omega)
  have hg : guardM (c.length = q0.length) = some () := if_pos hc
  unfold m_onf_joined_b7bcd
  simp only [ea, eb, ec, hg, ed, ee, bind_ok]
  by_cases h0 : (q8.length : Int) > 0
  · obtain ⟨f, ef, hf⟩ := del_ok (l := q8) (cap := q9) hk w (by omega) (by omega) (by omega)
    simp only [h0, if_true, ef, bind_ok]
    exact ⟨_, _, _, rfl, by omega, by omega, by omega, by omega⟩
  · simp only [h0, if_false]
    exact ⟨_, _, _, rfl, by omega, by omega, by omega, by omega⟩
theorem coll_L1 (v4 q10 : List Int) (q11 : Int) (q12 : List Int) (q13 q14 q15 : Int) (q16 : List Int) (q17 q18 q19 : Int) (q20 : List Int) (q21 : Int) (q22 : List Int) (q23 q24 q25 : Int) (q26 : List Int) (q27 q28 q29 : Int) (q0 : List Int) (q1 : Int) (q2 : List Int) (q3 q4 q5 : Int) (q6 : List Int) (q7 q8 q9 : Int) (v2 v6 : List Int) :
    ∀ (m : Nat) (a b c : List Int), m ≤ 900 → (m = 0 ∨ m + 1 ≤ a.length) → a.length ≤ 1000 → b.length = a.length → (c.length = 0 ∨ c.length = a.length) → a.length ≤ v2.length → b.length ≤ v4.length → c.length ≤ v6.length →
    ∃ a' b' c', m_onf_Collapse_bd01c_L1 (v4, q10, q11, q12, q13, q14, q15, q16, q17, q18, q19, q20, q21, q22, q23, q24, q25, q26, q27, q28, q29, q0, q1, q2, q3, q4, q5, q6, q7, q8, q9, v2, v6, a, b, c, (m : Int) - 1) = some (a', b', c') ∧ a'.length ≤ 1000 ∧ b'.length ≤ 1000 ∧ c'.length ≤ 1000
  | 0, a, b, c, h1, h2, h3, h4, h5, h6, h7, h8 => by
    rw [m_onf_Collapse_bd01c_L1]
    have : ¬ (((0 : Nat) : Int) - 1 ≥ 0) := by omega
    simp only [this, if_false]
    exact ⟨_, _, _, rfl, by omega, by omega, by omega⟩
  | m + 1, a, b, c, h1, h2, h3, h4, h5, h6, h7, h8 => by
    rw [m_onf_Collapse_bd01c_L1]
    have hge : (((m + 1 : Nat) : Int) - 1 ≥ 0) := by omega
    have hk : ((m + 1 : Nat) : Int) - 1 = (m : Int) := by omega
    have w : W (((m + 1 : Nat) : Int) - 1 - 1) = (m : Int) - 1 := by rw [W_ok (by omega) (by omega)]; omega
    obtain ⟨⟨x, ex⟩, _⟩ := fits_tot b v4.length (((m + 1 : Nat) : Int) - 1) q10 q11 q12 q13 q14 q15 q16 q17 q18 q19 q20 q21 q22 q23 q24 q25 q26 q27 q28 q29 q0 q1 q2 q3 q4 q5 q6 q7 q8 q9 a v2.length c v6.length hk (by omega) (by omega) (Or.inr (by omega))
    obtain ⟨_, ⟨y, ey⟩⟩ := fits_tot c v6.length (((m + 1 : Nat) : Int) - 1) q10 q11 q12 q13 q14 q15 q16 q17 q18 q19 q20 q21 q22 q23 q24 q25 q26 q27 q28 q29 q0 q1 q2 q3 q4 q5 q6 q7 q8 q9 a v2.length b v4.length hk (by omega) (by omega) (by omega)
    obtain ⟨a1, b1, c1, ej, j1, j2, j3, j4⟩ := join_tot a v2.length q1 b v4.length q3 q4 q5 c v6.length q7 q8 q9 (((m + 1 : Nat) : Int) - 1) q10 q11 q12 q13 q14 q15 q16 q17 q18 q19 q20 q21 q22 q23 q24 q25 q26 q27 q28 q29 q0 q2 q6 hk h3 (by omega) h4 h5 h6 h7 h8
    obtain ⟨a2, b2, c2, e2, r2⟩ := coll_L1 v4 q10 q11 q12 q13 q14 q15 q16 q17 q18 q19 q20 q21 q22 q23 q24 q25 q26 q27 q28 q29 q0 q1 q2 q3 q4 q5 q6 q7 q8 q9 v2 v6 m a1 b1 c1 (by omega) (by omega) (by omega) j2 j3 (by omega) (by omega) (by omega)
    obtain ⟨a3, b3, c3, e3, r3⟩ := coll_L1 v4 q10 q11 q12 q13 q14 q15 q16 q17 q18 q19 q20 q21 q22 q23 q24 q25 q26 q27 q28 q29 q0 q1 q2 q3 q4 q5 q6 q7 q8 q9 v2 v6 m a b c (by omega) (by omega) h3 h4 h5 h6 h7 h8
    simp only [hge, if_true, ex, ey, bind_ok, w]
    cases x <;> cases y <;> simp only [if_true, if_false, Bool.false_eq_true, bind_ok, ej, e2, e3]
    · exact ⟨_, _, _, rfl, r3⟩
    · exact ⟨_, _, _, rfl, r3⟩
    · exact ⟨_, _, _, rfl, r3⟩
    · exact ⟨_, _, _, rfl, r2⟩
theorem coll_tot (q0 : List Int) (q1 : Int) (q2 : List Int) (q3 q4 q5 : Int) (q6 : List Int) (q7 q8 q9 : Int) (q10 : List Int) (q11 : Int) (q12 : List Int) (q13 q14 q15 : Int) (q16 : List Int) (q17 q18 q19 : Int) (q20 : List Int) (q21 : Int) (q22 : List Int) (q23 q24 q25 : Int) (q26 : List Int) (q27 q28 q29 : Int)
    (h1 : q0.length ≤ 6) (h2 : q2.length = q0.length) (h3 : q6.length = 0 ∨ q6.length = q0.length) :
    ∃ a b c n1 n2 n3 n4 n5 n6 n7 n8 n9, m_onf_Collapse_bd01c (q0, q1, q2, q3, q4, q5, q6, q7, q8, q9, q10, q11, q12, q13, q14, q15, q16, q17, q18, q19, q20, q21, q22, q23, q24, q25, q26, q27, q28, q29) = some (a, b, c, n1, n2, n3, n4, n5, n6, n7, n8, n9) ∧ a.length ≤ 1000 ∧ b.length ≤ 1000 ∧ c.length ≤ 1000 := by
  obtain ⟨g1, e1⟩ := selD_ok (l := q0) (by omega)
  obtain ⟨g2, e2⟩ := sel_ok (l := q2) (ds := q0) (by omega) (by omega)
  obtain ⟨g3, e3⟩ := sel_ok (l := q6) (ds := q0) (by omega) (by omega)
  have l1 := selL_le q0 q0
  have l2 := selL_len q2 q0 q0 h2 rfl
  have l3 : (selL q6 q0).length = 0 ∨ (selL q6 q0).length = (selL q0 q0).length := by
    rcases h3 with h | h
    · left; have := selL_le q6 q0; omega
    · right; exact selL_len q6 q0 q0 h rfl
  have key : ∃ a' b' c', m_onf_Collapse_bd01c_L1 (selL q2 q0, q10, q11, q12, q13, q14, q15, q16, q17, q18, q19, q20, q21, q22, q23, q24, q25, q26, q27, q28, q29, q0, q1, q2, q3, q4, q5, q6, q7, q8, q9, selL q0 q0, selL q6 q0, selL q0 q0, selL q2 q0, selL q6 q0, W (((selL q0 q0).length : Int) - 2)) = some (a', b', c') ∧ a'.length ≤ 1000 ∧ b'.length ≤ 1000 ∧ c'.length ≤ 1000 := by
    rw [W_ok (by omega) (by omega)]
    by_cases hz : (selL q0 q0).length = 0
    · rw [m_onf_Collapse_bd01c_L1]
      have : ¬ (((selL q0 q0).length : Int) - 2 ≥ 0) := by omega
      simp only [this, if_false]
      exact ⟨_, _, _, rfl, by omega, by omega, by omega⟩
    · have := coll_L1 (selL q2 q0) q10 q11 q12 q13 q14 q15 q16 q17 q18 q19 q20 q21 q22 q23 q24 q25 q26 q27 q28 q29 q0 q1 q2 q3 q4 q5 q6 q7 q8 q9 (selL q0 q0) (selL q6 q0) ((selL q0 q0).length - 1) (selL q0 q0) (selL q2 q0) (selL q6 q0) (by omega) (by omega) (by omega) l2 (by omega) (by omega) (by omega) (by omega)
      rwa [show (((selL q0 q0).length - 1 : Nat) : Int) - 1 = ((selL q0 q0).length : Int) - 2 by omega] at this
  obtain ⟨a, b, c, e, r⟩ := key
  unfold m_onf_Collapse_bd01c
  simp only [e1, e2, e3, bind_ok, e]
  exact ⟨_, _, _, _, _, _, _, _, _, _, _, _, rfl, r⟩
theorem inc_step {v11 l : List Int} {i : Nat} (hl : l.length = v11.length) (hi : i < v11.length) : ∃ x y l', idx l (i : Int) = some x ∧ guardM (l.length = v11.length) = some () ∧ setM l (i : Int) y = some l' ∧ l'.length = v11.length := by
  obtain ⟨x, ex⟩ := idx_at (l := l) (i := (i : Int)) rfl (by omega)
  obtain ⟨l', e, h⟩ := set_ok (l := l) (i := (i : Int)) (y := W (x + 1)) rfl (by omega)
  exact ⟨x, _, l', ex, if_pos hl, e, by omega⟩
theorem inc1 (v11 : List Int) (p0 p1 : T_ref21_Nest) (v8 : List Int) (v7 : T_onf_Nest) (v9 v10 : List Int) (v14 : Nat) (v12 : List Int) (v15 : Nat) (v13 : List Int) (v16 v17 v18 v19 v20 v21 v22 : Nat) (hv : v11.length ≤ 1000) :
    ∀ (m i : Nat) (l : List Int), i + m = v11.length → l.length = v11.length → ∃ r, m_law21_OnfSame_L1 (v11, p0, p1, v8, v7, v9, v10, v14, v12, v15, v13, v16, v17, v18, v19, v20, v21, v22, l, (i : Int)) = some r
  | 0, i, l, h, hl => by
    rw [m_law21_OnfSame_L1]
    have : ¬ ((i : Int) < (v11.length : Int)) := by omega
    simp only [this, if_false]
    exact ⟨_, rfl⟩
  | m + 1, i, l, h, hl => by
    rw [m_law21_OnfSame_L1]
    have h1 : ((i : Int) < (v11.length : Int)) := by omega
    obtain ⟨x, ex⟩ := idx_at (l := l) (i := (i : Int)) rfl (by omega)
    obtain ⟨l', e, h2⟩ := set_ok (l := l) (i := (i : Int)) (y := W (x + 1)) rfl (by omega)
    have hg : guardM (l.length = v11.length) = some () := if_pos hl
    have w : W ((i : Int) + 1) = ((i + 1 : Nat) : Int) := W_succ (by omega)
    obtain ⟨r, er⟩ := inc1 v11 p0 p1 v8 v7 v9 v10 v14 v12 v15 v13 v16 v17 v18 v19 v20 v21 v22 hv m (i + 1) l' (by omega) (by omega)
    simp only [h1, if_true, hg, ex, e, bind_ok, w, er]
    exact ⟨_, rfl⟩
theorem inc2 (v12 : List Int) (p0 p1 : T_ref21_Nest) (v8 : List Int) (v7 : T_onf_Nest) (v9 v10 v11 : List Int) (v14 v15 : Nat) (v13 : List Int) (v16 v17 v18 v19 : Nat) (v623 : List Int) (v20 v21 v22 : Nat) (hv : v12.length ≤ 1000) :
    ∀ (m i : Nat) (l : List Int), i + m = v12.length → l.length = v12.length → ∃ r, m_law21_OnfSame_L2 (v12, p0, p1, v8, v7, v9, v10, v11, v14, v15, v13, v16, v17, v18, v19, v623, v20, v21, v22, l, (i : Int)) = some r
  | 0, i, l, h, hl => by
    rw [m_law21_OnfSame_L2]
    have : ¬ ((i : Int) < (v12.length : Int)) := by omega
    simp only [this, if_false]
    exact ⟨_, rfl⟩
  | m + 1, i, l, h, hl => by
    rw [m_law21_OnfSame_L2]
    have h1 : ((i : Int) < (v12.length : Int)) := by omega
    obtain ⟨x, ex⟩ := idx_at (l := l) (i := (i : Int)) rfl (by omega)
    obtain ⟨l', e, h2⟩ := set_ok (l := l) (i := (i : Int)) (y := W (x + 1)) rfl (by omega)
    have hg : guardM (l.length = v12.length) = some () := if_pos hl
    have w : W ((i : Int) + 1) = ((i + 1 : Nat) : Int) := W_succ (by omega)
    obtain ⟨r, er⟩ := inc2 v12 p0 p1 v8 v7 v9 v10 v11 v14 v15 v13 v16 v17 v18 v19 v623 v20 v21 v22 hv m (i + 1) l' (by omega) (by omega)
    simp only [h1, if_true, hg, ex, e, bind_ok, w, er]
    exact ⟨_, rfl⟩
theorem inc3 (v13 : List Int) (p0 p1 : T_ref21_Nest) (v8 : List Int) (v7 : T_onf_Nest) (v9 v10 v11 : List Int) (v14 : Nat) (v12 : List Int) (v15 v16 v17 v18 v19 : Nat) (v623 v1230 : List Int) (v20 v21 v22 : Nat) (hv : v13.length ≤ 1000) :
    ∀ (m i : Nat) (l : List Int), i + m = v13.length → l.length = v13.length → ∃ r, m_law21_OnfSame_L3 (v13, p0, p1, v8, v7, v9, v10, v11, v14, v12, v15, v16, v17, v18, v19, v623, v1230, v20, v21, v22, l, (i : Int)) = some r
  | 0, i, l, h, hl => by
    rw [m_law21_OnfSame_L3]
    have : ¬ ((i : Int) < (v13.length : Int)) := by omega
    simp only [this, if_false]
    exact ⟨_, rfl⟩
  | m + 1, i, l, h, hl => by
    rw [m_law21_OnfSame_L3]
    have h1 : ((i : Int) < (v13.length : Int)) := by omega
    obtain ⟨x, ex⟩ := idx_at (l := l) (i := (i : Int)) rfl (by omega)
    obtain ⟨l', e, h2⟩ := set_ok (l := l) (i := (i : Int)) (y := W (x + 1)) rfl (by omega)
    have hg : guardM (l.length = v13.length) = some () := if_pos hl
    have w : W ((i : Int) + 1) = ((i + 1 : Nat) : Int) := W_succ (by omega)
    obtain ⟨r, er⟩ := inc3 v13 p0 p1 v8 v7 v9 v10 v11 v14 v12 v15 v16 v17 v18 v19 v623 v1230 v20 v21 v22 hv m (i + 1) l' (by omega) (by omega)
    simp only [h1, if_true, hg, ex, e, bind_ok, w, er]
    exact ⟨_, rfl⟩
theorem nest_ok (t : T_ref21_Nest) : m_law21_Nest t = some (onfN t) := rfl
theorem nest_ok' (t : T_ref21_Nest) : m_law21_Nest (⟨t.dims, t.write, t.steps, (⟨t.read.kind, t.read.buffer, t.read.base, t.read.strides, t.read.start, t.read.step, t.read.mod⟩ : T_ref17_Access)⟩ : T_ref21_Nest) = some (onfN t) := rfl
theorem OnfSame_ok (a b : T_ref21_Nest) (ha : a.dims.length ≤ 9223372036854775807) (ha2 : a.read.strides.length ≤ 9223372036854775807) (hb : b.dims.length ≤ 9223372036854775807) (hb2 : b.read.strides.length ≤ 9223372036854775807) : m_law21_OnfSame (a, b) = some true := by
  obtain ⟨x, e, hx⟩ := small_ok a ha ha2
  obtain ⟨y, e2, hy⟩ := small_ok b hb hb2
  have e' : m_ref21_Small ((⟨a.dims, a.write, a.steps, (⟨a.read.kind, a.read.buffer, a.read.base, a.read.strides, a.read.start, a.read.step, a.read.mod⟩ : T_ref17_Access)⟩ : T_ref21_Nest), 200) = some x := e
  have e2' : m_ref21_Small ((⟨b.dims, b.write, b.steps, (⟨b.read.kind, b.read.buffer, b.read.base, b.read.strides, b.read.start, b.read.step, b.read.mod⟩ : T_ref17_Access)⟩ : T_ref21_Nest), 200) = some y := e2
  have ea : m_law21_awake () = some true := rfl
  unfold m_law21_OnfSame
  simp only [ea, bind_ok, Bool.true_eq_false, if_false, e', e2']
  cases x with
  | false => rfl
  | true =>
    cases y with
    | false => rfl
    | true =>
      have sa := hx rfl
      have sb := hy rfl
      have l1 := sa.len
      have l2 := sa.steps
      have l3 : a.read.strides.length = 0 ∨ a.read.strides.length = a.dims.length := by have := sa.acc; unfold accF at this; omega
      have d1 : app 8 ([] : List Int) a.dims = some a.dims := app8 (by simp; omega)
      have d2 : app 8 ([] : List Int) a.steps = some a.steps := app8 (by simp; omega)
      have d3 : app 8 ([] : List Int) a.read.strides = some a.read.strides := app8 (by simp; omega)
      obtain ⟨A, B, C, n1, n2, n3, n4, n5, n6, n7, n8, n9, ec, r1, r2, r3⟩ := coll_tot a.dims (onfN a).write a.steps (onfN a).read.kind (onfN a).read.buffer (onfN a).read.base a.read.strides (onfN a).read.start (onfN a).read.step (onfN a).read.mod
        a.dims a.write a.steps a.read.kind a.read.buffer a.read.base a.read.strides a.read.start a.read.step a.read.mod b.dims b.write b.steps b.read.kind b.read.buffer b.read.base b.read.strides b.read.start b.read.step b.read.mod l1 l2 l3
      obtain ⟨q1, i1⟩ := inc1 A a b a.dims (onfN a) a.steps a.read.strides n1 B n2 C n3 n4 n5 n6 n7 n8 n9 r1 A.length 0 A (by omega) rfl
      obtain ⟨q2, i2⟩ := inc2 B a b a.dims (onfN a) a.steps a.read.strides A n1 n2 C n3 n4 n5 n6 q1 n7 n8 n9 r2 B.length 0 B (by omega) rfl
      obtain ⟨q3, i3⟩ := inc3 C a b a.dims (onfN a) a.steps a.read.strides A n1 B n2 n3 n4 n5 n6 q1 q2 n7 n8 n9 r3 C.length 0 C (by omega) rfl
      simp only [Int.natCast_zero] at i1 i2 i3
      have s1 := gSame_ok a b (by omega) (by omega) (by omega)
      have s2 : m_ref21_Same ((⟨a.dims, a.write, a.steps, (⟨a.read.kind, a.read.buffer, a.read.base, a.read.strides, a.read.start, a.read.step, a.read.mod⟩ : T_ref17_Access)⟩ : T_ref21_Nest), (⟨b.dims, b.write, b.steps, (⟨b.read.kind, b.read.buffer, b.read.base, b.read.strides, b.read.start, b.read.step, b.read.mod⟩ : T_ref17_Access)⟩ : T_ref21_Nest)) = some (sameB a b) := rSame_ok a b (by omega) (by omega) (by omega)
      have s3 : m_ref21_Same (a, (⟨a.dims, a.write, a.steps, (⟨a.read.kind, a.read.buffer, a.read.base, a.read.strides, a.read.start, a.read.step, a.read.mod⟩ : T_ref17_Access)⟩ : T_ref21_Nest)) = some true := by
        have := rSame_ok a a (by omega) (by omega) (by omega)
        have hs : sameB a a = true := by simp [sameB]
        rw [hs] at this
        exact this
      have bk : m_law21_Back (⟨a.dims, (onfN a).write, a.steps, (⟨(onfN a).read.kind, (onfN a).read.buffer, (onfN a).read.base, a.read.strides, (onfN a).read.start, (onfN a).read.step, (onfN a).read.mod⟩ : T_access_Access)⟩ : T_onf_Nest) = some a := rfl
      simp only [Bool.not_true, Bool.false_eq_true, if_false, nest_ok, nest_ok', d1, d2, d3, bind_ok, ec, i1, i2, i3, s1, s2, beq_self_eq_true, if_true, bk, s3]
end Go.Proofs.Try
namespace Go.Proofs.Try
open Go Go.Pm
set_option linter.unusedVariables false
set_option linter.unusedSimpArgs false
set_option maxHeartbeats 2000000
set_option maxRecDepth 2000
theorem ua3 : prog.underlying 3 = some (TypeDesc.int IntKind.i64) := by kernel_rfl
theorem ua22 : prog.underlying 22 = some (TypeDesc.slice 3) := by kernel_rfl
theorem ua44 : prog.underlying 44 = some (TypeDesc.struct { toList := [{ name := "Kind", type := 3, offset := 0, embedded := false, tag := "", pkgPath := "", byteOffset := 0 }, { name := "Buffer", type := 3, offset := 1, embedded := false, tag := "", pkgPath := "", byteOffset := 8 }, { name := "Base", type := 3, offset := 2, embedded := false, tag := "", pkgPath := "", byteOffset := 16 }, { name := "Strides", type := 22, offset := 3, embedded := false, tag := "", pkgPath := "", byteOffset := 24 }, { name := "Start", type := 3, offset := 4, embedded := false, tag := "", pkgPath := "", byteOffset := 48 }, { name := "Step", type := 3, offset := 5, embedded := false, tag := "", pkgPath := "", byteOffset := 56 }, { name := "Mod", type := 3, offset := 6, embedded := false, tag := "", pkgPath := "", byteOffset := 64 }] }) := by kernel_rfl
theorem ua46 : prog.underlying 46 = some (TypeDesc.struct { toList := [{ name := "Dims", type := 22, offset := 0, embedded := false, tag := "", pkgPath := "", byteOffset := 0 }, { name := "Write", type := 3, offset := 1, embedded := false, tag := "", pkgPath := "", byteOffset := 24 }, { name := "Steps", type := 22, offset := 2, embedded := false, tag := "", pkgPath := "", byteOffset := 32 }, { name := "Read", type := 44, offset := 3, embedded := false, tag := "", pkgPath := "", byteOffset := 56 }] }) := by kernel_rfl
theorem ua4 : prog.underlying 4 = some TypeDesc.bool := by kernel_rfl
theorem exists_map {α β : Type} {f : β → α} {p : β → Prop} : ∀ {L : List α}, (∀ x ∈ L, ∃ y, x = f y ∧ p y) → ∃ l : List β, L = l.map f ∧ ∀ y ∈ l, p y
  | [], _ => ⟨[], rfl, fun y h => by cases h⟩
  | x :: L, h => by
    obtain ⟨y, rfl, hy⟩ := h x (List.mem_cons_self ..)
    obtain ⟨l, rfl, hl⟩ := exists_map (fun x hx => h x (List.mem_cons_of_mem _ hx))
    exact ⟨y :: l, rfl, fun z hz => by
      rcases List.mem_cons.1 hz with rfl | hz
      · exact hy
      · exact hl z hz⟩
variable {B : Nat} {n : Nat} {cs : List Dat}
theorem tc3 (h : TyC prog B n 3 cs) : ∃ m : Int, cs = [(intD m)] ∧ ((-9223372036854775808) ≤ m ∧ m ≤ 9223372036854775807) := by
  cases n with
  | zero => exact h.elim
  | succ n =>
    simp only [TyC, ua3] at h
    obtain ⟨m, rfl, hm⟩ := h
    refine ⟨m, rfl, ?_⟩
    simpa [Lit.wf, IntKind.min, IntKind.max, IntKind.signed, IntKind.bits] using hm
def ok22 (B : Nat) (x : (List Int)) : Prop := x.length ≤ B ∧ ∀ m ∈ x, ((-9223372036854775808) ≤ m ∧ m ≤ 9223372036854775807)
theorem tc22 (h : TyC prog B n 22 cs) : ∃ l : (List Int), cs = [.lst ((List.map intD) l)] ∧ ok22 B l := by
  cases n with
  | zero => exact h.elim
  | succ n =>
    simp only [TyC, ua22] at h
    obtain ⟨L, rfl, hl, hx⟩ := h
    obtain ⟨l, rfl, hm⟩ := exists_map (f := fun m => [(intD m)]) (p := fun m => ((-9223372036854775808) ≤ m ∧ m ≤ 9223372036854775807)) (fun x hx' => tc3 (hx x hx'))
    refine ⟨l, ?_, by simpa using hl, hm⟩
    have e : (l.map (fun m => [(intD m)])).map (elemD prog 3) = l.map intD := by
      rw [List.map_map]; exact List.map_congr_left (fun m _ => by simp only [Function.comp_apply]; simp [elemD, aggB, ua3])
    rw [e]
structure ok44 (B : Nat) (x : T_ref17_Access) : Prop where
  kind : ((-9223372036854775808) ≤ x.kind ∧ x.kind ≤ 9223372036854775807)
  buffer : ((-9223372036854775808) ≤ x.buffer ∧ x.buffer ≤ 9223372036854775807)
  base : ((-9223372036854775808) ≤ x.base ∧ x.base ≤ 9223372036854775807)
  strides : (ok22 B x.strides)
  start : ((-9223372036854775808) ≤ x.start ∧ x.start ≤ 9223372036854775807)
  step : ((-9223372036854775808) ≤ x.step ∧ x.step ≤ 9223372036854775807)
  mod : ((-9223372036854775808) ≤ x.mod ∧ x.mod ≤ 9223372036854775807)
theorem tc44 (h : TyC prog B n 44 cs) : ∃ x : T_ref17_Access, cs = [(intD x.kind), (intD x.buffer), (intD x.base), (.lst ((List.map intD) x.strides)), (intD x.start), (intD x.step), (intD x.mod)] ∧ ok44 B x := by
  cases n with
  | zero => exact h.elim
  | succ n =>
    simp only [TyC, ua44, List.foldr] at h
    obtain ⟨_, _, rfl, h0, _, _, rfl, h1, _, _, rfl, h2, _, _, rfl, h3, _, _, rfl, h4, _, _, rfl, h5, _, _, rfl, h6, rfl⟩ := h
    obtain ⟨m0, rfl, i0⟩ := tc3 h0
    obtain ⟨m1, rfl, i1⟩ := tc3 h1
    obtain ⟨m2, rfl, i2⟩ := tc3 h2
    obtain ⟨m3, rfl, i3⟩ := tc22 h3
    obtain ⟨m4, rfl, i4⟩ := tc3 h4
    obtain ⟨m5, rfl, i5⟩ := tc3 h5
    obtain ⟨m6, rfl, i6⟩ := tc3 h6
    exact ⟨⟨m0, m1, m2, m3, m4, m5, m6⟩, rfl, i0, i1, i2, i3, i4, i5, i6⟩
structure ok46 (B : Nat) (x : T_ref21_Nest) : Prop where
  dims : (ok22 B x.dims)
  write : ((-9223372036854775808) ≤ x.write ∧ x.write ≤ 9223372036854775807)
  steps : (ok22 B x.steps)
  read : (ok44 B x.read)
theorem tc46 (h : TyC prog B n 46 cs) : ∃ x : T_ref21_Nest, cs = [(.lst ((List.map intD) x.dims)), (intD x.write), (.lst ((List.map intD) x.steps)), (intD x.read.kind), (intD x.read.buffer), (intD x.read.base), (.lst ((List.map intD) x.read.strides)), (intD x.read.start), (intD x.read.step), (intD x.read.mod)] ∧ ok46 B x := by
  cases n with
  | zero => exact h.elim
  | succ n =>
    simp only [TyC, ua46, List.foldr] at h
    obtain ⟨_, _, rfl, h0, _, _, rfl, h1, _, _, rfl, h2, _, _, rfl, h3, rfl⟩ := h
    obtain ⟨m0, rfl, i0⟩ := tc22 h0
    obtain ⟨m1, rfl, i1⟩ := tc3 h1
    obtain ⟨m2, rfl, i2⟩ := tc22 h2
    obtain ⟨m3, rfl, i3⟩ := tc44 h3
    exact ⟨⟨m0, m1, m2, m3⟩, rfl, i0, i1, i2, i3⟩
theorem ty46 {d : Dat} (h : TyA prog B 46 d) : ∃ m : T_ref21_Nest, d = (T_ref21_Nest.toD m) ∧ (ok46 B m) := by
  obtain ⟨n, cs, h, hd⟩ := h
  obtain ⟨m, rfl, hm⟩ := tc46 h
  exact ⟨m, by rw [hd]; simp [elemD, aggB, ua46]; rfl, hm⟩
def argTs : List TypeId := [3, 22, 44, 46, 4]
theorem argTs_closed : closedTs prog argTs = true := by kernel_rfl
theorem laidOut : laidOutB prog = true := by kernel_rfl
theorem summ : SummOK prog env := fun f s h => by cases h
theorem mixed : prog.follows .mixedOrders = true := by kernel_rfl
/-- a call that comes to a value keeps it in the model -/
theorem pure_of {f : FuncId} {dss : List Dat} {p : PV} (ho : p.out = true) (h : PC prog env f (dss.map .dat) [] p []) : PureCall prog f dss p := by
  obtain ⟨N, hN⟩ := h
  exact pure_sound summ mixed (hN N (Nat.le_refl _)) ho
end Go.Proofs.Try
