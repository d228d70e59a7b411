/-
  Seat a: the reference's report, and the law of the reports, on the machine.
-/
import Derived.Test.YtbknblppjhfkmaaA26
namespace Go.Proofs.Try
open Go Go.Pm
set_option linter.unusedVariables false
set_option linter.unusedSimpArgs false
set_option maxRecDepth 2000

theorem fills_succ {E : List Evt} {j : Nat} (h : j < E.length) : fillsE (E.take (j + 1)) = fillsE (E.take j) + (if E[j].fill then 1 else 0) := by
  rw [fillsE, fillsE, List.take_succ_eq_append_getElem h, List.filter_append, List.length_append]
  cases hf : E[j].fill <;> simp [hf]
theorem fills_le (E : List Evt) (j : Nat) : fillsE (E.take j) ≤ j := by
  have := List.length_filter_le (·.fill) (E.take j)
  rw [fillsE]; simp at this; omega
theorem c27 (l : List Nst) (s : List Int) (m : Nat) (H : List Blk) (hS : ∀ n ∈ l, SmallN n) (hl : l.length ≤ 1000) (hm : m ≤ 1000) : PC prog env 27 [.dat (nestsD l), .dat (intsD s), .dat (intD m)] H (.dat (repL l s m)) H := by
  refine PC_pure (fn := f27) (by kernel_rfl) rfl rfl (by kernel_rfl) rfl rfl ?_ (by simp [PV.lends])
  have hlen := eventsL_len hS
  refine R_eq (st' := ⟨[.dat (nestsD l), .dat (intsD s), .dat (intD m), .tup [], .tup [], .tup [], .tup [], .tup [], .tup [], .tup [], .tup [], .tup [], .tup [], .tup [], .tup [], .tup [], .tup [], .tup [], .tup [], .tup [], .tup [], .tup [], .tup [], .tup [], .tup [], .tup [], .tup [], .tup [], .tup [], .tup [], .tup [], .tup [], .tup [], .tup [], .tup [], .tup [], .tup [], .tup [], .tup [], .tup [], .tup [], .tup [], .tup [], .tup [], .tup [], .tup [], .tup [], .tup [], .tup [], .tup [], .tup [], .tup [], .tup [], .tup [], .tup [], .tup [], .tup [], .tup [], .tup [], .tup [], .tup [], .tup [], .tup [], .tup [], .tup [], .tup [], .tup [], .tup [], .tup [], .tup [], .tup [], .tup [], .tup [], .tup [], .tup [], .tup [], .tup [], .tup []], []⟩) rfl ?_
  repeat (first | refine R_seq ?_ | refine R_block ?_ | refine R_skip ?_)
  refine R_region ?_
  (refine OpsE_do rfl ?_; refine E_alloc (cs := [_, _, _, _]) ze65 rfl rfl ?_; refine OpsE_eq (st' := _) (by first | dsimp only [n0, n1, n2, n3, n4, n5, n6, n7, n8, n9, m0, m1, m2, m3, m4, m5, m6, m7, m8, m9, o0, o1, o2, o3, o4, ↓reduceIte] | rfl) ?_)
  refine OpsE_nil ?_
  repeat (first | refine R_seq ?_ | refine R_block ?_ | refine R_skip ?_)
  refine R_region ?_
  (refine OpsE_do rfl ?_; refine E_move rfl ?_; refine OpsE_eq (st' := _) (by first | dsimp only [n0, n1, n2, n3, n4, n5, n6, n7, n8, n9, m0, m1, m2, m3, m4, m5, m6, m7, m8, m9, o0, o1, o2, o3, o4, ↓reduceIte] | rfl) ?_)
  (refine OpsE_do rfl ?_; (first | refine E_call rfl rfl (c12L hS hl _) ?_ | refine E_callfn rfl rfl (c12L hS hl _) ?_); refine OpsE_eq (st' := _) (by first | dsimp only [n0, n1, n2, n3, n4, n5, n6, n7, n8, n9, m0, m1, m2, m3, m4, m5, m6, m7, m8, m9, o0, o1, o2, o3, o4, ↓reduceIte] | rfl) ?_)
  (refine OpsE_do rfl ?_; refine E_assign rfl rfl ?_; refine OpsE_eq (st' := _) (by first | dsimp only [n0, n1, n2, n3, n4, n5, n6, n7, n8, n9, m0, m1, m2, m3, m4, m5, m6, m7, m8, m9, o0, o1, o2, o3, o4, ↓reduceIte] | rfl) ?_)
  refine OpsE_nil ?_
  repeat (first | refine R_seq ?_ | refine R_block ?_ | refine R_skip ?_)
  refine R_region ?_
  iterate 3 ((refine OpsE_do rfl ?_; first | refine E_build (cs := [_, _, _, _]) (cs' := [_, _, _, _]) (v := .dat (.agg [_, _, _, _])) ze65 pl65 rfl rfl rfl rfl rfl rfl ?_ | refine E_build (cs := [_, _, _, _]) (cs' := [_, _, _, _]) (v := .agg [_, _, _, _]) ze65 pl65 rfl rfl rfl rfl rfl rfl ?_ | refine E_alloc (cs := [_, _, _, _]) ze65 rfl rfl ?_ | refine E_store (vs := [_, _, _, _]) sz65 rfl rfl rfl rfl rfl rfl rfl ?_); refine OpsE_eq (st' := _) (by first | dsimp only [n0, n1, n2, n3, n4, n5, n6, n7, n8, n9, m0, m1, m2, m3, m4, m5, m6, m7, m8, m9, o0, o1, o2, o3, o4, ↓reduceIte] | rfl) ?_)
  refine OpsE_nil ?_
  rw [repL]
  generalize eventsL l = E at hlen
  repeat (first | refine R_seq ?_ | refine R_block ?_ | refine R_skip ?_)
  refine R_region ?_
  (refine OpsE_do rfl ?_; refine E_assign rfl rfl ?_; refine OpsE_eq (st' := _) (by first | dsimp only [n0, n1, n2, n3, n4, n5, n6, n7, n8, n9, m0, m1, m2, m3, m4, m5, m6, m7, m8, m9, o0, o1, o2, o3, o4, ↓reduceIte] | rfl) ?_)
  refine OpsE_nil ?_
  repeat (first | refine R_seq ?_ | refine R_block ?_ | refine R_skip ?_)
  refine R_loop ?_
  refine RL_ind (fun (i : Nat) => ⟨[.undef, .dat (intsD s), .dat (intD m), .undef, .undef, .undef, .ptr 0 0, .dat (evtsD E), .ptr 1 0, intPV (i : Int), .undef, .undef, .undef, .undef, .undef, .undef, .undef, .undef, .undef, .undef, .undef, .undef, .undef, .undef, .undef, .undef, .undef, .undef, .undef, .undef, .undef, .undef, .undef, .undef, .undef, .undef, .undef, .undef, .undef, .undef, .undef, .undef, .undef, .undef, .undef, .undef, .undef, .undef, .undef, .undef, .undef, .undef, .undef, .undef, .undef, .undef, .undef, .undef, .undef, .undef, .undef, .undef, .undef, .undef, .undef, .undef, .undef, .undef, .undef, .undef, .undef, .undef, .undef, .undef, .undef, .undef, .undef, .undef], [.box [.dat (intD 0), .dat (intD 0), .dat (intD 0), .dat (intD 0)], .box [.dat (intD ((i : Int) - (fillsE (E.take i) : Int))), .dat (intD (fillsE (E.take i) : Int)), .dat (intD (firstI (badE m s E) i)), .dat (intD (-1))]]⟩)
    (fun i => i ≤ E.length) (fun i => E.length - i) (fun i hi => ?_) _ 0 _ (Nat.lt_succ_self _) (Nat.zero_le _) rfl
  repeat (first | refine R_seq ?_ | refine R_block ?_ | refine R_skip ?_)
  refine R_region ?_
  iterate 4 ((refine OpsE_do rfl ?_; first | refine E_move rfl ?_ | refine E_len un25 rfl rfl ?_ | refine E_int rfl rfl rfl rfl ?_); refine OpsE_eq (st' := _) (by first | dsimp only [n0, n1, n2, n3, n4, n5, n6, n7, n8, n9, m0, m1, m2, m3, m4, m5, m6, m7, m8, m9, o0, o1, o2, o3, o4, ↓reduceIte] | rfl) ?_)
  refine OpsE_nil ?_
  repeat (first | refine R_seq ?_ | refine R_block ?_ | refine R_skip ?_)
  refine R_if rfl (fun h => ?_) (fun h => ?_)
  · have hi' : i < E.length := by simpa using h
    have hEi := evts_get hi'
    have hfs := fills_succ hi'
    have hfl := fills_le E i
    have hws := firstI_succ (badE m s E) i
    have hwr := firstI_range (badE m s E) i
    have hbad := fun H => c46 E i s m H hi' (by omega)
    repeat (first | refine R_seq ?_ | refine R_block ?_ | refine R_skip ?_)
    refine R_region ?_
    iterate 2 ((refine OpsE_do rfl ?_; refine E_move rfl ?_); refine OpsE_eq (st' := _) (by first | dsimp only [n0, n1, n2, n3, n4, n5, n6, n7, n8, n9, m0, m1, m2, m3, m4, m5, m6, m7, m8, m9, o0, o1, o2, o3, o4, ↓reduceIte] | rfl) ?_)
    (refine OpsE_do rfl ?_; (first | refine E_index el25 sz37 rfl rfl rfl rfl hEi rfl ?_ | refine E_index0 el25 sz37 rfl rfl rfl rfl hEi ?_ | refine E_indexArr el25 sz37 rfl rfl rfl rfl hEi ?_); refine OpsE_eq (st' := _) (by first | dsimp only [n0, n1, n2, n3, n4, n5, n6, n7, n8, n9, m0, m1, m2, m3, m4, m5, m6, m7, m8, m9, o0, o1, o2, o3, o4, ↓reduceIte] | rfl) ?_)
    iterate 2 ((refine OpsE_do rfl ?_; first | refine E_fieldp fo37_1 rfl rfl ?_ | refine E_fieldi fo37_1 rfl rfl ?_ | refine E_loadi (ds := [_]) ag4 sz4 rfl rfl rfl rfl ?_ | refine E_loadp (ds := [_]) ag4 sz4 rfl rfl rfl rfl rfl ?_); refine OpsE_eq (st' := _) (by first | dsimp only [n0, n1, n2, n3, n4, n5, n6, n7, n8, n9, m0, m1, m2, m3, m4, m5, m6, m7, m8, m9, o0, o1, o2, o3, o4, ↓reduceIte] | rfl) ?_)
    refine OpsE_nil ?_
    generalize E[i] = e at hEi hfs
    cases hf : e.fill
    · rw [hf] at hfs
      repeat (first | refine R_seq ?_ | refine R_block ?_ | refine R_skip ?_)
      refine R_false rfl ?_
      repeat (first | refine R_seq ?_ | refine R_block ?_ | refine R_skip ?_)
      refine R_region ?_
      iterate 5 ((refine OpsE_do rfl ?_; first | refine E_fieldp fo65_0 rfl rfl ?_ | refine E_fieldi fo65_0 rfl rfl ?_ | refine E_loadi (ds := [_]) ag3 sz3 rfl rfl rfl rfl ?_ | refine E_loadp (ds := [_]) ag3 sz3 rfl rfl rfl rfl rfl ?_ | refine E_int rfl rfl rfl rfl ?_ | refine E_store (vs := [_]) sz3 rfl rfl rfl rfl rfl rfl rfl ?_); refine OpsE_eq (st' := _) (by first | dsimp only [n0, n1, n2, n3, n4, n5, n6, n7, n8, n9, m0, m1, m2, m3, m4, m5, m6, m7, m8, m9, o0, o1, o2, o3, o4, ↓reduceIte] | rfl) ?_)
      refine OpsE_nil ?_
      have er : IntKind.i64.wrap (((i : Int) - (fillsE (E.take i) : Int)) + 1) = (((i + 1 : Nat) : Int) - (fillsE (E.take (i + 1)) : Int)) := by rw [wrap_i64 (by omega) (by omega)]; simp [hfs]; omega
      rw [er]
      have eo : (fillsE (E.take i) : Int) = (fillsE (E.take (i + 1)) : Int) := by simp [hfs]
      rw [eo]
      generalize hw : firstI (badE m s E) i = w at hws hwr
      by_cases w0 : w < 0
      · have e2 : intBin .lss .i64 w 0 = some (.bool true) := by simp [intBin]; omega
        cases hb : badE m s E i
        · have hb46 := hbad
          rw [hb] at hb46 hws
          repeat (first | refine R_seq ?_ | refine R_block ?_ | refine R_skip ?_)
          refine R_region ?_
          iterate 2 ((refine OpsE_do rfl ?_; first | refine E_fieldp fo65_2 rfl rfl ?_ | refine E_fieldi fo65_2 rfl rfl ?_ | refine E_loadi (ds := [_]) ag3 sz3 rfl rfl rfl rfl ?_ | refine E_loadp (ds := [_]) ag3 sz3 rfl rfl rfl rfl rfl ?_); refine OpsE_eq (st' := _) (by first | dsimp only [n0, n1, n2, n3, n4, n5, n6, n7, n8, n9, m0, m1, m2, m3, m4, m5, m6, m7, m8, m9, o0, o1, o2, o3, o4, ↓reduceIte] | rfl) ?_)
          (refine OpsE_do rfl ?_; refine E_int rfl rfl rfl e2 ?_; refine OpsE_eq (st' := _) (by first | dsimp only [n0, n1, n2, n3, n4, n5, n6, n7, n8, n9, m0, m1, m2, m3, m4, m5, m6, m7, m8, m9, o0, o1, o2, o3, o4, ↓reduceIte] | rfl) ?_)
          iterate 5 ((first | (refine OpsE_do rfl ?_; refine E_move rfl ?_) | refine OpsE_not rfl ?_); refine OpsE_eq (st' := _) (by first | dsimp only [n0, n1, n2, n3, n4, n5, n6, n7, n8, n9, m0, m1, m2, m3, m4, m5, m6, m7, m8, m9, o0, o1, o2, o3, o4, ↓reduceIte] | rfl) ?_)
          ((first | (refine OpsE_do rfl ?_; (first | refine E_call rfl rfl (hb46 _) ?_ | refine E_callfn rfl rfl (hb46 _) ?_)) | refine OpsE_not rfl ?_); refine OpsE_eq (st' := _) (by first | dsimp only [n0, n1, n2, n3, n4, n5, n6, n7, n8, n9, m0, m1, m2, m3, m4, m5, m6, m7, m8, m9, o0, o1, o2, o3, o4, ↓reduceIte] | rfl) ?_)
          (refine OpsE_do rfl ?_; refine E_pick rfl rfl ?_; refine OpsE_eq (st' := _) (by first | dsimp only [n0, n1, n2, n3, n4, n5, n6, n7, n8, n9, m0, m1, m2, m3, m4, m5, m6, m7, m8, m9, o0, o1, o2, o3, o4, ↓reduceIte] | rfl) ?_)
          refine OpsE_nil ?_
          repeat (first | refine R_seq ?_ | refine R_block ?_ | refine R_skip ?_)
          refine R_false rfl ?_
          refine R_skip ?_
          repeat (first | refine R_seq ?_ | refine R_block ?_ | refine R_skip ?_)
          refine R_region ?_
          iterate 3 ((refine OpsE_do rfl ?_; first | refine E_move rfl ?_ | refine E_int rfl rfl rfl rfl ?_ | refine E_assign rfl rfl ?_); refine OpsE_eq (st' := _) (by first | dsimp only [n0, n1, n2, n3, n4, n5, n6, n7, n8, n9, m0, m1, m2, m3, m4, m5, m6, m7, m8, m9, o0, o1, o2, o3, o4, ↓reduceIte] | rfl) ?_)
          refine OpsE_nil ?_
          refine ⟨i + 1, ?_, by omega, hi'⟩
          have hw2 := hws.trans (if_neg (by simp))
          rw [wrap_succ (by omega), hw2]
          rfl
        · have hb46 := hbad
          rw [hb] at hb46 hws
          repeat (first | refine R_seq ?_ | refine R_block ?_ | refine R_skip ?_)
          refine R_region ?_
          iterate 2 ((refine OpsE_do rfl ?_; first | refine E_fieldp fo65_2 rfl rfl ?_ | refine E_fieldi fo65_2 rfl rfl ?_ | refine E_loadi (ds := [_]) ag3 sz3 rfl rfl rfl rfl ?_ | refine E_loadp (ds := [_]) ag3 sz3 rfl rfl rfl rfl rfl ?_); refine OpsE_eq (st' := _) (by first | dsimp only [n0, n1, n2, n3, n4, n5, n6, n7, n8, n9, m0, m1, m2, m3, m4, m5, m6, m7, m8, m9, o0, o1, o2, o3, o4, ↓reduceIte] | rfl) ?_)
          (refine OpsE_do rfl ?_; refine E_int rfl rfl rfl e2 ?_; refine OpsE_eq (st' := _) (by first | dsimp only [n0, n1, n2, n3, n4, n5, n6, n7, n8, n9, m0, m1, m2, m3, m4, m5, m6, m7, m8, m9, o0, o1, o2, o3, o4, ↓reduceIte] | rfl) ?_)
          iterate 5 ((first | (refine OpsE_do rfl ?_; refine E_move rfl ?_) | refine OpsE_not rfl ?_); refine OpsE_eq (st' := _) (by first | dsimp only [n0, n1, n2, n3, n4, n5, n6, n7, n8, n9, m0, m1, m2, m3, m4, m5, m6, m7, m8, m9, o0, o1, o2, o3, o4, ↓reduceIte] | rfl) ?_)
          ((first | (refine OpsE_do rfl ?_; (first | refine E_call rfl rfl (hb46 _) ?_ | refine E_callfn rfl rfl (hb46 _) ?_)) | refine OpsE_not rfl ?_); refine OpsE_eq (st' := _) (by first | dsimp only [n0, n1, n2, n3, n4, n5, n6, n7, n8, n9, m0, m1, m2, m3, m4, m5, m6, m7, m8, m9, o0, o1, o2, o3, o4, ↓reduceIte] | rfl) ?_)
          (refine OpsE_do rfl ?_; refine E_pick rfl rfl ?_; refine OpsE_eq (st' := _) (by first | dsimp only [n0, n1, n2, n3, n4, n5, n6, n7, n8, n9, m0, m1, m2, m3, m4, m5, m6, m7, m8, m9, o0, o1, o2, o3, o4, ↓reduceIte] | rfl) ?_)
          refine OpsE_nil ?_
          repeat (first | refine R_seq ?_ | refine R_block ?_ | refine R_skip ?_)
          refine R_true rfl ?_
          repeat (first | refine R_seq ?_ | refine R_block ?_ | refine R_skip ?_)
          refine R_region ?_
          iterate 3 ((refine OpsE_do rfl ?_; first | refine E_move rfl ?_ | refine E_fieldp fo65_2 rfl rfl ?_ | refine E_fieldi fo65_2 rfl rfl ?_ | refine E_store (vs := [_]) sz3 rfl rfl rfl rfl rfl rfl rfl ?_); refine OpsE_eq (st' := _) (by first | dsimp only [n0, n1, n2, n3, n4, n5, n6, n7, n8, n9, m0, m1, m2, m3, m4, m5, m6, m7, m8, m9, o0, o1, o2, o3, o4, ↓reduceIte] | rfl) ?_)
          refine OpsE_nil ?_
          repeat (first | refine R_seq ?_ | refine R_block ?_ | refine R_skip ?_)
          refine R_region ?_
          iterate 3 ((refine OpsE_do rfl ?_; first | refine E_move rfl ?_ | refine E_int rfl rfl rfl rfl ?_ | refine E_assign rfl rfl ?_); refine OpsE_eq (st' := _) (by first | dsimp only [n0, n1, n2, n3, n4, n5, n6, n7, n8, n9, m0, m1, m2, m3, m4, m5, m6, m7, m8, m9, o0, o1, o2, o3, o4, ↓reduceIte] | rfl) ?_)
          refine OpsE_nil ?_
          refine ⟨i + 1, ?_, by omega, hi'⟩
          have hw2 := hws.trans (if_pos ⟨w0, rfl⟩)
          rw [wrap_succ (by omega), hw2]
          rfl
      · have e2 : intBin .lss .i64 w 0 = some (.bool false) := by simp [intBin]; omega
        repeat (first | refine R_seq ?_ | refine R_block ?_ | refine R_skip ?_)
        refine R_region ?_
        iterate 2 ((refine OpsE_do rfl ?_; first | refine E_fieldp fo65_2 rfl rfl ?_ | refine E_fieldi fo65_2 rfl rfl ?_ | refine E_loadi (ds := [_]) ag3 sz3 rfl rfl rfl rfl ?_ | refine E_loadp (ds := [_]) ag3 sz3 rfl rfl rfl rfl rfl ?_); refine OpsE_eq (st' := _) (by first | dsimp only [n0, n1, n2, n3, n4, n5, n6, n7, n8, n9, m0, m1, m2, m3, m4, m5, m6, m7, m8, m9, o0, o1, o2, o3, o4, ↓reduceIte] | rfl) ?_)
        (refine OpsE_do rfl ?_; refine E_int rfl rfl rfl e2 ?_; refine OpsE_eq (st' := _) (by first | dsimp only [n0, n1, n2, n3, n4, n5, n6, n7, n8, n9, m0, m1, m2, m3, m4, m5, m6, m7, m8, m9, o0, o1, o2, o3, o4, ↓reduceIte] | rfl) ?_)
        iterate 5 ((first | (refine OpsE_do rfl ?_; refine E_move rfl ?_) | refine OpsE_not rfl ?_); refine OpsE_eq (st' := _) (by first | dsimp only [n0, n1, n2, n3, n4, n5, n6, n7, n8, n9, m0, m1, m2, m3, m4, m5, m6, m7, m8, m9, o0, o1, o2, o3, o4, ↓reduceIte] | rfl) ?_)
        ((first | (refine OpsE_do rfl ?_; (first | refine E_call rfl rfl trivial ?_ | refine E_callfn rfl rfl trivial ?_)) | refine OpsE_not rfl ?_); refine OpsE_eq (st' := _) (by first | dsimp only [n0, n1, n2, n3, n4, n5, n6, n7, n8, n9, m0, m1, m2, m3, m4, m5, m6, m7, m8, m9, o0, o1, o2, o3, o4, ↓reduceIte] | rfl) ?_)
        (refine OpsE_do rfl ?_; refine E_pick rfl rfl ?_; refine OpsE_eq (st' := _) (by first | dsimp only [n0, n1, n2, n3, n4, n5, n6, n7, n8, n9, m0, m1, m2, m3, m4, m5, m6, m7, m8, m9, o0, o1, o2, o3, o4, ↓reduceIte] | rfl) ?_)
        refine OpsE_nil ?_
        repeat (first | refine R_seq ?_ | refine R_block ?_ | refine R_skip ?_)
        refine R_false rfl ?_
        refine R_skip ?_
        repeat (first | refine R_seq ?_ | refine R_block ?_ | refine R_skip ?_)
        refine R_region ?_
        iterate 3 ((refine OpsE_do rfl ?_; first | refine E_move rfl ?_ | refine E_int rfl rfl rfl rfl ?_ | refine E_assign rfl rfl ?_); refine OpsE_eq (st' := _) (by first | dsimp only [n0, n1, n2, n3, n4, n5, n6, n7, n8, n9, m0, m1, m2, m3, m4, m5, m6, m7, m8, m9, o0, o1, o2, o3, o4, ↓reduceIte] | rfl) ?_)
        refine OpsE_nil ?_
        refine ⟨i + 1, ?_, by omega, hi'⟩
        have hw2 := hws.trans (if_neg (fun h => w0 h.1))
        rw [wrap_succ (by omega), hw2]
        rfl
    · rw [hf] at hfs
      repeat (first | refine R_seq ?_ | refine R_block ?_ | refine R_skip ?_)
      refine R_true rfl ?_
      repeat (first | refine R_seq ?_ | refine R_block ?_ | refine R_skip ?_)
      refine R_region ?_
      iterate 5 ((refine OpsE_do rfl ?_; first | refine E_fieldp fo65_1 rfl rfl ?_ | refine E_fieldi fo65_1 rfl rfl ?_ | refine E_loadi (ds := [_]) ag3 sz3 rfl rfl rfl rfl ?_ | refine E_loadp (ds := [_]) ag3 sz3 rfl rfl rfl rfl rfl ?_ | refine E_int rfl rfl rfl rfl ?_ | refine E_store (vs := [_]) sz3 rfl rfl rfl rfl rfl rfl rfl ?_); refine OpsE_eq (st' := _) (by first | dsimp only [n0, n1, n2, n3, n4, n5, n6, n7, n8, n9, m0, m1, m2, m3, m4, m5, m6, m7, m8, m9, o0, o1, o2, o3, o4, ↓reduceIte] | rfl) ?_)
      refine OpsE_nil ?_
      have er : IntKind.i64.wrap ((fillsE (E.take i) : Int) + 1) = (fillsE (E.take (i + 1)) : Int) := by rw [wrap_i64 (by omega) (by omega)]; simp [hfs]
      rw [er]
      have eo : ((i : Int) - (fillsE (E.take i) : Int)) = (((i + 1 : Nat) : Int) - (fillsE (E.take (i + 1)) : Int)) := by simp [hfs]; omega
      rw [eo]
      generalize hw : firstI (badE m s E) i = w at hws hwr
      by_cases w0 : w < 0
      · have e2 : intBin .lss .i64 w 0 = some (.bool true) := by simp [intBin]; omega
        cases hb : badE m s E i
        · have hb46 := hbad
          rw [hb] at hb46 hws
          repeat (first | refine R_seq ?_ | refine R_block ?_ | refine R_skip ?_)
          refine R_region ?_
          iterate 2 ((refine OpsE_do rfl ?_; first | refine E_fieldp fo65_2 rfl rfl ?_ | refine E_fieldi fo65_2 rfl rfl ?_ | refine E_loadi (ds := [_]) ag3 sz3 rfl rfl rfl rfl ?_ | refine E_loadp (ds := [_]) ag3 sz3 rfl rfl rfl rfl rfl ?_); refine OpsE_eq (st' := _) (by first | dsimp only [n0, n1, n2, n3, n4, n5, n6, n7, n8, n9, m0, m1, m2, m3, m4, m5, m6, m7, m8, m9, o0, o1, o2, o3, o4, ↓reduceIte] | rfl) ?_)
          (refine OpsE_do rfl ?_; refine E_int rfl rfl rfl e2 ?_; refine OpsE_eq (st' := _) (by first | dsimp only [n0, n1, n2, n3, n4, n5, n6, n7, n8, n9, m0, m1, m2, m3, m4, m5, m6, m7, m8, m9, o0, o1, o2, o3, o4, ↓reduceIte] | rfl) ?_)
          iterate 5 ((first | (refine OpsE_do rfl ?_; refine E_move rfl ?_) | refine OpsE_not rfl ?_); refine OpsE_eq (st' := _) (by first | dsimp only [n0, n1, n2, n3, n4, n5, n6, n7, n8, n9, m0, m1, m2, m3, m4, m5, m6, m7, m8, m9, o0, o1, o2, o3, o4, ↓reduceIte] | rfl) ?_)
          ((first | (refine OpsE_do rfl ?_; (first | refine E_call rfl rfl (hb46 _) ?_ | refine E_callfn rfl rfl (hb46 _) ?_)) | refine OpsE_not rfl ?_); refine OpsE_eq (st' := _) (by first | dsimp only [n0, n1, n2, n3, n4, n5, n6, n7, n8, n9, m0, m1, m2, m3, m4, m5, m6, m7, m8, m9, o0, o1, o2, o3, o4, ↓reduceIte] | rfl) ?_)
          (refine OpsE_do rfl ?_; refine E_pick rfl rfl ?_; refine OpsE_eq (st' := _) (by first | dsimp only [n0, n1, n2, n3, n4, n5, n6, n7, n8, n9, m0, m1, m2, m3, m4, m5, m6, m7, m8, m9, o0, o1, o2, o3, o4, ↓reduceIte] | rfl) ?_)
          refine OpsE_nil ?_
          repeat (first | refine R_seq ?_ | refine R_block ?_ | refine R_skip ?_)
          refine R_false rfl ?_
          refine R_skip ?_
          repeat (first | refine R_seq ?_ | refine R_block ?_ | refine R_skip ?_)
          refine R_region ?_
          iterate 3 ((refine OpsE_do rfl ?_; first | refine E_move rfl ?_ | refine E_int rfl rfl rfl rfl ?_ | refine E_assign rfl rfl ?_); refine OpsE_eq (st' := _) (by first | dsimp only [n0, n1, n2, n3, n4, n5, n6, n7, n8, n9, m0, m1, m2, m3, m4, m5, m6, m7, m8, m9, o0, o1, o2, o3, o4, ↓reduceIte] | rfl) ?_)
          refine OpsE_nil ?_
          refine ⟨i + 1, ?_, by omega, hi'⟩
          have hw2 := hws.trans (if_neg (by simp))
          rw [wrap_succ (by omega), hw2]
          rfl
        · have hb46 := hbad
          rw [hb] at hb46 hws
          repeat (first | refine R_seq ?_ | refine R_block ?_ | refine R_skip ?_)
          refine R_region ?_
          iterate 2 ((refine OpsE_do rfl ?_; first | refine E_fieldp fo65_2 rfl rfl ?_ | refine E_fieldi fo65_2 rfl rfl ?_ | refine E_loadi (ds := [_]) ag3 sz3 rfl rfl rfl rfl ?_ | refine E_loadp (ds := [_]) ag3 sz3 rfl rfl rfl rfl rfl ?_); refine OpsE_eq (st' := _) (by first | dsimp only [n0, n1, n2, n3, n4, n5, n6, n7, n8, n9, m0, m1, m2, m3, m4, m5, m6, m7, m8, m9, o0, o1, o2, o3, o4, ↓reduceIte] | rfl) ?_)
          (refine OpsE_do rfl ?_; refine E_int rfl rfl rfl e2 ?_; refine OpsE_eq (st' := _) (by first | dsimp only [n0, n1, n2, n3, n4, n5, n6, n7, n8, n9, m0, m1, m2, m3, m4, m5, m6, m7, m8, m9, o0, o1, o2, o3, o4, ↓reduceIte] | rfl) ?_)
          iterate 5 ((first | (refine OpsE_do rfl ?_; refine E_move rfl ?_) | refine OpsE_not rfl ?_); refine OpsE_eq (st' := _) (by first | dsimp only [n0, n1, n2, n3, n4, n5, n6, n7, n8, n9, m0, m1, m2, m3, m4, m5, m6, m7, m8, m9, o0, o1, o2, o3, o4, ↓reduceIte] | rfl) ?_)
          ((first | (refine OpsE_do rfl ?_; (first | refine E_call rfl rfl (hb46 _) ?_ | refine E_callfn rfl rfl (hb46 _) ?_)) | refine OpsE_not rfl ?_); refine OpsE_eq (st' := _) (by first | dsimp only [n0, n1, n2, n3, n4, n5, n6, n7, n8, n9, m0, m1, m2, m3, m4, m5, m6, m7, m8, m9, o0, o1, o2, o3, o4, ↓reduceIte] | rfl) ?_)
          (refine OpsE_do rfl ?_; refine E_pick rfl rfl ?_; refine OpsE_eq (st' := _) (by first | dsimp only [n0, n1, n2, n3, n4, n5, n6, n7, n8, n9, m0, m1, m2, m3, m4, m5, m6, m7, m8, m9, o0, o1, o2, o3, o4, ↓reduceIte] | rfl) ?_)
          refine OpsE_nil ?_
          repeat (first | refine R_seq ?_ | refine R_block ?_ | refine R_skip ?_)
          refine R_true rfl ?_
          repeat (first | refine R_seq ?_ | refine R_block ?_ | refine R_skip ?_)
          refine R_region ?_
          iterate 3 ((refine OpsE_do rfl ?_; first | refine E_move rfl ?_ | refine E_fieldp fo65_2 rfl rfl ?_ | refine E_fieldi fo65_2 rfl rfl ?_ | refine E_store (vs := [_]) sz3 rfl rfl rfl rfl rfl rfl rfl ?_); refine OpsE_eq (st' := _) (by first | dsimp only [n0, n1, n2, n3, n4, n5, n6, n7, n8, n9, m0, m1, m2, m3, m4, m5, m6, m7, m8, m9, o0, o1, o2, o3, o4, ↓reduceIte] | rfl) ?_)
          refine OpsE_nil ?_
          repeat (first | refine R_seq ?_ | refine R_block ?_ | refine R_skip ?_)
          refine R_region ?_
          iterate 3 ((refine OpsE_do rfl ?_; first | refine E_move rfl ?_ | refine E_int rfl rfl rfl rfl ?_ | refine E_assign rfl rfl ?_); refine OpsE_eq (st' := _) (by first | dsimp only [n0, n1, n2, n3, n4, n5, n6, n7, n8, n9, m0, m1, m2, m3, m4, m5, m6, m7, m8, m9, o0, o1, o2, o3, o4, ↓reduceIte] | rfl) ?_)
          refine OpsE_nil ?_
          refine ⟨i + 1, ?_, by omega, hi'⟩
          have hw2 := hws.trans (if_pos ⟨w0, rfl⟩)
          rw [wrap_succ (by omega), hw2]
          rfl
      · have e2 : intBin .lss .i64 w 0 = some (.bool false) := by simp [intBin]; omega
        repeat (first | refine R_seq ?_ | refine R_block ?_ | refine R_skip ?_)
        refine R_region ?_
        iterate 2 ((refine OpsE_do rfl ?_; first | refine E_fieldp fo65_2 rfl rfl ?_ | refine E_fieldi fo65_2 rfl rfl ?_ | refine E_loadi (ds := [_]) ag3 sz3 rfl rfl rfl rfl ?_ | refine E_loadp (ds := [_]) ag3 sz3 rfl rfl rfl rfl rfl ?_); refine OpsE_eq (st' := _) (by first | dsimp only [n0, n1, n2, n3, n4, n5, n6, n7, n8, n9, m0, m1, m2, m3, m4, m5, m6, m7, m8, m9, o0, o1, o2, o3, o4, ↓reduceIte] | rfl) ?_)
        (refine OpsE_do rfl ?_; refine E_int rfl rfl rfl e2 ?_; refine OpsE_eq (st' := _) (by first | dsimp only [n0, n1, n2, n3, n4, n5, n6, n7, n8, n9, m0, m1, m2, m3, m4, m5, m6, m7, m8, m9, o0, o1, o2, o3, o4, ↓reduceIte] | rfl) ?_)
        iterate 5 ((first | (refine OpsE_do rfl ?_; refine E_move rfl ?_) | refine OpsE_not rfl ?_); refine OpsE_eq (st' := _) (by first | dsimp only [n0, n1, n2, n3, n4, n5, n6, n7, n8, n9, m0, m1, m2, m3, m4, m5, m6, m7, m8, m9, o0, o1, o2, o3, o4, ↓reduceIte] | rfl) ?_)
        ((first | (refine OpsE_do rfl ?_; (first | refine E_call rfl rfl trivial ?_ | refine E_callfn rfl rfl trivial ?_)) | refine OpsE_not rfl ?_); refine OpsE_eq (st' := _) (by first | dsimp only [n0, n1, n2, n3, n4, n5, n6, n7, n8, n9, m0, m1, m2, m3, m4, m5, m6, m7, m8, m9, o0, o1, o2, o3, o4, ↓reduceIte] | rfl) ?_)
        (refine OpsE_do rfl ?_; refine E_pick rfl rfl ?_; refine OpsE_eq (st' := _) (by first | dsimp only [n0, n1, n2, n3, n4, n5, n6, n7, n8, n9, m0, m1, m2, m3, m4, m5, m6, m7, m8, m9, o0, o1, o2, o3, o4, ↓reduceIte] | rfl) ?_)
        refine OpsE_nil ?_
        repeat (first | refine R_seq ?_ | refine R_block ?_ | refine R_skip ?_)
        refine R_false rfl ?_
        refine R_skip ?_
        repeat (first | refine R_seq ?_ | refine R_block ?_ | refine R_skip ?_)
        refine R_region ?_
        iterate 3 ((refine OpsE_do rfl ?_; first | refine E_move rfl ?_ | refine E_int rfl rfl rfl rfl ?_ | refine E_assign rfl rfl ?_); refine OpsE_eq (st' := _) (by first | dsimp only [n0, n1, n2, n3, n4, n5, n6, n7, n8, n9, m0, m1, m2, m3, m4, m5, m6, m7, m8, m9, o0, o1, o2, o3, o4, ↓reduceIte] | rfl) ?_)
        refine OpsE_nil ?_
        refine ⟨i + 1, ?_, by omega, hi'⟩
        have hw2 := hws.trans (if_neg (fun h => w0 h.1))
        rw [wrap_succ (by omega), hw2]
        rfl
  · have hi' : i = E.length := by simp at h; omega
    subst hi'
    rw [List.take_length]
    repeat (first | refine R_seq ?_ | refine R_block ?_ | refine R_skip ?_)
    refine R_exit ?_
    generalize firstI (badE m s E) E.length = w
    generalize ((E.length : Int) - (fillsE E : Int)) = r
    generalize (fillsE E : Int) = f
    rw [missI]
    repeat (first | refine R_seq ?_ | refine R_block ?_ | refine R_skip ?_)
    refine R_region ?_
    (refine OpsE_do rfl ?_; refine E_assign rfl rfl ?_; refine OpsE_eq (st' := _) (by first | dsimp only [n0, n1, n2, n3, n4, n5, n6, n7, n8, n9, m0, m1, m2, m3, m4, m5, m6, m7, m8, m9, o0, o1, o2, o3, o4, ↓reduceIte] | rfl) ?_)
    refine OpsE_nil ?_
    repeat (first | refine R_seq ?_ | refine R_block ?_ | refine R_skip ?_)
    refine R_loop ?_
    refine RL_ind (fun (n : Nat) => ⟨[.undef, .undef, .dat (intD m), .undef, .undef, .undef, .ptr 0 0, .dat (evtsD E), .ptr 1 0, .undef, intPV (n : Int), .undef, .undef, .undef, .undef, .undef, .undef, .undef, .undef, .undef, .undef, .undef, .undef, .undef, .undef, .undef, .undef, .undef, .undef, .undef, .undef, .undef, .undef, .undef, .undef, .undef, .undef, .undef, .undef, .undef, .undef, .undef, .undef, .undef, .undef, .undef, .undef, .undef, .undef, .undef, .undef, .undef, .undef, .undef, .undef, .undef, .undef, .undef, .undef, .undef, .undef, .undef, .undef, .undef, .undef, .undef, .undef, .undef, .undef, .undef, .undef, .undef, .undef, .undef, .undef, .undef, .undef, .undef], [.box [.dat (intD 0), .dat (intD 0), .dat (intD 0), .dat (intD 0)], .box [.dat (intD r), .dat (intD f), .dat (intD w), .dat (intD (firstI (fun i => !E.any (atB (i : Int))) n))]]⟩)
      (fun n => n ≤ m) (fun n => m - n) (fun n hn => ?_) _ 0 _ (Nat.lt_succ_self _) (Nat.zero_le _) rfl
    have hks := firstI_succ (fun i => !E.any (atB (i : Int))) n
    have hkr := firstI_range (fun i => !E.any (atB (i : Int))) n
    have hkst := firstI_stable (fun i => !E.any (atB (i : Int))) n
    by_cases hnm : n < m
    · have e2 : intBin .lss .i64 (n : Int) (m : Int) = some (.bool true) := by simp [intBin]; omega
      by_cases hk0 : firstI (fun i => !E.any (atB (i : Int))) n < 0
      · have e6 : intBin .lss .i64 (firstI (fun i => !E.any (atB (i : Int))) n) 0 = some (.bool true) := by simp [intBin]; omega
        repeat (first | refine R_seq ?_ | refine R_block ?_ | refine R_skip ?_)
        refine R_region ?_
        iterate 2 ((refine OpsE_do rfl ?_; refine E_move rfl ?_); refine OpsE_eq (st' := _) (by first | dsimp only [n0, n1, n2, n3, n4, n5, n6, n7, n8, n9, m0, m1, m2, m3, m4, m5, m6, m7, m8, m9, o0, o1, o2, o3, o4, ↓reduceIte] | rfl) ?_)
        (refine OpsE_do rfl ?_; refine E_int rfl rfl rfl e2 ?_; refine OpsE_eq (st' := _) (by first | dsimp only [n0, n1, n2, n3, n4, n5, n6, n7, n8, n9, m0, m1, m2, m3, m4, m5, m6, m7, m8, m9, o0, o1, o2, o3, o4, ↓reduceIte] | rfl) ?_)
        iterate 3 ((first | (refine OpsE_do rfl ?_; first | refine E_move rfl ?_ | refine E_fieldp fo65_3 rfl rfl ?_ | refine E_fieldi fo65_3 rfl rfl ?_ | refine E_loadi (ds := [_]) ag3 sz3 rfl rfl rfl rfl ?_ | refine E_loadp (ds := [_]) ag3 sz3 rfl rfl rfl rfl rfl ?_) | refine OpsE_not rfl ?_); refine OpsE_eq (st' := _) (by first | dsimp only [n0, n1, n2, n3, n4, n5, n6, n7, n8, n9, m0, m1, m2, m3, m4, m5, m6, m7, m8, m9, o0, o1, o2, o3, o4, ↓reduceIte] | rfl) ?_)
        ((first | (refine OpsE_do rfl ?_; refine E_int rfl rfl rfl e6 ?_) | refine OpsE_not rfl ?_); refine OpsE_eq (st' := _) (by first | dsimp only [n0, n1, n2, n3, n4, n5, n6, n7, n8, n9, m0, m1, m2, m3, m4, m5, m6, m7, m8, m9, o0, o1, o2, o3, o4, ↓reduceIte] | rfl) ?_)
        (refine OpsE_do rfl ?_; refine E_pick rfl rfl ?_; refine OpsE_eq (st' := _) (by first | dsimp only [n0, n1, n2, n3, n4, n5, n6, n7, n8, n9, m0, m1, m2, m3, m4, m5, m6, m7, m8, m9, o0, o1, o2, o3, o4, ↓reduceIte] | rfl) ?_)
        refine OpsE_nil ?_
        repeat (first | refine R_seq ?_ | refine R_block ?_ | refine R_skip ?_)
        refine R_true rfl ?_
        refine R_skip ?_
        repeat (first | refine R_seq ?_ | refine R_block ?_ | refine R_skip ?_)
        refine R_region ?_
        (refine OpsE_do rfl ?_; refine E_assign rfl rfl ?_; refine OpsE_eq (st' := _) (by first | dsimp only [n0, n1, n2, n3, n4, n5, n6, n7, n8, n9, m0, m1, m2, m3, m4, m5, m6, m7, m8, m9, o0, o1, o2, o3, o4, ↓reduceIte] | rfl) ?_)
        refine OpsE_nil ?_
        repeat (first | refine R_seq ?_ | refine R_block ?_ | refine R_skip ?_)
        refine R_region ?_
        (refine OpsE_do rfl ?_; refine E_assign rfl rfl ?_; refine OpsE_eq (st' := _) (by first | dsimp only [n0, n1, n2, n3, n4, n5, n6, n7, n8, n9, m0, m1, m2, m3, m4, m5, m6, m7, m8, m9, o0, o1, o2, o3, o4, ↓reduceIte] | rfl) ?_)
        refine OpsE_nil ?_
        generalize firstI (fun i => !E.any (atB (i : Int))) n = k at hks hkr hk0 e6
        repeat (first | refine R_seq ?_ | refine R_block ?_ | refine R_skip ?_)
        refine R_loop ?_
        refine RL_ind (fun (q : Nat) => ⟨[.undef, .undef, .dat (intD m), .undef, .undef, .undef, .ptr 0 0, .dat (evtsD E), .ptr 1 0, .undef, intPV (n : Int), boolPV ((E.take q).any (atB (n : Int))), intPV (q : Int), .undef, .undef, .undef, .undef, .undef, .undef, .undef, .undef, .undef, .undef, .undef, .undef, .undef, .undef, .undef, .undef, .undef, .undef, .undef, .undef, .undef, .undef, .undef, .undef, .undef, .undef, .undef, .undef, .undef, .undef, .undef, .undef, .undef, .undef, .undef, .undef, .undef, .undef, .undef, .undef, .undef, .undef, .undef, .undef, .undef, .undef, .undef, .undef, .undef, .undef, .undef, .undef, .undef, .undef, .undef, .undef, .undef, .undef, .undef, .undef, .undef, .undef, .undef, .undef, .undef], [.box [.dat (intD 0), .dat (intD 0), .dat (intD 0), .dat (intD 0)], .box [.dat (intD r), .dat (intD f), .dat (intD w), .dat (intD k)]]⟩)
          (fun q => q ≤ E.length) (fun q => E.length - q) (fun q hq => ?_) _ 0 _ (Nat.lt_succ_self _) (Nat.zero_le _) rfl
        repeat (first | refine R_seq ?_ | refine R_block ?_ | refine R_skip ?_)
        refine R_region ?_
        iterate 4 ((refine OpsE_do rfl ?_; first | refine E_move rfl ?_ | refine E_len un25 rfl rfl ?_ | refine E_int rfl rfl rfl rfl ?_); refine OpsE_eq (st' := _) (by first | dsimp only [n0, n1, n2, n3, n4, n5, n6, n7, n8, n9, m0, m1, m2, m3, m4, m5, m6, m7, m8, m9, o0, o1, o2, o3, o4, ↓reduceIte] | rfl) ?_)
        refine OpsE_nil ?_
        repeat (first | refine R_seq ?_ | refine R_block ?_ | refine R_skip ?_)
        refine R_if rfl (fun hqq => ?_) (fun hqq => ?_)
        · have hq' : q < E.length := by simpa using hqq
          have hEq := evts_get hq'
          have hany : (E.take (q + 1)).any (atB (n : Int)) = ((E.take q).any (atB (n : Int)) || atB (n : Int) E[q]) := by rw [List.take_succ_eq_append_getElem hq', List.any_append]; simp
          generalize E[q] = x at hEq hany
          cases ha : (E.take q).any (atB (n : Int))
          · rw [ha] at hany
            have e8 : intBin .eql .i64 x.write (n : Int) = some (.bool (atB (n : Int) x)) := by
              simp only [intBin, atB]; congr 2
            repeat (first | refine R_seq ?_ | refine R_block ?_ | refine R_skip ?_)
            refine R_region ?_
            iterate 4 ((first | (refine OpsE_do rfl ?_; refine E_move rfl ?_) | refine OpsE_not rfl ?_); refine OpsE_eq (st' := _) (by first | dsimp only [n0, n1, n2, n3, n4, n5, n6, n7, n8, n9, m0, m1, m2, m3, m4, m5, m6, m7, m8, m9, o0, o1, o2, o3, o4, ↓reduceIte] | rfl) ?_)
            ((first | (refine OpsE_do rfl ?_; (first | refine E_index el25 sz37 rfl rfl rfl rfl hEq rfl ?_ | refine E_index0 el25 sz37 rfl rfl rfl rfl hEq ?_ | refine E_indexArr el25 sz37 rfl rfl rfl rfl hEq ?_)) | refine OpsE_not rfl ?_); refine OpsE_eq (st' := _) (by first | dsimp only [n0, n1, n2, n3, n4, n5, n6, n7, n8, n9, m0, m1, m2, m3, m4, m5, m6, m7, m8, m9, o0, o1, o2, o3, o4, ↓reduceIte] | rfl) ?_)
            iterate 3 ((first | (refine OpsE_do rfl ?_; first | refine E_fieldp fo37_0 rfl rfl ?_ | refine E_fieldi fo37_0 rfl rfl ?_ | refine E_loadi (ds := [_]) ag3 sz3 rfl rfl rfl rfl ?_ | refine E_loadp (ds := [_]) ag3 sz3 rfl rfl rfl rfl rfl ?_ | refine E_move rfl ?_) | refine OpsE_not rfl ?_); refine OpsE_eq (st' := _) (by first | dsimp only [n0, n1, n2, n3, n4, n5, n6, n7, n8, n9, m0, m1, m2, m3, m4, m5, m6, m7, m8, m9, o0, o1, o2, o3, o4, ↓reduceIte] | rfl) ?_)
            ((first | (refine OpsE_do rfl ?_; refine E_int rfl rfl rfl e8 ?_) | refine OpsE_not rfl ?_); refine OpsE_eq (st' := _) (by first | dsimp only [n0, n1, n2, n3, n4, n5, n6, n7, n8, n9, m0, m1, m2, m3, m4, m5, m6, m7, m8, m9, o0, o1, o2, o3, o4, ↓reduceIte] | rfl) ?_)
            iterate 2 ((refine OpsE_do rfl ?_; first | refine E_pick rfl rfl ?_ | refine E_assign rfl rfl ?_); refine OpsE_eq (st' := _) (by first | dsimp only [n0, n1, n2, n3, n4, n5, n6, n7, n8, n9, m0, m1, m2, m3, m4, m5, m6, m7, m8, m9, o0, o1, o2, o3, o4, ↓reduceIte] | rfl) ?_)
            refine OpsE_nil ?_
            repeat (first | refine R_seq ?_ | refine R_block ?_ | refine R_skip ?_)
            refine R_region ?_
            iterate 3 ((refine OpsE_do rfl ?_; first | refine E_move rfl ?_ | refine E_int rfl rfl rfl rfl ?_ | refine E_assign rfl rfl ?_); refine OpsE_eq (st' := _) (by first | dsimp only [n0, n1, n2, n3, n4, n5, n6, n7, n8, n9, m0, m1, m2, m3, m4, m5, m6, m7, m8, m9, o0, o1, o2, o3, o4, ↓reduceIte] | rfl) ?_)
            refine OpsE_nil ?_
            refine ⟨q + 1, ?_, by omega, hq'⟩
            rw [wrap_succ (by omega), hany, Bool.false_or]
            rfl
          · rw [ha] at hany
            repeat (first | refine R_seq ?_ | refine R_block ?_ | refine R_skip ?_)
            refine R_region ?_
            iterate 4 ((first | (refine OpsE_do rfl ?_; refine E_move rfl ?_) | refine OpsE_not rfl ?_); refine OpsE_eq (st' := _) (by first | dsimp only [n0, n1, n2, n3, n4, n5, n6, n7, n8, n9, m0, m1, m2, m3, m4, m5, m6, m7, m8, m9, o0, o1, o2, o3, o4, ↓reduceIte] | rfl) ?_)
            ((first | (refine OpsE_do rfl ?_; (first | refine E_index el25 sz37 rfl rfl rfl rfl trivial rfl ?_ | refine E_index0 el25 sz37 rfl rfl rfl rfl trivial ?_ | refine E_indexArr el25 sz37 rfl rfl rfl rfl trivial ?_)) | refine OpsE_not rfl ?_); refine OpsE_eq (st' := _) (by first | dsimp only [n0, n1, n2, n3, n4, n5, n6, n7, n8, n9, m0, m1, m2, m3, m4, m5, m6, m7, m8, m9, o0, o1, o2, o3, o4, ↓reduceIte] | rfl) ?_)
            iterate 6 ((first | (refine OpsE_do rfl ?_; first | refine E_fieldp fo37_0 rfl rfl ?_ | refine E_fieldi fo37_0 rfl rfl ?_ | refine E_loadi (ds := [_]) ag3 sz3 rfl rfl rfl rfl ?_ | refine E_loadp (ds := [_]) ag3 sz3 rfl rfl rfl rfl rfl ?_ | refine E_move rfl ?_ | refine E_int rfl rfl rfl rfl ?_ | refine E_pick rfl rfl ?_ | refine E_assign rfl rfl ?_) | refine OpsE_not rfl ?_); refine OpsE_eq (st' := _) (by first | dsimp only [n0, n1, n2, n3, n4, n5, n6, n7, n8, n9, m0, m1, m2, m3, m4, m5, m6, m7, m8, m9, o0, o1, o2, o3, o4, ↓reduceIte] | rfl) ?_)
            refine OpsE_nil ?_
            repeat (first | refine R_seq ?_ | refine R_block ?_ | refine R_skip ?_)
            refine R_region ?_
            iterate 3 ((refine OpsE_do rfl ?_; first | refine E_move rfl ?_ | refine E_int rfl rfl rfl rfl ?_ | refine E_assign rfl rfl ?_); refine OpsE_eq (st' := _) (by first | dsimp only [n0, n1, n2, n3, n4, n5, n6, n7, n8, n9, m0, m1, m2, m3, m4, m5, m6, m7, m8, m9, o0, o1, o2, o3, o4, ↓reduceIte] | rfl) ?_)
            refine OpsE_nil ?_
            refine ⟨q + 1, ?_, by omega, hq'⟩
            rw [wrap_succ (by omega), hany, Bool.true_or]
            rfl
        · have hq' : q = E.length := by simp at hqq; omega
          subst hq'
          rw [List.take_length]
          repeat (first | refine R_seq ?_ | refine R_block ?_ | refine R_skip ?_)
          refine R_exit ?_
          cases ha : E.any (atB (n : Int))
          · rw [ha] at hks
            have hks := hks.trans (if_pos ⟨hk0, rfl⟩)
            repeat (first | refine R_seq ?_ | refine R_block ?_ | refine R_skip ?_)
            refine R_region ?_
            iterate 2 ((refine OpsE_do rfl ?_; first | refine E_move rfl ?_ | refine E_not rfl rfl ?_); refine OpsE_eq (st' := _) (by first | dsimp only [n0, n1, n2, n3, n4, n5, n6, n7, n8, n9, m0, m1, m2, m3, m4, m5, m6, m7, m8, m9, o0, o1, o2, o3, o4, ↓reduceIte] | rfl) ?_)
            refine OpsE_nil ?_
            repeat (first | refine R_seq ?_ | refine R_block ?_ | refine R_skip ?_)
            refine R_true rfl ?_
            repeat (first | refine R_seq ?_ | refine R_block ?_ | refine R_skip ?_)
            refine R_region ?_
            iterate 3 ((refine OpsE_do rfl ?_; first | refine E_move rfl ?_ | refine E_fieldp fo65_3 rfl rfl ?_ | refine E_fieldi fo65_3 rfl rfl ?_ | refine E_store (vs := [_]) sz3 rfl rfl rfl rfl rfl rfl rfl ?_); refine OpsE_eq (st' := _) (by first | dsimp only [n0, n1, n2, n3, n4, n5, n6, n7, n8, n9, m0, m1, m2, m3, m4, m5, m6, m7, m8, m9, o0, o1, o2, o3, o4, ↓reduceIte] | rfl) ?_)
            refine OpsE_nil ?_
            repeat (first | refine R_seq ?_ | refine R_block ?_ | refine R_skip ?_)
            refine R_region ?_
            iterate 3 ((refine OpsE_do rfl ?_; first | refine E_move rfl ?_ | refine E_int rfl rfl rfl rfl ?_ | refine E_assign rfl rfl ?_); refine OpsE_eq (st' := _) (by first | dsimp only [n0, n1, n2, n3, n4, n5, n6, n7, n8, n9, m0, m1, m2, m3, m4, m5, m6, m7, m8, m9, o0, o1, o2, o3, o4, ↓reduceIte] | rfl) ?_)
            refine OpsE_nil ?_
            refine ⟨n + 1, ?_, by omega, hnm⟩
            rw [wrap_succ (by omega), hks]
            rfl
          · rw [ha] at hks
            have hks := hks.trans (if_neg (by simp))
            repeat (first | refine R_seq ?_ | refine R_block ?_ | refine R_skip ?_)
            refine R_region ?_
            iterate 2 ((refine OpsE_do rfl ?_; first | refine E_move rfl ?_ | refine E_not rfl rfl ?_); refine OpsE_eq (st' := _) (by first | dsimp only [n0, n1, n2, n3, n4, n5, n6, n7, n8, n9, m0, m1, m2, m3, m4, m5, m6, m7, m8, m9, o0, o1, o2, o3, o4, ↓reduceIte] | rfl) ?_)
            refine OpsE_nil ?_
            repeat (first | refine R_seq ?_ | refine R_block ?_ | refine R_skip ?_)
            refine R_false rfl ?_
            refine R_skip ?_
            repeat (first | refine R_seq ?_ | refine R_block ?_ | refine R_skip ?_)
            refine R_region ?_
            iterate 3 ((refine OpsE_do rfl ?_; first | refine E_move rfl ?_ | refine E_int rfl rfl rfl rfl ?_ | refine E_assign rfl rfl ?_); refine OpsE_eq (st' := _) (by first | dsimp only [n0, n1, n2, n3, n4, n5, n6, n7, n8, n9, m0, m1, m2, m3, m4, m5, m6, m7, m8, m9, o0, o1, o2, o3, o4, ↓reduceIte] | rfl) ?_)
            refine OpsE_nil ?_
            refine ⟨n + 1, ?_, by omega, hnm⟩
            rw [wrap_succ (by omega), hks]
            rfl
      · have e6 : intBin .lss .i64 (firstI (fun i => !E.any (atB (i : Int))) n) 0 = some (.bool false) := by simp [intBin]; omega
        have hst := hkst (by omega) (m - n)
        rw [show n + (m - n) = m by omega] at hst
        repeat (first | refine R_seq ?_ | refine R_block ?_ | refine R_skip ?_)
        refine R_region ?_
        iterate 2 ((refine OpsE_do rfl ?_; refine E_move rfl ?_); refine OpsE_eq (st' := _) (by first | dsimp only [n0, n1, n2, n3, n4, n5, n6, n7, n8, n9, m0, m1, m2, m3, m4, m5, m6, m7, m8, m9, o0, o1, o2, o3, o4, ↓reduceIte] | rfl) ?_)
        (refine OpsE_do rfl ?_; refine E_int rfl rfl rfl e2 ?_; refine OpsE_eq (st' := _) (by first | dsimp only [n0, n1, n2, n3, n4, n5, n6, n7, n8, n9, m0, m1, m2, m3, m4, m5, m6, m7, m8, m9, o0, o1, o2, o3, o4, ↓reduceIte] | rfl) ?_)
        iterate 3 ((first | (refine OpsE_do rfl ?_; first | refine E_move rfl ?_ | refine E_fieldp fo65_3 rfl rfl ?_ | refine E_fieldi fo65_3 rfl rfl ?_ | refine E_loadi (ds := [_]) ag3 sz3 rfl rfl rfl rfl ?_ | refine E_loadp (ds := [_]) ag3 sz3 rfl rfl rfl rfl rfl ?_) | refine OpsE_not rfl ?_); refine OpsE_eq (st' := _) (by first | dsimp only [n0, n1, n2, n3, n4, n5, n6, n7, n8, n9, m0, m1, m2, m3, m4, m5, m6, m7, m8, m9, o0, o1, o2, o3, o4, ↓reduceIte] | rfl) ?_)
        ((first | (refine OpsE_do rfl ?_; refine E_int rfl rfl rfl e6 ?_) | refine OpsE_not rfl ?_); refine OpsE_eq (st' := _) (by first | dsimp only [n0, n1, n2, n3, n4, n5, n6, n7, n8, n9, m0, m1, m2, m3, m4, m5, m6, m7, m8, m9, o0, o1, o2, o3, o4, ↓reduceIte] | rfl) ?_)
        (refine OpsE_do rfl ?_; refine E_pick rfl rfl ?_; refine OpsE_eq (st' := _) (by first | dsimp only [n0, n1, n2, n3, n4, n5, n6, n7, n8, n9, m0, m1, m2, m3, m4, m5, m6, m7, m8, m9, o0, o1, o2, o3, o4, ↓reduceIte] | rfl) ?_)
        refine OpsE_nil ?_
        repeat (first | refine R_seq ?_ | refine R_block ?_ | refine R_skip ?_)
        refine R_false rfl ?_
        repeat (first | refine R_seq ?_ | refine R_block ?_ | refine R_skip ?_)
        refine R_exit ?_
        repeat (first | refine R_seq ?_ | refine R_block ?_ | refine R_skip ?_)
        refine R_region ?_
        iterate 2 ((refine OpsE_do rfl ?_; first | refine E_loadi (ds := [_, _, _, _]) (d := .agg [_, _, _, _]) ag65 sz65 rfl rfl rfl rfl ?_ | refine E_loadp (ds := [_, _, _, _]) (v := .dat (.agg [_, _, _, _])) ag65 sz65 rfl rfl rfl rfl rfl ?_ | refine E_loadp (ds := [_, _, _, _]) (v := .agg [_, _, _, _]) ag65 sz65 rfl rfl rfl rfl rfl ?_ | refine E_store (vs := [_, _, _, _]) sz65 rfl rfl rfl rfl rfl rfl rfl ?_); refine OpsE_eq (st' := _) (by first | dsimp only [n0, n1, n2, n3, n4, n5, n6, n7, n8, n9, m0, m1, m2, m3, m4, m5, m6, m7, m8, m9, o0, o1, o2, o3, o4, ↓reduceIte] | rfl) ?_)
        refine OpsE_nil ?_
        repeat (first | refine R_seq ?_ | refine R_block ?_ | refine R_skip ?_)
        refine R_ret ?_
        refine ⟨trivial, _, rfl, ?_⟩
        rw [hst]
        rfl
    · have hnm' : n = m := by omega
      subst hnm'
      have e2 : intBin .lss .i64 (n : Int) (n : Int) = some (.bool false) := by simp [intBin]
      repeat (first | refine R_seq ?_ | refine R_block ?_ | refine R_skip ?_)
      refine R_region ?_
      iterate 2 ((refine OpsE_do rfl ?_; refine E_move rfl ?_); refine OpsE_eq (st' := _) (by first | dsimp only [n0, n1, n2, n3, n4, n5, n6, n7, n8, n9, m0, m1, m2, m3, m4, m5, m6, m7, m8, m9, o0, o1, o2, o3, o4, ↓reduceIte] | rfl) ?_)
      (refine OpsE_do rfl ?_; refine E_int rfl rfl rfl e2 ?_; refine OpsE_eq (st' := _) (by first | dsimp only [n0, n1, n2, n3, n4, n5, n6, n7, n8, n9, m0, m1, m2, m3, m4, m5, m6, m7, m8, m9, o0, o1, o2, o3, o4, ↓reduceIte] | rfl) ?_)
      iterate 5 ((first | (refine OpsE_do rfl ?_; first | refine E_move rfl ?_ | refine E_fieldp fo65_3 rfl rfl ?_ | refine E_fieldi fo65_3 rfl rfl ?_ | refine E_loadi (ds := [_]) ag3 sz3 rfl rfl rfl rfl ?_ | refine E_loadp (ds := [_]) ag3 sz3 rfl rfl rfl rfl rfl ?_ | refine E_int rfl rfl rfl rfl ?_ | refine E_pick rfl rfl ?_) | refine OpsE_not rfl ?_); refine OpsE_eq (st' := _) (by first | dsimp only [n0, n1, n2, n3, n4, n5, n6, n7, n8, n9, m0, m1, m2, m3, m4, m5, m6, m7, m8, m9, o0, o1, o2, o3, o4, ↓reduceIte] | rfl) ?_)
      refine OpsE_nil ?_
      repeat (first | refine R_seq ?_ | refine R_block ?_ | refine R_skip ?_)
      refine R_false rfl ?_
      repeat (first | refine R_seq ?_ | refine R_block ?_ | refine R_skip ?_)
      refine R_exit ?_
      repeat (first | refine R_seq ?_ | refine R_block ?_ | refine R_skip ?_)
      refine R_region ?_
      iterate 2 ((refine OpsE_do rfl ?_; first | refine E_loadi (ds := [_, _, _, _]) (d := .agg [_, _, _, _]) ag65 sz65 rfl rfl rfl rfl ?_ | refine E_loadp (ds := [_, _, _, _]) (v := .dat (.agg [_, _, _, _])) ag65 sz65 rfl rfl rfl rfl rfl ?_ | refine E_loadp (ds := [_, _, _, _]) (v := .agg [_, _, _, _]) ag65 sz65 rfl rfl rfl rfl rfl ?_ | refine E_store (vs := [_, _, _, _]) sz65 rfl rfl rfl rfl rfl rfl rfl ?_); refine OpsE_eq (st' := _) (by first | dsimp only [n0, n1, n2, n3, n4, n5, n6, n7, n8, n9, m0, m1, m2, m3, m4, m5, m6, m7, m8, m9, o0, o1, o2, o3, o4, ↓reduceIte] | rfl) ?_)
      refine OpsE_nil ?_
      repeat (first | refine R_seq ?_ | refine R_block ?_ | refine R_skip ?_)
      refine R_ret ?_
      exact ⟨trivial, _, rfl, rfl⟩

theorem rep_seq (r f w k : Int) : SEq prog 65 #[.int .i64 r, .int .i64 f, .int .i64 w, .int .i64 k] #[.int .i64 r, .int .i64 f, .int .i64 w, .int .i64 k] true := by
  have h : SEq prog 65 #[.int .i64 r, .int .i64 f, .int .i64 w, .int .i64 k] #[.int .i64 r, .int .i64 f, .int .i64 w, .int .i64 k] ((r == r) && ((f == f) && ((w == w) && ((k == k) && true)))) :=
    SEq_of (fs := prog.fieldsOf 65) (by kernel_rfl) (by kernel_rfl) (by kernel_rfl) (by kernel_rfl)
  simpa using h
theorem c7_big (l : List Nst) (s : List Int) (cells : Int) (hl : lensOk l) (hsl : s.length ≤ 9223372036854775807) (hs : smallsB l 60 = false) : PC prog env 7 [.dat (nestsD l), .dat (intsD s), .dat (intD cells)] [] (boolPV true) [] := by
  refine PC_pure (fn := f7) (by kernel_rfl) rfl rfl (by kernel_rfl) rfl rfl ?_ (by simp [PV.lends])
  refine R_eq (st' := ⟨[.dat (nestsD l), .dat (intsD s), .dat (intD cells), .tup [], .tup [], .tup [], .tup [], .tup [], .tup [], .tup [], .tup [], .tup [], .tup [], .tup [], .tup [], .tup [], .tup [], .tup [], .tup [], .tup [], .tup [], .tup [], .tup [], .tup [], .tup [], .tup [], .tup [], .tup [], .tup [], .tup [], .tup [], .tup [], .tup [], .tup [], .tup [], .tup [], .tup [], .tup [], .tup [], .tup [], .tup [], .tup [], .tup [], .tup [], .tup [], .tup [], .tup [], .tup [], .tup [], .tup [], .tup []], []⟩) rfl ?_
  repeat (first | refine R_seq ?_ | refine R_block ?_ | refine R_skip ?_)
  refine R_region ?_
  (refine OpsE_do rfl ?_; refine E_assign rfl rfl ?_; refine OpsE_eq (st' := _) (by first | dsimp only [n0, n1, n2, n3, n4, n5, n6, n7, n8, n9, m0, m1, m2, m3, m4, m5, m6, m7, m8, m9, o0, o1, o2, o3, o4, ↓reduceIte] | rfl) ?_)
  refine OpsE_nil ?_
  repeat (first | refine R_seq ?_ | refine R_block ?_ | refine R_skip ?_)
  refine R_region ?_
  (refine OpsE_do rfl ?_; (first | refine E_call rfl rfl (c24 _) ?_ | refine E_callfn rfl rfl (c24 _) ?_); refine OpsE_eq (st' := _) (by first | dsimp only [n0, n1, n2, n3, n4, n5, n6, n7, n8, n9, m0, m1, m2, m3, m4, m5, m6, m7, m8, m9, o0, o1, o2, o3, o4, ↓reduceIte] | rfl) ?_)
  iterate 3 ((first | (refine OpsE_do rfl ?_; first | refine E_not rfl rfl ?_ | refine E_move rfl ?_) | refine OpsE_not rfl ?_); refine OpsE_eq (st' := _) (by first | dsimp only [n0, n1, n2, n3, n4, n5, n6, n7, n8, n9, m0, m1, m2, m3, m4, m5, m6, m7, m8, m9, o0, o1, o2, o3, o4, ↓reduceIte] | rfl) ?_)
  ((first | (refine OpsE_do rfl ?_; (first | refine E_call rfl rfl (c11 _ _ _ hl) ?_ | refine E_callfn rfl rfl (c11 _ _ _ hl) ?_)) | refine OpsE_not rfl ?_); refine OpsE_eq (st' := _) (by first | dsimp only [n0, n1, n2, n3, n4, n5, n6, n7, n8, n9, m0, m1, m2, m3, m4, m5, m6, m7, m8, m9, o0, o1, o2, o3, o4, ↓reduceIte] | rfl) ?_)
  ((first | (refine OpsE_do rfl ?_; refine E_not (b := false) rfl (by rw [hs]; rfl) ?_) | refine OpsE_not rfl ?_); refine OpsE_eq (st' := _) (by first | dsimp only [n0, n1, n2, n3, n4, n5, n6, n7, n8, n9, m0, m1, m2, m3, m4, m5, m6, m7, m8, m9, o0, o1, o2, o3, o4, ↓reduceIte] | rfl) ?_)
  iterate 4 ((first | (refine OpsE_do rfl ?_; first | refine E_pick rfl rfl ?_ | refine E_move rfl ?_) | refine OpsE_not rfl ?_); refine OpsE_eq (st' := _) (by first | dsimp only [n0, n1, n2, n3, n4, n5, n6, n7, n8, n9, m0, m1, m2, m3, m4, m5, m6, m7, m8, m9, o0, o1, o2, o3, o4, ↓reduceIte] | rfl) ?_)
  ((first | (refine OpsE_do rfl ?_; (first | refine E_call rfl rfl trivial ?_ | refine E_callfn rfl rfl trivial ?_)) | refine OpsE_not rfl ?_); refine OpsE_eq (st' := _) (by first | dsimp only [n0, n1, n2, n3, n4, n5, n6, n7, n8, n9, m0, m1, m2, m3, m4, m5, m6, m7, m8, m9, o0, o1, o2, o3, o4, ↓reduceIte] | rfl) ?_)
  iterate 2 ((first | (refine OpsE_do rfl ?_; first | refine E_not rfl rfl ?_ | refine E_pick rfl rfl ?_) | refine OpsE_not rfl ?_); refine OpsE_eq (st' := _) (by first | dsimp only [n0, n1, n2, n3, n4, n5, n6, n7, n8, n9, m0, m1, m2, m3, m4, m5, m6, m7, m8, m9, o0, o1, o2, o3, o4, ↓reduceIte] | rfl) ?_)
  refine OpsE_nil ?_
  repeat (first | refine R_seq ?_ | refine R_block ?_ | refine R_skip ?_)
  refine R_true rfl ?_
  repeat (first | refine R_seq ?_ | refine R_block ?_ | refine R_skip ?_)
  refine R_region ?_
  (refine OpsE_do rfl ?_; (first | refine E_call rfl rfl (c24 _) ?_ | refine E_callfn rfl rfl (c24 _) ?_); refine OpsE_eq (st' := _) (by first | dsimp only [n0, n1, n2, n3, n4, n5, n6, n7, n8, n9, m0, m1, m2, m3, m4, m5, m6, m7, m8, m9, o0, o1, o2, o3, o4, ↓reduceIte] | rfl) ?_)
  (refine OpsE_do rfl ?_; refine E_assign rfl rfl ?_; refine OpsE_eq (st' := _) (by first | dsimp only [n0, n1, n2, n3, n4, n5, n6, n7, n8, n9, m0, m1, m2, m3, m4, m5, m6, m7, m8, m9, o0, o1, o2, o3, o4, ↓reduceIte] | rfl) ?_)
  refine OpsE_nil ?_
  repeat (first | refine R_seq ?_ | refine R_block ?_ | refine R_skip ?_)
  refine R_ret ?_
  exact ⟨trivial, _, rfl, rfl⟩
theorem c7_out (l : List Nst) (s : List Int) (cells : Int) (hl : lensOk l) (hsl : s.length ≤ 9223372036854775807) (hs : smallsB l 60 = true) (hz : sizesB s cells = false) : PC prog env 7 [.dat (nestsD l), .dat (intsD s), .dat (intD cells)] [] (boolPV true) [] := by
  refine PC_pure (fn := f7) (by kernel_rfl) rfl rfl (by kernel_rfl) rfl rfl ?_ (by simp [PV.lends])
  refine R_eq (st' := ⟨[.dat (nestsD l), .dat (intsD s), .dat (intD cells), .tup [], .tup [], .tup [], .tup [], .tup [], .tup [], .tup [], .tup [], .tup [], .tup [], .tup [], .tup [], .tup [], .tup [], .tup [], .tup [], .tup [], .tup [], .tup [], .tup [], .tup [], .tup [], .tup [], .tup [], .tup [], .tup [], .tup [], .tup [], .tup [], .tup [], .tup [], .tup [], .tup [], .tup [], .tup [], .tup [], .tup [], .tup [], .tup [], .tup [], .tup [], .tup [], .tup [], .tup [], .tup [], .tup [], .tup [], .tup []], []⟩) rfl ?_
  repeat (first | refine R_seq ?_ | refine R_block ?_ | refine R_skip ?_)
  refine R_region ?_
  (refine OpsE_do rfl ?_; refine E_assign rfl rfl ?_; refine OpsE_eq (st' := _) (by first | dsimp only [n0, n1, n2, n3, n4, n5, n6, n7, n8, n9, m0, m1, m2, m3, m4, m5, m6, m7, m8, m9, o0, o1, o2, o3, o4, ↓reduceIte] | rfl) ?_)
  refine OpsE_nil ?_
  repeat (first | refine R_seq ?_ | refine R_block ?_ | refine R_skip ?_)
  refine R_region ?_
  (refine OpsE_do rfl ?_; (first | refine E_call rfl rfl (c24 _) ?_ | refine E_callfn rfl rfl (c24 _) ?_); refine OpsE_eq (st' := _) (by first | dsimp only [n0, n1, n2, n3, n4, n5, n6, n7, n8, n9, m0, m1, m2, m3, m4, m5, m6, m7, m8, m9, o0, o1, o2, o3, o4, ↓reduceIte] | rfl) ?_)
  iterate 3 ((first | (refine OpsE_do rfl ?_; first | refine E_not rfl rfl ?_ | refine E_move rfl ?_) | refine OpsE_not rfl ?_); refine OpsE_eq (st' := _) (by first | dsimp only [n0, n1, n2, n3, n4, n5, n6, n7, n8, n9, m0, m1, m2, m3, m4, m5, m6, m7, m8, m9, o0, o1, o2, o3, o4, ↓reduceIte] | rfl) ?_)
  ((first | (refine OpsE_do rfl ?_; (first | refine E_call rfl rfl (c11 _ _ _ hl) ?_ | refine E_callfn rfl rfl (c11 _ _ _ hl) ?_)) | refine OpsE_not rfl ?_); refine OpsE_eq (st' := _) (by first | dsimp only [n0, n1, n2, n3, n4, n5, n6, n7, n8, n9, m0, m1, m2, m3, m4, m5, m6, m7, m8, m9, o0, o1, o2, o3, o4, ↓reduceIte] | rfl) ?_)
  ((first | (refine OpsE_do rfl ?_; refine E_not (b := true) rfl (by rw [hs]; rfl) ?_) | refine OpsE_not rfl ?_); refine OpsE_eq (st' := _) (by first | dsimp only [n0, n1, n2, n3, n4, n5, n6, n7, n8, n9, m0, m1, m2, m3, m4, m5, m6, m7, m8, m9, o0, o1, o2, o3, o4, ↓reduceIte] | rfl) ?_)
  iterate 4 ((first | (refine OpsE_do rfl ?_; first | refine E_pick rfl rfl ?_ | refine E_move rfl ?_) | refine OpsE_not rfl ?_); refine OpsE_eq (st' := _) (by first | dsimp only [n0, n1, n2, n3, n4, n5, n6, n7, n8, n9, m0, m1, m2, m3, m4, m5, m6, m7, m8, m9, o0, o1, o2, o3, o4, ↓reduceIte] | rfl) ?_)
  ((first | (refine OpsE_do rfl ?_; (first | refine E_call rfl rfl (c25 s cells _ hsl) ?_ | refine E_callfn rfl rfl (c25 s cells _ hsl) ?_)) | refine OpsE_not rfl ?_); refine OpsE_eq (st' := _) (by first | dsimp only [n0, n1, n2, n3, n4, n5, n6, n7, n8, n9, m0, m1, m2, m3, m4, m5, m6, m7, m8, m9, o0, o1, o2, o3, o4, ↓reduceIte] | rfl) ?_)
  ((first | (refine OpsE_do rfl ?_; refine E_not (b := false) rfl (by rw [hz]; rfl) ?_) | refine OpsE_not rfl ?_); refine OpsE_eq (st' := _) (by first | dsimp only [n0, n1, n2, n3, n4, n5, n6, n7, n8, n9, m0, m1, m2, m3, m4, m5, m6, m7, m8, m9, o0, o1, o2, o3, o4, ↓reduceIte] | rfl) ?_)
  (refine OpsE_do rfl ?_; refine E_pick rfl rfl ?_; refine OpsE_eq (st' := _) (by first | dsimp only [n0, n1, n2, n3, n4, n5, n6, n7, n8, n9, m0, m1, m2, m3, m4, m5, m6, m7, m8, m9, o0, o1, o2, o3, o4, ↓reduceIte] | rfl) ?_)
  refine OpsE_nil ?_
  repeat (first | refine R_seq ?_ | refine R_block ?_ | refine R_skip ?_)
  refine R_true rfl ?_
  repeat (first | refine R_seq ?_ | refine R_block ?_ | refine R_skip ?_)
  refine R_region ?_
  (refine OpsE_do rfl ?_; (first | refine E_call rfl rfl (c24 _) ?_ | refine E_callfn rfl rfl (c24 _) ?_); refine OpsE_eq (st' := _) (by first | dsimp only [n0, n1, n2, n3, n4, n5, n6, n7, n8, n9, m0, m1, m2, m3, m4, m5, m6, m7, m8, m9, o0, o1, o2, o3, o4, ↓reduceIte] | rfl) ?_)
  (refine OpsE_do rfl ?_; refine E_assign rfl rfl ?_; refine OpsE_eq (st' := _) (by first | dsimp only [n0, n1, n2, n3, n4, n5, n6, n7, n8, n9, m0, m1, m2, m3, m4, m5, m6, m7, m8, m9, o0, o1, o2, o3, o4, ↓reduceIte] | rfl) ?_)
  refine OpsE_nil ?_
  repeat (first | refine R_seq ?_ | refine R_block ?_ | refine R_skip ?_)
  refine R_ret ?_
  exact ⟨trivial, _, rfl, rfl⟩
theorem c7_in (l : List Nst) (s : List Int) (hl : lensOk l) (hsl : s.length ≤ 9223372036854775807) (m : Nat) (hm : m ≤ 1000) (hs : smallsB l 60 = true) (hz : sizesB s (m : Int) = true) : PC prog env 7 [.dat (nestsD l), .dat (intsD s), .dat (intD (m : Int))] [] (boolPV true) [] := by
  refine PC_pure (fn := f7) (by kernel_rfl) rfl rfl (by kernel_rfl) rfl rfl ?_ (by simp [PV.lends])
  obtain ⟨hl60, hS⟩ := smalls60_of hs
  refine R_eq (st' := ⟨[.dat (nestsD l), .dat (intsD s), .dat (intD (m : Int)), .tup [], .tup [], .tup [], .tup [], .tup [], .tup [], .tup [], .tup [], .tup [], .tup [], .tup [], .tup [], .tup [], .tup [], .tup [], .tup [], .tup [], .tup [], .tup [], .tup [], .tup [], .tup [], .tup [], .tup [], .tup [], .tup [], .tup [], .tup [], .tup [], .tup [], .tup [], .tup [], .tup [], .tup [], .tup [], .tup [], .tup [], .tup [], .tup [], .tup [], .tup [], .tup [], .tup [], .tup [], .tup [], .tup [], .tup [], .tup []], []⟩) rfl ?_
  repeat (first | refine R_seq ?_ | refine R_block ?_ | refine R_skip ?_)
  refine R_region ?_
  (refine OpsE_do rfl ?_; refine E_assign rfl rfl ?_; refine OpsE_eq (st' := _) (by first | dsimp only [n0, n1, n2, n3, n4, n5, n6, n7, n8, n9, m0, m1, m2, m3, m4, m5, m6, m7, m8, m9, o0, o1, o2, o3, o4, ↓reduceIte] | rfl) ?_)
  refine OpsE_nil ?_
  repeat (first | refine R_seq ?_ | refine R_block ?_ | refine R_skip ?_)
  refine R_region ?_
  (refine OpsE_do rfl ?_; (first | refine E_call rfl rfl (c24 _) ?_ | refine E_callfn rfl rfl (c24 _) ?_); refine OpsE_eq (st' := _) (by first | dsimp only [n0, n1, n2, n3, n4, n5, n6, n7, n8, n9, m0, m1, m2, m3, m4, m5, m6, m7, m8, m9, o0, o1, o2, o3, o4, ↓reduceIte] | rfl) ?_)
  iterate 3 ((first | (refine OpsE_do rfl ?_; first | refine E_not rfl rfl ?_ | refine E_move rfl ?_) | refine OpsE_not rfl ?_); refine OpsE_eq (st' := _) (by first | dsimp only [n0, n1, n2, n3, n4, n5, n6, n7, n8, n9, m0, m1, m2, m3, m4, m5, m6, m7, m8, m9, o0, o1, o2, o3, o4, ↓reduceIte] | rfl) ?_)
  ((first | (refine OpsE_do rfl ?_; (first | refine E_call rfl rfl (c11 _ _ _ hl) ?_ | refine E_callfn rfl rfl (c11 _ _ _ hl) ?_)) | refine OpsE_not rfl ?_); refine OpsE_eq (st' := _) (by first | dsimp only [n0, n1, n2, n3, n4, n5, n6, n7, n8, n9, m0, m1, m2, m3, m4, m5, m6, m7, m8, m9, o0, o1, o2, o3, o4, ↓reduceIte] | rfl) ?_)
  ((first | (refine OpsE_do rfl ?_; refine E_not (b := true) rfl (by rw [hs]; rfl) ?_) | refine OpsE_not rfl ?_); refine OpsE_eq (st' := _) (by first | dsimp only [n0, n1, n2, n3, n4, n5, n6, n7, n8, n9, m0, m1, m2, m3, m4, m5, m6, m7, m8, m9, o0, o1, o2, o3, o4, ↓reduceIte] | rfl) ?_)
  iterate 4 ((first | (refine OpsE_do rfl ?_; first | refine E_pick rfl rfl ?_ | refine E_move rfl ?_) | refine OpsE_not rfl ?_); refine OpsE_eq (st' := _) (by first | dsimp only [n0, n1, n2, n3, n4, n5, n6, n7, n8, n9, m0, m1, m2, m3, m4, m5, m6, m7, m8, m9, o0, o1, o2, o3, o4, ↓reduceIte] | rfl) ?_)
  ((first | (refine OpsE_do rfl ?_; (first | refine E_call rfl rfl (c25 s m _ hsl) ?_ | refine E_callfn rfl rfl (c25 s m _ hsl) ?_)) | refine OpsE_not rfl ?_); refine OpsE_eq (st' := _) (by first | dsimp only [n0, n1, n2, n3, n4, n5, n6, n7, n8, n9, m0, m1, m2, m3, m4, m5, m6, m7, m8, m9, o0, o1, o2, o3, o4, ↓reduceIte] | rfl) ?_)
  ((first | (refine OpsE_do rfl ?_; refine E_not (b := true) rfl (by rw [hz]; rfl) ?_) | refine OpsE_not rfl ?_); refine OpsE_eq (st' := _) (by first | dsimp only [n0, n1, n2, n3, n4, n5, n6, n7, n8, n9, m0, m1, m2, m3, m4, m5, m6, m7, m8, m9, o0, o1, o2, o3, o4, ↓reduceIte] | rfl) ?_)
  (refine OpsE_do rfl ?_; refine E_pick rfl rfl ?_; refine OpsE_eq (st' := _) (by first | dsimp only [n0, n1, n2, n3, n4, n5, n6, n7, n8, n9, m0, m1, m2, m3, m4, m5, m6, m7, m8, m9, o0, o1, o2, o3, o4, ↓reduceIte] | rfl) ?_)
  refine OpsE_nil ?_
  repeat (first | refine R_seq ?_ | refine R_block ?_ | refine R_skip ?_)
  refine R_false rfl ?_
  have h26 := fun H => c26 l s m H hS (by omega) hm
  have h27 := fun H => c27 l s m H hS (by omega) hm
  have h28 := fun H => c28 l s m H hS (by omega) hm
  simp only [repL] at h26 h27
  generalize ((eventsL l).length : Int) - (fillsE (eventsL l) : Int) = r at h26 h27
  generalize (fillsE (eventsL l) : Int) = f at h26 h27
  generalize firstI (badE m s (eventsL l)) (eventsL l).length = w at h26 h27 h28
  generalize missI m (eventsL l) = k at h26 h27 h28
  repeat (first | refine R_seq ?_ | refine R_block ?_ | refine R_skip ?_)
  refine R_region ?_
  (refine OpsE_do rfl ?_; refine E_move rfl ?_; refine OpsE_eq (st' := _) (by first | dsimp only [n0, n1, n2, n3, n4, n5, n6, n7, n8, n9, m0, m1, m2, m3, m4, m5, m6, m7, m8, m9, o0, o1, o2, o3, o4, ↓reduceIte] | rfl) ?_)
  (refine OpsE_do rfl ?_; (first | refine E_call rfl rfl (c15 l _ (by omega)) ?_ | refine E_callfn rfl rfl (c15 l _ (by omega)) ?_); refine OpsE_eq (st' := _) (by first | dsimp only [n0, n1, n2, n3, n4, n5, n6, n7, n8, n9, m0, m1, m2, m3, m4, m5, m6, m7, m8, m9, o0, o1, o2, o3, o4, ↓reduceIte] | rfl) ?_)
  iterate 2 ((refine OpsE_do rfl ?_; refine E_move rfl ?_); refine OpsE_eq (st' := _) (by first | dsimp only [n0, n1, n2, n3, n4, n5, n6, n7, n8, n9, m0, m1, m2, m3, m4, m5, m6, m7, m8, m9, o0, o1, o2, o3, o4, ↓reduceIte] | rfl) ?_)
  (refine OpsE_do rfl ?_; (first | refine E_call rfl rfl (h26 _) ?_ | refine E_callfn rfl rfl (h26 _) ?_); refine OpsE_eq (st' := _) (by first | dsimp only [n0, n1, n2, n3, n4, n5, n6, n7, n8, n9, m0, m1, m2, m3, m4, m5, m6, m7, m8, m9, o0, o1, o2, o3, o4, ↓reduceIte] | rfl) ?_)
  iterate 2 ((refine OpsE_do rfl ?_; first | refine E_alloc (cs := [_, _, _, _]) ze63 rfl rfl ?_ | refine E_store (vs := [_, _, _, _]) sz63 rfl rfl rfl rfl rfl rfl rfl ?_); refine OpsE_eq (st' := _) (by first | dsimp only [n0, n1, n2, n3, n4, n5, n6, n7, n8, n9, m0, m1, m2, m3, m4, m5, m6, m7, m8, m9, o0, o1, o2, o3, o4, ↓reduceIte] | rfl) ?_)
  refine OpsE_nil ?_
  repeat (first | refine R_seq ?_ | refine R_block ?_ | refine R_skip ?_)
  refine R_region ?_
  iterate 3 ((refine OpsE_do rfl ?_; refine E_move rfl ?_); refine OpsE_eq (st' := _) (by first | dsimp only [n0, n1, n2, n3, n4, n5, n6, n7, n8, n9, m0, m1, m2, m3, m4, m5, m6, m7, m8, m9, o0, o1, o2, o3, o4, ↓reduceIte] | rfl) ?_)
  (refine OpsE_do rfl ?_; (first | refine E_call rfl rfl (h27 _) ?_ | refine E_callfn rfl rfl (h27 _) ?_); refine OpsE_eq (st' := _) (by first | dsimp only [n0, n1, n2, n3, n4, n5, n6, n7, n8, n9, m0, m1, m2, m3, m4, m5, m6, m7, m8, m9, o0, o1, o2, o3, o4, ↓reduceIte] | rfl) ?_)
  iterate 2 ((refine OpsE_do rfl ?_; first | refine E_alloc (cs := [_, _, _, _]) ze65 rfl rfl ?_ | refine E_store (vs := [_, _, _, _]) sz65 rfl rfl rfl rfl rfl rfl rfl ?_); refine OpsE_eq (st' := _) (by first | dsimp only [n0, n1, n2, n3, n4, n5, n6, n7, n8, n9, m0, m1, m2, m3, m4, m5, m6, m7, m8, m9, o0, o1, o2, o3, o4, ↓reduceIte] | rfl) ?_)
  refine OpsE_nil ?_
  cases h1 : decide (w < 0)
  · have e11 : intBin .lss .i64 w 0 = some (.bool false) := by simp only [intBin, h1]
    rw [h1] at h28
    repeat (first | refine R_seq ?_ | refine R_block ?_ | refine R_skip ?_)
    refine R_draw ?_
    iterate 2 ((refine DrawE_do rfl ?_; first | refine E_loadi (ds := [_, _, _, _]) (d := .agg [_, _, _, _]) ag63 sz63 rfl rfl rfl rfl ?_ | refine E_loadp (ds := [_, _, _, _]) (v := .dat (.agg [_, _, _, _])) ag63 sz63 rfl rfl rfl rfl rfl ?_ | refine E_loadp (ds := [_, _, _, _]) (v := .agg [_, _, _, _]) ag63 sz63 rfl rfl rfl rfl rfl ?_ | refine E_loadi (ds := [_, _, _, _]) (d := .agg [_, _, _, _]) ag65 sz65 rfl rfl rfl rfl ?_ | refine E_loadp (ds := [_, _, _, _]) (v := .dat (.agg [_, _, _, _])) ag65 sz65 rfl rfl rfl rfl rfl ?_ | refine E_loadp (ds := [_, _, _, _]) (v := .agg [_, _, _, _]) ag65 sz65 rfl rfl rfl rfl rfl ?_); refine DrawE_eq (st' := _) (by first | dsimp only [n0, n1, n2, n3, n4, n5, n6, n7, n8, n9, m0, m1, m2, m3, m4, m5, m6, m7, m8, m9, o0, o1, o2, o3, o4, ↓reduceIte] | rfl) ?_)
    (refine DrawE_do rfl ?_; refine E_eqlS rfl rfl rfl (rep_seq r f w k) ?_; refine DrawE_eq (st' := _) (by first | dsimp only [n0, n1, n2, n3, n4, n5, n6, n7, n8, n9, m0, m1, m2, m3, m4, m5, m6, m7, m8, m9, o0, o1, o2, o3, o4, ↓reduceIte] | rfl) ?_)
    iterate 2 ((first | (refine DrawE_do rfl ?_; refine E_move rfl ?_) | refine DrawE_not rfl ?_); refine DrawE_eq (st' := _) (by first | dsimp only [n0, n1, n2, n3, n4, n5, n6, n7, n8, n9, m0, m1, m2, m3, m4, m5, m6, m7, m8, m9, o0, o1, o2, o3, o4, ↓reduceIte] | rfl) ?_)
    ((first | (refine DrawE_do rfl ?_; (first | refine E_call rfl rfl (c15 l _ (by omega)) ?_ | refine E_callfn rfl rfl (c15 l _ (by omega)) ?_)) | refine DrawE_not rfl ?_); refine DrawE_eq (st' := _) (by first | dsimp only [n0, n1, n2, n3, n4, n5, n6, n7, n8, n9, m0, m1, m2, m3, m4, m5, m6, m7, m8, m9, o0, o1, o2, o3, o4, ↓reduceIte] | rfl) ?_)
    iterate 2 ((first | (refine DrawE_do rfl ?_; refine E_move rfl ?_) | refine DrawE_not rfl ?_); refine DrawE_eq (st' := _) (by first | dsimp only [n0, n1, n2, n3, n4, n5, n6, n7, n8, n9, m0, m1, m2, m3, m4, m5, m6, m7, m8, m9, o0, o1, o2, o3, o4, ↓reduceIte] | rfl) ?_)
    ((first | (refine DrawE_do rfl ?_; (first | refine E_call rfl rfl (h28 _) ?_ | refine E_callfn rfl rfl (h28 _) ?_)) | refine DrawE_not rfl ?_); refine DrawE_eq (st' := _) (by first | dsimp only [n0, n1, n2, n3, n4, n5, n6, n7, n8, n9, m0, m1, m2, m3, m4, m5, m6, m7, m8, m9, o0, o1, o2, o3, o4, ↓reduceIte] | rfl) ?_)
    iterate 2 ((first | (refine DrawE_do rfl ?_; first | refine E_fieldp fo65_2 rfl rfl ?_ | refine E_fieldi fo65_2 rfl rfl ?_ | refine E_loadi (ds := [_]) ag3 sz3 rfl rfl rfl rfl ?_ | refine E_loadp (ds := [_]) ag3 sz3 rfl rfl rfl rfl rfl ?_) | refine DrawE_not rfl ?_); refine DrawE_eq (st' := _) (by first | dsimp only [n0, n1, n2, n3, n4, n5, n6, n7, n8, n9, m0, m1, m2, m3, m4, m5, m6, m7, m8, m9, o0, o1, o2, o3, o4, ↓reduceIte] | rfl) ?_)
    ((first | (refine DrawE_do rfl ?_; refine E_int rfl rfl rfl e11 ?_) | refine DrawE_not rfl ?_); refine DrawE_eq (st' := _) (by first | dsimp only [n0, n1, n2, n3, n4, n5, n6, n7, n8, n9, m0, m1, m2, m3, m4, m5, m6, m7, m8, m9, o0, o1, o2, o3, o4, ↓reduceIte] | rfl) ?_)
    iterate 5 ((first | (refine DrawE_do rfl ?_; first | refine E_move rfl ?_ | refine E_fieldp fo65_3 rfl rfl ?_ | refine E_fieldi fo65_3 rfl rfl ?_ | refine E_loadi (ds := [_]) ag3 sz3 rfl rfl rfl rfl ?_ | refine E_loadp (ds := [_]) ag3 sz3 rfl rfl rfl rfl rfl ?_ | refine E_int rfl rfl rfl rfl ?_ | refine E_pick rfl rfl ?_) | refine DrawE_not rfl ?_); refine DrawE_eq (st' := _) (by first | dsimp only [n0, n1, n2, n3, n4, n5, n6, n7, n8, n9, m0, m1, m2, m3, m4, m5, m6, m7, m8, m9, o0, o1, o2, o3, o4, ↓reduceIte] | rfl) ?_)
    ((first | (refine DrawE_do rfl ?_; refine E_eqlB (a := false) (b := false) un4 rfl rfl rfl ?_) | refine DrawE_not rfl ?_); refine DrawE_eq (st' := _) (by first | dsimp only [n0, n1, n2, n3, n4, n5, n6, n7, n8, n9, m0, m1, m2, m3, m4, m5, m6, m7, m8, m9, o0, o1, o2, o3, o4, ↓reduceIte] | rfl) ?_)
    iterate 2 ((refine DrawE_do rfl ?_; first | refine E_pick rfl rfl ?_ | refine E_assign rfl rfl ?_); refine DrawE_eq (st' := _) (by first | dsimp only [n0, n1, n2, n3, n4, n5, n6, n7, n8, n9, m0, m1, m2, m3, m4, m5, m6, m7, m8, m9, o0, o1, o2, o3, o4, ↓reduceIte] | rfl) ?_)
    refine DrawE_nil ⟨by kernel_rfl, ?_⟩
    repeat (first | refine R_seq ?_ | refine R_block ?_ | refine R_skip ?_)
    refine R_ret ?_
    exact ⟨trivial, _, rfl, rfl⟩
  · have e11 : intBin .lss .i64 w 0 = some (.bool true) := by simp only [intBin, h1]
    rw [h1] at h28
    cases h2 : decide (k < 0)
    · have e15 : intBin .lss .i64 k 0 = some (.bool false) := by simp only [intBin, h2]
      rw [h2] at h28
      repeat (first | refine R_seq ?_ | refine R_block ?_ | refine R_skip ?_)
      refine R_draw ?_
      iterate 2 ((refine DrawE_do rfl ?_; first | refine E_loadi (ds := [_, _, _, _]) (d := .agg [_, _, _, _]) ag63 sz63 rfl rfl rfl rfl ?_ | refine E_loadp (ds := [_, _, _, _]) (v := .dat (.agg [_, _, _, _])) ag63 sz63 rfl rfl rfl rfl rfl ?_ | refine E_loadp (ds := [_, _, _, _]) (v := .agg [_, _, _, _]) ag63 sz63 rfl rfl rfl rfl rfl ?_ | refine E_loadi (ds := [_, _, _, _]) (d := .agg [_, _, _, _]) ag65 sz65 rfl rfl rfl rfl ?_ | refine E_loadp (ds := [_, _, _, _]) (v := .dat (.agg [_, _, _, _])) ag65 sz65 rfl rfl rfl rfl rfl ?_ | refine E_loadp (ds := [_, _, _, _]) (v := .agg [_, _, _, _]) ag65 sz65 rfl rfl rfl rfl rfl ?_); refine DrawE_eq (st' := _) (by first | dsimp only [n0, n1, n2, n3, n4, n5, n6, n7, n8, n9, m0, m1, m2, m3, m4, m5, m6, m7, m8, m9, o0, o1, o2, o3, o4, ↓reduceIte] | rfl) ?_)
      (refine DrawE_do rfl ?_; refine E_eqlS rfl rfl rfl (rep_seq r f w k) ?_; refine DrawE_eq (st' := _) (by first | dsimp only [n0, n1, n2, n3, n4, n5, n6, n7, n8, n9, m0, m1, m2, m3, m4, m5, m6, m7, m8, m9, o0, o1, o2, o3, o4, ↓reduceIte] | rfl) ?_)
      iterate 2 ((first | (refine DrawE_do rfl ?_; refine E_move rfl ?_) | refine DrawE_not rfl ?_); refine DrawE_eq (st' := _) (by first | dsimp only [n0, n1, n2, n3, n4, n5, n6, n7, n8, n9, m0, m1, m2, m3, m4, m5, m6, m7, m8, m9, o0, o1, o2, o3, o4, ↓reduceIte] | rfl) ?_)
      ((first | (refine DrawE_do rfl ?_; (first | refine E_call rfl rfl (c15 l _ (by omega)) ?_ | refine E_callfn rfl rfl (c15 l _ (by omega)) ?_)) | refine DrawE_not rfl ?_); refine DrawE_eq (st' := _) (by first | dsimp only [n0, n1, n2, n3, n4, n5, n6, n7, n8, n9, m0, m1, m2, m3, m4, m5, m6, m7, m8, m9, o0, o1, o2, o3, o4, ↓reduceIte] | rfl) ?_)
      iterate 2 ((first | (refine DrawE_do rfl ?_; refine E_move rfl ?_) | refine DrawE_not rfl ?_); refine DrawE_eq (st' := _) (by first | dsimp only [n0, n1, n2, n3, n4, n5, n6, n7, n8, n9, m0, m1, m2, m3, m4, m5, m6, m7, m8, m9, o0, o1, o2, o3, o4, ↓reduceIte] | rfl) ?_)
      ((first | (refine DrawE_do rfl ?_; (first | refine E_call rfl rfl (h28 _) ?_ | refine E_callfn rfl rfl (h28 _) ?_)) | refine DrawE_not rfl ?_); refine DrawE_eq (st' := _) (by first | dsimp only [n0, n1, n2, n3, n4, n5, n6, n7, n8, n9, m0, m1, m2, m3, m4, m5, m6, m7, m8, m9, o0, o1, o2, o3, o4, ↓reduceIte] | rfl) ?_)
      iterate 2 ((first | (refine DrawE_do rfl ?_; first | refine E_fieldp fo65_2 rfl rfl ?_ | refine E_fieldi fo65_2 rfl rfl ?_ | refine E_loadi (ds := [_]) ag3 sz3 rfl rfl rfl rfl ?_ | refine E_loadp (ds := [_]) ag3 sz3 rfl rfl rfl rfl rfl ?_) | refine DrawE_not rfl ?_); refine DrawE_eq (st' := _) (by first | dsimp only [n0, n1, n2, n3, n4, n5, n6, n7, n8, n9, m0, m1, m2, m3, m4, m5, m6, m7, m8, m9, o0, o1, o2, o3, o4, ↓reduceIte] | rfl) ?_)
      ((first | (refine DrawE_do rfl ?_; refine E_int rfl rfl rfl e11 ?_) | refine DrawE_not rfl ?_); refine DrawE_eq (st' := _) (by first | dsimp only [n0, n1, n2, n3, n4, n5, n6, n7, n8, n9, m0, m1, m2, m3, m4, m5, m6, m7, m8, m9, o0, o1, o2, o3, o4, ↓reduceIte] | rfl) ?_)
      iterate 3 ((first | (refine DrawE_do rfl ?_; first | refine E_move rfl ?_ | refine E_fieldp fo65_3 rfl rfl ?_ | refine E_fieldi fo65_3 rfl rfl ?_ | refine E_loadi (ds := [_]) ag3 sz3 rfl rfl rfl rfl ?_ | refine E_loadp (ds := [_]) ag3 sz3 rfl rfl rfl rfl rfl ?_) | refine DrawE_not rfl ?_); refine DrawE_eq (st' := _) (by first | dsimp only [n0, n1, n2, n3, n4, n5, n6, n7, n8, n9, m0, m1, m2, m3, m4, m5, m6, m7, m8, m9, o0, o1, o2, o3, o4, ↓reduceIte] | rfl) ?_)
      ((first | (refine DrawE_do rfl ?_; refine E_int rfl rfl rfl e15 ?_) | refine DrawE_not rfl ?_); refine DrawE_eq (st' := _) (by first | dsimp only [n0, n1, n2, n3, n4, n5, n6, n7, n8, n9, m0, m1, m2, m3, m4, m5, m6, m7, m8, m9, o0, o1, o2, o3, o4, ↓reduceIte] | rfl) ?_)
      ((first | (refine DrawE_do rfl ?_; refine E_pick rfl rfl ?_) | refine DrawE_not rfl ?_); refine DrawE_eq (st' := _) (by first | dsimp only [n0, n1, n2, n3, n4, n5, n6, n7, n8, n9, m0, m1, m2, m3, m4, m5, m6, m7, m8, m9, o0, o1, o2, o3, o4, ↓reduceIte] | rfl) ?_)
      ((first | (refine DrawE_do rfl ?_; refine E_eqlB (a := false) (b := false) un4 rfl rfl rfl ?_) | refine DrawE_not rfl ?_); refine DrawE_eq (st' := _) (by first | dsimp only [n0, n1, n2, n3, n4, n5, n6, n7, n8, n9, m0, m1, m2, m3, m4, m5, m6, m7, m8, m9, o0, o1, o2, o3, o4, ↓reduceIte] | rfl) ?_)
      iterate 2 ((refine DrawE_do rfl ?_; first | refine E_pick rfl rfl ?_ | refine E_assign rfl rfl ?_); refine DrawE_eq (st' := _) (by first | dsimp only [n0, n1, n2, n3, n4, n5, n6, n7, n8, n9, m0, m1, m2, m3, m4, m5, m6, m7, m8, m9, o0, o1, o2, o3, o4, ↓reduceIte] | rfl) ?_)
      refine DrawE_nil ⟨by kernel_rfl, ?_⟩
      repeat (first | refine R_seq ?_ | refine R_block ?_ | refine R_skip ?_)
      refine R_ret ?_
      exact ⟨trivial, _, rfl, rfl⟩
    · have e15 : intBin .lss .i64 k 0 = some (.bool true) := by simp only [intBin, h2]
      rw [h2] at h28
      repeat (first | refine R_seq ?_ | refine R_block ?_ | refine R_skip ?_)
      refine R_draw ?_
      iterate 2 ((refine DrawE_do rfl ?_; first | refine E_loadi (ds := [_, _, _, _]) (d := .agg [_, _, _, _]) ag63 sz63 rfl rfl rfl rfl ?_ | refine E_loadp (ds := [_, _, _, _]) (v := .dat (.agg [_, _, _, _])) ag63 sz63 rfl rfl rfl rfl rfl ?_ | refine E_loadp (ds := [_, _, _, _]) (v := .agg [_, _, _, _]) ag63 sz63 rfl rfl rfl rfl rfl ?_ | refine E_loadi (ds := [_, _, _, _]) (d := .agg [_, _, _, _]) ag65 sz65 rfl rfl rfl rfl ?_ | refine E_loadp (ds := [_, _, _, _]) (v := .dat (.agg [_, _, _, _])) ag65 sz65 rfl rfl rfl rfl rfl ?_ | refine E_loadp (ds := [_, _, _, _]) (v := .agg [_, _, _, _]) ag65 sz65 rfl rfl rfl rfl rfl ?_); refine DrawE_eq (st' := _) (by first | dsimp only [n0, n1, n2, n3, n4, n5, n6, n7, n8, n9, m0, m1, m2, m3, m4, m5, m6, m7, m8, m9, o0, o1, o2, o3, o4, ↓reduceIte] | rfl) ?_)
      (refine DrawE_do rfl ?_; refine E_eqlS rfl rfl rfl (rep_seq r f w k) ?_; refine DrawE_eq (st' := _) (by first | dsimp only [n0, n1, n2, n3, n4, n5, n6, n7, n8, n9, m0, m1, m2, m3, m4, m5, m6, m7, m8, m9, o0, o1, o2, o3, o4, ↓reduceIte] | rfl) ?_)
      iterate 2 ((first | (refine DrawE_do rfl ?_; refine E_move rfl ?_) | refine DrawE_not rfl ?_); refine DrawE_eq (st' := _) (by first | dsimp only [n0, n1, n2, n3, n4, n5, n6, n7, n8, n9, m0, m1, m2, m3, m4, m5, m6, m7, m8, m9, o0, o1, o2, o3, o4, ↓reduceIte] | rfl) ?_)
      ((first | (refine DrawE_do rfl ?_; (first | refine E_call rfl rfl (c15 l _ (by omega)) ?_ | refine E_callfn rfl rfl (c15 l _ (by omega)) ?_)) | refine DrawE_not rfl ?_); refine DrawE_eq (st' := _) (by first | dsimp only [n0, n1, n2, n3, n4, n5, n6, n7, n8, n9, m0, m1, m2, m3, m4, m5, m6, m7, m8, m9, o0, o1, o2, o3, o4, ↓reduceIte] | rfl) ?_)
      iterate 2 ((first | (refine DrawE_do rfl ?_; refine E_move rfl ?_) | refine DrawE_not rfl ?_); refine DrawE_eq (st' := _) (by first | dsimp only [n0, n1, n2, n3, n4, n5, n6, n7, n8, n9, m0, m1, m2, m3, m4, m5, m6, m7, m8, m9, o0, o1, o2, o3, o4, ↓reduceIte] | rfl) ?_)
      ((first | (refine DrawE_do rfl ?_; (first | refine E_call rfl rfl (h28 _) ?_ | refine E_callfn rfl rfl (h28 _) ?_)) | refine DrawE_not rfl ?_); refine DrawE_eq (st' := _) (by first | dsimp only [n0, n1, n2, n3, n4, n5, n6, n7, n8, n9, m0, m1, m2, m3, m4, m5, m6, m7, m8, m9, o0, o1, o2, o3, o4, ↓reduceIte] | rfl) ?_)
      iterate 2 ((first | (refine DrawE_do rfl ?_; first | refine E_fieldp fo65_2 rfl rfl ?_ | refine E_fieldi fo65_2 rfl rfl ?_ | refine E_loadi (ds := [_]) ag3 sz3 rfl rfl rfl rfl ?_ | refine E_loadp (ds := [_]) ag3 sz3 rfl rfl rfl rfl rfl ?_) | refine DrawE_not rfl ?_); refine DrawE_eq (st' := _) (by first | dsimp only [n0, n1, n2, n3, n4, n5, n6, n7, n8, n9, m0, m1, m2, m3, m4, m5, m6, m7, m8, m9, o0, o1, o2, o3, o4, ↓reduceIte] | rfl) ?_)
      ((first | (refine DrawE_do rfl ?_; refine E_int rfl rfl rfl e11 ?_) | refine DrawE_not rfl ?_); refine DrawE_eq (st' := _) (by first | dsimp only [n0, n1, n2, n3, n4, n5, n6, n7, n8, n9, m0, m1, m2, m3, m4, m5, m6, m7, m8, m9, o0, o1, o2, o3, o4, ↓reduceIte] | rfl) ?_)
      iterate 3 ((first | (refine DrawE_do rfl ?_; first | refine E_move rfl ?_ | refine E_fieldp fo65_3 rfl rfl ?_ | refine E_fieldi fo65_3 rfl rfl ?_ | refine E_loadi (ds := [_]) ag3 sz3 rfl rfl rfl rfl ?_ | refine E_loadp (ds := [_]) ag3 sz3 rfl rfl rfl rfl rfl ?_) | refine DrawE_not rfl ?_); refine DrawE_eq (st' := _) (by first | dsimp only [n0, n1, n2, n3, n4, n5, n6, n7, n8, n9, m0, m1, m2, m3, m4, m5, m6, m7, m8, m9, o0, o1, o2, o3, o4, ↓reduceIte] | rfl) ?_)
      ((first | (refine DrawE_do rfl ?_; refine E_int rfl rfl rfl e15 ?_) | refine DrawE_not rfl ?_); refine DrawE_eq (st' := _) (by first | dsimp only [n0, n1, n2, n3, n4, n5, n6, n7, n8, n9, m0, m1, m2, m3, m4, m5, m6, m7, m8, m9, o0, o1, o2, o3, o4, ↓reduceIte] | rfl) ?_)
      ((first | (refine DrawE_do rfl ?_; refine E_pick rfl rfl ?_) | refine DrawE_not rfl ?_); refine DrawE_eq (st' := _) (by first | dsimp only [n0, n1, n2, n3, n4, n5, n6, n7, n8, n9, m0, m1, m2, m3, m4, m5, m6, m7, m8, m9, o0, o1, o2, o3, o4, ↓reduceIte] | rfl) ?_)
      ((first | (refine DrawE_do rfl ?_; refine E_eqlB (a := true) (b := true) un4 rfl rfl rfl ?_) | refine DrawE_not rfl ?_); refine DrawE_eq (st' := _) (by first | dsimp only [n0, n1, n2, n3, n4, n5, n6, n7, n8, n9, m0, m1, m2, m3, m4, m5, m6, m7, m8, m9, o0, o1, o2, o3, o4, ↓reduceIte] | rfl) ?_)
      iterate 2 ((refine DrawE_do rfl ?_; first | refine E_pick rfl rfl ?_ | refine E_assign rfl rfl ?_); refine DrawE_eq (st' := _) (by first | dsimp only [n0, n1, n2, n3, n4, n5, n6, n7, n8, n9, m0, m1, m2, m3, m4, m5, m6, m7, m8, m9, o0, o1, o2, o3, o4, ↓reduceIte] | rfl) ?_)
      refine DrawE_nil ⟨by kernel_rfl, ?_⟩
      repeat (first | refine R_seq ?_ | refine R_block ?_ | refine R_skip ?_)
      refine R_ret ?_
      exact ⟨trivial, _, rfl, rfl⟩

/-- the law of the reports, on the machine -/
theorem c7 (l : List Nst) (s : List Int) (cells : Int) (hl : lensOk l) (hsl : s.length ≤ 9223372036854775807) : PC prog env 7 [.dat (nestsD l), .dat (intsD s), .dat (intD cells)] [] (boolPV true) [] := by
  cases hs : smallsB l 60 with
  | false => exact c7_big l s cells hl hsl hs
  | true =>
    cases hz : sizesB s cells with
    | false => exact c7_out l s cells hl hsl hs hz
    | true =>
      have hc : 0 ≤ cells ∧ cells ≤ 300 := by
        simp only [sizesB, Bool.and_eq_true, decide_eq_true_eq] at hz; omega
      obtain ⟨m, rfl⟩ : ∃ m : Nat, cells = (m : Int) := ⟨cells.toNat, by omega⟩
      exact c7_in l s hl hsl m (by omega) hs hz
end Go.Proofs.Try
