/-
  Seat a: the reference's events, and the lists of nests.
-/
import Derived.Test.YtbknblppjhfkmaaA4
namespace Go.Proofs.Try
open Go Go.Pm
set_option linter.unusedVariables false
set_option linter.unusedSimpArgs false
set_option maxRecDepth 2000

/-- what a nest does in a round -/
def eventM (n : Nst) (ix : List Int) : Evt :=
  { write := IntKind.i64.wrap (n.write + dotW n.steps ix), fill := !(atM n.read ix).2, buffer := if (atM n.read ix).2 then n.read.buffer else 0, offset := if (atM n.read ix).2 then (atM n.read ix).1 else 0 }
def eventsN (n : Nst) : List Evt := (allL n.dims).map (eventM n)
theorem evts_fit (l : List Evt) : (l.map Evt.toD).all (Dat.fits 4) = true := by simp only [List.all_map, List.all_eq_true]; intro x _; rfl
theorem nests_fit (l : List Nst) : (l.map Nst.toD).all (Dat.fits 10) = true := by simp only [List.all_map, List.all_eq_true]; intro x _; rfl
/-- what Events asks of a nest -/
structure NestOK (n : Nst) : Prop where
  dims : n.dims.length ≤ 1048576
  steps : n.steps.length ≤ 1048576
  strides : n.read.strides.length ≤ 1048576
  kind : n.read.kind = 1 ∨ n.read.kind = 2 ∨ n.read.mod ≠ 0
  all : ∀ j, j ≤ n.dims.length → (allL (n.dims.take j)).length ≤ 1000000

theorem c33 (n : Nst) (H : List Blk) (hn : NestOK n) : PC prog env 33 [.dat n.toD] H (.dat (evtsD (eventsN n))) H := by
  refine PC_pure (fn := f33) (by kernel_rfl) rfl rfl (by kernel_rfl) rfl rfl ?_ (by simp [PV.lends])
  refine R_eq (st' := ⟨[.dat (n.toD), .tup [], .tup [], .tup [], .tup [], .tup [], .tup [], .tup [], .tup [], .tup [], .tup [], .tup [], .tup [], .tup [], .tup [], .tup [], .tup [], .tup [], .tup [], .tup [], .tup [], .tup [], .tup [], .tup [], .tup [], .tup [], .tup [], .tup [], .tup [], .tup [], .tup [], .tup [], .tup [], .tup [], .tup [], .tup [], .tup [], .tup [], .tup [], .tup [], .tup [], .tup [], .tup [], .tup [], .tup [], .tup [], .tup [], .tup [], .tup [], .tup [], .tup [], .tup [], .tup [], .tup []], []⟩) rfl ?_
  repeat (first | refine R_seq ?_ | refine R_block ?_ | refine R_skip ?_)
  refine R_region ?_
  iterate 2 ((refine OpsE_do rfl ?_; first | refine E_box (cs := [_, _, _, _, _, _, _, _, _, _]) rfl rfl rfl ?_ | refine E_assign rfl rfl ?_); refine OpsE_eq (st' := _) (by first | dsimp only [n0, n1, n2, n3, n4, n5, n6, n7, n8, n9, m0, m1, m2, m3, m4, m5, m6, m7, m8, m9, o0, o1, o2, o3, o4, ↓reduceIte] | rfl) ?_)
  refine OpsE_nil ?_
  repeat (first | refine R_seq ?_ | refine R_block ?_ | refine R_skip ?_)
  refine R_region ?_
  (refine OpsE_do rfl ?_; refine E_own rfl rfl ?_; refine OpsE_eq (st' := _) (by first | dsimp only [n0, n1, n2, n3, n4, n5, n6, n7, n8, n9, m0, m1, m2, m3, m4, m5, m6, m7, m8, m9, o0, o1, o2, o3, o4, ↓reduceIte] | rfl) ?_)
  refine OpsE_nil ?_
  repeat (first | refine R_seq ?_ | refine R_block ?_ | refine R_skip ?_)
  refine R_region ?_
  iterate 2 ((refine OpsE_do rfl ?_; first | refine E_fieldp fo59_0 rfl rfl ?_ | refine E_fieldi fo59_0 rfl rfl ?_ | refine E_loadi (ds := [_]) ag49 sz49 rfl rfl rfl rfl ?_ | refine E_loadp (ds := [_]) ag49 sz49 rfl rfl rfl rfl rfl ?_); refine OpsE_eq (st' := _) (by first | dsimp only [n0, n1, n2, n3, n4, n5, n6, n7, n8, n9, m0, m1, m2, m3, m4, m5, m6, m7, m8, m9, o0, o1, o2, o3, o4, ↓reduceIte] | rfl) ?_)
  (refine OpsE_do rfl ?_; (first | refine E_call rfl rfl rfl (c49 _ _ hn.dims hn.all) ?_ | refine E_callfn rfl rfl rfl (c49 _ _ hn.dims hn.all) ?_); refine OpsE_eq (st' := _) (by first | dsimp only [n0, n1, n2, n3, n4, n5, n6, n7, n8, n9, m0, m1, m2, m3, m4, m5, m6, m7, m8, m9, o0, o1, o2, o3, o4, ↓reduceIte] | rfl) ?_)
  (refine OpsE_do rfl ?_; refine E_assign rfl rfl ?_; refine OpsE_eq (st' := _) (by first | dsimp only [n0, n1, n2, n3, n4, n5, n6, n7, n8, n9, m0, m1, m2, m3, m4, m5, m6, m7, m8, m9, o0, o1, o2, o3, o4, ↓reduceIte] | rfl) ?_)
  refine OpsE_nil ?_
  have hb := hn.all n.dims.length (Nat.le_refl _)
  rw [List.take_length] at hb
  generalize hL : allL n.dims = L at hb
  have hLl : ∀ p ∈ L, p.length ≤ 1048576 := fun p hp => by have := allL_len n.dims p (by rw [hL]; exact hp); have := hn.dims; omega
  repeat (first | refine R_seq ?_ | refine R_block ?_ | refine R_skip ?_)
  refine R_region ?_
  (refine OpsE_do rfl ?_; refine E_assign rfl rfl ?_; refine OpsE_eq (st' := _) (by first | dsimp only [n0, n1, n2, n3, n4, n5, n6, n7, n8, n9, m0, m1, m2, m3, m4, m5, m6, m7, m8, m9, o0, o1, o2, o3, o4, ↓reduceIte] | rfl) ?_)
  refine OpsE_nil ?_
  repeat (first | refine R_seq ?_ | refine R_block ?_ | refine R_skip ?_)
  refine R_loop ?_
  refine RL_ind (fun (j : Nat) => ⟨[.undef, .ptr 0 0, .undef, .vec 1 (((L.take j).map (eventM n)).map Evt.toD), .dat (llD L), intPV (j : Int), .undef, .undef, .undef, .undef, .undef, .undef, .undef, .undef, .undef, .undef, .undef, .undef, .undef, .undef, .undef, .undef, .undef, .undef, .undef, .undef, .undef, .undef, .undef, .undef, .undef, .undef, .undef, .undef, .undef, .undef, .undef, .undef, .undef, .undef, .undef, .undef, .undef, .undef, .undef, .undef, .undef, .undef, .undef, .undef, .undef, .undef, .undef, .undef], [.box (n.toD.cells.map .dat), .tok 37 (((L.take j).map (eventM n)).map Evt.toD).length]⟩)
    (fun j => j ≤ L.length) (fun j => L.length - j) (fun j hj => ?_) _ 0 _ (Nat.lt_succ_self _) (Nat.zero_le _) rfl
  repeat (first | refine R_seq ?_ | refine R_block ?_ | refine R_skip ?_)
  refine R_region ?_
  iterate 4 ((refine OpsE_do rfl ?_; first | refine E_move rfl ?_ | refine E_len un89 rfl rfl ?_ | refine E_int rfl rfl rfl rfl ?_); refine OpsE_eq (st' := _) (by first | dsimp only [n0, n1, n2, n3, n4, n5, n6, n7, n8, n9, m0, m1, m2, m3, m4, m5, m6, m7, m8, m9, o0, o1, o2, o3, o4, ↓reduceIte] | rfl) ?_)
  refine OpsE_nil ?_
  repeat (first | refine R_seq ?_ | refine R_block ?_ | refine R_skip ?_)
  refine R_if rfl (fun h => ?_) (fun h => ?_)
  · have hj' : j < L.length := by simpa using h
    have hp := hLl L[j] (List.getElem_mem hj')
    have e1 : ((L.take (j + 1)).map (eventM n)).map Evt.toD = ((L.take j).map (eventM n)).map Evt.toD ++ [(eventM n L[j]).toD] := by
      rw [List.take_succ_eq_append_getElem hj', List.map_append, List.map_append]; rfl
    repeat (first | refine R_seq ?_ | refine R_block ?_ | refine R_skip ?_)
    refine R_draw ?_
    iterate 6 ((refine DrawE_do rfl ?_; first | refine E_fieldp fo59_1 rfl rfl ?_ | refine E_fieldi fo59_1 rfl rfl ?_ | refine E_loadi (ds := [_]) ag3 sz3 rfl rfl rfl rfl ?_ | refine E_loadp (ds := [_]) ag3 sz3 rfl rfl rfl rfl rfl ?_ | refine E_fieldp fo59_2 rfl rfl ?_ | refine E_fieldi fo59_2 rfl rfl ?_ | refine E_loadi (ds := [_]) ag49 sz49 rfl rfl rfl rfl ?_ | refine E_loadp (ds := [_]) ag49 sz49 rfl rfl rfl rfl rfl ?_ | refine E_move rfl ?_); refine DrawE_eq (st' := _) (by first | dsimp only [n0, n1, n2, n3, n4, n5, n6, n7, n8, n9, m0, m1, m2, m3, m4, m5, m6, m7, m8, m9, o0, o1, o2, o3, o4, ↓reduceIte] | rfl) ?_)
    (refine DrawE_do rfl ?_; (first | refine E_index el89 sz49 rfl rfl rfl rfl (ll_get hj') rfl ?_ | refine E_index0 el89 sz49 rfl rfl rfl rfl (ll_get hj') ?_ | refine E_indexArr el89 sz49 rfl rfl rfl rfl (ll_get hj') ?_); refine DrawE_eq (st' := _) (by first | dsimp only [n0, n1, n2, n3, n4, n5, n6, n7, n8, n9, m0, m1, m2, m3, m4, m5, m6, m7, m8, m9, o0, o1, o2, o3, o4, ↓reduceIte] | rfl) ?_)
    (refine DrawE_do rfl ?_; (first | refine E_loadi (ds := [_]) ag49 sz49 rfl rfl rfl rfl ?_ | refine E_loadp (ds := [_]) ag49 sz49 rfl rfl rfl rfl rfl ?_); refine DrawE_eq (st' := _) (by first | dsimp only [n0, n1, n2, n3, n4, n5, n6, n7, n8, n9, m0, m1, m2, m3, m4, m5, m6, m7, m8, m9, o0, o1, o2, o3, o4, ↓reduceIte] | rfl) ?_)
    (refine DrawE_do rfl ?_; (first | refine E_call rfl rfl rfl (c50 _ _ _ (Nat.le_trans hn.steps (by decide)) (Nat.le_trans hp (by decide))) ?_ | refine E_callfn rfl rfl rfl (c50 _ _ _ (Nat.le_trans hn.steps (by decide)) (Nat.le_trans hp (by decide))) ?_); refine DrawE_eq (st' := _) (by first | dsimp only [n0, n1, n2, n3, n4, n5, n6, n7, n8, n9, m0, m1, m2, m3, m4, m5, m6, m7, m8, m9, o0, o1, o2, o3, o4, ↓reduceIte] | rfl) ?_)
    iterate 4 ((refine DrawE_do rfl ?_; first | refine E_int rfl rfl rfl rfl ?_ | refine E_build (cs := [_, _, _, _]) (cs' := [_, _, _, _]) (v := .dat (.agg [_, _, _, _])) ze37 pl37 rfl rfl rfl rfl rfl rfl ?_ | refine E_build (cs := [_, _, _, _]) (cs' := [_, _, _, _]) (v := .agg [_, _, _, _]) ze37 pl37 rfl rfl rfl rfl rfl rfl ?_ | refine E_alloc (cs := [_, _, _, _]) ze37 rfl rfl ?_ | refine E_store (vs := [_, _, _, _]) sz37 rfl rfl rfl rfl rfl rfl rfl ?_); refine DrawE_eq (st' := _) (by first | dsimp only [n0, n1, n2, n3, n4, n5, n6, n7, n8, n9, m0, m1, m2, m3, m4, m5, m6, m7, m8, m9, o0, o1, o2, o3, o4, ↓reduceIte] | rfl) ?_)
    refine DrawE_nil ⟨by kernel_rfl, ?_⟩
    repeat (first | refine R_seq ?_ | refine R_block ?_ | refine R_skip ?_)
    refine R_draw ?_
    iterate 4 ((refine DrawE_do rfl ?_; first | refine E_fieldp fo59_3 rfl rfl ?_ | refine E_fieldi fo59_3 rfl rfl ?_ | refine E_loadi (ds := [_, _, _, _, _, _, _]) (d := .agg [_, _, _, _, _, _, _]) ag57 sz57 rfl rfl rfl rfl ?_ | refine E_loadp (ds := [_, _, _, _, _, _, _]) (v := .dat (.agg [_, _, _, _, _, _, _])) ag57 sz57 rfl rfl rfl rfl rfl ?_ | refine E_loadp (ds := [_, _, _, _, _, _, _]) (v := .agg [_, _, _, _, _, _, _]) ag57 sz57 rfl rfl rfl rfl rfl ?_ | refine E_move rfl ?_); refine DrawE_eq (st' := _) (by first | dsimp only [n0, n1, n2, n3, n4, n5, n6, n7, n8, n9, m0, m1, m2, m3, m4, m5, m6, m7, m8, m9, o0, o1, o2, o3, o4, ↓reduceIte] | rfl) ?_)
    (refine DrawE_do rfl ?_; (first | refine E_index el89 sz49 rfl rfl rfl rfl (ll_get hj') rfl ?_ | refine E_index0 el89 sz49 rfl rfl rfl rfl (ll_get hj') ?_ | refine E_indexArr el89 sz49 rfl rfl rfl rfl (ll_get hj') ?_); refine DrawE_eq (st' := _) (by first | dsimp only [n0, n1, n2, n3, n4, n5, n6, n7, n8, n9, m0, m1, m2, m3, m4, m5, m6, m7, m8, m9, o0, o1, o2, o3, o4, ↓reduceIte] | rfl) ?_)
    (refine DrawE_do rfl ?_; (first | refine E_loadi (ds := [_]) ag49 sz49 rfl rfl rfl rfl ?_ | refine E_loadp (ds := [_]) ag49 sz49 rfl rfl rfl rfl rfl ?_); refine DrawE_eq (st' := _) (by first | dsimp only [n0, n1, n2, n3, n4, n5, n6, n7, n8, n9, m0, m1, m2, m3, m4, m5, m6, m7, m8, m9, o0, o1, o2, o3, o4, ↓reduceIte] | rfl) ?_)
    (refine DrawE_do rfl ?_; (first | refine E_call rfl rfl rfl (c51 n.read _ _ (Nat.le_trans hn.strides (by decide)) (Nat.le_trans hp (by decide)) hn.kind) ?_ | refine E_callfn rfl rfl rfl (c51 n.read _ _ (Nat.le_trans hn.strides (by decide)) (Nat.le_trans hp (by decide)) hn.kind) ?_); refine DrawE_eq (st' := _) (by first | dsimp only [n0, n1, n2, n3, n4, n5, n6, n7, n8, n9, m0, m1, m2, m3, m4, m5, m6, m7, m8, m9, o0, o1, o2, o3, o4, ↓reduceIte] | rfl) ?_)
    iterate 5 ((refine DrawE_do rfl ?_; first | refine E_move rfl ?_ | refine E_extract rfl rfl rfl ?_ | refine E_assign rfl rfl ?_); refine DrawE_eq (st' := _) (by first | dsimp only [n0, n1, n2, n3, n4, n5, n6, n7, n8, n9, m0, m1, m2, m3, m4, m5, m6, m7, m8, m9, o0, o1, o2, o3, o4, ↓reduceIte] | rfl) ?_)
    refine DrawE_nil ⟨by kernel_rfl, ?_⟩
    cases hf : (atM n.read L[j]).2
    · repeat (first | refine R_seq ?_ | refine R_block ?_ | refine R_skip ?_)
      refine R_region ?_
      iterate 4 ((refine OpsE_do rfl ?_; first | refine E_move rfl ?_ | refine E_not rfl rfl ?_ | refine E_fieldp fo37_1 rfl rfl ?_ | refine E_fieldi fo37_1 rfl rfl ?_ | refine E_store (vs := [_]) sz4 rfl rfl rfl rfl rfl rfl rfl ?_); refine OpsE_eq (st' := _) (by first | dsimp only [n0, n1, n2, n3, n4, n5, n6, n7, n8, n9, m0, m1, m2, m3, m4, m5, m6, m7, m8, m9, o0, o1, o2, o3, o4, ↓reduceIte] | rfl) ?_)
      refine OpsE_nil ?_
      repeat (first | refine R_seq ?_ | refine R_block ?_ | refine R_skip ?_)
      refine R_region ?_
      (refine OpsE_do rfl ?_; refine E_move rfl ?_; refine OpsE_eq (st' := _) (by first | dsimp only [n0, n1, n2, n3, n4, n5, n6, n7, n8, n9, m0, m1, m2, m3, m4, m5, m6, m7, m8, m9, o0, o1, o2, o3, o4, ↓reduceIte] | rfl) ?_)
      refine OpsE_nil ?_
      repeat (first | refine R_seq ?_ | refine R_block ?_ | refine R_skip ?_)
      refine R_false rfl ?_
      repeat (first | refine R_seq ?_ | refine R_block ?_ | refine R_skip ?_)
      refine R_region ?_
      iterate 3 ((refine OpsE_do rfl ?_; first | refine E_move rfl ?_ | refine E_loadi (ds := [_, _, _, _]) (d := .agg [_, _, _, _]) ag37 sz37 rfl rfl rfl rfl ?_ | refine E_loadp (ds := [_, _, _, _]) (v := .dat (.agg [_, _, _, _])) ag37 sz37 rfl rfl rfl rfl rfl ?_ | refine E_loadp (ds := [_, _, _, _]) (v := .agg [_, _, _, _]) ag37 sz37 rfl rfl rfl rfl rfl ?_ | refine E_list el25 sz37 zi37 rfl rfl rfl ⟨rfl, rfl⟩ rfl ⟨by decide, by decide⟩ rfl ?_); refine OpsE_eq (st' := _) (by first | dsimp only [n0, n1, n2, n3, n4, n5, n6, n7, n8, n9, m0, m1, m2, m3, m4, m5, m6, m7, m8, m9, o0, o1, o2, o3, o4, ↓reduceIte] | rfl) ?_)
      (refine OpsE_do rfl ?_; refine E_append el25 sz37 by37 zn37 ⟨by decide, by decide⟩ rfl rfl rfl rfl rfl (evts_fit _) rfl (by simp [room]; omega) ?_; refine OpsE_eq (st' := _) (by first | dsimp only [n0, n1, n2, n3, n4, n5, n6, n7, n8, n9, m0, m1, m2, m3, m4, m5, m6, m7, m8, m9, o0, o1, o2, o3, o4, ↓reduceIte] | rfl) ?_)
      (refine OpsE_do rfl ?_; refine E_assign rfl rfl ?_; refine OpsE_eq (st' := _) (by first | dsimp only [n0, n1, n2, n3, n4, n5, n6, n7, n8, n9, m0, m1, m2, m3, m4, m5, m6, m7, m8, m9, o0, o1, o2, o3, o4, ↓reduceIte] | rfl) ?_)
      refine OpsE_nil ?_
      repeat (first | refine R_seq ?_ | refine R_block ?_ | refine R_skip ?_)
      refine R_region ?_
      iterate 3 ((refine OpsE_do rfl ?_; first | refine E_move rfl ?_ | refine E_int rfl rfl rfl rfl ?_ | refine E_assign rfl rfl ?_); refine OpsE_eq (st' := _) (by first | dsimp only [n0, n1, n2, n3, n4, n5, n6, n7, n8, n9, m0, m1, m2, m3, m4, m5, m6, m7, m8, m9, o0, o1, o2, o3, o4, ↓reduceIte] | rfl) ?_)
      refine OpsE_nil ?_
      refine ⟨j + 1, ?_, by omega, hj'⟩
      have e2 : (eventM n L[j]).toD = .agg [intD (IntKind.i64.wrap (n.write + dotW n.steps L[j])), .raw (.bool true), intD 0, intD 0] := by simp [eventM, Evt.toD, hf]
      rw [e1, e2, List.length_append, wrap_succ (by omega)]
      rfl
    · repeat (first | refine R_seq ?_ | refine R_block ?_ | refine R_skip ?_)
      refine R_region ?_
      iterate 4 ((refine OpsE_do rfl ?_; first | refine E_move rfl ?_ | refine E_not rfl rfl ?_ | refine E_fieldp fo37_1 rfl rfl ?_ | refine E_fieldi fo37_1 rfl rfl ?_ | refine E_store (vs := [_]) sz4 rfl rfl rfl rfl rfl rfl rfl ?_); refine OpsE_eq (st' := _) (by first | dsimp only [n0, n1, n2, n3, n4, n5, n6, n7, n8, n9, m0, m1, m2, m3, m4, m5, m6, m7, m8, m9, o0, o1, o2, o3, o4, ↓reduceIte] | rfl) ?_)
      refine OpsE_nil ?_
      repeat (first | refine R_seq ?_ | refine R_block ?_ | refine R_skip ?_)
      refine R_region ?_
      (refine OpsE_do rfl ?_; refine E_move rfl ?_; refine OpsE_eq (st' := _) (by first | dsimp only [n0, n1, n2, n3, n4, n5, n6, n7, n8, n9, m0, m1, m2, m3, m4, m5, m6, m7, m8, m9, o0, o1, o2, o3, o4, ↓reduceIte] | rfl) ?_)
      refine OpsE_nil ?_
      repeat (first | refine R_seq ?_ | refine R_block ?_ | refine R_skip ?_)
      refine R_true rfl ?_
      repeat (first | refine R_seq ?_ | refine R_block ?_ | refine R_skip ?_)
      refine R_region ?_
      iterate 5 ((refine OpsE_do rfl ?_; first | refine E_fieldp fo59_3 rfl rfl ?_ | refine E_fieldi fo59_3 rfl rfl ?_ | refine E_fieldp fo57_1 rfl rfl ?_ | refine E_fieldi fo57_1 rfl rfl ?_ | refine E_loadi (ds := [_]) ag3 sz3 rfl rfl rfl rfl ?_ | refine E_loadp (ds := [_]) ag3 sz3 rfl rfl rfl rfl rfl ?_ | refine E_fieldp fo37_2 rfl rfl ?_ | refine E_fieldi fo37_2 rfl rfl ?_ | refine E_store (vs := [_]) sz3 rfl rfl rfl rfl rfl rfl rfl ?_); refine OpsE_eq (st' := _) (by first | dsimp only [n0, n1, n2, n3, n4, n5, n6, n7, n8, n9, m0, m1, m2, m3, m4, m5, m6, m7, m8, m9, o0, o1, o2, o3, o4, ↓reduceIte] | rfl) ?_)
      refine OpsE_nil ?_
      repeat (first | refine R_seq ?_ | refine R_block ?_ | refine R_skip ?_)
      refine R_region ?_
      iterate 3 ((refine OpsE_do rfl ?_; first | refine E_move rfl ?_ | refine E_fieldp fo37_3 rfl rfl ?_ | refine E_fieldi fo37_3 rfl rfl ?_ | refine E_store (vs := [_]) sz3 rfl rfl rfl rfl rfl rfl rfl ?_); refine OpsE_eq (st' := _) (by first | dsimp only [n0, n1, n2, n3, n4, n5, n6, n7, n8, n9, m0, m1, m2, m3, m4, m5, m6, m7, m8, m9, o0, o1, o2, o3, o4, ↓reduceIte] | rfl) ?_)
      refine OpsE_nil ?_
      repeat (first | refine R_seq ?_ | refine R_block ?_ | refine R_skip ?_)
      refine R_region ?_
      iterate 3 ((refine OpsE_do rfl ?_; first | refine E_move rfl ?_ | refine E_loadi (ds := [_, _, _, _]) (d := .agg [_, _, _, _]) ag37 sz37 rfl rfl rfl rfl ?_ | refine E_loadp (ds := [_, _, _, _]) (v := .dat (.agg [_, _, _, _])) ag37 sz37 rfl rfl rfl rfl rfl ?_ | refine E_loadp (ds := [_, _, _, _]) (v := .agg [_, _, _, _]) ag37 sz37 rfl rfl rfl rfl rfl ?_ | refine E_list el25 sz37 zi37 rfl rfl rfl ⟨rfl, rfl⟩ rfl ⟨by decide, by decide⟩ rfl ?_); refine OpsE_eq (st' := _) (by first | dsimp only [n0, n1, n2, n3, n4, n5, n6, n7, n8, n9, m0, m1, m2, m3, m4, m5, m6, m7, m8, m9, o0, o1, o2, o3, o4, ↓reduceIte] | rfl) ?_)
      (refine OpsE_do rfl ?_; refine E_append el25 sz37 by37 zn37 ⟨by decide, by decide⟩ rfl rfl rfl rfl rfl (evts_fit _) rfl (by simp [room]; omega) ?_; refine OpsE_eq (st' := _) (by first | dsimp only [n0, n1, n2, n3, n4, n5, n6, n7, n8, n9, m0, m1, m2, m3, m4, m5, m6, m7, m8, m9, o0, o1, o2, o3, o4, ↓reduceIte] | rfl) ?_)
      (refine OpsE_do rfl ?_; refine E_assign rfl rfl ?_; refine OpsE_eq (st' := _) (by first | dsimp only [n0, n1, n2, n3, n4, n5, n6, n7, n8, n9, m0, m1, m2, m3, m4, m5, m6, m7, m8, m9, o0, o1, o2, o3, o4, ↓reduceIte] | rfl) ?_)
      refine OpsE_nil ?_
      repeat (first | refine R_seq ?_ | refine R_block ?_ | refine R_skip ?_)
      refine R_region ?_
      iterate 3 ((refine OpsE_do rfl ?_; first | refine E_move rfl ?_ | refine E_int rfl rfl rfl rfl ?_ | refine E_assign rfl rfl ?_); refine OpsE_eq (st' := _) (by first | dsimp only [n0, n1, n2, n3, n4, n5, n6, n7, n8, n9, m0, m1, m2, m3, m4, m5, m6, m7, m8, m9, o0, o1, o2, o3, o4, ↓reduceIte] | rfl) ?_)
      refine OpsE_nil ?_
      refine ⟨j + 1, ?_, by omega, hj'⟩
      have e2 : (eventM n L[j]).toD = .agg [intD (IntKind.i64.wrap (n.write + dotW n.steps L[j])), .raw (.bool false), intD n.read.buffer, intD (atM n.read L[j]).1] := by simp [eventM, Evt.toD, hf]
      rw [e1, e2, List.length_append, wrap_succ (by omega)]
      rfl
  · have hj' : j = L.length := by simp at h; omega
    subst hj'
    repeat (first | refine R_seq ?_ | refine R_block ?_ | refine R_skip ?_)
    refine R_exit ?_
    repeat (first | refine R_seq ?_ | refine R_block ?_ | refine R_skip ?_)
    refine R_region ?_
    iterate 2 ((refine OpsE_do rfl ?_; first | refine E_move rfl ?_ | refine E_assign rfl rfl ?_); refine OpsE_eq (st' := _) (by first | dsimp only [n0, n1, n2, n3, n4, n5, n6, n7, n8, n9, m0, m1, m2, m3, m4, m5, m6, m7, m8, m9, o0, o1, o2, o3, o4, ↓reduceIte] | rfl) ?_)
    refine OpsE_nil ?_
    repeat (first | refine R_seq ?_ | refine R_block ?_ | refine R_skip ?_)
    refine R_ret ?_
    refine ⟨trivial, _, rfl, ?_⟩
    rw [List.take_length, eventsN, hL]
    rfl
def eventsL (l : List Nst) : List Evt := l.flatMap eventsN
theorem eventsL_succ {l : List Nst} {j : Nat} (h : j < l.length) : ((eventsL (l.take (j + 1))).map Evt.toD) = (eventsL (l.take j)).map Evt.toD ++ (eventsN l[j]).map Evt.toD := by
  rw [eventsL, eventsL, List.take_succ_eq_append_getElem h, List.flatMap_append, List.map_append]; simp
theorem eventsL_le {l : List Nst} {j : Nat} (h : j < l.length) : (eventsL (l.take j)).length + (eventsN l[j]).length ≤ (eventsL l).length := by
  have h1 : eventsL l = eventsL (l.take (j + 1)) ++ eventsL (l.drop (j + 1)) := by rw [eventsL, eventsL, eventsL, ← List.flatMap_append, List.take_append_drop]
  have h2 : eventsL (l.take (j + 1)) = eventsL (l.take j) ++ eventsN l[j] := by rw [eventsL, eventsL, List.take_succ_eq_append_getElem h, List.flatMap_append]; simp
  rw [h1, h2, List.length_append, List.length_append]; omega

theorem c12 (l : List Nst) (H : List Blk) (hl : l.length ≤ 1048576) (hn : ∀ n ∈ l, NestOK n) (hb : (eventsL l).length ≤ 1000000) : PC prog env 12 [.dat (nestsD l)] H (.dat (evtsD (eventsL l))) H := by
  refine PC_pure (fn := f12) (by kernel_rfl) rfl rfl (by kernel_rfl) rfl rfl ?_ (by simp [PV.lends])
  refine R_eq (st' := ⟨[.dat (nestsD l), .tup [], .tup [], .tup [], .tup [], .tup [], .tup [], .tup [], .tup [], .tup [], .tup [], .tup [], .tup [], .tup [], .tup [], .tup [], .tup [], .tup [], .tup []], []⟩) rfl ?_
  repeat (first | refine R_seq ?_ | refine R_block ?_ | refine R_skip ?_)
  refine R_region ?_
  (refine OpsE_do rfl ?_; refine E_assign rfl rfl ?_; refine OpsE_eq (st' := _) (by first | dsimp only [n0, n1, n2, n3, n4, n5, n6, n7, n8, n9, m0, m1, m2, m3, m4, m5, m6, m7, m8, m9, o0, o1, o2, o3, o4, ↓reduceIte] | rfl) ?_)
  refine OpsE_nil ?_
  repeat (first | refine R_seq ?_ | refine R_block ?_ | refine R_skip ?_)
  refine R_region ?_
  (refine OpsE_do rfl ?_; refine E_own rfl rfl ?_; refine OpsE_eq (st' := _) (by first | dsimp only [n0, n1, n2, n3, n4, n5, n6, n7, n8, n9, m0, m1, m2, m3, m4, m5, m6, m7, m8, m9, o0, o1, o2, o3, o4, ↓reduceIte] | rfl) ?_)
  refine OpsE_nil ?_
  repeat (first | refine R_seq ?_ | refine R_block ?_ | refine R_skip ?_)
  refine R_region ?_
  (refine OpsE_do rfl ?_; refine E_assign rfl rfl ?_; refine OpsE_eq (st' := _) (by first | dsimp only [n0, n1, n2, n3, n4, n5, n6, n7, n8, n9, m0, m1, m2, m3, m4, m5, m6, m7, m8, m9, o0, o1, o2, o3, o4, ↓reduceIte] | rfl) ?_)
  refine OpsE_nil ?_
  repeat (first | refine R_seq ?_ | refine R_block ?_ | refine R_skip ?_)
  refine R_loop ?_
  refine RL_ind (fun (j : Nat) => ⟨[.dat (nestsD l), .undef, .undef, .vec 0 ((eventsL (l.take j)).map Evt.toD), intPV (j : Int), .undef, .undef, .undef, .undef, .undef, .undef, .undef, .undef, .undef, .undef, .undef, .undef, .undef, .undef], [.tok 37 ((eventsL (l.take j)).map Evt.toD).length]⟩)
    (fun j => j ≤ l.length) (fun j => l.length - j) (fun j hj => ?_) _ 0 _ (Nat.lt_succ_self _) (Nat.zero_le _) rfl
  repeat (first | refine R_seq ?_ | refine R_block ?_ | refine R_skip ?_)
  refine R_region ?_
  iterate 4 ((refine OpsE_do rfl ?_; first | refine E_move rfl ?_ | refine E_len un22 rfl rfl ?_ | refine E_int rfl rfl rfl rfl ?_); refine OpsE_eq (st' := _) (by first | dsimp only [n0, n1, n2, n3, n4, n5, n6, n7, n8, n9, m0, m1, m2, m3, m4, m5, m6, m7, m8, m9, o0, o1, o2, o3, o4, ↓reduceIte] | rfl) ?_)
  refine OpsE_nil ?_
  repeat (first | refine R_seq ?_ | refine R_block ?_ | refine R_skip ?_)
  refine R_if rfl (fun h => ?_) (fun h => ?_)
  · have hj' : j < l.length := by simpa using h
    have hle := eventsL_le hj'
    repeat (first | refine R_seq ?_ | refine R_block ?_ | refine R_skip ?_)
    refine R_region ?_
    iterate 3 ((refine OpsE_do rfl ?_; refine E_move rfl ?_); refine OpsE_eq (st' := _) (by first | dsimp only [n0, n1, n2, n3, n4, n5, n6, n7, n8, n9, m0, m1, m2, m3, m4, m5, m6, m7, m8, m9, o0, o1, o2, o3, o4, ↓reduceIte] | rfl) ?_)
    (refine OpsE_do rfl ?_; (first | refine E_index el22 sz59 rfl rfl rfl rfl (nests_get hj') rfl ?_ | refine E_index0 el22 sz59 rfl rfl rfl rfl (nests_get hj') ?_ | refine E_indexArr el22 sz59 rfl rfl rfl rfl (nests_get hj') ?_); refine OpsE_eq (st' := _) (by first | dsimp only [n0, n1, n2, n3, n4, n5, n6, n7, n8, n9, m0, m1, m2, m3, m4, m5, m6, m7, m8, m9, o0, o1, o2, o3, o4, ↓reduceIte] | rfl) ?_)
    (refine OpsE_do rfl ?_; (first | refine E_loadi (ds := [_, _, _, _, _, _, _, _, _, _]) (d := .agg [_, _, _, _, _, _, _, _, _, _]) ag59 sz59 rfl rfl rfl rfl ?_ | refine E_loadp (ds := [_, _, _, _, _, _, _, _, _, _]) (v := .dat (.agg [_, _, _, _, _, _, _, _, _, _])) ag59 sz59 rfl rfl rfl rfl rfl ?_ | refine E_loadp (ds := [_, _, _, _, _, _, _, _, _, _]) (v := .agg [_, _, _, _, _, _, _, _, _, _]) ag59 sz59 rfl rfl rfl rfl rfl ?_); refine OpsE_eq (st' := _) (by first | dsimp only [n0, n1, n2, n3, n4, n5, n6, n7, n8, n9, m0, m1, m2, m3, m4, m5, m6, m7, m8, m9, o0, o1, o2, o3, o4, ↓reduceIte] | rfl) ?_)
    (refine OpsE_do rfl ?_; (first | refine E_call rfl rfl rfl (c33 l[j] _ (hn _ (List.getElem_mem hj'))) ?_ | refine E_callfn rfl rfl rfl (c33 l[j] _ (hn _ (List.getElem_mem hj'))) ?_); refine OpsE_eq (st' := _) (by first | dsimp only [n0, n1, n2, n3, n4, n5, n6, n7, n8, n9, m0, m1, m2, m3, m4, m5, m6, m7, m8, m9, o0, o1, o2, o3, o4, ↓reduceIte] | rfl) ?_)
    (refine OpsE_do rfl ?_; refine E_append el25 sz37 by37 zn37 ⟨by decide, by decide⟩ rfl rfl rfl rfl rfl (evts_fit _) (evts_fit _) (by simp [room]; omega) ?_; refine OpsE_eq (st' := _) (by first | dsimp only [n0, n1, n2, n3, n4, n5, n6, n7, n8, n9, m0, m1, m2, m3, m4, m5, m6, m7, m8, m9, o0, o1, o2, o3, o4, ↓reduceIte] | rfl) ?_)
    (refine OpsE_do rfl ?_; refine E_assign rfl rfl ?_; refine OpsE_eq (st' := _) (by first | dsimp only [n0, n1, n2, n3, n4, n5, n6, n7, n8, n9, m0, m1, m2, m3, m4, m5, m6, m7, m8, m9, o0, o1, o2, o3, o4, ↓reduceIte] | rfl) ?_)
    refine OpsE_nil ?_
    repeat (first | refine R_seq ?_ | refine R_block ?_ | refine R_skip ?_)
    refine R_region ?_
    iterate 3 ((refine OpsE_do rfl ?_; first | refine E_move rfl ?_ | refine E_int rfl rfl rfl rfl ?_ | refine E_assign rfl rfl ?_); refine OpsE_eq (st' := _) (by first | dsimp only [n0, n1, n2, n3, n4, n5, n6, n7, n8, n9, m0, m1, m2, m3, m4, m5, m6, m7, m8, m9, o0, o1, o2, o3, o4, ↓reduceIte] | rfl) ?_)
    refine OpsE_nil ?_
    refine ⟨j + 1, ?_, by omega, hj'⟩
    rw [eventsL_succ hj', List.length_append, wrap_succ (by omega)]
    rfl
  · have hj' : j = l.length := by simp at h; omega
    subst hj'
    repeat (first | refine R_seq ?_ | refine R_block ?_ | refine R_skip ?_)
    refine R_exit ?_
    repeat (first | refine R_seq ?_ | refine R_block ?_ | refine R_skip ?_)
    refine R_region ?_
    iterate 2 ((refine OpsE_do rfl ?_; first | refine E_move rfl ?_ | refine E_assign rfl rfl ?_); refine OpsE_eq (st' := _) (by first | dsimp only [n0, n1, n2, n3, n4, n5, n6, n7, n8, n9, m0, m1, m2, m3, m4, m5, m6, m7, m8, m9, o0, o1, o2, o3, o4, ↓reduceIte] | rfl) ?_)
    refine OpsE_nil ?_
    repeat (first | refine R_seq ?_ | refine R_block ?_ | refine R_skip ?_)
    refine R_ret ?_
    refine ⟨trivial, _, rfl, ?_⟩
    rw [List.take_length]
    rfl

theorem c15 (l : List Nst) (H : List Blk) (hl : l.length ≤ 1048576) : PC prog env 15 [.dat (nestsD l)] H (.dat (nestsD l)) H := by
  refine PC_pure (fn := f15) (by kernel_rfl) rfl rfl (by kernel_rfl) rfl rfl ?_ (by simp [PV.lends])
  refine R_eq (st' := ⟨[.dat (nestsD l), .tup [], .tup [], .tup [], .tup [], .tup [], .tup [], .tup [], .tup [], .tup [], .tup [], .tup [], .tup [], .tup [], .tup [], .tup [], .tup [], .tup [], .tup [], .tup []], []⟩) rfl ?_
  repeat (first | refine R_seq ?_ | refine R_block ?_ | refine R_skip ?_)
  refine R_region ?_
  (refine OpsE_do rfl ?_; refine E_assign rfl rfl ?_; refine OpsE_eq (st' := _) (by first | dsimp only [n0, n1, n2, n3, n4, n5, n6, n7, n8, n9, m0, m1, m2, m3, m4, m5, m6, m7, m8, m9, o0, o1, o2, o3, o4, ↓reduceIte] | rfl) ?_)
  refine OpsE_nil ?_
  repeat (first | refine R_seq ?_ | refine R_block ?_ | refine R_skip ?_)
  refine R_region ?_
  (refine OpsE_do rfl ?_; refine E_own rfl rfl ?_; refine OpsE_eq (st' := _) (by first | dsimp only [n0, n1, n2, n3, n4, n5, n6, n7, n8, n9, m0, m1, m2, m3, m4, m5, m6, m7, m8, m9, o0, o1, o2, o3, o4, ↓reduceIte] | rfl) ?_)
  refine OpsE_nil ?_
  repeat (first | refine R_seq ?_ | refine R_block ?_ | refine R_skip ?_)
  refine R_region ?_
  (refine OpsE_do rfl ?_; refine E_assign rfl rfl ?_; refine OpsE_eq (st' := _) (by first | dsimp only [n0, n1, n2, n3, n4, n5, n6, n7, n8, n9, m0, m1, m2, m3, m4, m5, m6, m7, m8, m9, o0, o1, o2, o3, o4, ↓reduceIte] | rfl) ?_)
  refine OpsE_nil ?_
  repeat (first | refine R_seq ?_ | refine R_block ?_ | refine R_skip ?_)
  refine R_loop ?_
  refine RL_ind (fun (j : Nat) => ⟨[.dat (nestsD l), .undef, .undef, .vec 0 ((l.take j).map Nst.toD), intPV (j : Int), .undef, .undef, .undef, .undef, .undef, .undef, .undef, .undef, .undef, .undef, .undef, .undef, .undef, .undef, .undef], [.tok 53 ((l.take j).map Nst.toD).length]⟩)
    (fun j => j ≤ l.length) (fun j => l.length - j) (fun j hj => ?_) _ 0 _ (Nat.lt_succ_self _) (Nat.zero_le _) rfl
  repeat (first | refine R_seq ?_ | refine R_block ?_ | refine R_skip ?_)
  refine R_region ?_
  iterate 4 ((refine OpsE_do rfl ?_; first | refine E_move rfl ?_ | refine E_len un22 rfl rfl ?_ | refine E_int rfl rfl rfl rfl ?_); refine OpsE_eq (st' := _) (by first | dsimp only [n0, n1, n2, n3, n4, n5, n6, n7, n8, n9, m0, m1, m2, m3, m4, m5, m6, m7, m8, m9, o0, o1, o2, o3, o4, ↓reduceIte] | rfl) ?_)
  refine OpsE_nil ?_
  repeat (first | refine R_seq ?_ | refine R_block ?_ | refine R_skip ?_)
  refine R_if rfl (fun h => ?_) (fun h => ?_)
  · have hj' : j < l.length := by simpa using h
    repeat (first | refine R_seq ?_ | refine R_block ?_ | refine R_skip ?_)
    refine R_region ?_
    iterate 3 ((refine OpsE_do rfl ?_; refine E_move rfl ?_); refine OpsE_eq (st' := _) (by first | dsimp only [n0, n1, n2, n3, n4, n5, n6, n7, n8, n9, m0, m1, m2, m3, m4, m5, m6, m7, m8, m9, o0, o1, o2, o3, o4, ↓reduceIte] | rfl) ?_)
    (refine OpsE_do rfl ?_; (first | refine E_index el22 sz59 rfl rfl rfl rfl (nests_get hj') rfl ?_ | refine E_index0 el22 sz59 rfl rfl rfl rfl (nests_get hj') ?_ | refine E_indexArr el22 sz59 rfl rfl rfl rfl (nests_get hj') ?_); refine OpsE_eq (st' := _) (by first | dsimp only [n0, n1, n2, n3, n4, n5, n6, n7, n8, n9, m0, m1, m2, m3, m4, m5, m6, m7, m8, m9, o0, o1, o2, o3, o4, ↓reduceIte] | rfl) ?_)
    (refine OpsE_do rfl ?_; (first | refine E_loadi (ds := [_, _, _, _, _, _, _, _, _, _]) (d := .agg [_, _, _, _, _, _, _, _, _, _]) ag59 sz59 rfl rfl rfl rfl ?_ | refine E_loadp (ds := [_, _, _, _, _, _, _, _, _, _]) (v := .dat (.agg [_, _, _, _, _, _, _, _, _, _])) ag59 sz59 rfl rfl rfl rfl rfl ?_ | refine E_loadp (ds := [_, _, _, _, _, _, _, _, _, _]) (v := .agg [_, _, _, _, _, _, _, _, _, _]) ag59 sz59 rfl rfl rfl rfl rfl ?_); refine OpsE_eq (st' := _) (by first | dsimp only [n0, n1, n2, n3, n4, n5, n6, n7, n8, n9, m0, m1, m2, m3, m4, m5, m6, m7, m8, m9, o0, o1, o2, o3, o4, ↓reduceIte] | rfl) ?_)
    (refine OpsE_do rfl ?_; (first | refine E_call rfl rfl rfl (c23 l[j] _) ?_ | refine E_callfn rfl rfl rfl (c23 l[j] _) ?_); refine OpsE_eq (st' := _) (by first | dsimp only [n0, n1, n2, n3, n4, n5, n6, n7, n8, n9, m0, m1, m2, m3, m4, m5, m6, m7, m8, m9, o0, o1, o2, o3, o4, ↓reduceIte] | rfl) ?_)
    (refine OpsE_do rfl ?_; refine E_list el30 sz53 zi53 rfl rfl rfl ⟨rfl, rfl⟩ rfl ⟨by decide, by decide⟩ rfl ?_; refine OpsE_eq (st' := _) (by first | dsimp only [n0, n1, n2, n3, n4, n5, n6, n7, n8, n9, m0, m1, m2, m3, m4, m5, m6, m7, m8, m9, o0, o1, o2, o3, o4, ↓reduceIte] | rfl) ?_)
    (refine OpsE_do rfl ?_; refine E_append el30 sz53 by53 zn53 ⟨by decide, by decide⟩ rfl rfl rfl rfl rfl (nests_fit _) rfl (by simp [room]; omega) ?_; refine OpsE_eq (st' := _) (by first | dsimp only [n0, n1, n2, n3, n4, n5, n6, n7, n8, n9, m0, m1, m2, m3, m4, m5, m6, m7, m8, m9, o0, o1, o2, o3, o4, ↓reduceIte] | rfl) ?_)
    (refine OpsE_do rfl ?_; refine E_assign rfl rfl ?_; refine OpsE_eq (st' := _) (by first | dsimp only [n0, n1, n2, n3, n4, n5, n6, n7, n8, n9, m0, m1, m2, m3, m4, m5, m6, m7, m8, m9, o0, o1, o2, o3, o4, ↓reduceIte] | rfl) ?_)
    refine OpsE_nil ?_
    repeat (first | refine R_seq ?_ | refine R_block ?_ | refine R_skip ?_)
    refine R_region ?_
    iterate 3 ((refine OpsE_do rfl ?_; first | refine E_move rfl ?_ | refine E_int rfl rfl rfl rfl ?_ | refine E_assign rfl rfl ?_); refine OpsE_eq (st' := _) (by first | dsimp only [n0, n1, n2, n3, n4, n5, n6, n7, n8, n9, m0, m1, m2, m3, m4, m5, m6, m7, m8, m9, o0, o1, o2, o3, o4, ↓reduceIte] | rfl) ?_)
    refine OpsE_nil ?_
    refine ⟨j + 1, ?_, by omega, hj'⟩
    rw [List.take_succ_eq_append_getElem hj', List.map_append, List.length_append, wrap_succ (by omega)]
    rfl
  · have hj' : j = l.length := by simp at h; omega
    subst hj'
    repeat (first | refine R_seq ?_ | refine R_block ?_ | refine R_skip ?_)
    refine R_exit ?_
    repeat (first | refine R_seq ?_ | refine R_block ?_ | refine R_skip ?_)
    refine R_region ?_
    iterate 2 ((refine OpsE_do rfl ?_; first | refine E_move rfl ?_ | refine E_assign rfl rfl ?_); refine OpsE_eq (st' := _) (by first | dsimp only [n0, n1, n2, n3, n4, n5, n6, n7, n8, n9, m0, m1, m2, m3, m4, m5, m6, m7, m8, m9, o0, o1, o2, o3, o4, ↓reduceIte] | rfl) ?_)
    refine OpsE_nil ?_
    repeat (first | refine R_seq ?_ | refine R_block ?_ | refine R_skip ?_)
    refine R_ret ?_
    refine ⟨trivial, _, rfl, ?_⟩
    rw [List.take_length]
    rfl

/-- the numbers of events that read, and of those that fill -/
def countM (l : List Nst) : Int × Int := l.foldl (fun (x : Int × Int) n => if n.read.kind = 1 then (x.1, IntKind.i64.wrap (x.2 + cellsW n.dims)) else (IntKind.i64.wrap (x.1 + cellsW n.dims), x.2)) (0, 0)
theorem countM_succ {l : List Nst} {j : Nat} (h : j < l.length) : countM (l.take (j + 1)) = if l[j].read.kind = 1 then ((countM (l.take j)).1, IntKind.i64.wrap ((countM (l.take j)).2 + cellsW l[j].dims)) else (IntKind.i64.wrap ((countM (l.take j)).1 + cellsW l[j].dims), (countM (l.take j)).2) := by
  rw [countM, countM, List.take_succ_eq_append_getElem h, List.foldl_append]; rfl

theorem c17 (l : List Nst) (H : List Blk) (hl : l.length ≤ 1048576) (hd : ∀ n ∈ l, n.dims.length ≤ 1048576) : PC prog env 17 [.dat (nestsD l)] H (.tup [intPV (countM l).1, intPV (countM l).2]) H := by
  refine PC_pure (fn := f17) (by kernel_rfl) rfl rfl (by kernel_rfl) rfl rfl ?_ (by simp [PV.lends])
  refine R_eq (st' := ⟨[.dat (nestsD l), .tup [], .tup [], .tup [], .tup [], .tup [], .tup [], .tup [], .tup [], .tup [], .tup [], .tup [], .tup [], .tup [], .tup [], .tup [], .tup [], .tup [], .tup [], .tup [], .tup [], .tup [], .tup [], .tup [], .tup [], .tup [], .tup []], []⟩) rfl ?_
  repeat (first | refine R_seq ?_ | refine R_block ?_ | refine R_skip ?_)
  refine R_region ?_
  iterate 2 ((refine OpsE_do rfl ?_; refine E_assign rfl rfl ?_); refine OpsE_eq (st' := _) (by first | dsimp only [n0, n1, n2, n3, n4, n5, n6, n7, n8, n9, m0, m1, m2, m3, m4, m5, m6, m7, m8, m9, o0, o1, o2, o3, o4, ↓reduceIte] | rfl) ?_)
  refine OpsE_nil ?_
  repeat (first | refine R_seq ?_ | refine R_block ?_ | refine R_skip ?_)
  refine R_region ?_
  iterate 3 ((refine OpsE_do rfl ?_; first | refine E_move rfl ?_ | refine E_len un30 rfl rfl ?_); refine OpsE_eq (st' := _) (by first | dsimp only [n0, n1, n2, n3, n4, n5, n6, n7, n8, n9, m0, m1, m2, m3, m4, m5, m6, m7, m8, m9, o0, o1, o2, o3, o4, ↓reduceIte] | rfl) ?_)
  refine OpsE_nil ?_
  repeat (first | refine R_seq ?_ | refine R_block ?_ | refine R_skip ?_)
  refine R_loop ?_
  refine RL_ind (fun (j : Nat) => ⟨[.undef, .undef, intPV (countM (l.take j)).1, intPV (countM (l.take j)).2, .undef, .undef, .dat (nestsD l), intPV (l.map Nst.toD).length, intPV (j : Int), .undef, .undef, .undef, .undef, .undef, .undef, .undef, .undef, .undef, .undef, .undef, .undef, .undef, .undef, .undef, .undef, .undef, .undef], []⟩)
    (fun j => j ≤ l.length) (fun j => l.length - j) (fun j hj => ?_) _ 0 _ (Nat.lt_succ_self _) (Nat.zero_le _) rfl
  repeat (first | refine R_seq ?_ | refine R_block ?_ | refine R_skip ?_)
  refine R_region ?_
  (refine OpsE_do rfl ?_; (first | refine E_int rfl rfl rfl rfl ?_ | refine E_bin rfl rfl rfl rfl ?_); refine OpsE_eq (st' := _) (by first | dsimp only [n0, n1, n2, n3, n4, n5, n6, n7, n8, n9, m0, m1, m2, m3, m4, m5, m6, m7, m8, m9, o0, o1, o2, o3, o4, ↓reduceIte] | rfl) ?_)
  refine OpsE_nil ?_
  repeat (first | refine R_seq ?_ | refine R_block ?_ | refine R_skip ?_)
  refine R_if rfl (fun h => ?_) (fun h => ?_)
  · have hj' : j < l.length := by simpa using h
    repeat (first | refine R_seq ?_ | refine R_block ?_ | refine R_skip ?_)
    refine R_region ?_
    (refine OpsE_do rfl ?_; (first | refine E_index el30 sz53 rfl rfl rfl rfl (nests_get hj') rfl ?_ | refine E_index0 el30 sz53 rfl rfl rfl rfl (nests_get hj') ?_ | refine E_indexArr el30 sz53 rfl rfl rfl rfl (nests_get hj') ?_); refine OpsE_eq (st' := _) (by first | dsimp only [n0, n1, n2, n3, n4, n5, n6, n7, n8, n9, m0, m1, m2, m3, m4, m5, m6, m7, m8, m9, o0, o1, o2, o3, o4, ↓reduceIte] | rfl) ?_)
    iterate 3 ((refine OpsE_do rfl ?_; first | refine E_loadi (ds := [_, _, _, _, _, _, _, _, _, _]) (d := .agg [_, _, _, _, _, _, _, _, _, _]) ag53 sz53 rfl rfl rfl rfl ?_ | refine E_loadp (ds := [_, _, _, _, _, _, _, _, _, _]) (v := .dat (.agg [_, _, _, _, _, _, _, _, _, _])) ag53 sz53 rfl rfl rfl rfl rfl ?_ | refine E_loadp (ds := [_, _, _, _, _, _, _, _, _, _]) (v := .agg [_, _, _, _, _, _, _, _, _, _]) ag53 sz53 rfl rfl rfl rfl rfl ?_ | refine E_alloc (cs := [_, _, _, _, _, _, _, _, _, _]) ze53 rfl rfl ?_ | refine E_store (vs := [_, _, _, _, _, _, _, _, _, _]) sz53 rfl rfl rfl rfl rfl rfl rfl ?_); refine OpsE_eq (st' := _) (by first | dsimp only [n0, n1, n2, n3, n4, n5, n6, n7, n8, n9, m0, m1, m2, m3, m4, m5, m6, m7, m8, m9, o0, o1, o2, o3, o4, ↓reduceIte] | rfl) ?_)
    refine OpsE_nil ?_
    repeat (first | refine R_seq ?_ | refine R_block ?_ | refine R_skip ?_)
    refine R_region ?_
    iterate 4 ((refine OpsE_do rfl ?_; first | refine E_fieldp fo53_3 rfl rfl ?_ | refine E_fieldi fo53_3 rfl rfl ?_ | refine E_fieldp fo51_0 rfl rfl ?_ | refine E_fieldi fo51_0 rfl rfl ?_ | refine E_loadi (ds := [_]) ag3 sz3 rfl rfl rfl rfl ?_ | refine E_loadp (ds := [_]) ag3 sz3 rfl rfl rfl rfl rfl ?_ | refine E_int rfl rfl rfl rfl ?_); refine OpsE_eq (st' := _) (by first | dsimp only [n0, n1, n2, n3, n4, n5, n6, n7, n8, n9, m0, m1, m2, m3, m4, m5, m6, m7, m8, m9, o0, o1, o2, o3, o4, ↓reduceIte] | rfl) ?_)
    refine OpsE_nil ?_
    repeat (first | refine R_seq ?_ | refine R_block ?_ | refine R_skip ?_)
    refine R_cond rfl (fun hk => ?_) (fun hk => ?_)
    · have hk' : l[j].read.kind = 1 := by simpa using hk
      repeat (first | refine R_seq ?_ | refine R_block ?_ | refine R_skip ?_)
      refine R_region ?_
      iterate 2 ((refine OpsE_do rfl ?_; first | refine E_move rfl ?_ | refine E_loadi (ds := [_, _, _, _, _, _, _, _, _, _]) (d := .agg [_, _, _, _, _, _, _, _, _, _]) ag53 sz53 rfl rfl rfl rfl ?_ | refine E_loadp (ds := [_, _, _, _, _, _, _, _, _, _]) (v := .dat (.agg [_, _, _, _, _, _, _, _, _, _])) ag53 sz53 rfl rfl rfl rfl rfl ?_ | refine E_loadp (ds := [_, _, _, _, _, _, _, _, _, _]) (v := .agg [_, _, _, _, _, _, _, _, _, _]) ag53 sz53 rfl rfl rfl rfl rfl ?_); refine OpsE_eq (st' := _) (by first | dsimp only [n0, n1, n2, n3, n4, n5, n6, n7, n8, n9, m0, m1, m2, m3, m4, m5, m6, m7, m8, m9, o0, o1, o2, o3, o4, ↓reduceIte] | rfl) ?_)
      (refine OpsE_do rfl ?_; (first | refine E_call rfl rfl rfl (c38 l[j] _ (Nat.le_trans (hd _ (List.getElem_mem hj')) (by decide))) ?_ | refine E_callfn rfl rfl rfl (c38 l[j] _ (Nat.le_trans (hd _ (List.getElem_mem hj')) (by decide))) ?_); refine OpsE_eq (st' := _) (by first | dsimp only [n0, n1, n2, n3, n4, n5, n6, n7, n8, n9, m0, m1, m2, m3, m4, m5, m6, m7, m8, m9, o0, o1, o2, o3, o4, ↓reduceIte] | rfl) ?_)
      iterate 2 ((refine OpsE_do rfl ?_; first | refine E_int rfl rfl rfl rfl ?_ | refine E_assign rfl rfl ?_); refine OpsE_eq (st' := _) (by first | dsimp only [n0, n1, n2, n3, n4, n5, n6, n7, n8, n9, m0, m1, m2, m3, m4, m5, m6, m7, m8, m9, o0, o1, o2, o3, o4, ↓reduceIte] | rfl) ?_)
      refine OpsE_nil ?_
      repeat (first | refine R_seq ?_ | refine R_block ?_ | refine R_skip ?_)
      refine R_region ?_
      iterate 2 ((refine OpsE_do rfl ?_; first | refine E_int rfl rfl rfl rfl ?_ | refine E_move rfl ?_); refine OpsE_eq (st' := _) (by first | dsimp only [n0, n1, n2, n3, n4, n5, n6, n7, n8, n9, m0, m1, m2, m3, m4, m5, m6, m7, m8, m9, o0, o1, o2, o3, o4, ↓reduceIte] | rfl) ?_)
      refine OpsE_nil ?_
      refine ⟨j + 1, ?_, by omega, hj'⟩
      rw [countM_succ hj', if_pos hk', wrap_succ (by omega)]
      rfl
    · have hk' : ¬ l[j].read.kind = 1 := by simpa using hk
      repeat (first | refine R_seq ?_ | refine R_block ?_ | refine R_skip ?_)
      refine R_region ?_
      iterate 2 ((refine OpsE_do rfl ?_; first | refine E_move rfl ?_ | refine E_loadi (ds := [_, _, _, _, _, _, _, _, _, _]) (d := .agg [_, _, _, _, _, _, _, _, _, _]) ag53 sz53 rfl rfl rfl rfl ?_ | refine E_loadp (ds := [_, _, _, _, _, _, _, _, _, _]) (v := .dat (.agg [_, _, _, _, _, _, _, _, _, _])) ag53 sz53 rfl rfl rfl rfl rfl ?_ | refine E_loadp (ds := [_, _, _, _, _, _, _, _, _, _]) (v := .agg [_, _, _, _, _, _, _, _, _, _]) ag53 sz53 rfl rfl rfl rfl rfl ?_); refine OpsE_eq (st' := _) (by first | dsimp only [n0, n1, n2, n3, n4, n5, n6, n7, n8, n9, m0, m1, m2, m3, m4, m5, m6, m7, m8, m9, o0, o1, o2, o3, o4, ↓reduceIte] | rfl) ?_)
      (refine OpsE_do rfl ?_; (first | refine E_call rfl rfl rfl (c38 l[j] _ (Nat.le_trans (hd _ (List.getElem_mem hj')) (by decide))) ?_ | refine E_callfn rfl rfl rfl (c38 l[j] _ (Nat.le_trans (hd _ (List.getElem_mem hj')) (by decide))) ?_); refine OpsE_eq (st' := _) (by first | dsimp only [n0, n1, n2, n3, n4, n5, n6, n7, n8, n9, m0, m1, m2, m3, m4, m5, m6, m7, m8, m9, o0, o1, o2, o3, o4, ↓reduceIte] | rfl) ?_)
      iterate 2 ((refine OpsE_do rfl ?_; first | refine E_int rfl rfl rfl rfl ?_ | refine E_assign rfl rfl ?_); refine OpsE_eq (st' := _) (by first | dsimp only [n0, n1, n2, n3, n4, n5, n6, n7, n8, n9, m0, m1, m2, m3, m4, m5, m6, m7, m8, m9, o0, o1, o2, o3, o4, ↓reduceIte] | rfl) ?_)
      refine OpsE_nil ?_
      repeat (first | refine R_seq ?_ | refine R_block ?_ | refine R_skip ?_)
      refine R_region ?_
      iterate 2 ((refine OpsE_do rfl ?_; first | refine E_int rfl rfl rfl rfl ?_ | refine E_move rfl ?_); refine OpsE_eq (st' := _) (by first | dsimp only [n0, n1, n2, n3, n4, n5, n6, n7, n8, n9, m0, m1, m2, m3, m4, m5, m6, m7, m8, m9, o0, o1, o2, o3, o4, ↓reduceIte] | rfl) ?_)
      refine OpsE_nil ?_
      refine ⟨j + 1, ?_, by omega, hj'⟩
      rw [countM_succ hj', if_neg hk', wrap_succ (by omega)]
      rfl
  · have hj' : j = l.length := by simp at h; omega
    subst hj'
    repeat (first | refine R_seq ?_ | refine R_block ?_ | refine R_skip ?_)
    refine R_exit ?_
    repeat (first | refine R_seq ?_ | refine R_block ?_ | refine R_skip ?_)
    refine R_region ?_
    iterate 4 ((refine OpsE_do rfl ?_; first | refine E_move rfl ?_ | refine E_assign rfl rfl ?_); refine OpsE_eq (st' := _) (by first | dsimp only [n0, n1, n2, n3, n4, n5, n6, n7, n8, n9, m0, m1, m2, m3, m4, m5, m6, m7, m8, m9, o0, o1, o2, o3, o4, ↓reduceIte] | rfl) ?_)
    refine OpsE_nil ?_
    repeat (first | refine R_seq ?_ | refine R_block ?_ | refine R_skip ?_)
    refine R_ret ?_
    refine ⟨trivial, _, rfl, ?_⟩
    rw [List.take_length]
    rfl
end Go.Proofs.Try
