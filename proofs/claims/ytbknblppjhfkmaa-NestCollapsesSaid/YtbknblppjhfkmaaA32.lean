/-
  Seat a: the law of collapsed nests, on the machine.
-/
import Derived.Test.YtbknblppjhfkmaaA31
import Derived.Test.YtbknblppjhfkmaaA16
namespace Go.Proofs.Try
open Go Go.Pm
set_option linter.unusedVariables false
set_option linter.unusedSimpArgs false
set_option maxRecDepth 2000

theorem c14v {l : List Nst} (h : ∀ n ∈ l, SmallN n) (hl : l.length ≤ 1000) (t : Nat) (H : List Blk) : PC prog env 14 [.vec t (l.map Nst.toD)] H (.dat (evtsD (eventsL l))) H :=
  PC_lend (ds := [nestsD l]) rfl (by kernel_rfl) (c14L h hl []) rfl (fun h => by cases h)

theorem c6_big (l : List Nst) (hl : lensOk l) (hs : smallsB l 100 = false) : PC prog env 6 [.dat (nestsD l)] [] (boolPV true) [] := by
  refine PC_pure (fn := f6) (by kernel_rfl) rfl rfl (by kernel_rfl) rfl rfl ?_ (by simp [PV.lends])
  refine R_eq (st' := ⟨[.dat (nestsD l), .tup [], .tup [], .tup [], .tup [], .tup [], .tup [], .tup [], .tup [], .tup [], .tup [], .tup [], .tup [], .tup [], .tup [], .tup [], .tup [], .tup [], .tup [], .tup [], .tup [], .tup [], .tup [], .tup [], .tup [], .tup [], .tup [], .tup [], .tup [], .tup [], .tup [], .tup [], .tup []], []⟩) rfl ?_
  repeat (first | refine R_seq ?_ | refine R_block ?_ | refine R_skip ?_)
  refine R_region ?_
  (refine OpsE_do rfl ?_; refine E_assign rfl rfl ?_; refine OpsE_eq (st' := _) (by first | dsimp only [n0, n1, n2, n3, n4, n5, n6, n7, n8, n9, m0, m1, m2, m3, m4, m5, m6, m7, m8, m9, o0, o1, o2, o3, o4, ↓reduceIte] | rfl) ?_)
  refine OpsE_nil ?_
  repeat (first | refine R_seq ?_ | refine R_block ?_ | refine R_skip ?_)
  refine R_region ?_
  (refine OpsE_do rfl ?_; (first | refine E_call rfl rfl rfl (c10 _) ?_ | refine E_callfn rfl rfl rfl (c10 _) ?_); refine OpsE_eq (st' := _) (by first | dsimp only [n0, n1, n2, n3, n4, n5, n6, n7, n8, n9, m0, m1, m2, m3, m4, m5, m6, m7, m8, m9, o0, o1, o2, o3, o4, ↓reduceIte] | rfl) ?_)
  iterate 3 ((first | (refine OpsE_do rfl ?_; first | refine E_not rfl rfl ?_ | refine E_move rfl ?_) | refine OpsE_not rfl ?_); refine OpsE_eq (st' := _) (by first | dsimp only [n0, n1, n2, n3, n4, n5, n6, n7, n8, n9, m0, m1, m2, m3, m4, m5, m6, m7, m8, m9, o0, o1, o2, o3, o4, ↓reduceIte] | rfl) ?_)
  ((first | (refine OpsE_do rfl ?_; (first | refine E_call rfl rfl rfl (c11 _ _ _ hl) ?_ | refine E_callfn rfl rfl rfl (c11 _ _ _ hl) ?_)) | refine OpsE_not rfl ?_); refine OpsE_eq (st' := _) (by first | dsimp only [n0, n1, n2, n3, n4, n5, n6, n7, n8, n9, m0, m1, m2, m3, m4, m5, m6, m7, m8, m9, o0, o1, o2, o3, o4, ↓reduceIte] | rfl) ?_)
  iterate 2 ((first | (refine OpsE_do rfl ?_; first | refine E_not rfl rfl ?_ | refine E_pick rfl rfl ?_) | refine OpsE_not rfl ?_); refine OpsE_eq (st' := _) (by first | dsimp only [n0, n1, n2, n3, n4, n5, n6, n7, n8, n9, m0, m1, m2, m3, m4, m5, m6, m7, m8, m9, o0, o1, o2, o3, o4, ↓reduceIte] | rfl) ?_)
  refine OpsE_nil ?_
  rw [hs]
  repeat (first | refine R_seq ?_ | refine R_block ?_ | refine R_skip ?_)
  refine R_true rfl ?_
  repeat (first | refine R_seq ?_ | refine R_block ?_ | refine R_skip ?_)
  refine R_region ?_
  (refine OpsE_do rfl ?_; (first | refine E_call rfl rfl rfl (c10 _) ?_ | refine E_callfn rfl rfl rfl (c10 _) ?_); refine OpsE_eq (st' := _) (by first | dsimp only [n0, n1, n2, n3, n4, n5, n6, n7, n8, n9, m0, m1, m2, m3, m4, m5, m6, m7, m8, m9, o0, o1, o2, o3, o4, ↓reduceIte] | rfl) ?_)
  (refine OpsE_do rfl ?_; refine E_assign rfl rfl ?_; refine OpsE_eq (st' := _) (by first | dsimp only [n0, n1, n2, n3, n4, n5, n6, n7, n8, n9, m0, m1, m2, m3, m4, m5, m6, m7, m8, m9, o0, o1, o2, o3, o4, ↓reduceIte] | rfl) ?_)
  refine OpsE_nil ?_
  repeat (first | refine R_seq ?_ | refine R_block ?_ | refine R_skip ?_)
  refine R_ret ?_
  exact ⟨trivial, _, rfl, rfl⟩

theorem c6_small (l : List Nst) (hl : lensOk l) (hs : smallsB l 100 = true) : PC prog env 6 [.dat (nestsD l)] [] (boolPV true) [] := by
  refine PC_pure (fn := f6) (by kernel_rfl) rfl rfl (by kernel_rfl) rfl rfl ?_ (by simp [PV.lends])
  obtain ⟨hlen, hS⟩ := smalls_of hs
  have hC : ∀ n ∈ l.map collapseM, SmallN n := fun n hn => by
    obtain ⟨m, hm, rfl⟩ := List.mem_map.1 hn
    exact (collapse_small (hS m hm)).1
  have hE : eventsL (l.map collapseM) = eventsL l := by
    rw [eventsL, eventsL, List.flatMap_map, List.flatMap_def, List.flatMap_def]
    congr 1
    exact List.map_congr_left fun m hm => (collapse_small (hS m hm)).2
  have hfew : (eventsL l).length ≤ 100 * l.length := eventsL_len hS
  refine R_eq (st' := ⟨[.dat (nestsD l), .tup [], .tup [], .tup [], .tup [], .tup [], .tup [], .tup [], .tup [], .tup [], .tup [], .tup [], .tup [], .tup [], .tup [], .tup [], .tup [], .tup [], .tup [], .tup [], .tup [], .tup [], .tup [], .tup [], .tup [], .tup [], .tup [], .tup [], .tup [], .tup [], .tup [], .tup [], .tup []], []⟩) rfl ?_
  repeat (first | refine R_seq ?_ | refine R_block ?_ | refine R_skip ?_)
  refine R_region ?_
  (refine OpsE_do rfl ?_; refine E_assign rfl rfl ?_; refine OpsE_eq (st' := _) (by first | dsimp only [n0, n1, n2, n3, n4, n5, n6, n7, n8, n9, m0, m1, m2, m3, m4, m5, m6, m7, m8, m9, o0, o1, o2, o3, o4, ↓reduceIte] | rfl) ?_)
  refine OpsE_nil ?_
  repeat (first | refine R_seq ?_ | refine R_block ?_ | refine R_skip ?_)
  refine R_region ?_
  (refine OpsE_do rfl ?_; (first | refine E_call rfl rfl rfl (c10 _) ?_ | refine E_callfn rfl rfl rfl (c10 _) ?_); refine OpsE_eq (st' := _) (by first | dsimp only [n0, n1, n2, n3, n4, n5, n6, n7, n8, n9, m0, m1, m2, m3, m4, m5, m6, m7, m8, m9, o0, o1, o2, o3, o4, ↓reduceIte] | rfl) ?_)
  iterate 3 ((first | (refine OpsE_do rfl ?_; first | refine E_not rfl rfl ?_ | refine E_move rfl ?_) | refine OpsE_not rfl ?_); refine OpsE_eq (st' := _) (by first | dsimp only [n0, n1, n2, n3, n4, n5, n6, n7, n8, n9, m0, m1, m2, m3, m4, m5, m6, m7, m8, m9, o0, o1, o2, o3, o4, ↓reduceIte] | rfl) ?_)
  ((first | (refine OpsE_do rfl ?_; (first | refine E_call rfl rfl rfl (c11 _ _ _ hl) ?_ | refine E_callfn rfl rfl rfl (c11 _ _ _ hl) ?_)) | refine OpsE_not rfl ?_); refine OpsE_eq (st' := _) (by first | dsimp only [n0, n1, n2, n3, n4, n5, n6, n7, n8, n9, m0, m1, m2, m3, m4, m5, m6, m7, m8, m9, o0, o1, o2, o3, o4, ↓reduceIte] | rfl) ?_)
  iterate 2 ((first | (refine OpsE_do rfl ?_; first | refine E_not rfl rfl ?_ | refine E_pick rfl rfl ?_) | refine OpsE_not rfl ?_); refine OpsE_eq (st' := _) (by first | dsimp only [n0, n1, n2, n3, n4, n5, n6, n7, n8, n9, m0, m1, m2, m3, m4, m5, m6, m7, m8, m9, o0, o1, o2, o3, o4, ↓reduceIte] | rfl) ?_)
  refine OpsE_nil ?_
  rw [hs]
  repeat (first | refine R_seq ?_ | refine R_block ?_ | refine R_skip ?_)
  refine R_false rfl ?_
  repeat (first | refine R_seq ?_ | refine R_block ?_ | refine R_skip ?_)
  refine R_region ?_
  (refine OpsE_do rfl ?_; refine E_own rfl rfl ?_; refine OpsE_eq (st' := _) (by first | dsimp only [n0, n1, n2, n3, n4, n5, n6, n7, n8, n9, m0, m1, m2, m3, m4, m5, m6, m7, m8, m9, o0, o1, o2, o3, o4, ↓reduceIte] | rfl) ?_)
  refine OpsE_nil ?_
  repeat (first | refine R_seq ?_ | refine R_block ?_ | refine R_skip ?_)
  refine R_region ?_
  (refine OpsE_do rfl ?_; refine E_assign rfl rfl ?_; refine OpsE_eq (st' := _) (by first | dsimp only [n0, n1, n2, n3, n4, n5, n6, n7, n8, n9, m0, m1, m2, m3, m4, m5, m6, m7, m8, m9, o0, o1, o2, o3, o4, ↓reduceIte] | rfl) ?_)
  refine OpsE_nil ?_
  repeat (first | refine R_seq ?_ | refine R_block ?_ | refine R_skip ?_)
  refine R_loop ?_
  refine RL_ind (fun (j : Nat) => ⟨[.dat (nestsD l), .undef, .undef, .vec 0 (((l.take j).map collapseM).map Nst.toD), intPV (j : Int), .undef, .undef, .undef, .undef, .undef, .undef, .undef, .undef, .undef, .undef, .undef, .undef, .undef, .undef, .undef, .undef, .undef, .undef, .undef, .undef, .undef, .undef, .undef, .undef, .undef, .undef, .undef, .undef], [.tok 53 (((l.take j).map collapseM).map Nst.toD).length]⟩)
    (fun j => j ≤ l.length) (fun j => l.length - j) (fun j hj => ?_) _ 0 _ (Nat.lt_succ_self _) (Nat.zero_le _) rfl
  repeat (first | refine R_seq ?_ | refine R_block ?_ | refine R_skip ?_)
  refine R_region ?_
  iterate 4 ((refine OpsE_do rfl ?_; first | refine E_move rfl ?_ | refine E_len un22 rfl rfl ?_ | refine E_int rfl rfl rfl rfl ?_); refine OpsE_eq (st' := _) (by first | dsimp only [n0, n1, n2, n3, n4, n5, n6, n7, n8, n9, m0, m1, m2, m3, m4, m5, m6, m7, m8, m9, o0, o1, o2, o3, o4, ↓reduceIte] | rfl) ?_)
  refine OpsE_nil ?_
  repeat (first | refine R_seq ?_ | refine R_block ?_ | refine R_skip ?_)
  refine R_if rfl (fun h => ?_) (fun h => ?_)
  · have hj' : j < l.length := by simpa using h
    have hn := hS _ (List.getElem_mem hj')
    repeat (first | refine R_seq ?_ | refine R_block ?_ | refine R_skip ?_)
    refine R_region ?_
    iterate 3 ((refine OpsE_do rfl ?_; refine E_move rfl ?_); refine OpsE_eq (st' := _) (by first | dsimp only [n0, n1, n2, n3, n4, n5, n6, n7, n8, n9, m0, m1, m2, m3, m4, m5, m6, m7, m8, m9, o0, o1, o2, o3, o4, ↓reduceIte] | rfl) ?_)
    (refine OpsE_do rfl ?_; (first | refine E_index el22 sz59 rfl rfl rfl rfl (nests_get hj') rfl ?_ | refine E_index0 el22 sz59 rfl rfl rfl rfl (nests_get hj') ?_ | refine E_indexArr el22 sz59 rfl rfl rfl rfl (nests_get hj') ?_); refine OpsE_eq (st' := _) (by first | dsimp only [n0, n1, n2, n3, n4, n5, n6, n7, n8, n9, m0, m1, m2, m3, m4, m5, m6, m7, m8, m9, o0, o1, o2, o3, o4, ↓reduceIte] | rfl) ?_)
    (refine OpsE_do rfl ?_; (first | refine E_loadi (ds := [_, _, _, _, _, _, _, _, _, _]) (d := .agg [_, _, _, _, _, _, _, _, _, _]) ag59 sz59 rfl rfl rfl rfl ?_ | refine E_loadp (ds := [_, _, _, _, _, _, _, _, _, _]) (v := .dat (.agg [_, _, _, _, _, _, _, _, _, _])) ag59 sz59 rfl rfl rfl rfl rfl ?_ | refine E_loadp (ds := [_, _, _, _, _, _, _, _, _, _]) (v := .agg [_, _, _, _, _, _, _, _, _, _]) ag59 sz59 rfl rfl rfl rfl rfl ?_); refine OpsE_eq (st' := _) (by first | dsimp only [n0, n1, n2, n3, n4, n5, n6, n7, n8, n9, m0, m1, m2, m3, m4, m5, m6, m7, m8, m9, o0, o1, o2, o3, o4, ↓reduceIte] | rfl) ?_)
    (refine OpsE_do rfl ?_; (first | refine E_call rfl rfl rfl (c23 l[j] _) ?_ | refine E_callfn rfl rfl rfl (c23 l[j] _) ?_); refine OpsE_eq (st' := _) (by first | dsimp only [n0, n1, n2, n3, n4, n5, n6, n7, n8, n9, m0, m1, m2, m3, m4, m5, m6, m7, m8, m9, o0, o1, o2, o3, o4, ↓reduceIte] | rfl) ?_)
    (refine OpsE_do rfl ?_; (first | refine E_call rfl rfl rfl (c22 l[j] _ (by have := hn.dims; omega) hn.steps (by by_cases hk : l[j].read.kind = 1; exact Or.inl (hn.fill hk); exact Or.inr (hn.strides hk))) ?_ | refine E_callfn rfl rfl rfl (c22 l[j] _ (by have := hn.dims; omega) hn.steps (by by_cases hk : l[j].read.kind = 1; exact Or.inl (hn.fill hk); exact Or.inr (hn.strides hk))) ?_); refine OpsE_eq (st' := _) (by first | dsimp only [n0, n1, n2, n3, n4, n5, n6, n7, n8, n9, m0, m1, m2, m3, m4, m5, m6, m7, m8, m9, o0, o1, o2, o3, o4, ↓reduceIte] | rfl) ?_)
    (refine OpsE_do rfl ?_; refine E_list el30 sz53 zi53 rfl rfl rfl ⟨rfl, rfl⟩ rfl ⟨by decide, by decide⟩ rfl ?_; refine OpsE_eq (st' := _) (by first | dsimp only [n0, n1, n2, n3, n4, n5, n6, n7, n8, n9, m0, m1, m2, m3, m4, m5, m6, m7, m8, m9, o0, o1, o2, o3, o4, ↓reduceIte] | rfl) ?_)
    (refine OpsE_do rfl ?_; refine E_append el30 sz53 by53 zn53 ⟨by decide, by decide⟩ rfl rfl rfl rfl rfl (nests_fit _) rfl (by simp [room]; omega) ?_; refine OpsE_eq (st' := _) (by first | dsimp only [n0, n1, n2, n3, n4, n5, n6, n7, n8, n9, m0, m1, m2, m3, m4, m5, m6, m7, m8, m9, o0, o1, o2, o3, o4, ↓reduceIte] | rfl) ?_)
    (refine OpsE_do rfl ?_; refine E_assign rfl rfl ?_; refine OpsE_eq (st' := _) (by first | dsimp only [n0, n1, n2, n3, n4, n5, n6, n7, n8, n9, m0, m1, m2, m3, m4, m5, m6, m7, m8, m9, o0, o1, o2, o3, o4, ↓reduceIte] | rfl) ?_)
    refine OpsE_nil ?_
    repeat (first | refine R_seq ?_ | refine R_block ?_ | refine R_skip ?_)
    refine R_region ?_
    iterate 3 ((refine OpsE_do rfl ?_; first | refine E_move rfl ?_ | refine E_int rfl rfl rfl rfl ?_ | refine E_assign rfl rfl ?_); refine OpsE_eq (st' := _) (by first | dsimp only [n0, n1, n2, n3, n4, n5, n6, n7, n8, n9, m0, m1, m2, m3, m4, m5, m6, m7, m8, m9, o0, o1, o2, o3, o4, ↓reduceIte] | rfl) ?_)
    refine OpsE_nil ?_
    refine ⟨j + 1, ?_, by omega, hj'⟩
    rw [List.take_succ_eq_append_getElem hj', List.map_append, List.map_append, List.length_append, wrap_succ (by omega)]
    rfl
  · have hj' : j = l.length := by simp at h; omega
    subst hj'
    repeat (first | refine R_seq ?_ | refine R_block ?_ | refine R_skip ?_)
    refine R_exit ?_
    rw [List.take_length]
    repeat (first | refine R_seq ?_ | refine R_block ?_ | refine R_skip ?_)
    refine R_region ?_
    (refine OpsE_do rfl ?_; refine E_move rfl ?_; refine OpsE_eq (st' := _) (by first | dsimp only [n0, n1, n2, n3, n4, n5, n6, n7, n8, n9, m0, m1, m2, m3, m4, m5, m6, m7, m8, m9, o0, o1, o2, o3, o4, ↓reduceIte] | rfl) ?_)
    (refine OpsE_do rfl ?_; (first | refine E_call rfl rfl rfl (c14v hC (by simp; omega) _ _) ?_ | refine E_callfn rfl rfl rfl (c14v hC (by simp; omega) _ _) ?_); refine OpsE_eq (st' := _) (by first | dsimp only [n0, n1, n2, n3, n4, n5, n6, n7, n8, n9, m0, m1, m2, m3, m4, m5, m6, m7, m8, m9, o0, o1, o2, o3, o4, ↓reduceIte] | rfl) ?_)
    (refine OpsE_do rfl ?_; refine E_move rfl ?_; refine OpsE_eq (st' := _) (by first | dsimp only [n0, n1, n2, n3, n4, n5, n6, n7, n8, n9, m0, m1, m2, m3, m4, m5, m6, m7, m8, m9, o0, o1, o2, o3, o4, ↓reduceIte] | rfl) ?_)
    (refine OpsE_do rfl ?_; (first | refine E_call rfl rfl rfl (c12L hS (by omega) _) ?_ | refine E_callfn rfl rfl rfl (c12L hS (by omega) _) ?_); refine OpsE_eq (st' := _) (by first | dsimp only [n0, n1, n2, n3, n4, n5, n6, n7, n8, n9, m0, m1, m2, m3, m4, m5, m6, m7, m8, m9, o0, o1, o2, o3, o4, ↓reduceIte] | rfl) ?_)
    (refine OpsE_do rfl ?_; (first | refine E_call rfl rfl rfl (by rw [hE]; exact c13t _ _ (by omega)) ?_ | refine E_callfn rfl rfl rfl (by rw [hE]; exact c13t _ _ (by omega)) ?_); refine OpsE_eq (st' := _) (by first | dsimp only [n0, n1, n2, n3, n4, n5, n6, n7, n8, n9, m0, m1, m2, m3, m4, m5, m6, m7, m8, m9, o0, o1, o2, o3, o4, ↓reduceIte] | rfl) ?_)
    (refine OpsE_do rfl ?_; refine E_assign rfl rfl ?_; refine OpsE_eq (st' := _) (by first | dsimp only [n0, n1, n2, n3, n4, n5, n6, n7, n8, n9, m0, m1, m2, m3, m4, m5, m6, m7, m8, m9, o0, o1, o2, o3, o4, ↓reduceIte] | rfl) ?_)
    refine OpsE_nil ?_
    repeat (first | refine R_seq ?_ | refine R_block ?_ | refine R_skip ?_)
    refine R_ret ?_
    exact ⟨trivial, _, rfl, rfl⟩

/-- the law of collapsed nests, on the machine -/
theorem c6 (l : List Nst) (hl : lensOk l) : PC prog env 6 [.dat (nestsD l)] [] (boolPV true) [] := by
  cases hs : smallsB l 100 with
  | false => exact c6_big l hl hs
  | true => exact c6_small l hl hs
end Go.Proofs.Try
