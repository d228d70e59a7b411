/-
  Seat a: nests collapsed.
-/
import Derived.Test.YtbknblppjhfkmaaA15
namespace Go.Proofs.Try
open Go Go.Pm
set_option linter.unusedVariables false
set_option linter.unusedSimpArgs false
set_option maxRecDepth 2000

/-- the elements of a list at the places of dimensions other than 1 -/
def selM (l dims : List Int) : List Int := ((l.zip dims).filter fun x => x.2 != 1).map (·.1)
theorem zip_take {l dims : List Int} {j : Nat} (h : j < l.length) (hd : j < dims.length) : (l.take (j + 1)).zip dims = (l.take j).zip dims ++ [(l[j], dims[j])] := by
  have e : ∀ (a b : List Int) (n : Nat), (a.take n).zip b = (a.zip b).take n := by
    intro a
    induction a with
    | nil => intro b n; simp
    | cons x a ih => intro b n; cases n <;> cases b <;> simp [ih]
  rw [e, e, List.take_succ_eq_append_getElem (by simp; omega)]
  simp
theorem selM_succ {l dims : List Int} {j : Nat} (h : j < l.length) (hd : j < dims.length) : selM (l.take (j + 1)) dims = if dims[j] = 1 then selM (l.take j) dims else selM (l.take j) dims ++ [l[j]] := by
  rw [selM, selM, zip_take h hd, List.filter_append, List.map_append]
  by_cases h1 : dims[j] = 1 <;> simp [h1]
theorem selM_len (l dims : List Int) : (selM l dims).length ≤ l.length := by
  have h1 := List.length_filter_le (fun x : Int × Int => x.2 != 1) (l.zip dims)
  rw [selM, List.length_map]; simp at h1; omega

theorem c39 (l dims : List Int) (h : l.length ≤ dims.length) (hl : l.length ≤ 1048576) :
    PC prog env 39 [.dat (intsD l), .dat (intsD dims)] [] (.ms 0 (selM l dims).length 0 (selM l dims).length (selM l dims).length) [.mt 3 (selM l dims).length (cellsOf intD (selM l dims))] := by
  refine PC_body (fn := f39) (by kernel_rfl) rfl rfl (by kernel_rfl) rfl ?_
  refine R_eq (st' := ⟨[.dat (intsD l), .dat (intsD dims), .tup [], .tup [], .tup [], .tup [], .tup [], .tup [], .tup [], .tup [], .tup [], .tup [], .tup [], .tup [], .tup [], .tup [], .tup [], .tup [], .tup [], .tup [], .tup [], .tup [], .tup [], .tup [], .tup [], .tup []], []⟩) rfl ?_
  repeat (first | refine R_seq ?_ | refine R_block ?_ | refine R_skip ?_)
  refine R_region ?_
  (refine OpsE_do rfl ?_; refine E_assign rfl rfl ?_; refine OpsE_eq (st' := _) (by first | dsimp only [n0, n1, n2, n3, n4, n5, n6, n7, n8, n9, m0, m1, m2, m3, m4, m5, m6, m7, m8, m9, o0, o1, o2, o3, o4, ↓reduceIte] | rfl) ?_)
  refine OpsE_nil ?_
  repeat (first | refine R_seq ?_ | refine R_block ?_ | refine R_skip ?_)
  refine R_region ?_
  (refine OpsE_do rfl ?_; refine E_ownMt rfl rfl ?_; refine OpsE_eq (st' := _) (by first | dsimp only [n0, n1, n2, n3, n4, n5, n6, n7, n8, n9, m0, m1, m2, m3, m4, m5, m6, m7, m8, m9, o0, o1, o2, o3, o4, ↓reduceIte] | rfl) ?_)
  refine OpsE_nil ?_
  repeat (first | refine R_seq ?_ | refine R_block ?_ | refine R_skip ?_)
  refine R_region ?_
  iterate 3 ((refine OpsE_do rfl ?_; first | refine E_move rfl ?_ | refine E_len un49 rfl rfl ?_); refine OpsE_eq (st' := _) (by first | dsimp only [n0, n1, n2, n3, n4, n5, n6, n7, n8, n9, m0, m1, m2, m3, m4, m5, m6, m7, m8, m9, o0, o1, o2, o3, o4, ↓reduceIte] | rfl) ?_)
  refine OpsE_nil ?_
  repeat (first | refine R_seq ?_ | refine R_block ?_ | refine R_skip ?_)
  refine R_loop ?_
  refine RL_ind (fun (j : Nat) => ⟨[.undef, .dat (intsD dims), .undef, .undef, .undef, .ms 0 (selM (l.take j) dims).length 0 (selM (l.take j) dims).length (selM (l.take j) dims).length, .undef, .undef, .dat (intsD l), intPV (l.map intD).length, intPV (j : Int), .undef, .undef, .undef, .undef, .undef, .undef, .undef, .undef, .undef, .undef, .undef, .undef, .undef, .undef, .undef], [.mt 3 (selM (l.take j) dims).length (cellsOf intD (selM (l.take j) dims))]⟩)
    (fun j => j ≤ l.length) (fun j => l.length - j) (fun j hj => ?_) _ 0 _ (Nat.lt_succ_self _) (Nat.zero_le _) rfl
  repeat (first | refine R_seq ?_ | refine R_block ?_ | refine R_skip ?_)
  refine R_region ?_
  (refine OpsE_do rfl ?_; (first | refine E_int rfl rfl rfl rfl ?_ | refine E_bin rfl rfl rfl rfl ?_); refine OpsE_eq (st' := _) (by first | dsimp only [n0, n1, n2, n3, n4, n5, n6, n7, n8, n9, m0, m1, m2, m3, m4, m5, m6, m7, m8, m9, o0, o1, o2, o3, o4, ↓reduceIte] | rfl) ?_)
  refine OpsE_nil ?_
  repeat (first | refine R_seq ?_ | refine R_block ?_ | refine R_skip ?_)
  refine R_if rfl (fun hlt => ?_) (fun hlt => ?_)
  · have hj' : j < l.length := by simpa using hlt
    have hjd : j < dims.length := by omega
    have hsl := selM_len (l.take j) dims
    rw [List.length_take] at hsl
    repeat (first | refine R_seq ?_ | refine R_block ?_ | refine R_skip ?_)
    refine R_region ?_
    (refine OpsE_do rfl ?_; refine E_move rfl ?_; refine OpsE_eq (st' := _) (by first | dsimp only [n0, n1, n2, n3, n4, n5, n6, n7, n8, n9, m0, m1, m2, m3, m4, m5, m6, m7, m8, m9, o0, o1, o2, o3, o4, ↓reduceIte] | rfl) ?_)
    (refine OpsE_do rfl ?_; (first | refine E_index el49 sz3 rfl rfl rfl rfl (ints_get hj') rfl ?_ | refine E_index0 el49 sz3 rfl rfl rfl rfl (ints_get hj') ?_ | refine E_indexArr el49 sz3 rfl rfl rfl rfl (ints_get hj') ?_); refine OpsE_eq (st' := _) (by first | dsimp only [n0, n1, n2, n3, n4, n5, n6, n7, n8, n9, m0, m1, m2, m3, m4, m5, m6, m7, m8, m9, o0, o1, o2, o3, o4, ↓reduceIte] | rfl) ?_)
    iterate 3 ((refine OpsE_do rfl ?_; first | refine E_loadi (ds := [_]) ag3 sz3 rfl rfl rfl rfl ?_ | refine E_loadp (ds := [_]) ag3 sz3 rfl rfl rfl rfl rfl ?_ | refine E_assign rfl rfl ?_); refine OpsE_eq (st' := _) (by first | dsimp only [n0, n1, n2, n3, n4, n5, n6, n7, n8, n9, m0, m1, m2, m3, m4, m5, m6, m7, m8, m9, o0, o1, o2, o3, o4, ↓reduceIte] | rfl) ?_)
    refine OpsE_nil ?_
    repeat (first | refine R_seq ?_ | refine R_block ?_ | refine R_skip ?_)
    refine R_region ?_
    iterate 2 ((refine OpsE_do rfl ?_; refine E_move rfl ?_); refine OpsE_eq (st' := _) (by first | dsimp only [n0, n1, n2, n3, n4, n5, n6, n7, n8, n9, m0, m1, m2, m3, m4, m5, m6, m7, m8, m9, o0, o1, o2, o3, o4, ↓reduceIte] | rfl) ?_)
    (refine OpsE_do rfl ?_; (first | refine E_index el49 sz3 rfl rfl rfl rfl (ints_get hjd) rfl ?_ | refine E_index0 el49 sz3 rfl rfl rfl rfl (ints_get hjd) ?_ | refine E_indexArr el49 sz3 rfl rfl rfl rfl (ints_get hjd) ?_); refine OpsE_eq (st' := _) (by first | dsimp only [n0, n1, n2, n3, n4, n5, n6, n7, n8, n9, m0, m1, m2, m3, m4, m5, m6, m7, m8, m9, o0, o1, o2, o3, o4, ↓reduceIte] | rfl) ?_)
    iterate 2 ((refine OpsE_do rfl ?_; first | refine E_loadi (ds := [_]) ag3 sz3 rfl rfl rfl rfl ?_ | refine E_loadp (ds := [_]) ag3 sz3 rfl rfl rfl rfl rfl ?_ | refine E_int rfl rfl rfl rfl ?_); refine OpsE_eq (st' := _) (by first | dsimp only [n0, n1, n2, n3, n4, n5, n6, n7, n8, n9, m0, m1, m2, m3, m4, m5, m6, m7, m8, m9, o0, o1, o2, o3, o4, ↓reduceIte] | rfl) ?_)
    refine OpsE_nil ?_
    by_cases h1 : dims[j] = 1
    · rw [show (dims[j] != 1) = false by simp [h1]]
      repeat (first | refine R_seq ?_ | refine R_block ?_ | refine R_skip ?_)
      refine R_false rfl ?_
      repeat (first | refine R_seq ?_ | refine R_block ?_ | refine R_skip ?_)
      refine R_region ?_
      iterate 2 ((refine OpsE_do rfl ?_; first | refine E_int rfl rfl rfl rfl ?_ | refine E_move rfl ?_); refine OpsE_eq (st' := _) (by first | dsimp only [n0, n1, n2, n3, n4, n5, n6, n7, n8, n9, m0, m1, m2, m3, m4, m5, m6, m7, m8, m9, o0, o1, o2, o3, o4, ↓reduceIte] | rfl) ?_)
      refine OpsE_nil ?_
      refine ⟨j + 1, ?_, by omega, hj'⟩
      rw [selM_succ hj' hjd, if_pos h1, wrap_succ (by omega)]
      exact congrArg (fun b => (⟨_, [b]⟩ : St)) (purge_mt intD _ _ _ _ _)
    · rw [show (dims[j] != 1) = true by simp [h1]]
      repeat (first | refine R_seq ?_ | refine R_block ?_ | refine R_skip ?_)
      refine R_true rfl ?_
      repeat (first | refine R_seq ?_ | refine R_block ?_ | refine R_skip ?_)
      refine R_region ?_
      iterate 3 ((refine OpsE_do rfl ?_; first | refine E_move rfl ?_ | refine E_list el49 sz3 zi3 rfl rfl rfl ⟨rfl, rfl⟩ rfl ⟨by decide, by decide⟩ rfl ?_); refine OpsE_eq (st' := _) (by first | dsimp only [n0, n1, n2, n3, n4, n5, n6, n7, n8, n9, m0, m1, m2, m3, m4, m5, m6, m7, m8, m9, o0, o1, o2, o3, o4, ↓reduceIte] | rfl) ?_)
      (refine OpsE_do rfl ?_; refine E_appendMs el49 sz3 by3 zn3 (by decide) rfl rfl (source_lst (f := intD) (l := [l[j]]) (fun _ => rfl)) (ms_append_grow (fun _ => rfl) (mtOf_at rfl) (by simp) rfl (by simp [room]; omega)) ?_; refine OpsE_eq (st' := _) (by first | dsimp only [n0, n1, n2, n3, n4, n5, n6, n7, n8, n9, m0, m1, m2, m3, m4, m5, m6, m7, m8, m9, o0, o1, o2, o3, o4, ↓reduceIte] | rfl) ?_)
      (refine OpsE_do rfl ?_; refine E_assign rfl rfl ?_; refine OpsE_eq (st' := _) (by first | dsimp only [n0, n1, n2, n3, n4, n5, n6, n7, n8, n9, m0, m1, m2, m3, m4, m5, m6, m7, m8, m9, o0, o1, o2, o3, o4, ↓reduceIte] | rfl) ?_)
      refine OpsE_nil ?_
      repeat (first | refine R_seq ?_ | refine R_block ?_ | refine R_skip ?_)
      refine R_region ?_
      iterate 2 ((refine OpsE_do rfl ?_; first | refine E_int rfl rfl rfl rfl ?_ | refine E_move rfl ?_); refine OpsE_eq (st' := _) (by first | dsimp only [n0, n1, n2, n3, n4, n5, n6, n7, n8, n9, m0, m1, m2, m3, m4, m5, m6, m7, m8, m9, o0, o1, o2, o3, o4, ↓reduceIte] | rfl) ?_)
      refine OpsE_nil ?_
      refine ⟨j + 1, ?_, by omega, hj'⟩
      rw [selM_succ hj' hjd, if_neg h1, List.length_append, wrap_succ (by omega)]
      exact congrArg (fun b => (⟨_, [b]⟩ : St)) (purge_mt intD _ _ _ _ _)
  · have hj' : j = l.length := by simp at hlt; omega
    subst hj'
    repeat (first | refine R_seq ?_ | refine R_block ?_ | refine R_skip ?_)
    refine R_exit ?_
    repeat (first | refine R_seq ?_ | refine R_block ?_ | refine R_skip ?_)
    refine R_region ?_
    iterate 2 ((refine OpsE_do rfl ?_; first | refine E_move rfl ?_ | refine E_assign rfl rfl ?_); refine OpsE_eq (st' := _) (by first | dsimp only [n0, n1, n2, n3, n4, n5, n6, n7, n8, n9, m0, m1, m2, m3, m4, m5, m6, m7, m8, m9, o0, o1, o2, o3, o4, ↓reduceIte] | rfl) ?_)
    refine OpsE_nil ?_
    repeat (first | refine R_seq ?_ | refine R_block ?_ | refine R_skip ?_)
    refine R_ret ?_
    rw [List.take_length]
    exact ⟨trivial, _, rfl, rfl, rfl⟩

theorem drop_last (l : List Int) (q k : Nat) (hk : k + 1 < l.length) : (l ++ List.replicate q 0).take k ++ l.drop (k + 1) ++ (l ++ List.replicate q 0).drop (k + (l.drop (k + 1)).length) = l.eraseIdx k ++ (l.drop (l.length - 1) ++ List.replicate q 0) := by
  have e : k + (l.drop (k + 1)).length = l.length - 1 := by simp; omega
  rw [e, List.take_append_of_le_length (by omega), List.drop_append_of_le_length (by omega), List.eraseIdx_eq_take_drop_succ]
theorem erase_len (l : List Int) (k : Nat) (hk : k < l.length) : (l.eraseIdx k).length = l.length - 1 := by rw [List.length_eraseIdx, if_pos hk]

theorem c53 {t g cap q k len : Nat} (l : List Int) (H : List Blk) (hlen : l.length = len) (hm : mtOf H t = some (3, g, cellsOf intD (l ++ List.replicate q 0))) (hk : k + 1 < l.length) (hc : l.length ≤ cap) (hl : l.length ≤ 1048576) :
    PC prog env 53 [.ms t g 0 len cap, intPV (k : Int), intPV ((k + 1 : Nat) : Int)] H (.ms t g 0 (l.eraseIdx k).length cap) (H.set t (.mt 3 g (cellsOf intD (l.eraseIdx k ++ List.replicate (q + 1) 0)))) := by
  subst hlen
  have ht := mtOf_lt hm
  have hE : ((l ++ List.replicate q 0).drop (k + 1)).take (l.length - (k + 1)) = l.drop (k + 1) := by
    rw [List.drop_append_of_le_length (by omega)]
    exact List.take_left' (by simp)
  have hsrc : sourceOf H (.ms t g (k + 1) (l.length - (k + 1)) (cap - (k + 1))) = some (cellsOf intD (l.drop (k + 1))) := by
    rw [source_ms hm (by simp; omega), hE]
  have hel := erase_len l k (by omega)
  have ha : appendMs H 3 8 t g 0 k cap (cellsOf intD (l.drop (k + 1))) = some (.ms t g 0 (l.length - 1) cap, H.set t (.mt 3 g (cellsOf intD (l.eraseIdx k ++ (l.drop (l.length - 1) ++ List.replicate q 0))))) := by
    rw [ms_append_in (fun _ => rfl) hm (by simp; omega) (by simp; omega), drop_last l q k hk]
    have e : k + (l.drop (k + 1)).length = l.length - 1 := by simp; omega
    rw [e, Nat.max_eq_left (by omega)]
  refine PC_body (fn := f53) (by kernel_rfl) rfl rfl (by kernel_rfl) rfl ?_
  refine R_eq (st' := ⟨[.ms t g 0 l.length cap, intPV (k : Int), intPV ((k + 1 : Nat) : Int), .tup [], .tup [], .tup [], .tup [], .tup [], .tup [], .tup [], .tup [], .tup [], .tup [], .tup [], .tup [], .tup [], .tup [], .tup [], .tup [], .tup [], .tup [], .tup [], .tup [], .tup [], .tup [], .tup [], .tup [], .tup [], .tup [], .tup [], .tup [], .tup [], .tup []], H⟩) rfl ?_
  repeat (first | refine R_seq ?_ | refine R_block ?_ | refine R_skip ?_)
  refine R_region ?_
  (refine OpsE_do rfl ?_; refine E_assign rfl rfl ?_; refine OpsE_eq (st' := _) (by first | dsimp only [n0, n1, n2, n3, n4, n5, n6, n7, n8, n9, m0, m1, m2, m3, m4, m5, m6, m7, m8, m9, o0, o1, o2, o3, o4, ↓reduceIte] | rfl) ?_)
  refine OpsE_nil ?_
  repeat (first | refine R_seq ?_ | refine R_block ?_ | refine R_skip ?_)
  refine R_region ?_
  iterate 5 ((refine OpsE_do rfl ?_; first | refine E_move rfl ?_ | refine E_len un49 rfl rfl ?_); refine OpsE_eq (st' := _) (by first | dsimp only [n0, n1, n2, n3, n4, n5, n6, n7, n8, n9, m0, m1, m2, m3, m4, m5, m6, m7, m8, m9, o0, o1, o2, o3, o4, ↓reduceIte] | rfl) ?_)
  (refine OpsE_do rfl ?_; refine E_slice3 el49 sz3 rfl rfl (natOf_nat .i64 k) (natOf_nat .i64 (k + 1)) (natOf_nat .i64 l.length) (Nat.lt_succ_self k) (by omega) (Nat.le_refl _) ?_; refine OpsE_eq (st' := _) (by first | dsimp only [n0, n1, n2, n3, n4, n5, n6, n7, n8, n9, m0, m1, m2, m3, m4, m5, m6, m7, m8, m9, o0, o1, o2, o3, o4, ↓reduceIte] | rfl) ?_)
  refine OpsE_nil ?_
  repeat (first | refine R_seq ?_ | refine R_block ?_ | refine R_skip ?_)
  refine R_region ?_
  iterate 3 ((refine OpsE_do rfl ?_; first | refine E_move rfl ?_ | refine E_int rfl rfl rfl rfl ?_); refine OpsE_eq (st' := _) (by first | dsimp only [n0, n1, n2, n3, n4, n5, n6, n7, n8, n9, m0, m1, m2, m3, m4, m5, m6, m7, m8, m9, o0, o1, o2, o3, o4, ↓reduceIte] | rfl) ?_)
  refine OpsE_nil ?_
  rw [show ((k : Int) == ((k + 1 : Nat) : Int)) = false by simp; omega]
  repeat (first | refine R_seq ?_ | refine R_block ?_ | refine R_skip ?_)
  refine R_false rfl ?_
  repeat (first | refine R_seq ?_ | refine R_block ?_ | refine R_skip ?_)
  refine R_region ?_
  iterate 3 ((refine OpsE_do rfl ?_; first | refine E_move rfl ?_ | refine E_len un49 rfl rfl ?_ | refine E_assign rfl rfl ?_); refine OpsE_eq (st' := _) (by first | dsimp only [n0, n1, n2, n3, n4, n5, n6, n7, n8, n9, m0, m1, m2, m3, m4, m5, m6, m7, m8, m9, o0, o1, o2, o3, o4, ↓reduceIte] | rfl) ?_)
  refine OpsE_nil ?_
  repeat (first | refine R_seq ?_ | refine R_block ?_ | refine R_skip ?_)
  refine R_draw ?_
  iterate 2 ((refine DrawE_do rfl ?_; refine E_move rfl ?_); refine DrawE_eq (st' := _) (by first | dsimp only [n0, n1, n2, n3, n4, n5, n6, n7, n8, n9, m0, m1, m2, m3, m4, m5, m6, m7, m8, m9, o0, o1, o2, o3, o4, ↓reduceIte] | rfl) ?_)
  (refine DrawE_do rfl ?_; refine E_sliceMs el49 sz3 rfl rfl (cut_lo (natOf_nat .i64 k) (by omega) hc) ?_; refine DrawE_eq (st' := _) (by first | dsimp only [n0, n1, n2, n3, n4, n5, n6, n7, n8, n9, m0, m1, m2, m3, m4, m5, m6, m7, m8, m9, o0, o1, o2, o3, o4, ↓reduceIte] | rfl) ?_)
  iterate 2 ((refine DrawE_do rfl ?_; refine E_move rfl ?_); refine DrawE_eq (st' := _) (by first | dsimp only [n0, n1, n2, n3, n4, n5, n6, n7, n8, n9, m0, m1, m2, m3, m4, m5, m6, m7, m8, m9, o0, o1, o2, o3, o4, ↓reduceIte] | rfl) ?_)
  (refine DrawE_do rfl ?_; refine E_sliceMs el49 sz3 rfl rfl (cut_hi (natOf_nat .i64 (k + 1)) hk hc) ?_; refine DrawE_eq (st' := _) (by first | dsimp only [n0, n1, n2, n3, n4, n5, n6, n7, n8, n9, m0, m1, m2, m3, m4, m5, m6, m7, m8, m9, o0, o1, o2, o3, o4, ↓reduceIte] | rfl) ?_)
  (refine DrawE_do rfl ?_; refine E_appendMs el49 sz3 by3 zn3 (by decide) rfl rfl hsrc ha ?_; refine DrawE_eq (st' := _) (by first | dsimp only [n0, n1, n2, n3, n4, n5, n6, n7, n8, n9, m0, m1, m2, m3, m4, m5, m6, m7, m8, m9, o0, o1, o2, o3, o4, ↓reduceIte] | rfl) ?_)
  (refine DrawE_do rfl ?_; refine E_assign rfl rfl ?_; refine DrawE_eq (st' := _) (by first | dsimp only [n0, n1, n2, n3, n4, n5, n6, n7, n8, n9, m0, m1, m2, m3, m4, m5, m6, m7, m8, m9, o0, o1, o2, o3, o4, ↓reduceIte] | rfl) ?_)
  refine DrawE_nil ⟨by kernel_rfl, ?_⟩
  repeat (first | refine R_seq ?_ | refine R_block ?_ | refine R_skip ?_)
  refine R_region ?_
  iterate 4 ((refine OpsE_do rfl ?_; first | refine E_move rfl ?_ | refine E_len un49 rfl rfl ?_); refine OpsE_eq (st' := _) (by first | dsimp only [n0, n1, n2, n3, n4, n5, n6, n7, n8, n9, m0, m1, m2, m3, m4, m5, m6, m7, m8, m9, o0, o1, o2, o3, o4, ↓reduceIte] | rfl) ?_)
  (refine OpsE_do rfl ?_; refine E_sliceMs el49 sz3 rfl rfl (cut_mid (natOf_nat .i64 (l.length - 1)) (natOf_nat .i64 l.length) (by omega) hc (by omega)) ?_; refine OpsE_eq (st' := _) (by first | dsimp only [n0, n1, n2, n3, n4, n5, n6, n7, n8, n9, m0, m1, m2, m3, m4, m5, m6, m7, m8, m9, o0, o1, o2, o3, o4, ↓reduceIte] | rfl) ?_)
  (refine OpsE_do rfl ?_; refine E_clearMs el49 sz3 ze3 rfl rfl rfl (mtOf_set ht) (by omega) (by rw [cellsOf_len, List.length_append, hel]; simp; omega) ?_; refine OpsE_eq (st' := _) (by first | dsimp only [n0, n1, n2, n3, n4, n5, n6, n7, n8, n9, m0, m1, m2, m3, m4, m5, m6, m7, m8, m9, o0, o1, o2, o3, o4, ↓reduceIte] | rfl) ?_)
  refine OpsE_nil ?_
  repeat (first | refine R_seq ?_ | refine R_block ?_ | refine R_skip ?_)
  refine R_region ?_
  iterate 2 ((refine OpsE_do rfl ?_; first | refine E_move rfl ?_ | refine E_assign rfl rfl ?_); refine OpsE_eq (st' := _) (by first | dsimp only [n0, n1, n2, n3, n4, n5, n6, n7, n8, n9, m0, m1, m2, m3, m4, m5, m6, m7, m8, m9, o0, o1, o2, o3, o4, ↓reduceIte] | rfl) ?_)
  refine OpsE_nil ?_
  repeat (first | refine R_seq ?_ | refine R_block ?_ | refine R_skip ?_)
  refine R_ret ?_
  refine ⟨trivial, _, rfl, by rw [hel]; rfl, ?_⟩
  rw [List.set_set]
  have e1 : (l.eraseIdx k ++ (l.drop (l.length - 1) ++ List.replicate q 0)).take (l.length - 1) = l.eraseIdx k := List.take_left' hel
  have e2 : (l.eraseIdx k ++ (l.drop (l.length - 1) ++ List.replicate q 0)).drop (l.length - 1 + (l.length - (l.length - 1))) = List.replicate q 0 := by
    rw [List.drop_append, List.drop_eq_nil_of_le (by omega), List.nil_append, hel, List.drop_append, List.drop_eq_nil_of_le (by simp), List.nil_append]
    simp
  have e3 : List.replicate (l.length - (l.length - 1)) (PV.dat (intD 0)) = cellsOf intD [0] := by
    rw [show l.length - (l.length - 1) = 1 by omega]; rfl
  rw [cellsOf_take, cellsOf_drop, e1, e2]
  show H.set t (.mt 3 g (cellsOf intD (l.eraseIdx k ++ List.replicate (q + 1) 0))) = H.set t (.mt 3 g (cellsOf intD (l.eraseIdx k) ++ List.replicate (l.length - (l.length - 1)) (PV.dat (intD 0)) ++ cellsOf intD (List.replicate q 0)))
  rw [e3, cellsOf_append, cellsOf_append, List.append_assoc]; try rfl

/-- may the loops k and k + 1 be joined? -/
def fitsB (dims l : List Int) (k : Nat) : Bool := (((l.length : Nat) : Int) == 0) || (l.getD k 0 == IntKind.i64.wrap (dims.getD (k + 1) 0 * l.getD (k + 1) 0))

theorem c40_steps (n : Nst) (k c0 c1 c2 q0 q1 q2 : Nat) (b0 b1 : Blk) (hk : k + 1 < n.dims.length) (hd : n.dims.length ≤ 1048576) (hl : n.steps.length = 0 ∨ n.steps.length = n.dims.length) :
    PC prog env 40 [.ms 4 0 0 n.steps.length c1, intPV (k : Int), .ptr 2 0] [b0, b1, .box [.ms 3 0 0 n.dims.length c0, .dat (intD n.write), .ms 4 0 0 n.steps.length c1, .dat (intD n.read.kind), .dat (intD n.read.buffer), .dat (intD n.read.base), .ms 5 0 0 n.read.strides.length c2, .dat (intD n.read.start), .dat (intD n.read.step), .dat (intD n.read.mod)], .mt 3 0 (cellsOf intD (n.dims ++ List.replicate q0 0)), .mt 3 0 (cellsOf intD (n.steps ++ List.replicate q1 0)), .mt 3 0 (cellsOf intD (n.read.strides ++ List.replicate q2 0))] (boolPV (fitsB n.dims n.steps k)) [b0, b1, .box [.ms 3 0 0 n.dims.length c0, .dat (intD n.write), .ms 4 0 0 n.steps.length c1, .dat (intD n.read.kind), .dat (intD n.read.buffer), .dat (intD n.read.base), .ms 5 0 0 n.read.strides.length c2, .dat (intD n.read.start), .dat (intD n.read.step), .dat (intD n.read.mod)], .mt 3 0 (cellsOf intD (n.dims ++ List.replicate q0 0)), .mt 3 0 (cellsOf intD (n.steps ++ List.replicate q1 0)), .mt 3 0 (cellsOf intD (n.read.strides ++ List.replicate q2 0))] := by
  refine PC_body (fn := f40) (by kernel_rfl) rfl rfl (by kernel_rfl) rfl ?_
  refine R_eq (st' := ⟨[.ms 4 0 0 n.steps.length c1, intPV (k : Int), .ptr 2 0, .tup [], .tup [], .tup [], .tup [], .tup [], .tup [], .tup [], .tup [], .tup [], .tup [], .tup [], .tup [], .tup [], .tup [], .tup [], .tup [], .tup [], .tup [], .tup [], .tup [], .tup [], .tup [], .tup [], .tup [], .tup []], [b0, b1, .box [.ms 3 0 0 n.dims.length c0, .dat (intD n.write), .ms 4 0 0 n.steps.length c1, .dat (intD n.read.kind), .dat (intD n.read.buffer), .dat (intD n.read.base), .ms 5 0 0 n.read.strides.length c2, .dat (intD n.read.start), .dat (intD n.read.step), .dat (intD n.read.mod)], .mt 3 0 (cellsOf intD (n.dims ++ List.replicate q0 0)), .mt 3 0 (cellsOf intD (n.steps ++ List.replicate q1 0)), .mt 3 0 (cellsOf intD (n.read.strides ++ List.replicate q2 0))]⟩) rfl ?_
  repeat (first | refine R_seq ?_ | refine R_block ?_ | refine R_skip ?_)
  refine R_region ?_
  (refine OpsE_do rfl ?_; refine E_assign rfl rfl ?_; refine OpsE_eq (st' := _) (by first | dsimp only [n0, n1, n2, n3, n4, n5, n6, n7, n8, n9, m0, m1, m2, m3, m4, m5, m6, m7, m8, m9, o0, o1, o2, o3, o4, ↓reduceIte] | rfl) ?_)
  refine OpsE_nil ?_
  have hw : intBin .add .i64 (k : Int) 1 = some (.int .i64 ((k + 1 : Nat) : Int)) := by rw [intBin, wrap_succ (by omega)]
  rcases hl with hl | hl
  · have hz : intBin .eql .i64 ((n.steps.length : Nat) : Int) 0 = some (.bool true) := by rw [hl]; rfl
    have hf : fitsB n.dims n.steps k = true := by rw [fitsB, hl]; rfl
    rw [hf]
    repeat (first | refine R_seq ?_ | refine R_block ?_ | refine R_skip ?_)
    refine R_draw ?_
    iterate 2 ((refine DrawE_do rfl ?_; first | refine E_move rfl ?_ | refine E_len un49 rfl rfl ?_); refine DrawE_eq (st' := _) (by first | dsimp only [n0, n1, n2, n3, n4, n5, n6, n7, n8, n9, m0, m1, m2, m3, m4, m5, m6, m7, m8, m9, o0, o1, o2, o3, o4, ↓reduceIte] | rfl) ?_)
    (refine DrawE_do rfl ?_; refine E_int rfl rfl rfl hz ?_; refine DrawE_eq (st' := _) (by first | dsimp only [n0, n1, n2, n3, n4, n5, n6, n7, n8, n9, m0, m1, m2, m3, m4, m5, m6, m7, m8, m9, o0, o1, o2, o3, o4, ↓reduceIte] | rfl) ?_)
    iterate 3 ((first | (refine DrawE_do rfl ?_; refine E_move rfl ?_) | refine DrawE_not rfl ?_); refine DrawE_eq (st' := _) (by first | dsimp only [n0, n1, n2, n3, n4, n5, n6, n7, n8, n9, m0, m1, m2, m3, m4, m5, m6, m7, m8, m9, o0, o1, o2, o3, o4, ↓reduceIte] | rfl) ?_)
    ((first | (refine DrawE_do rfl ?_; refine (by exact absurd rfl (by decide))) | refine DrawE_not rfl ?_); refine DrawE_eq (st' := _) (by first | dsimp only [n0, n1, n2, n3, n4, n5, n6, n7, n8, n9, m0, m1, m2, m3, m4, m5, m6, m7, m8, m9, o0, o1, o2, o3, o4, ↓reduceIte] | rfl) ?_)
    ((first | (refine DrawE_do rfl ?_; refine (by exact absurd rfl (by decide))) | refine DrawE_not rfl ?_); refine DrawE_eq (st' := _) (by first | dsimp only [n0, n1, n2, n3, n4, n5, n6, n7, n8, n9, m0, m1, m2, m3, m4, m5, m6, m7, m8, m9, o0, o1, o2, o3, o4, ↓reduceIte] | rfl) ?_)
    iterate 4 ((first | (refine DrawE_do rfl ?_; first | refine E_fieldp fo53_0 rfl rfl ?_ | refine E_fieldi fo53_0 rfl rfl ?_ | refine E_loadi (ds := [_]) ag49 sz49 rfl rfl rfl rfl ?_ | refine E_loadp (ds := [_]) ag49 sz49 rfl rfl rfl rfl rfl ?_ | refine E_move rfl ?_ | refine E_int rfl rfl rfl rfl ?_) | refine DrawE_not rfl ?_); refine DrawE_eq (st' := _) (by first | dsimp only [n0, n1, n2, n3, n4, n5, n6, n7, n8, n9, m0, m1, m2, m3, m4, m5, m6, m7, m8, m9, o0, o1, o2, o3, o4, ↓reduceIte] | rfl) ?_)
    ((first | (refine DrawE_do rfl ?_; refine (by exact absurd rfl (by decide))) | refine DrawE_not rfl ?_); refine DrawE_eq (st' := _) (by first | dsimp only [n0, n1, n2, n3, n4, n5, n6, n7, n8, n9, m0, m1, m2, m3, m4, m5, m6, m7, m8, m9, o0, o1, o2, o3, o4, ↓reduceIte] | rfl) ?_)
    ((first | (refine DrawE_do rfl ?_; refine (by exact absurd rfl (by decide))) | refine DrawE_not rfl ?_); refine DrawE_eq (st' := _) (by first | dsimp only [n0, n1, n2, n3, n4, n5, n6, n7, n8, n9, m0, m1, m2, m3, m4, m5, m6, m7, m8, m9, o0, o1, o2, o3, o4, ↓reduceIte] | rfl) ?_)
    iterate 3 ((first | (refine DrawE_do rfl ?_; first | refine E_move rfl ?_ | refine E_int rfl rfl rfl rfl ?_) | refine DrawE_not rfl ?_); refine DrawE_eq (st' := _) (by first | dsimp only [n0, n1, n2, n3, n4, n5, n6, n7, n8, n9, m0, m1, m2, m3, m4, m5, m6, m7, m8, m9, o0, o1, o2, o3, o4, ↓reduceIte] | rfl) ?_)
    ((first | (refine DrawE_do rfl ?_; refine (by exact absurd rfl (by decide))) | refine DrawE_not rfl ?_); refine DrawE_eq (st' := _) (by first | dsimp only [n0, n1, n2, n3, n4, n5, n6, n7, n8, n9, m0, m1, m2, m3, m4, m5, m6, m7, m8, m9, o0, o1, o2, o3, o4, ↓reduceIte] | rfl) ?_)
    ((first | (refine DrawE_do rfl ?_; refine (by exact absurd rfl (by decide))) | refine DrawE_not rfl ?_); refine DrawE_eq (st' := _) (by first | dsimp only [n0, n1, n2, n3, n4, n5, n6, n7, n8, n9, m0, m1, m2, m3, m4, m5, m6, m7, m8, m9, o0, o1, o2, o3, o4, ↓reduceIte] | rfl) ?_)
    iterate 4 ((first | (refine DrawE_do rfl ?_; first | refine E_int rfl rfl rfl rfl ?_ | refine E_pick rfl rfl ?_ | refine E_assign rfl rfl ?_) | refine DrawE_not rfl ?_); refine DrawE_eq (st' := _) (by first | dsimp only [n0, n1, n2, n3, n4, n5, n6, n7, n8, n9, m0, m1, m2, m3, m4, m5, m6, m7, m8, m9, o0, o1, o2, o3, o4, ↓reduceIte] | rfl) ?_)
    refine DrawE_nil ⟨by kernel_rfl, ?_⟩
    repeat (first | refine R_seq ?_ | refine R_block ?_ | refine R_skip ?_)
    refine R_ret ?_
    exact ⟨trivial, _, rfl, rfl, rfl⟩
  · have hz : intBin .eql .i64 ((n.steps.length : Nat) : Int) 0 = some (.bool false) := by simp only [intBin, Option.some.injEq, Value.bool.injEq, beq_eq_false_iff_ne]; omega
    have hk1 : k < n.steps.length := by omega
    have hk2 : k + 1 < n.steps.length := by omega
    have g1 : (n.steps ++ List.replicate q1 0)[k]? = some n.steps[k] := by rw [List.getElem?_append_left hk1]; simp [hk1]
    have hf : fitsB n.dims n.steps k = (n.steps[k] == IntKind.i64.wrap (n.dims[k + 1] * n.steps[k + 1])) := by
      have : (((n.steps.length : Nat) : Int) == 0) = false := by rw [beq_eq_false_iff_ne]; omega
      rw [fitsB]; simp only [this, Bool.false_or]; simp [hk1, hk2, hk]
    rw [hf]
    have p1 : (cellsOf intD (n.steps ++ List.replicate q1 0))[k]? = some (.dat (intD n.steps[k])) := by rw [cellsOf_get intD (by simp; omega), List.getElem_append_left hk1]
    have p2 : (cellsOf intD (n.steps ++ List.replicate q1 0))[k + 1]? = some (.dat (intD n.steps[k + 1])) := by rw [cellsOf_get intD (by simp; omega), List.getElem_append_left hk2]
    have p3 : (cellsOf intD (n.dims ++ List.replicate q0 0))[k + 1]? = some (.dat (intD n.dims[k + 1])) := by rw [cellsOf_get intD (by simp; omega), List.getElem_append_left hk]
    repeat (first | refine R_seq ?_ | refine R_block ?_ | refine R_skip ?_)
    refine R_draw ?_
    iterate 2 ((refine DrawE_do rfl ?_; first | refine E_move rfl ?_ | refine E_len un49 rfl rfl ?_); refine DrawE_eq (st' := _) (by first | dsimp only [n0, n1, n2, n3, n4, n5, n6, n7, n8, n9, m0, m1, m2, m3, m4, m5, m6, m7, m8, m9, o0, o1, o2, o3, o4, ↓reduceIte] | rfl) ?_)
    (refine DrawE_do rfl ?_; refine E_int rfl rfl rfl hz ?_; refine DrawE_eq (st' := _) (by first | dsimp only [n0, n1, n2, n3, n4, n5, n6, n7, n8, n9, m0, m1, m2, m3, m4, m5, m6, m7, m8, m9, o0, o1, o2, o3, o4, ↓reduceIte] | rfl) ?_)
    iterate 3 ((first | (refine DrawE_do rfl ?_; refine E_move rfl ?_) | refine DrawE_not rfl ?_); refine DrawE_eq (st' := _) (by first | dsimp only [n0, n1, n2, n3, n4, n5, n6, n7, n8, n9, m0, m1, m2, m3, m4, m5, m6, m7, m8, m9, o0, o1, o2, o3, o4, ↓reduceIte] | rfl) ?_)
    ((first | (refine DrawE_do rfl ?_; refine E_indexMs el49 sz3 rfl rfl rfl rfl hk1 ?_) | refine DrawE_not rfl ?_); refine DrawE_eq (st' := _) (by first | dsimp only [n0, n1, n2, n3, n4, n5, n6, n7, n8, n9, m0, m1, m2, m3, m4, m5, m6, m7, m8, m9, o0, o1, o2, o3, o4, ↓reduceIte] | rfl) ?_)
    ((first | (refine DrawE_do rfl ?_; refine E_loadMs ag3 sz3 rfl rfl (mtOf_at rfl) (by rw [Nat.zero_add]; exact p1) ?_) | refine DrawE_not rfl ?_); refine DrawE_eq (st' := _) (by first | dsimp only [n0, n1, n2, n3, n4, n5, n6, n7, n8, n9, m0, m1, m2, m3, m4, m5, m6, m7, m8, m9, o0, o1, o2, o3, o4, ↓reduceIte] | rfl) ?_)
    iterate 3 ((first | (refine DrawE_do rfl ?_; first | refine E_fieldp fo53_0 rfl rfl ?_ | refine E_fieldi fo53_0 rfl rfl ?_ | refine E_loadi (ds := [_]) ag49 sz49 rfl rfl rfl rfl ?_ | refine E_loadp (ds := [_]) ag49 sz49 rfl rfl rfl rfl rfl ?_ | refine E_move rfl ?_) | refine DrawE_not rfl ?_); refine DrawE_eq (st' := _) (by first | dsimp only [n0, n1, n2, n3, n4, n5, n6, n7, n8, n9, m0, m1, m2, m3, m4, m5, m6, m7, m8, m9, o0, o1, o2, o3, o4, ↓reduceIte] | rfl) ?_)
    ((first | (refine DrawE_do rfl ?_; refine E_int rfl rfl rfl hw ?_) | refine DrawE_not rfl ?_); refine DrawE_eq (st' := _) (by first | dsimp only [n0, n1, n2, n3, n4, n5, n6, n7, n8, n9, m0, m1, m2, m3, m4, m5, m6, m7, m8, m9, o0, o1, o2, o3, o4, ↓reduceIte] | rfl) ?_)
    ((first | (refine DrawE_do rfl ?_; refine E_indexMs el49 sz3 rfl rfl rfl rfl hk ?_) | refine DrawE_not rfl ?_); refine DrawE_eq (st' := _) (by first | dsimp only [n0, n1, n2, n3, n4, n5, n6, n7, n8, n9, m0, m1, m2, m3, m4, m5, m6, m7, m8, m9, o0, o1, o2, o3, o4, ↓reduceIte] | rfl) ?_)
    ((first | (refine DrawE_do rfl ?_; refine E_loadMs ag3 sz3 rfl rfl (mtOf_at rfl) (by rw [Nat.zero_add]; exact p3) ?_) | refine DrawE_not rfl ?_); refine DrawE_eq (st' := _) (by first | dsimp only [n0, n1, n2, n3, n4, n5, n6, n7, n8, n9, m0, m1, m2, m3, m4, m5, m6, m7, m8, m9, o0, o1, o2, o3, o4, ↓reduceIte] | rfl) ?_)
    iterate 2 ((first | (refine DrawE_do rfl ?_; refine E_move rfl ?_) | refine DrawE_not rfl ?_); refine DrawE_eq (st' := _) (by first | dsimp only [n0, n1, n2, n3, n4, n5, n6, n7, n8, n9, m0, m1, m2, m3, m4, m5, m6, m7, m8, m9, o0, o1, o2, o3, o4, ↓reduceIte] | rfl) ?_)
    ((first | (refine DrawE_do rfl ?_; refine E_int rfl rfl rfl hw ?_) | refine DrawE_not rfl ?_); refine DrawE_eq (st' := _) (by first | dsimp only [n0, n1, n2, n3, n4, n5, n6, n7, n8, n9, m0, m1, m2, m3, m4, m5, m6, m7, m8, m9, o0, o1, o2, o3, o4, ↓reduceIte] | rfl) ?_)
    ((first | (refine DrawE_do rfl ?_; refine E_indexMs el49 sz3 rfl rfl rfl rfl hk2 ?_) | refine DrawE_not rfl ?_); refine DrawE_eq (st' := _) (by first | dsimp only [n0, n1, n2, n3, n4, n5, n6, n7, n8, n9, m0, m1, m2, m3, m4, m5, m6, m7, m8, m9, o0, o1, o2, o3, o4, ↓reduceIte] | rfl) ?_)
    ((first | (refine DrawE_do rfl ?_; refine E_loadMs ag3 sz3 rfl rfl (mtOf_at rfl) (by rw [Nat.zero_add]; exact p2) ?_) | refine DrawE_not rfl ?_); refine DrawE_eq (st' := _) (by first | dsimp only [n0, n1, n2, n3, n4, n5, n6, n7, n8, n9, m0, m1, m2, m3, m4, m5, m6, m7, m8, m9, o0, o1, o2, o3, o4, ↓reduceIte] | rfl) ?_)
    iterate 4 ((first | (refine DrawE_do rfl ?_; first | refine E_int rfl rfl rfl rfl ?_ | refine E_pick rfl rfl ?_ | refine E_assign rfl rfl ?_) | refine DrawE_not rfl ?_); refine DrawE_eq (st' := _) (by first | dsimp only [n0, n1, n2, n3, n4, n5, n6, n7, n8, n9, m0, m1, m2, m3, m4, m5, m6, m7, m8, m9, o0, o1, o2, o3, o4, ↓reduceIte] | rfl) ?_)
    refine DrawE_nil ⟨by kernel_rfl, ?_⟩
    repeat (first | refine R_seq ?_ | refine R_block ?_ | refine R_skip ?_)
    refine R_ret ?_
    exact ⟨trivial, _, rfl, rfl, rfl⟩

theorem c40_strides (n : Nst) (k c0 c1 c2 q0 q1 q2 : Nat) (b0 b1 : Blk) (hk : k + 1 < n.dims.length) (hd : n.dims.length ≤ 1048576) (hl : n.read.strides.length = 0 ∨ n.read.strides.length = n.dims.length) :
    PC prog env 40 [.ms 5 0 0 n.read.strides.length c2, intPV (k : Int), .ptr 2 0] [b0, b1, .box [.ms 3 0 0 n.dims.length c0, .dat (intD n.write), .ms 4 0 0 n.steps.length c1, .dat (intD n.read.kind), .dat (intD n.read.buffer), .dat (intD n.read.base), .ms 5 0 0 n.read.strides.length c2, .dat (intD n.read.start), .dat (intD n.read.step), .dat (intD n.read.mod)], .mt 3 0 (cellsOf intD (n.dims ++ List.replicate q0 0)), .mt 3 0 (cellsOf intD (n.steps ++ List.replicate q1 0)), .mt 3 0 (cellsOf intD (n.read.strides ++ List.replicate q2 0))] (boolPV (fitsB n.dims n.read.strides k)) [b0, b1, .box [.ms 3 0 0 n.dims.length c0, .dat (intD n.write), .ms 4 0 0 n.steps.length c1, .dat (intD n.read.kind), .dat (intD n.read.buffer), .dat (intD n.read.base), .ms 5 0 0 n.read.strides.length c2, .dat (intD n.read.start), .dat (intD n.read.step), .dat (intD n.read.mod)], .mt 3 0 (cellsOf intD (n.dims ++ List.replicate q0 0)), .mt 3 0 (cellsOf intD (n.steps ++ List.replicate q1 0)), .mt 3 0 (cellsOf intD (n.read.strides ++ List.replicate q2 0))] := by
  refine PC_body (fn := f40) (by kernel_rfl) rfl rfl (by kernel_rfl) rfl ?_
  refine R_eq (st' := ⟨[.ms 5 0 0 n.read.strides.length c2, intPV (k : Int), .ptr 2 0, .tup [], .tup [], .tup [], .tup [], .tup [], .tup [], .tup [], .tup [], .tup [], .tup [], .tup [], .tup [], .tup [], .tup [], .tup [], .tup [], .tup [], .tup [], .tup [], .tup [], .tup [], .tup [], .tup [], .tup [], .tup []], [b0, b1, .box [.ms 3 0 0 n.dims.length c0, .dat (intD n.write), .ms 4 0 0 n.steps.length c1, .dat (intD n.read.kind), .dat (intD n.read.buffer), .dat (intD n.read.base), .ms 5 0 0 n.read.strides.length c2, .dat (intD n.read.start), .dat (intD n.read.step), .dat (intD n.read.mod)], .mt 3 0 (cellsOf intD (n.dims ++ List.replicate q0 0)), .mt 3 0 (cellsOf intD (n.steps ++ List.replicate q1 0)), .mt 3 0 (cellsOf intD (n.read.strides ++ List.replicate q2 0))]⟩) rfl ?_
  repeat (first | refine R_seq ?_ | refine R_block ?_ | refine R_skip ?_)
  refine R_region ?_
  (refine OpsE_do rfl ?_; refine E_assign rfl rfl ?_; refine OpsE_eq (st' := _) (by first | dsimp only [n0, n1, n2, n3, n4, n5, n6, n7, n8, n9, m0, m1, m2, m3, m4, m5, m6, m7, m8, m9, o0, o1, o2, o3, o4, ↓reduceIte] | rfl) ?_)
  refine OpsE_nil ?_
  have hw : intBin .add .i64 (k : Int) 1 = some (.int .i64 ((k + 1 : Nat) : Int)) := by rw [intBin, wrap_succ (by omega)]
  rcases hl with hl | hl
  · have hz : intBin .eql .i64 ((n.read.strides.length : Nat) : Int) 0 = some (.bool true) := by rw [hl]; rfl
    have hf : fitsB n.dims n.read.strides k = true := by rw [fitsB, hl]; rfl
    rw [hf]
    repeat (first | refine R_seq ?_ | refine R_block ?_ | refine R_skip ?_)
    refine R_draw ?_
    iterate 2 ((refine DrawE_do rfl ?_; first | refine E_move rfl ?_ | refine E_len un49 rfl rfl ?_); refine DrawE_eq (st' := _) (by first | dsimp only [n0, n1, n2, n3, n4, n5, n6, n7, n8, n9, m0, m1, m2, m3, m4, m5, m6, m7, m8, m9, o0, o1, o2, o3, o4, ↓reduceIte] | rfl) ?_)
    (refine DrawE_do rfl ?_; refine E_int rfl rfl rfl hz ?_; refine DrawE_eq (st' := _) (by first | dsimp only [n0, n1, n2, n3, n4, n5, n6, n7, n8, n9, m0, m1, m2, m3, m4, m5, m6, m7, m8, m9, o0, o1, o2, o3, o4, ↓reduceIte] | rfl) ?_)
    iterate 3 ((first | (refine DrawE_do rfl ?_; refine E_move rfl ?_) | refine DrawE_not rfl ?_); refine DrawE_eq (st' := _) (by first | dsimp only [n0, n1, n2, n3, n4, n5, n6, n7, n8, n9, m0, m1, m2, m3, m4, m5, m6, m7, m8, m9, o0, o1, o2, o3, o4, ↓reduceIte] | rfl) ?_)
    ((first | (refine DrawE_do rfl ?_; refine (by exact absurd rfl (by decide))) | refine DrawE_not rfl ?_); refine DrawE_eq (st' := _) (by first | dsimp only [n0, n1, n2, n3, n4, n5, n6, n7, n8, n9, m0, m1, m2, m3, m4, m5, m6, m7, m8, m9, o0, o1, o2, o3, o4, ↓reduceIte] | rfl) ?_)
    ((first | (refine DrawE_do rfl ?_; refine (by exact absurd rfl (by decide))) | refine DrawE_not rfl ?_); refine DrawE_eq (st' := _) (by first | dsimp only [n0, n1, n2, n3, n4, n5, n6, n7, n8, n9, m0, m1, m2, m3, m4, m5, m6, m7, m8, m9, o0, o1, o2, o3, o4, ↓reduceIte] | rfl) ?_)
    iterate 4 ((first | (refine DrawE_do rfl ?_; first | refine E_fieldp fo53_0 rfl rfl ?_ | refine E_fieldi fo53_0 rfl rfl ?_ | refine E_loadi (ds := [_]) ag49 sz49 rfl rfl rfl rfl ?_ | refine E_loadp (ds := [_]) ag49 sz49 rfl rfl rfl rfl rfl ?_ | refine E_move rfl ?_ | refine E_int rfl rfl rfl rfl ?_) | refine DrawE_not rfl ?_); refine DrawE_eq (st' := _) (by first | dsimp only [n0, n1, n2, n3, n4, n5, n6, n7, n8, n9, m0, m1, m2, m3, m4, m5, m6, m7, m8, m9, o0, o1, o2, o3, o4, ↓reduceIte] | rfl) ?_)
    ((first | (refine DrawE_do rfl ?_; refine (by exact absurd rfl (by decide))) | refine DrawE_not rfl ?_); refine DrawE_eq (st' := _) (by first | dsimp only [n0, n1, n2, n3, n4, n5, n6, n7, n8, n9, m0, m1, m2, m3, m4, m5, m6, m7, m8, m9, o0, o1, o2, o3, o4, ↓reduceIte] | rfl) ?_)
    ((first | (refine DrawE_do rfl ?_; refine (by exact absurd rfl (by decide))) | refine DrawE_not rfl ?_); refine DrawE_eq (st' := _) (by first | dsimp only [n0, n1, n2, n3, n4, n5, n6, n7, n8, n9, m0, m1, m2, m3, m4, m5, m6, m7, m8, m9, o0, o1, o2, o3, o4, ↓reduceIte] | rfl) ?_)
    iterate 3 ((first | (refine DrawE_do rfl ?_; first | refine E_move rfl ?_ | refine E_int rfl rfl rfl rfl ?_) | refine DrawE_not rfl ?_); refine DrawE_eq (st' := _) (by first | dsimp only [n0, n1, n2, n3, n4, n5, n6, n7, n8, n9, m0, m1, m2, m3, m4, m5, m6, m7, m8, m9, o0, o1, o2, o3, o4, ↓reduceIte] | rfl) ?_)
    ((first | (refine DrawE_do rfl ?_; refine (by exact absurd rfl (by decide))) | refine DrawE_not rfl ?_); refine DrawE_eq (st' := _) (by first | dsimp only [n0, n1, n2, n3, n4, n5, n6, n7, n8, n9, m0, m1, m2, m3, m4, m5, m6, m7, m8, m9, o0, o1, o2, o3, o4, ↓reduceIte] | rfl) ?_)
    ((first | (refine DrawE_do rfl ?_; refine (by exact absurd rfl (by decide))) | refine DrawE_not rfl ?_); refine DrawE_eq (st' := _) (by first | dsimp only [n0, n1, n2, n3, n4, n5, n6, n7, n8, n9, m0, m1, m2, m3, m4, m5, m6, m7, m8, m9, o0, o1, o2, o3, o4, ↓reduceIte] | rfl) ?_)
    iterate 4 ((first | (refine DrawE_do rfl ?_; first | refine E_int rfl rfl rfl rfl ?_ | refine E_pick rfl rfl ?_ | refine E_assign rfl rfl ?_) | refine DrawE_not rfl ?_); refine DrawE_eq (st' := _) (by first | dsimp only [n0, n1, n2, n3, n4, n5, n6, n7, n8, n9, m0, m1, m2, m3, m4, m5, m6, m7, m8, m9, o0, o1, o2, o3, o4, ↓reduceIte] | rfl) ?_)
    refine DrawE_nil ⟨by kernel_rfl, ?_⟩
    repeat (first | refine R_seq ?_ | refine R_block ?_ | refine R_skip ?_)
    refine R_ret ?_
    exact ⟨trivial, _, rfl, rfl, rfl⟩
  · have hz : intBin .eql .i64 ((n.read.strides.length : Nat) : Int) 0 = some (.bool false) := by simp only [intBin, Option.some.injEq, Value.bool.injEq, beq_eq_false_iff_ne]; omega
    have hk1 : k < n.read.strides.length := by omega
    have hk2 : k + 1 < n.read.strides.length := by omega
    have g1 : (n.read.strides ++ List.replicate q2 0)[k]? = some n.read.strides[k] := by rw [List.getElem?_append_left hk1]; simp [hk1]
    have hf : fitsB n.dims n.read.strides k = (n.read.strides[k] == IntKind.i64.wrap (n.dims[k + 1] * n.read.strides[k + 1])) := by
      have : (((n.read.strides.length : Nat) : Int) == 0) = false := by rw [beq_eq_false_iff_ne]; omega
      rw [fitsB]; simp only [this, Bool.false_or]; simp [hk1, hk2, hk]
    rw [hf]
    have p1 : (cellsOf intD (n.read.strides ++ List.replicate q2 0))[k]? = some (.dat (intD n.read.strides[k])) := by rw [cellsOf_get intD (by simp; omega), List.getElem_append_left hk1]
    have p2 : (cellsOf intD (n.read.strides ++ List.replicate q2 0))[k + 1]? = some (.dat (intD n.read.strides[k + 1])) := by rw [cellsOf_get intD (by simp; omega), List.getElem_append_left hk2]
    have p3 : (cellsOf intD (n.dims ++ List.replicate q0 0))[k + 1]? = some (.dat (intD n.dims[k + 1])) := by rw [cellsOf_get intD (by simp; omega), List.getElem_append_left hk]
    repeat (first | refine R_seq ?_ | refine R_block ?_ | refine R_skip ?_)
    refine R_draw ?_
    iterate 2 ((refine DrawE_do rfl ?_; first | refine E_move rfl ?_ | refine E_len un49 rfl rfl ?_); refine DrawE_eq (st' := _) (by first | dsimp only [n0, n1, n2, n3, n4, n5, n6, n7, n8, n9, m0, m1, m2, m3, m4, m5, m6, m7, m8, m9, o0, o1, o2, o3, o4, ↓reduceIte] | rfl) ?_)
    (refine DrawE_do rfl ?_; refine E_int rfl rfl rfl hz ?_; refine DrawE_eq (st' := _) (by first | dsimp only [n0, n1, n2, n3, n4, n5, n6, n7, n8, n9, m0, m1, m2, m3, m4, m5, m6, m7, m8, m9, o0, o1, o2, o3, o4, ↓reduceIte] | rfl) ?_)
    iterate 3 ((first | (refine DrawE_do rfl ?_; refine E_move rfl ?_) | refine DrawE_not rfl ?_); refine DrawE_eq (st' := _) (by first | dsimp only [n0, n1, n2, n3, n4, n5, n6, n7, n8, n9, m0, m1, m2, m3, m4, m5, m6, m7, m8, m9, o0, o1, o2, o3, o4, ↓reduceIte] | rfl) ?_)
    ((first | (refine DrawE_do rfl ?_; refine E_indexMs el49 sz3 rfl rfl rfl rfl hk1 ?_) | refine DrawE_not rfl ?_); refine DrawE_eq (st' := _) (by first | dsimp only [n0, n1, n2, n3, n4, n5, n6, n7, n8, n9, m0, m1, m2, m3, m4, m5, m6, m7, m8, m9, o0, o1, o2, o3, o4, ↓reduceIte] | rfl) ?_)
    ((first | (refine DrawE_do rfl ?_; refine E_loadMs ag3 sz3 rfl rfl (mtOf_at rfl) (by rw [Nat.zero_add]; exact p1) ?_) | refine DrawE_not rfl ?_); refine DrawE_eq (st' := _) (by first | dsimp only [n0, n1, n2, n3, n4, n5, n6, n7, n8, n9, m0, m1, m2, m3, m4, m5, m6, m7, m8, m9, o0, o1, o2, o3, o4, ↓reduceIte] | rfl) ?_)
    iterate 3 ((first | (refine DrawE_do rfl ?_; first | refine E_fieldp fo53_0 rfl rfl ?_ | refine E_fieldi fo53_0 rfl rfl ?_ | refine E_loadi (ds := [_]) ag49 sz49 rfl rfl rfl rfl ?_ | refine E_loadp (ds := [_]) ag49 sz49 rfl rfl rfl rfl rfl ?_ | refine E_move rfl ?_) | refine DrawE_not rfl ?_); refine DrawE_eq (st' := _) (by first | dsimp only [n0, n1, n2, n3, n4, n5, n6, n7, n8, n9, m0, m1, m2, m3, m4, m5, m6, m7, m8, m9, o0, o1, o2, o3, o4, ↓reduceIte] | rfl) ?_)
    ((first | (refine DrawE_do rfl ?_; refine E_int rfl rfl rfl hw ?_) | refine DrawE_not rfl ?_); refine DrawE_eq (st' := _) (by first | dsimp only [n0, n1, n2, n3, n4, n5, n6, n7, n8, n9, m0, m1, m2, m3, m4, m5, m6, m7, m8, m9, o0, o1, o2, o3, o4, ↓reduceIte] | rfl) ?_)
    ((first | (refine DrawE_do rfl ?_; refine E_indexMs el49 sz3 rfl rfl rfl rfl hk ?_) | refine DrawE_not rfl ?_); refine DrawE_eq (st' := _) (by first | dsimp only [n0, n1, n2, n3, n4, n5, n6, n7, n8, n9, m0, m1, m2, m3, m4, m5, m6, m7, m8, m9, o0, o1, o2, o3, o4, ↓reduceIte] | rfl) ?_)
    ((first | (refine DrawE_do rfl ?_; refine E_loadMs ag3 sz3 rfl rfl (mtOf_at rfl) (by rw [Nat.zero_add]; exact p3) ?_) | refine DrawE_not rfl ?_); refine DrawE_eq (st' := _) (by first | dsimp only [n0, n1, n2, n3, n4, n5, n6, n7, n8, n9, m0, m1, m2, m3, m4, m5, m6, m7, m8, m9, o0, o1, o2, o3, o4, ↓reduceIte] | rfl) ?_)
    iterate 2 ((first | (refine DrawE_do rfl ?_; refine E_move rfl ?_) | refine DrawE_not rfl ?_); refine DrawE_eq (st' := _) (by first | dsimp only [n0, n1, n2, n3, n4, n5, n6, n7, n8, n9, m0, m1, m2, m3, m4, m5, m6, m7, m8, m9, o0, o1, o2, o3, o4, ↓reduceIte] | rfl) ?_)
    ((first | (refine DrawE_do rfl ?_; refine E_int rfl rfl rfl hw ?_) | refine DrawE_not rfl ?_); refine DrawE_eq (st' := _) (by first | dsimp only [n0, n1, n2, n3, n4, n5, n6, n7, n8, n9, m0, m1, m2, m3, m4, m5, m6, m7, m8, m9, o0, o1, o2, o3, o4, ↓reduceIte] | rfl) ?_)
    ((first | (refine DrawE_do rfl ?_; refine E_indexMs el49 sz3 rfl rfl rfl rfl hk2 ?_) | refine DrawE_not rfl ?_); refine DrawE_eq (st' := _) (by first | dsimp only [n0, n1, n2, n3, n4, n5, n6, n7, n8, n9, m0, m1, m2, m3, m4, m5, m6, m7, m8, m9, o0, o1, o2, o3, o4, ↓reduceIte] | rfl) ?_)
    ((first | (refine DrawE_do rfl ?_; refine E_loadMs ag3 sz3 rfl rfl (mtOf_at rfl) (by rw [Nat.zero_add]; exact p2) ?_) | refine DrawE_not rfl ?_); refine DrawE_eq (st' := _) (by first | dsimp only [n0, n1, n2, n3, n4, n5, n6, n7, n8, n9, m0, m1, m2, m3, m4, m5, m6, m7, m8, m9, o0, o1, o2, o3, o4, ↓reduceIte] | rfl) ?_)
    iterate 4 ((first | (refine DrawE_do rfl ?_; first | refine E_int rfl rfl rfl rfl ?_ | refine E_pick rfl rfl ?_ | refine E_assign rfl rfl ?_) | refine DrawE_not rfl ?_); refine DrawE_eq (st' := _) (by first | dsimp only [n0, n1, n2, n3, n4, n5, n6, n7, n8, n9, m0, m1, m2, m3, m4, m5, m6, m7, m8, m9, o0, o1, o2, o3, o4, ↓reduceIte] | rfl) ?_)
    refine DrawE_nil ⟨by kernel_rfl, ?_⟩
    repeat (first | refine R_seq ?_ | refine R_block ?_ | refine R_skip ?_)
    refine R_ret ?_
    exact ⟨trivial, _, rfl, rfl, rfl⟩
end Go.Proofs.Try
