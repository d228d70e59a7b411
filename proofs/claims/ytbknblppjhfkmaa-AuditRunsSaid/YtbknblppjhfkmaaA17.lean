/-
  Seat a: numbers compared; do buffers fit; the reference's run.
-/
import Derived.Test.YtbknblppjhfkmaaA16
namespace Go.Proofs.Try
open Go Go.Pm
set_option linter.unusedVariables false
set_option linter.unusedSimpArgs false
set_option maxRecDepth 2000

theorem c20 (a b : List Int) (H : List Blk) (ha : a.length ≤ 9223372036854775807) : PC prog env 20 [.dat (intsD a), .dat (intsD b)] H (boolPV (decide (a = b))) H := by
  refine PC_pure (fn := f20) (by kernel_rfl) rfl rfl (by kernel_rfl) rfl rfl ?_ (by simp [PV.lends])
  refine R_eq (st' := ⟨[.dat (intsD a), .dat (intsD b), .tup [], .tup [], .tup [], .tup [], .tup [], .tup [], .tup [], .tup [], .tup [], .tup [], .tup [], .tup [], .tup [], .tup [], .tup [], .tup [], .tup [], .tup [], .tup [], .tup [], .tup [], .tup [], .tup [], .tup []], []⟩) rfl ?_
  repeat (first | refine R_seq ?_ | refine R_block ?_ | refine R_skip ?_)
  refine R_region ?_
  (refine OpsE_do rfl ?_; refine E_assign rfl rfl ?_; refine OpsE_eq (st' := _) (by first | dsimp only [n0, n1, n2, n3, n4, n5, n6, n7, n8, n9, m0, m1, m2, m3, m4, m5, m6, m7, m8, m9, o0, o1, o2, o3, o4, ↓reduceIte] | rfl) ?_)
  refine OpsE_nil ?_
  repeat (first | refine R_seq ?_ | refine R_block ?_ | refine R_skip ?_)
  refine R_region ?_
  iterate 5 ((refine OpsE_do rfl ?_; first | refine E_move rfl ?_ | refine E_len un44 rfl rfl ?_ | refine E_int rfl rfl rfl rfl ?_); refine OpsE_eq (st' := _) (by first | dsimp only [n0, n1, n2, n3, n4, n5, n6, n7, n8, n9, m0, m1, m2, m3, m4, m5, m6, m7, m8, m9, o0, o1, o2, o3, o4, ↓reduceIte] | rfl) ?_)
  refine OpsE_nil ?_
  repeat (first | refine R_seq ?_ | refine R_block ?_ | refine R_skip ?_)
  refine R_cond rfl (fun h => ?_) (fun h => ?_)
  · have h' : a.length ≠ b.length := by simp at h; omega
    repeat (first | refine R_seq ?_ | refine R_block ?_ | refine R_skip ?_)
    refine R_region ?_
    (refine OpsE_do rfl ?_; refine E_assign rfl rfl ?_; refine OpsE_eq (st' := _) (by first | dsimp only [n0, n1, n2, n3, n4, n5, n6, n7, n8, n9, m0, m1, m2, m3, m4, m5, m6, m7, m8, m9, o0, o1, o2, o3, o4, ↓reduceIte] | rfl) ?_)
    refine OpsE_nil ?_
    repeat (first | refine R_seq ?_ | refine R_block ?_ | refine R_skip ?_)
    refine R_ret ?_
    refine ⟨trivial, _, rfl, ?_⟩
    rw [show decide (a = b) = false from decide_eq_false (fun e => h' (by rw [e]))]
    rfl
  · have h' : a.length = b.length := by simp at h; omega
    repeat (first | refine R_seq ?_ | refine R_block ?_ | refine R_skip ?_)
    refine R_region ?_
    (refine OpsE_do rfl ?_; refine E_assign rfl rfl ?_; refine OpsE_eq (st' := _) (by first | dsimp only [n0, n1, n2, n3, n4, n5, n6, n7, n8, n9, m0, m1, m2, m3, m4, m5, m6, m7, m8, m9, o0, o1, o2, o3, o4, ↓reduceIte] | rfl) ?_)
    refine OpsE_nil ?_
    repeat (first | refine R_seq ?_ | refine R_block ?_ | refine R_skip ?_)
    refine R_loop ?_
    refine RL_ind (fun (j : Nat) => ⟨[.dat (intsD a), .dat (intsD b), .undef, .undef, .undef, intPV (j : Int), .undef, .undef, .undef, .undef, .undef, .undef, .undef, .undef, .undef, .undef, .undef, .undef, .undef, .undef, .undef, .undef, .undef, .undef, .undef, .undef], []⟩)
      (fun j => j ≤ a.length ∧ a.take j = b.take j) (fun j => a.length - j) (fun j hj => ?_) _ 0 _ (Nat.lt_succ_self _) ⟨Nat.zero_le _, rfl⟩ rfl
    obtain ⟨hj, ht⟩ := hj
    repeat (first | refine R_seq ?_ | refine R_block ?_ | refine R_skip ?_)
    refine R_region ?_
    iterate 4 ((refine OpsE_do rfl ?_; first | refine E_move rfl ?_ | refine E_len un44 rfl rfl ?_ | refine E_int rfl rfl rfl rfl ?_); refine OpsE_eq (st' := _) (by first | dsimp only [n0, n1, n2, n3, n4, n5, n6, n7, n8, n9, m0, m1, m2, m3, m4, m5, m6, m7, m8, m9, o0, o1, o2, o3, o4, ↓reduceIte] | rfl) ?_)
    refine OpsE_nil ?_
    repeat (first | refine R_seq ?_ | refine R_block ?_ | refine R_skip ?_)
    refine R_if rfl (fun h => ?_) (fun h => ?_)
    · have hj' : j < a.length := by simpa using h
      have hjb : j < b.length := by omega
      repeat (first | refine R_seq ?_ | refine R_block ?_ | refine R_skip ?_)
      refine R_draw ?_
      iterate 2 ((refine DrawE_do rfl ?_; refine E_move rfl ?_); refine DrawE_eq (st' := _) (by first | dsimp only [n0, n1, n2, n3, n4, n5, n6, n7, n8, n9, m0, m1, m2, m3, m4, m5, m6, m7, m8, m9, o0, o1, o2, o3, o4, ↓reduceIte] | rfl) ?_)
      (refine DrawE_do rfl ?_; (first | refine E_index el44 sz2 rfl rfl rfl rfl (ints_get hj') rfl ?_ | refine E_index0 el44 sz2 rfl rfl rfl rfl (ints_get hj') ?_ | refine E_indexArr el44 sz2 rfl rfl rfl rfl (ints_get hj') ?_); refine DrawE_eq (st' := _) (by first | dsimp only [n0, n1, n2, n3, n4, n5, n6, n7, n8, n9, m0, m1, m2, m3, m4, m5, m6, m7, m8, m9, o0, o1, o2, o3, o4, ↓reduceIte] | rfl) ?_)
      iterate 3 ((refine DrawE_do rfl ?_; first | refine E_loadi (ds := [_]) ag2 sz2 rfl rfl rfl rfl ?_ | refine E_loadp (ds := [_]) ag2 sz2 rfl rfl rfl rfl rfl ?_ | refine E_move rfl ?_); refine DrawE_eq (st' := _) (by first | dsimp only [n0, n1, n2, n3, n4, n5, n6, n7, n8, n9, m0, m1, m2, m3, m4, m5, m6, m7, m8, m9, o0, o1, o2, o3, o4, ↓reduceIte] | rfl) ?_)
      (refine DrawE_do rfl ?_; (first | refine E_index el44 sz2 rfl rfl rfl rfl (ints_get hjb) rfl ?_ | refine E_index0 el44 sz2 rfl rfl rfl rfl (ints_get hjb) ?_ | refine E_indexArr el44 sz2 rfl rfl rfl rfl (ints_get hjb) ?_); refine DrawE_eq (st' := _) (by first | dsimp only [n0, n1, n2, n3, n4, n5, n6, n7, n8, n9, m0, m1, m2, m3, m4, m5, m6, m7, m8, m9, o0, o1, o2, o3, o4, ↓reduceIte] | rfl) ?_)
      iterate 2 ((refine DrawE_do rfl ?_; first | refine E_loadi (ds := [_]) ag2 sz2 rfl rfl rfl rfl ?_ | refine E_loadp (ds := [_]) ag2 sz2 rfl rfl rfl rfl rfl ?_ | refine E_int rfl rfl rfl rfl ?_); refine DrawE_eq (st' := _) (by first | dsimp only [n0, n1, n2, n3, n4, n5, n6, n7, n8, n9, m0, m1, m2, m3, m4, m5, m6, m7, m8, m9, o0, o1, o2, o3, o4, ↓reduceIte] | rfl) ?_)
      refine DrawE_nil ⟨by kernel_rfl, ?_⟩
      repeat (first | refine R_seq ?_ | refine R_block ?_ | refine R_skip ?_)
      refine R_cond rfl (fun hne => ?_) (fun hne => ?_)
      · have hne' : a[j] ≠ b[j] := by simpa using hne
        repeat (first | refine R_seq ?_ | refine R_block ?_ | refine R_skip ?_)
        refine R_region ?_
        (refine OpsE_do rfl ?_; refine E_assign rfl rfl ?_; refine OpsE_eq (st' := _) (by first | dsimp only [n0, n1, n2, n3, n4, n5, n6, n7, n8, n9, m0, m1, m2, m3, m4, m5, m6, m7, m8, m9, o0, o1, o2, o3, o4, ↓reduceIte] | rfl) ?_)
        refine OpsE_nil ?_
        repeat (first | refine R_seq ?_ | refine R_block ?_ | refine R_skip ?_)
        refine R_ret ?_
        refine ⟨trivial, _, rfl, ?_⟩
        rw [show decide (a = b) = false from decide_eq_false (fun e => hne' (by subst e; rfl))]
        rfl
      · have hne' : a[j] = b[j] := by simpa using hne
        repeat (first | refine R_seq ?_ | refine R_block ?_ | refine R_skip ?_)
        refine R_region ?_
        iterate 3 ((refine OpsE_do rfl ?_; first | refine E_move rfl ?_ | refine E_int rfl rfl rfl rfl ?_ | refine E_assign rfl rfl ?_); refine OpsE_eq (st' := _) (by first | dsimp only [n0, n1, n2, n3, n4, n5, n6, n7, n8, n9, m0, m1, m2, m3, m4, m5, m6, m7, m8, m9, o0, o1, o2, o3, o4, ↓reduceIte] | rfl) ?_)
        refine OpsE_nil ?_
        refine ⟨j + 1, ?_, by omega, by omega, ?_⟩
        · rw [wrap_succ (by omega)]
          rfl
        · rw [List.take_succ_eq_append_getElem hj', List.take_succ_eq_append_getElem hjb, ht, hne']
    · have hj' : j = a.length := by simp at h; omega
      subst hj'
      repeat (first | refine R_seq ?_ | refine R_block ?_ | refine R_skip ?_)
      refine R_exit ?_
      repeat (first | refine R_seq ?_ | refine R_block ?_ | refine R_skip ?_)
      refine R_region ?_
      (refine OpsE_do rfl ?_; refine E_assign rfl rfl ?_; refine OpsE_eq (st' := _) (by first | dsimp only [n0, n1, n2, n3, n4, n5, n6, n7, n8, n9, m0, m1, m2, m3, m4, m5, m6, m7, m8, m9, o0, o1, o2, o3, o4, ↓reduceIte] | rfl) ?_)
      refine OpsE_nil ?_
      repeat (first | refine R_seq ?_ | refine R_block ?_ | refine R_skip ?_)
      refine R_ret ?_
      refine ⟨trivial, _, rfl, ?_⟩
      rw [List.take_length, h', List.take_length] at ht
      rw [decide_eq_true ht]
      rfl
theorem c20t (a : List Int) (H : List Blk) (ha : a.length ≤ 9223372036854775807) : PC prog env 20 [.dat (intsD a), .dat (intsD a)] H (boolPV true) H := by
  have := c20 a a H ha
  rwa [show decide (a = a) = true from decide_eq_true rfl] at this

/-- buffers, as data -/
def bfsD (l : List (List Int)) : Dat := .lst (l.map intsD)
theorem bufs_get {l : List (List Int)} {j : Nat} (h : j < l.length) : (l.map intsD)[j]? = some (intsD l[j]) := by simp [h]
/-- an event writes below n, and reads what there is -/
def fitB (bufs : List (List Int)) (n : Int) (e : Evt) : Bool :=
  decide (0 ≤ e.write ∧ e.write < n ∧ (e.fill = false → 0 ≤ e.buffer ∧ e.buffer < bufs.length ∧ 0 ≤ e.offset ∧ e.offset < (bufs.getD e.buffer.toNat []).length))
def fitsB (l : List Nst) (bufs : List (List Int)) (n : Int) : Bool := (eventsL l).all (fitB bufs n)

theorem c18 (l : List Nst) (bufs : List (List Int)) (n : Int) (H : List Blk) (hS : ∀ n ∈ l, SmallN n) (hl : l.length ≤ 1000) : PC prog env 18 [.dat (nestsD l), .dat (bfsD bufs), .dat (intD n)] H (boolPV (fitsB l bufs n)) H := by
  refine PC_pure (fn := f18) (by kernel_rfl) rfl rfl (by kernel_rfl) rfl rfl ?_ (by simp [PV.lends])
  have hlen := eventsL_len hS
  refine R_eq (st' := ⟨[.dat (nestsD l), .dat (bfsD bufs), .dat (intD n), .tup [], .tup [], .tup [], .tup [], .tup [], .tup [], .tup [], .tup [], .tup [], .tup [], .tup [], .tup [], .tup [], .tup [], .tup [], .tup [], .tup [], .tup [], .tup [], .tup [], .tup [], .tup [], .tup [], .tup [], .tup [], .tup [], .tup [], .tup [], .tup [], .tup [], .tup [], .tup [], .tup [], .tup [], .tup [], .tup [], .tup [], .tup [], .tup [], .tup [], .tup [], .tup [], .tup [], .tup [], .tup [], .tup [], .tup [], .tup [], .tup [], .tup [], .tup [], .tup [], .tup [], .tup [], .tup [], .tup [], .tup [], .tup [], .tup [], .tup [], .tup [], .tup [], .tup [], .tup [], .tup [], .tup [], .tup [], .tup [], .tup [], .tup [], .tup [], .tup [], .tup [], .tup [], .tup [], .tup [], .tup [], .tup []], []⟩) rfl ?_
  repeat (first | refine R_seq ?_ | refine R_block ?_ | refine R_skip ?_)
  refine R_region ?_
  (refine OpsE_do rfl ?_; refine E_assign rfl rfl ?_; refine OpsE_eq (st' := _) (by first | dsimp only [n0, n1, n2, n3, n4, n5, n6, n7, n8, n9, m0, m1, m2, m3, m4, m5, m6, m7, m8, m9, o0, o1, o2, o3, o4, ↓reduceIte] | rfl) ?_)
  refine OpsE_nil ?_
  repeat (first | refine R_seq ?_ | refine R_block ?_ | refine R_skip ?_)
  refine R_region ?_
  (refine OpsE_do rfl ?_; refine E_move rfl ?_; refine OpsE_eq (st' := _) (by first | dsimp only [n0, n1, n2, n3, n4, n5, n6, n7, n8, n9, m0, m1, m2, m3, m4, m5, m6, m7, m8, m9, o0, o1, o2, o3, o4, ↓reduceIte] | rfl) ?_)
  (refine OpsE_do rfl ?_; (first | refine E_call rfl rfl (c12L hS hl _) ?_ | refine E_callfn rfl rfl (c12L hS hl _) ?_); refine OpsE_eq (st' := _) (by first | dsimp only [n0, n1, n2, n3, n4, n5, n6, n7, n8, n9, m0, m1, m2, m3, m4, m5, m6, m7, m8, m9, o0, o1, o2, o3, o4, ↓reduceIte] | rfl) ?_)
  (refine OpsE_do rfl ?_; refine E_assign rfl rfl ?_; refine OpsE_eq (st' := _) (by first | dsimp only [n0, n1, n2, n3, n4, n5, n6, n7, n8, n9, m0, m1, m2, m3, m4, m5, m6, m7, m8, m9, o0, o1, o2, o3, o4, ↓reduceIte] | rfl) ?_)
  refine OpsE_nil ?_
  repeat (first | refine R_seq ?_ | refine R_block ?_ | refine R_skip ?_)
  refine R_region ?_
  (refine OpsE_do rfl ?_; refine E_assign rfl rfl ?_; refine OpsE_eq (st' := _) (by first | dsimp only [n0, n1, n2, n3, n4, n5, n6, n7, n8, n9, m0, m1, m2, m3, m4, m5, m6, m7, m8, m9, o0, o1, o2, o3, o4, ↓reduceIte] | rfl) ?_)
  refine OpsE_nil ?_
  rw [fitsB]
  generalize eventsL l = E at hlen
  repeat (first | refine R_seq ?_ | refine R_block ?_ | refine R_skip ?_)
  refine R_loop ?_
  refine RL_ind (fun (j : Nat) => ⟨[.undef, .dat (bfsD bufs), .dat (intD n), .undef, .undef, .undef, .undef, .dat (evtsD E), intPV (j : Int), .undef, .undef, .undef, .undef, .undef, .undef, .undef, .undef, .undef, .undef, .undef, .undef, .undef, .undef, .undef, .undef, .undef, .undef, .undef, .undef, .undef, .undef, .undef, .undef, .undef, .undef, .undef, .undef, .undef, .undef, .undef, .undef, .undef, .undef, .undef, .undef, .undef, .undef, .undef, .undef, .undef, .undef, .undef, .undef, .undef, .undef, .undef, .undef, .undef, .undef, .undef, .undef, .undef, .undef, .undef, .undef, .undef, .undef, .undef, .undef, .undef, .undef, .undef, .undef, .undef, .undef, .undef, .undef, .undef, .undef, .undef, .undef], []⟩)
    (fun j => j ≤ E.length ∧ (E.take j).all (fitB bufs n) = true) (fun j => E.length - j) (fun j hj => ?_) _ 0 _ (Nat.lt_succ_self _) ⟨Nat.zero_le _, rfl⟩ rfl
  obtain ⟨hj, hall⟩ := hj
  repeat (first | refine R_seq ?_ | refine R_block ?_ | refine R_skip ?_)
  refine R_region ?_
  iterate 4 ((refine OpsE_do rfl ?_; first | refine E_move rfl ?_ | refine E_len un25 rfl rfl ?_ | refine E_int rfl rfl rfl rfl ?_); refine OpsE_eq (st' := _) (by first | dsimp only [n0, n1, n2, n3, n4, n5, n6, n7, n8, n9, m0, m1, m2, m3, m4, m5, m6, m7, m8, m9, o0, o1, o2, o3, o4, ↓reduceIte] | rfl) ?_)
  refine OpsE_nil ?_
  repeat (first | refine R_seq ?_ | refine R_block ?_ | refine R_skip ?_)
  refine R_if rfl (fun h => ?_) (fun h => ?_)
  · have hj' : j < E.length := by simpa using h
    have bad : fitB bufs n E[j] = false → E.all (fitB bufs n) = false := fun hf => List.all_eq_false.2 ⟨_, List.getElem_mem hj', by simp [hf]⟩
    have good : fitB bufs n E[j] = true → (E.take (j + 1)).all (fitB bufs n) = true := fun hf => by rw [List.take_succ_eq_append_getElem hj', List.all_append, hall]; simp [hf]
    have hEj := evts_get hj'
    generalize E[j] = e at bad good hEj
    by_cases w0 : e.write < 0
    · have e5 : intBin .lss .i64 e.write 0 = some (.bool true) := by simp [intBin]; omega
      repeat (first | refine R_seq ?_ | refine R_block ?_ | refine R_skip ?_)
      refine R_region ?_
      iterate 2 ((refine OpsE_do rfl ?_; refine E_move rfl ?_); refine OpsE_eq (st' := _) (by first | dsimp only [n0, n1, n2, n3, n4, n5, n6, n7, n8, n9, m0, m1, m2, m3, m4, m5, m6, m7, m8, m9, o0, o1, o2, o3, o4, ↓reduceIte] | rfl) ?_)
      (refine OpsE_do rfl ?_; (first | refine E_index el25 sz37 rfl rfl rfl rfl hEj rfl ?_ | refine E_index0 el25 sz37 rfl rfl rfl rfl hEj ?_ | refine E_indexArr el25 sz37 rfl rfl rfl rfl hEj ?_); refine OpsE_eq (st' := _) (by first | dsimp only [n0, n1, n2, n3, n4, n5, n6, n7, n8, n9, m0, m1, m2, m3, m4, m5, m6, m7, m8, m9, o0, o1, o2, o3, o4, ↓reduceIte] | rfl) ?_)
      iterate 2 ((refine OpsE_do rfl ?_; first | refine E_fieldp fo37_0 rfl rfl ?_ | refine E_fieldi fo37_0 rfl rfl ?_ | refine E_loadi (ds := [_]) ag3 sz3 rfl rfl rfl rfl ?_ | refine E_loadp (ds := [_]) ag3 sz3 rfl rfl rfl rfl rfl ?_); refine OpsE_eq (st' := _) (by first | dsimp only [n0, n1, n2, n3, n4, n5, n6, n7, n8, n9, m0, m1, m2, m3, m4, m5, m6, m7, m8, m9, o0, o1, o2, o3, o4, ↓reduceIte] | rfl) ?_)
      (refine OpsE_do rfl ?_; refine E_int rfl rfl rfl e5 ?_; refine OpsE_eq (st' := _) (by first | dsimp only [n0, n1, n2, n3, n4, n5, n6, n7, n8, n9, m0, m1, m2, m3, m4, m5, m6, m7, m8, m9, o0, o1, o2, o3, o4, ↓reduceIte] | rfl) ?_)
      iterate 3 ((first | (refine OpsE_do rfl ?_; refine E_move rfl ?_) | refine OpsE_not rfl ?_); refine OpsE_eq (st' := _) (by first | dsimp only [n0, n1, n2, n3, n4, n5, n6, n7, n8, n9, m0, m1, m2, m3, m4, m5, m6, m7, m8, m9, o0, o1, o2, o3, o4, ↓reduceIte] | rfl) ?_)
      ((first | (refine OpsE_do rfl ?_; (first | refine E_index el25 sz37 rfl rfl rfl rfl hEj rfl ?_ | refine E_index0 el25 sz37 rfl rfl rfl rfl hEj ?_ | refine E_indexArr el25 sz37 rfl rfl rfl rfl hEj ?_)) | refine OpsE_not rfl ?_); refine OpsE_eq (st' := _) (by first | dsimp only [n0, n1, n2, n3, n4, n5, n6, n7, n8, n9, m0, m1, m2, m3, m4, m5, m6, m7, m8, m9, o0, o1, o2, o3, o4, ↓reduceIte] | rfl) ?_)
      iterate 5 ((first | (refine OpsE_do rfl ?_; first | refine E_fieldp fo37_0 rfl rfl ?_ | refine E_fieldi fo37_0 rfl rfl ?_ | refine E_loadi (ds := [_]) ag3 sz3 rfl rfl rfl rfl ?_ | refine E_loadp (ds := [_]) ag3 sz3 rfl rfl rfl rfl rfl ?_ | refine E_move rfl ?_ | refine E_int rfl rfl rfl rfl ?_ | refine E_pick rfl rfl ?_) | refine OpsE_not rfl ?_); refine OpsE_eq (st' := _) (by first | dsimp only [n0, n1, n2, n3, n4, n5, n6, n7, n8, n9, m0, m1, m2, m3, m4, m5, m6, m7, m8, m9, o0, o1, o2, o3, o4, ↓reduceIte] | rfl) ?_)
      refine OpsE_nil ?_
      repeat (first | refine R_seq ?_ | refine R_block ?_ | refine R_skip ?_)
      refine R_true rfl ?_
      repeat (first | refine R_seq ?_ | refine R_block ?_ | refine R_skip ?_)
      refine R_region ?_
      (refine OpsE_do rfl ?_; refine E_assign rfl rfl ?_; refine OpsE_eq (st' := _) (by first | dsimp only [n0, n1, n2, n3, n4, n5, n6, n7, n8, n9, m0, m1, m2, m3, m4, m5, m6, m7, m8, m9, o0, o1, o2, o3, o4, ↓reduceIte] | rfl) ?_)
      refine OpsE_nil ?_
      repeat (first | refine R_seq ?_ | refine R_block ?_ | refine R_skip ?_)
      refine R_ret ?_
      refine ⟨trivial, _, rfl, ?_⟩
      rw [bad (by simp [fitB]; omega)]
      rfl
    · have e5 : intBin .lss .i64 e.write 0 = some (.bool false) := by simp [intBin]; omega
      by_cases wn : e.write ≥ n
      · have e13 : intBin .geq .i64 e.write n = some (.bool true) := by simp [intBin]; omega
        repeat (first | refine R_seq ?_ | refine R_block ?_ | refine R_skip ?_)
        refine R_region ?_
        iterate 2 ((refine OpsE_do rfl ?_; refine E_move rfl ?_); refine OpsE_eq (st' := _) (by first | dsimp only [n0, n1, n2, n3, n4, n5, n6, n7, n8, n9, m0, m1, m2, m3, m4, m5, m6, m7, m8, m9, o0, o1, o2, o3, o4, ↓reduceIte] | rfl) ?_)
        (refine OpsE_do rfl ?_; (first | refine E_index el25 sz37 rfl rfl rfl rfl hEj rfl ?_ | refine E_index0 el25 sz37 rfl rfl rfl rfl hEj ?_ | refine E_indexArr el25 sz37 rfl rfl rfl rfl hEj ?_); refine OpsE_eq (st' := _) (by first | dsimp only [n0, n1, n2, n3, n4, n5, n6, n7, n8, n9, m0, m1, m2, m3, m4, m5, m6, m7, m8, m9, o0, o1, o2, o3, o4, ↓reduceIte] | rfl) ?_)
        iterate 2 ((refine OpsE_do rfl ?_; first | refine E_fieldp fo37_0 rfl rfl ?_ | refine E_fieldi fo37_0 rfl rfl ?_ | refine E_loadi (ds := [_]) ag3 sz3 rfl rfl rfl rfl ?_ | refine E_loadp (ds := [_]) ag3 sz3 rfl rfl rfl rfl rfl ?_); refine OpsE_eq (st' := _) (by first | dsimp only [n0, n1, n2, n3, n4, n5, n6, n7, n8, n9, m0, m1, m2, m3, m4, m5, m6, m7, m8, m9, o0, o1, o2, o3, o4, ↓reduceIte] | rfl) ?_)
        (refine OpsE_do rfl ?_; refine E_int rfl rfl rfl e5 ?_; refine OpsE_eq (st' := _) (by first | dsimp only [n0, n1, n2, n3, n4, n5, n6, n7, n8, n9, m0, m1, m2, m3, m4, m5, m6, m7, m8, m9, o0, o1, o2, o3, o4, ↓reduceIte] | rfl) ?_)
        iterate 3 ((first | (refine OpsE_do rfl ?_; refine E_move rfl ?_) | refine OpsE_not rfl ?_); refine OpsE_eq (st' := _) (by first | dsimp only [n0, n1, n2, n3, n4, n5, n6, n7, n8, n9, m0, m1, m2, m3, m4, m5, m6, m7, m8, m9, o0, o1, o2, o3, o4, ↓reduceIte] | rfl) ?_)
        ((first | (refine OpsE_do rfl ?_; (first | refine E_index el25 sz37 rfl rfl rfl rfl hEj rfl ?_ | refine E_index0 el25 sz37 rfl rfl rfl rfl hEj ?_ | refine E_indexArr el25 sz37 rfl rfl rfl rfl hEj ?_)) | refine OpsE_not rfl ?_); refine OpsE_eq (st' := _) (by first | dsimp only [n0, n1, n2, n3, n4, n5, n6, n7, n8, n9, m0, m1, m2, m3, m4, m5, m6, m7, m8, m9, o0, o1, o2, o3, o4, ↓reduceIte] | rfl) ?_)
        iterate 3 ((first | (refine OpsE_do rfl ?_; first | refine E_fieldp fo37_0 rfl rfl ?_ | refine E_fieldi fo37_0 rfl rfl ?_ | refine E_loadi (ds := [_]) ag3 sz3 rfl rfl rfl rfl ?_ | refine E_loadp (ds := [_]) ag3 sz3 rfl rfl rfl rfl rfl ?_ | refine E_move rfl ?_) | refine OpsE_not rfl ?_); refine OpsE_eq (st' := _) (by first | dsimp only [n0, n1, n2, n3, n4, n5, n6, n7, n8, n9, m0, m1, m2, m3, m4, m5, m6, m7, m8, m9, o0, o1, o2, o3, o4, ↓reduceIte] | rfl) ?_)
        ((first | (refine OpsE_do rfl ?_; refine E_int rfl rfl rfl e13 ?_) | refine OpsE_not rfl ?_); refine OpsE_eq (st' := _) (by first | dsimp only [n0, n1, n2, n3, n4, n5, n6, n7, n8, n9, m0, m1, m2, m3, m4, m5, m6, m7, m8, m9, o0, o1, o2, o3, o4, ↓reduceIte] | rfl) ?_)
        (refine OpsE_do rfl ?_; refine E_pick rfl rfl ?_; refine OpsE_eq (st' := _) (by first | dsimp only [n0, n1, n2, n3, n4, n5, n6, n7, n8, n9, m0, m1, m2, m3, m4, m5, m6, m7, m8, m9, o0, o1, o2, o3, o4, ↓reduceIte] | rfl) ?_)
        refine OpsE_nil ?_
        repeat (first | refine R_seq ?_ | refine R_block ?_ | refine R_skip ?_)
        refine R_true rfl ?_
        repeat (first | refine R_seq ?_ | refine R_block ?_ | refine R_skip ?_)
        refine R_region ?_
        (refine OpsE_do rfl ?_; refine E_assign rfl rfl ?_; refine OpsE_eq (st' := _) (by first | dsimp only [n0, n1, n2, n3, n4, n5, n6, n7, n8, n9, m0, m1, m2, m3, m4, m5, m6, m7, m8, m9, o0, o1, o2, o3, o4, ↓reduceIte] | rfl) ?_)
        refine OpsE_nil ?_
        repeat (first | refine R_seq ?_ | refine R_block ?_ | refine R_skip ?_)
        refine R_ret ?_
        refine ⟨trivial, _, rfl, ?_⟩
        rw [bad (by simp [fitB]; omega)]
        rfl
      · have e13 : intBin .geq .i64 e.write n = some (.bool false) := by simp [intBin]; omega
        repeat (first | refine R_seq ?_ | refine R_block ?_ | refine R_skip ?_)
        refine R_region ?_
        iterate 2 ((refine OpsE_do rfl ?_; refine E_move rfl ?_); refine OpsE_eq (st' := _) (by first | dsimp only [n0, n1, n2, n3, n4, n5, n6, n7, n8, n9, m0, m1, m2, m3, m4, m5, m6, m7, m8, m9, o0, o1, o2, o3, o4, ↓reduceIte] | rfl) ?_)
        (refine OpsE_do rfl ?_; (first | refine E_index el25 sz37 rfl rfl rfl rfl hEj rfl ?_ | refine E_index0 el25 sz37 rfl rfl rfl rfl hEj ?_ | refine E_indexArr el25 sz37 rfl rfl rfl rfl hEj ?_); refine OpsE_eq (st' := _) (by first | dsimp only [n0, n1, n2, n3, n4, n5, n6, n7, n8, n9, m0, m1, m2, m3, m4, m5, m6, m7, m8, m9, o0, o1, o2, o3, o4, ↓reduceIte] | rfl) ?_)
        iterate 2 ((refine OpsE_do rfl ?_; first | refine E_fieldp fo37_0 rfl rfl ?_ | refine E_fieldi fo37_0 rfl rfl ?_ | refine E_loadi (ds := [_]) ag3 sz3 rfl rfl rfl rfl ?_ | refine E_loadp (ds := [_]) ag3 sz3 rfl rfl rfl rfl rfl ?_); refine OpsE_eq (st' := _) (by first | dsimp only [n0, n1, n2, n3, n4, n5, n6, n7, n8, n9, m0, m1, m2, m3, m4, m5, m6, m7, m8, m9, o0, o1, o2, o3, o4, ↓reduceIte] | rfl) ?_)
        (refine OpsE_do rfl ?_; refine E_int rfl rfl rfl e5 ?_; refine OpsE_eq (st' := _) (by first | dsimp only [n0, n1, n2, n3, n4, n5, n6, n7, n8, n9, m0, m1, m2, m3, m4, m5, m6, m7, m8, m9, o0, o1, o2, o3, o4, ↓reduceIte] | rfl) ?_)
        iterate 3 ((first | (refine OpsE_do rfl ?_; refine E_move rfl ?_) | refine OpsE_not rfl ?_); refine OpsE_eq (st' := _) (by first | dsimp only [n0, n1, n2, n3, n4, n5, n6, n7, n8, n9, m0, m1, m2, m3, m4, m5, m6, m7, m8, m9, o0, o1, o2, o3, o4, ↓reduceIte] | rfl) ?_)
        ((first | (refine OpsE_do rfl ?_; (first | refine E_index el25 sz37 rfl rfl rfl rfl hEj rfl ?_ | refine E_index0 el25 sz37 rfl rfl rfl rfl hEj ?_ | refine E_indexArr el25 sz37 rfl rfl rfl rfl hEj ?_)) | refine OpsE_not rfl ?_); refine OpsE_eq (st' := _) (by first | dsimp only [n0, n1, n2, n3, n4, n5, n6, n7, n8, n9, m0, m1, m2, m3, m4, m5, m6, m7, m8, m9, o0, o1, o2, o3, o4, ↓reduceIte] | rfl) ?_)
        iterate 3 ((first | (refine OpsE_do rfl ?_; first | refine E_fieldp fo37_0 rfl rfl ?_ | refine E_fieldi fo37_0 rfl rfl ?_ | refine E_loadi (ds := [_]) ag3 sz3 rfl rfl rfl rfl ?_ | refine E_loadp (ds := [_]) ag3 sz3 rfl rfl rfl rfl rfl ?_ | refine E_move rfl ?_) | refine OpsE_not rfl ?_); refine OpsE_eq (st' := _) (by first | dsimp only [n0, n1, n2, n3, n4, n5, n6, n7, n8, n9, m0, m1, m2, m3, m4, m5, m6, m7, m8, m9, o0, o1, o2, o3, o4, ↓reduceIte] | rfl) ?_)
        ((first | (refine OpsE_do rfl ?_; refine E_int rfl rfl rfl e13 ?_) | refine OpsE_not rfl ?_); refine OpsE_eq (st' := _) (by first | dsimp only [n0, n1, n2, n3, n4, n5, n6, n7, n8, n9, m0, m1, m2, m3, m4, m5, m6, m7, m8, m9, o0, o1, o2, o3, o4, ↓reduceIte] | rfl) ?_)
        (refine OpsE_do rfl ?_; refine E_pick rfl rfl ?_; refine OpsE_eq (st' := _) (by first | dsimp only [n0, n1, n2, n3, n4, n5, n6, n7, n8, n9, m0, m1, m2, m3, m4, m5, m6, m7, m8, m9, o0, o1, o2, o3, o4, ↓reduceIte] | rfl) ?_)
        refine OpsE_nil ?_
        repeat (first | refine R_seq ?_ | refine R_block ?_ | refine R_skip ?_)
        refine R_false rfl ?_
        cases hf : e.fill
        · have f5 : (PV.dat (.raw (.bool e.fill))) = boolPV false := by rw [hf]; rfl
          by_cases b0 : e.buffer < 0
          · have e12 : intBin .lss .i64 e.buffer 0 = some (.bool true) := by simp [intBin]; omega
            repeat (first | refine R_seq ?_ | refine R_block ?_ | refine R_skip ?_)
            refine R_draw ?_
            iterate 2 ((refine DrawE_do rfl ?_; refine E_move rfl ?_); refine DrawE_eq (st' := _) (by first | dsimp only [n0, n1, n2, n3, n4, n5, n6, n7, n8, n9, m0, m1, m2, m3, m4, m5, m6, m7, m8, m9, o0, o1, o2, o3, o4, ↓reduceIte] | rfl) ?_)
            (refine DrawE_do rfl ?_; (first | refine E_index el25 sz37 rfl rfl rfl rfl hEj rfl ?_ | refine E_index0 el25 sz37 rfl rfl rfl rfl hEj ?_ | refine E_indexArr el25 sz37 rfl rfl rfl rfl hEj ?_); refine DrawE_eq (st' := _) (by first | dsimp only [n0, n1, n2, n3, n4, n5, n6, n7, n8, n9, m0, m1, m2, m3, m4, m5, m6, m7, m8, m9, o0, o1, o2, o3, o4, ↓reduceIte] | rfl) ?_)
            iterate 2 ((refine DrawE_do rfl ?_; first | refine E_fieldp fo37_1 rfl rfl ?_ | refine E_fieldi fo37_1 rfl rfl ?_ | refine E_loadi (ds := [_]) ag4 sz4 rfl rfl rfl rfl ?_ | refine E_loadp (ds := [_]) ag4 sz4 rfl rfl rfl rfl rfl ?_); refine DrawE_eq (st' := _) (by first | dsimp only [n0, n1, n2, n3, n4, n5, n6, n7, n8, n9, m0, m1, m2, m3, m4, m5, m6, m7, m8, m9, o0, o1, o2, o3, o4, ↓reduceIte] | rfl) ?_)
            (refine DrawE_do rfl ?_; refine E_not (b := false) rfl (by exact f5) ?_; refine DrawE_eq (st' := _) (by first | dsimp only [n0, n1, n2, n3, n4, n5, n6, n7, n8, n9, m0, m1, m2, m3, m4, m5, m6, m7, m8, m9, o0, o1, o2, o3, o4, ↓reduceIte] | rfl) ?_)
            iterate 3 ((first | (refine DrawE_do rfl ?_; refine E_move rfl ?_) | refine DrawE_not rfl ?_); refine DrawE_eq (st' := _) (by first | dsimp only [n0, n1, n2, n3, n4, n5, n6, n7, n8, n9, m0, m1, m2, m3, m4, m5, m6, m7, m8, m9, o0, o1, o2, o3, o4, ↓reduceIte] | rfl) ?_)
            ((first | (refine DrawE_do rfl ?_; (first | refine E_index el25 sz37 rfl rfl rfl rfl hEj rfl ?_ | refine E_index0 el25 sz37 rfl rfl rfl rfl hEj ?_ | refine E_indexArr el25 sz37 rfl rfl rfl rfl hEj ?_)) | refine DrawE_not rfl ?_); refine DrawE_eq (st' := _) (by first | dsimp only [n0, n1, n2, n3, n4, n5, n6, n7, n8, n9, m0, m1, m2, m3, m4, m5, m6, m7, m8, m9, o0, o1, o2, o3, o4, ↓reduceIte] | rfl) ?_)
            iterate 2 ((first | (refine DrawE_do rfl ?_; first | refine E_fieldp fo37_2 rfl rfl ?_ | refine E_fieldi fo37_2 rfl rfl ?_ | refine E_loadi (ds := [_]) ag3 sz3 rfl rfl rfl rfl ?_ | refine E_loadp (ds := [_]) ag3 sz3 rfl rfl rfl rfl rfl ?_) | refine DrawE_not rfl ?_); refine DrawE_eq (st' := _) (by first | dsimp only [n0, n1, n2, n3, n4, n5, n6, n7, n8, n9, m0, m1, m2, m3, m4, m5, m6, m7, m8, m9, o0, o1, o2, o3, o4, ↓reduceIte] | rfl) ?_)
            ((first | (refine DrawE_do rfl ?_; refine E_int rfl rfl rfl e12 ?_) | refine DrawE_not rfl ?_); refine DrawE_eq (st' := _) (by first | dsimp only [n0, n1, n2, n3, n4, n5, n6, n7, n8, n9, m0, m1, m2, m3, m4, m5, m6, m7, m8, m9, o0, o1, o2, o3, o4, ↓reduceIte] | rfl) ?_)
            iterate 3 ((first | (refine DrawE_do rfl ?_; refine E_move rfl ?_) | refine DrawE_not rfl ?_); refine DrawE_eq (st' := _) (by first | dsimp only [n0, n1, n2, n3, n4, n5, n6, n7, n8, n9, m0, m1, m2, m3, m4, m5, m6, m7, m8, m9, o0, o1, o2, o3, o4, ↓reduceIte] | rfl) ?_)
            ((first | (refine DrawE_do rfl ?_; (first | refine E_index el25 sz37 rfl rfl rfl rfl hEj rfl ?_ | refine E_index0 el25 sz37 rfl rfl rfl rfl hEj ?_ | refine E_indexArr el25 sz37 rfl rfl rfl rfl hEj ?_)) | refine DrawE_not rfl ?_); refine DrawE_eq (st' := _) (by first | dsimp only [n0, n1, n2, n3, n4, n5, n6, n7, n8, n9, m0, m1, m2, m3, m4, m5, m6, m7, m8, m9, o0, o1, o2, o3, o4, ↓reduceIte] | rfl) ?_)
            iterate 9 ((first | (refine DrawE_do rfl ?_; first | refine E_fieldp fo37_2 rfl rfl ?_ | refine E_fieldi fo37_2 rfl rfl ?_ | refine E_loadi (ds := [_]) ag3 sz3 rfl rfl rfl rfl ?_ | refine E_loadp (ds := [_]) ag3 sz3 rfl rfl rfl rfl rfl ?_ | refine E_move rfl ?_ | refine E_len un41 rfl rfl ?_ | refine E_int rfl rfl rfl rfl ?_ | refine E_pick rfl rfl ?_) | refine DrawE_not rfl ?_); refine DrawE_eq (st' := _) (by first | dsimp only [n0, n1, n2, n3, n4, n5, n6, n7, n8, n9, m0, m1, m2, m3, m4, m5, m6, m7, m8, m9, o0, o1, o2, o3, o4, ↓reduceIte] | rfl) ?_)
            ((first | (refine DrawE_do rfl ?_; (first | refine E_index el25 sz37 rfl rfl rfl rfl hEj rfl ?_ | refine E_index0 el25 sz37 rfl rfl rfl rfl hEj ?_ | refine E_indexArr el25 sz37 rfl rfl rfl rfl hEj ?_)) | refine DrawE_not rfl ?_); refine DrawE_eq (st' := _) (by first | dsimp only [n0, n1, n2, n3, n4, n5, n6, n7, n8, n9, m0, m1, m2, m3, m4, m5, m6, m7, m8, m9, o0, o1, o2, o3, o4, ↓reduceIte] | rfl) ?_)
            iterate 7 ((first | (refine DrawE_do rfl ?_; first | refine E_fieldp fo37_3 rfl rfl ?_ | refine E_fieldi fo37_3 rfl rfl ?_ | refine E_loadi (ds := [_]) ag3 sz3 rfl rfl rfl rfl ?_ | refine E_loadp (ds := [_]) ag3 sz3 rfl rfl rfl rfl rfl ?_ | refine E_int rfl rfl rfl rfl ?_ | refine E_pick rfl rfl ?_ | refine E_move rfl ?_) | refine DrawE_not rfl ?_); refine DrawE_eq (st' := _) (by first | dsimp only [n0, n1, n2, n3, n4, n5, n6, n7, n8, n9, m0, m1, m2, m3, m4, m5, m6, m7, m8, m9, o0, o1, o2, o3, o4, ↓reduceIte] | rfl) ?_)
            ((first | (refine DrawE_do rfl ?_; (first | refine E_index el25 sz37 rfl rfl rfl rfl hEj rfl ?_ | refine E_index0 el25 sz37 rfl rfl rfl rfl hEj ?_ | refine E_indexArr el25 sz37 rfl rfl rfl rfl hEj ?_)) | refine DrawE_not rfl ?_); refine DrawE_eq (st' := _) (by first | dsimp only [n0, n1, n2, n3, n4, n5, n6, n7, n8, n9, m0, m1, m2, m3, m4, m5, m6, m7, m8, m9, o0, o1, o2, o3, o4, ↓reduceIte] | rfl) ?_)
            iterate 5 ((first | (refine DrawE_do rfl ?_; first | refine E_fieldp fo37_3 rfl rfl ?_ | refine E_fieldi fo37_3 rfl rfl ?_ | refine E_loadi (ds := [_]) ag3 sz3 rfl rfl rfl rfl ?_ | refine E_loadp (ds := [_]) ag3 sz3 rfl rfl rfl rfl rfl ?_ | refine E_move rfl ?_) | refine DrawE_not rfl ?_); refine DrawE_eq (st' := _) (by first | dsimp only [n0, n1, n2, n3, n4, n5, n6, n7, n8, n9, m0, m1, m2, m3, m4, m5, m6, m7, m8, m9, o0, o1, o2, o3, o4, ↓reduceIte] | rfl) ?_)
            ((first | (refine DrawE_do rfl ?_; (first | refine E_index el25 sz37 rfl rfl rfl rfl hEj rfl ?_ | refine E_index0 el25 sz37 rfl rfl rfl rfl hEj ?_ | refine E_indexArr el25 sz37 rfl rfl rfl rfl hEj ?_)) | refine DrawE_not rfl ?_); refine DrawE_eq (st' := _) (by first | dsimp only [n0, n1, n2, n3, n4, n5, n6, n7, n8, n9, m0, m1, m2, m3, m4, m5, m6, m7, m8, m9, o0, o1, o2, o3, o4, ↓reduceIte] | rfl) ?_)
            iterate 2 ((first | (refine DrawE_do rfl ?_; first | refine E_fieldp fo37_2 rfl rfl ?_ | refine E_fieldi fo37_2 rfl rfl ?_ | refine E_loadi (ds := [_]) ag3 sz3 rfl rfl rfl rfl ?_ | refine E_loadp (ds := [_]) ag3 sz3 rfl rfl rfl rfl rfl ?_) | refine DrawE_not rfl ?_); refine DrawE_eq (st' := _) (by first | dsimp only [n0, n1, n2, n3, n4, n5, n6, n7, n8, n9, m0, m1, m2, m3, m4, m5, m6, m7, m8, m9, o0, o1, o2, o3, o4, ↓reduceIte] | rfl) ?_)
            ((first | (refine DrawE_do rfl ?_; (first | refine E_index el41 sz44 rfl rfl rfl rfl rfl rfl ?_ | refine E_index0 el41 sz44 rfl rfl rfl rfl rfl ?_ | refine E_indexArr el41 sz44 rfl rfl rfl rfl rfl ?_)) | refine DrawE_not rfl ?_); refine DrawE_eq (st' := _) (by first | dsimp only [n0, n1, n2, n3, n4, n5, n6, n7, n8, n9, m0, m1, m2, m3, m4, m5, m6, m7, m8, m9, o0, o1, o2, o3, o4, ↓reduceIte] | rfl) ?_)
            iterate 5 ((first | (refine DrawE_do rfl ?_; first | refine E_loadi (ds := [_]) ag44 sz44 rfl rfl rfl rfl ?_ | refine E_loadp (ds := [_]) ag44 sz44 rfl rfl rfl rfl rfl ?_ | refine E_len un44 rfl rfl ?_ | refine E_int rfl rfl rfl rfl ?_ | refine E_pick rfl rfl ?_) | refine DrawE_not rfl ?_); refine DrawE_eq (st' := _) (by first | dsimp only [n0, n1, n2, n3, n4, n5, n6, n7, n8, n9, m0, m1, m2, m3, m4, m5, m6, m7, m8, m9, o0, o1, o2, o3, o4, ↓reduceIte] | rfl) ?_)
            refine DrawE_nil ⟨by kernel_rfl, ?_⟩
            repeat (first | refine R_seq ?_ | refine R_block ?_ | refine R_skip ?_)
            refine R_true rfl ?_
            repeat (first | refine R_seq ?_ | refine R_block ?_ | refine R_skip ?_)
            refine R_region ?_
            (refine OpsE_do rfl ?_; refine E_assign rfl rfl ?_; refine OpsE_eq (st' := _) (by first | dsimp only [n0, n1, n2, n3, n4, n5, n6, n7, n8, n9, m0, m1, m2, m3, m4, m5, m6, m7, m8, m9, o0, o1, o2, o3, o4, ↓reduceIte] | rfl) ?_)
            refine OpsE_nil ?_
            repeat (first | refine R_seq ?_ | refine R_block ?_ | refine R_skip ?_)
            refine R_ret ?_
            refine ⟨trivial, _, rfl, ?_⟩
            rw [bad (by simp [fitB, hf]; omega)]
            rfl
          · have e12 : intBin .lss .i64 e.buffer 0 = some (.bool false) := by simp [intBin]; omega
            by_cases bn : e.buffer ≥ (bufs.length : Int)
            · have e21 : intBin .geq .i64 e.buffer ((bufs.map intsD).length : Int) = some (.bool true) := by simp [intBin]; omega
              repeat (first | refine R_seq ?_ | refine R_block ?_ | refine R_skip ?_)
              refine R_draw ?_
              iterate 2 ((refine DrawE_do rfl ?_; refine E_move rfl ?_); refine DrawE_eq (st' := _) (by first | dsimp only [n0, n1, n2, n3, n4, n5, n6, n7, n8, n9, m0, m1, m2, m3, m4, m5, m6, m7, m8, m9, o0, o1, o2, o3, o4, ↓reduceIte] | rfl) ?_)
              (refine DrawE_do rfl ?_; (first | refine E_index el25 sz37 rfl rfl rfl rfl hEj rfl ?_ | refine E_index0 el25 sz37 rfl rfl rfl rfl hEj ?_ | refine E_indexArr el25 sz37 rfl rfl rfl rfl hEj ?_); refine DrawE_eq (st' := _) (by first | dsimp only [n0, n1, n2, n3, n4, n5, n6, n7, n8, n9, m0, m1, m2, m3, m4, m5, m6, m7, m8, m9, o0, o1, o2, o3, o4, ↓reduceIte] | rfl) ?_)
              iterate 2 ((refine DrawE_do rfl ?_; first | refine E_fieldp fo37_1 rfl rfl ?_ | refine E_fieldi fo37_1 rfl rfl ?_ | refine E_loadi (ds := [_]) ag4 sz4 rfl rfl rfl rfl ?_ | refine E_loadp (ds := [_]) ag4 sz4 rfl rfl rfl rfl rfl ?_); refine DrawE_eq (st' := _) (by first | dsimp only [n0, n1, n2, n3, n4, n5, n6, n7, n8, n9, m0, m1, m2, m3, m4, m5, m6, m7, m8, m9, o0, o1, o2, o3, o4, ↓reduceIte] | rfl) ?_)
              (refine DrawE_do rfl ?_; refine E_not (b := false) rfl (by exact f5) ?_; refine DrawE_eq (st' := _) (by first | dsimp only [n0, n1, n2, n3, n4, n5, n6, n7, n8, n9, m0, m1, m2, m3, m4, m5, m6, m7, m8, m9, o0, o1, o2, o3, o4, ↓reduceIte] | rfl) ?_)
              iterate 3 ((first | (refine DrawE_do rfl ?_; refine E_move rfl ?_) | refine DrawE_not rfl ?_); refine DrawE_eq (st' := _) (by first | dsimp only [n0, n1, n2, n3, n4, n5, n6, n7, n8, n9, m0, m1, m2, m3, m4, m5, m6, m7, m8, m9, o0, o1, o2, o3, o4, ↓reduceIte] | rfl) ?_)
              ((first | (refine DrawE_do rfl ?_; (first | refine E_index el25 sz37 rfl rfl rfl rfl hEj rfl ?_ | refine E_index0 el25 sz37 rfl rfl rfl rfl hEj ?_ | refine E_indexArr el25 sz37 rfl rfl rfl rfl hEj ?_)) | refine DrawE_not rfl ?_); refine DrawE_eq (st' := _) (by first | dsimp only [n0, n1, n2, n3, n4, n5, n6, n7, n8, n9, m0, m1, m2, m3, m4, m5, m6, m7, m8, m9, o0, o1, o2, o3, o4, ↓reduceIte] | rfl) ?_)
              iterate 2 ((first | (refine DrawE_do rfl ?_; first | refine E_fieldp fo37_2 rfl rfl ?_ | refine E_fieldi fo37_2 rfl rfl ?_ | refine E_loadi (ds := [_]) ag3 sz3 rfl rfl rfl rfl ?_ | refine E_loadp (ds := [_]) ag3 sz3 rfl rfl rfl rfl rfl ?_) | refine DrawE_not rfl ?_); refine DrawE_eq (st' := _) (by first | dsimp only [n0, n1, n2, n3, n4, n5, n6, n7, n8, n9, m0, m1, m2, m3, m4, m5, m6, m7, m8, m9, o0, o1, o2, o3, o4, ↓reduceIte] | rfl) ?_)
              ((first | (refine DrawE_do rfl ?_; refine E_int rfl rfl rfl e12 ?_) | refine DrawE_not rfl ?_); refine DrawE_eq (st' := _) (by first | dsimp only [n0, n1, n2, n3, n4, n5, n6, n7, n8, n9, m0, m1, m2, m3, m4, m5, m6, m7, m8, m9, o0, o1, o2, o3, o4, ↓reduceIte] | rfl) ?_)
              iterate 3 ((first | (refine DrawE_do rfl ?_; refine E_move rfl ?_) | refine DrawE_not rfl ?_); refine DrawE_eq (st' := _) (by first | dsimp only [n0, n1, n2, n3, n4, n5, n6, n7, n8, n9, m0, m1, m2, m3, m4, m5, m6, m7, m8, m9, o0, o1, o2, o3, o4, ↓reduceIte] | rfl) ?_)
              ((first | (refine DrawE_do rfl ?_; (first | refine E_index el25 sz37 rfl rfl rfl rfl hEj rfl ?_ | refine E_index0 el25 sz37 rfl rfl rfl rfl hEj ?_ | refine E_indexArr el25 sz37 rfl rfl rfl rfl hEj ?_)) | refine DrawE_not rfl ?_); refine DrawE_eq (st' := _) (by first | dsimp only [n0, n1, n2, n3, n4, n5, n6, n7, n8, n9, m0, m1, m2, m3, m4, m5, m6, m7, m8, m9, o0, o1, o2, o3, o4, ↓reduceIte] | rfl) ?_)
              iterate 4 ((first | (refine DrawE_do rfl ?_; first | refine E_fieldp fo37_2 rfl rfl ?_ | refine E_fieldi fo37_2 rfl rfl ?_ | refine E_loadi (ds := [_]) ag3 sz3 rfl rfl rfl rfl ?_ | refine E_loadp (ds := [_]) ag3 sz3 rfl rfl rfl rfl rfl ?_ | refine E_move rfl ?_ | refine E_len un41 rfl rfl ?_) | refine DrawE_not rfl ?_); refine DrawE_eq (st' := _) (by first | dsimp only [n0, n1, n2, n3, n4, n5, n6, n7, n8, n9, m0, m1, m2, m3, m4, m5, m6, m7, m8, m9, o0, o1, o2, o3, o4, ↓reduceIte] | rfl) ?_)
              ((first | (refine DrawE_do rfl ?_; refine E_int rfl rfl rfl e21 ?_) | refine DrawE_not rfl ?_); refine DrawE_eq (st' := _) (by first | dsimp only [n0, n1, n2, n3, n4, n5, n6, n7, n8, n9, m0, m1, m2, m3, m4, m5, m6, m7, m8, m9, o0, o1, o2, o3, o4, ↓reduceIte] | rfl) ?_)
              iterate 4 ((first | (refine DrawE_do rfl ?_; first | refine E_pick rfl rfl ?_ | refine E_move rfl ?_) | refine DrawE_not rfl ?_); refine DrawE_eq (st' := _) (by first | dsimp only [n0, n1, n2, n3, n4, n5, n6, n7, n8, n9, m0, m1, m2, m3, m4, m5, m6, m7, m8, m9, o0, o1, o2, o3, o4, ↓reduceIte] | rfl) ?_)
              ((first | (refine DrawE_do rfl ?_; (first | refine E_index el25 sz37 rfl rfl rfl rfl hEj rfl ?_ | refine E_index0 el25 sz37 rfl rfl rfl rfl hEj ?_ | refine E_indexArr el25 sz37 rfl rfl rfl rfl hEj ?_)) | refine DrawE_not rfl ?_); refine DrawE_eq (st' := _) (by first | dsimp only [n0, n1, n2, n3, n4, n5, n6, n7, n8, n9, m0, m1, m2, m3, m4, m5, m6, m7, m8, m9, o0, o1, o2, o3, o4, ↓reduceIte] | rfl) ?_)
              iterate 7 ((first | (refine DrawE_do rfl ?_; first | refine E_fieldp fo37_3 rfl rfl ?_ | refine E_fieldi fo37_3 rfl rfl ?_ | refine E_loadi (ds := [_]) ag3 sz3 rfl rfl rfl rfl ?_ | refine E_loadp (ds := [_]) ag3 sz3 rfl rfl rfl rfl rfl ?_ | refine E_int rfl rfl rfl rfl ?_ | refine E_pick rfl rfl ?_ | refine E_move rfl ?_) | refine DrawE_not rfl ?_); refine DrawE_eq (st' := _) (by first | dsimp only [n0, n1, n2, n3, n4, n5, n6, n7, n8, n9, m0, m1, m2, m3, m4, m5, m6, m7, m8, m9, o0, o1, o2, o3, o4, ↓reduceIte] | rfl) ?_)
              ((first | (refine DrawE_do rfl ?_; (first | refine E_index el25 sz37 rfl rfl rfl rfl hEj rfl ?_ | refine E_index0 el25 sz37 rfl rfl rfl rfl hEj ?_ | refine E_indexArr el25 sz37 rfl rfl rfl rfl hEj ?_)) | refine DrawE_not rfl ?_); refine DrawE_eq (st' := _) (by first | dsimp only [n0, n1, n2, n3, n4, n5, n6, n7, n8, n9, m0, m1, m2, m3, m4, m5, m6, m7, m8, m9, o0, o1, o2, o3, o4, ↓reduceIte] | rfl) ?_)
              iterate 5 ((first | (refine DrawE_do rfl ?_; first | refine E_fieldp fo37_3 rfl rfl ?_ | refine E_fieldi fo37_3 rfl rfl ?_ | refine E_loadi (ds := [_]) ag3 sz3 rfl rfl rfl rfl ?_ | refine E_loadp (ds := [_]) ag3 sz3 rfl rfl rfl rfl rfl ?_ | refine E_move rfl ?_) | refine DrawE_not rfl ?_); refine DrawE_eq (st' := _) (by first | dsimp only [n0, n1, n2, n3, n4, n5, n6, n7, n8, n9, m0, m1, m2, m3, m4, m5, m6, m7, m8, m9, o0, o1, o2, o3, o4, ↓reduceIte] | rfl) ?_)
              ((first | (refine DrawE_do rfl ?_; (first | refine E_index el25 sz37 rfl rfl rfl rfl hEj rfl ?_ | refine E_index0 el25 sz37 rfl rfl rfl rfl hEj ?_ | refine E_indexArr el25 sz37 rfl rfl rfl rfl hEj ?_)) | refine DrawE_not rfl ?_); refine DrawE_eq (st' := _) (by first | dsimp only [n0, n1, n2, n3, n4, n5, n6, n7, n8, n9, m0, m1, m2, m3, m4, m5, m6, m7, m8, m9, o0, o1, o2, o3, o4, ↓reduceIte] | rfl) ?_)
              iterate 2 ((first | (refine DrawE_do rfl ?_; first | refine E_fieldp fo37_2 rfl rfl ?_ | refine E_fieldi fo37_2 rfl rfl ?_ | refine E_loadi (ds := [_]) ag3 sz3 rfl rfl rfl rfl ?_ | refine E_loadp (ds := [_]) ag3 sz3 rfl rfl rfl rfl rfl ?_) | refine DrawE_not rfl ?_); refine DrawE_eq (st' := _) (by first | dsimp only [n0, n1, n2, n3, n4, n5, n6, n7, n8, n9, m0, m1, m2, m3, m4, m5, m6, m7, m8, m9, o0, o1, o2, o3, o4, ↓reduceIte] | rfl) ?_)
              ((first | (refine DrawE_do rfl ?_; (first | refine E_index el41 sz44 rfl rfl rfl rfl rfl rfl ?_ | refine E_index0 el41 sz44 rfl rfl rfl rfl rfl ?_ | refine E_indexArr el41 sz44 rfl rfl rfl rfl rfl ?_)) | refine DrawE_not rfl ?_); refine DrawE_eq (st' := _) (by first | dsimp only [n0, n1, n2, n3, n4, n5, n6, n7, n8, n9, m0, m1, m2, m3, m4, m5, m6, m7, m8, m9, o0, o1, o2, o3, o4, ↓reduceIte] | rfl) ?_)
              iterate 5 ((first | (refine DrawE_do rfl ?_; first | refine E_loadi (ds := [_]) ag44 sz44 rfl rfl rfl rfl ?_ | refine E_loadp (ds := [_]) ag44 sz44 rfl rfl rfl rfl rfl ?_ | refine E_len un44 rfl rfl ?_ | refine E_int rfl rfl rfl rfl ?_ | refine E_pick rfl rfl ?_) | refine DrawE_not rfl ?_); refine DrawE_eq (st' := _) (by first | dsimp only [n0, n1, n2, n3, n4, n5, n6, n7, n8, n9, m0, m1, m2, m3, m4, m5, m6, m7, m8, m9, o0, o1, o2, o3, o4, ↓reduceIte] | rfl) ?_)
              refine DrawE_nil ⟨by kernel_rfl, ?_⟩
              repeat (first | refine R_seq ?_ | refine R_block ?_ | refine R_skip ?_)
              refine R_true rfl ?_
              repeat (first | refine R_seq ?_ | refine R_block ?_ | refine R_skip ?_)
              refine R_region ?_
              (refine OpsE_do rfl ?_; refine E_assign rfl rfl ?_; refine OpsE_eq (st' := _) (by first | dsimp only [n0, n1, n2, n3, n4, n5, n6, n7, n8, n9, m0, m1, m2, m3, m4, m5, m6, m7, m8, m9, o0, o1, o2, o3, o4, ↓reduceIte] | rfl) ?_)
              refine OpsE_nil ?_
              repeat (first | refine R_seq ?_ | refine R_block ?_ | refine R_skip ?_)
              refine R_ret ?_
              refine ⟨trivial, _, rfl, ?_⟩
              rw [bad (by simp [fitB, hf]; omega)]
              rfl
            · have e21 : intBin .geq .i64 e.buffer ((bufs.map intsD).length : Int) = some (.bool false) := by simp [intBin]; omega
              obtain ⟨b, hb⟩ : ∃ b : Nat, e.buffer = (b : Int) := ⟨e.buffer.toNat, by omega⟩
              have hbl : b < bufs.length := by omega
              have hgd : bufs.getD e.buffer.toNat [] = bufs[b] := by rw [hb]; simp [hbl]
              by_cases o0 : e.offset < 0
              · have e29 : intBin .lss .i64 e.offset 0 = some (.bool true) := by simp [intBin]; omega
                repeat (first | refine R_seq ?_ | refine R_block ?_ | refine R_skip ?_)
                refine R_draw ?_
                iterate 2 ((refine DrawE_do rfl ?_; refine E_move rfl ?_); refine DrawE_eq (st' := _) (by first | dsimp only [n0, n1, n2, n3, n4, n5, n6, n7, n8, n9, m0, m1, m2, m3, m4, m5, m6, m7, m8, m9, o0, o1, o2, o3, o4, ↓reduceIte] | rfl) ?_)
                (refine DrawE_do rfl ?_; (first | refine E_index el25 sz37 rfl rfl rfl rfl hEj rfl ?_ | refine E_index0 el25 sz37 rfl rfl rfl rfl hEj ?_ | refine E_indexArr el25 sz37 rfl rfl rfl rfl hEj ?_); refine DrawE_eq (st' := _) (by first | dsimp only [n0, n1, n2, n3, n4, n5, n6, n7, n8, n9, m0, m1, m2, m3, m4, m5, m6, m7, m8, m9, o0, o1, o2, o3, o4, ↓reduceIte] | rfl) ?_)
                iterate 2 ((refine DrawE_do rfl ?_; first | refine E_fieldp fo37_1 rfl rfl ?_ | refine E_fieldi fo37_1 rfl rfl ?_ | refine E_loadi (ds := [_]) ag4 sz4 rfl rfl rfl rfl ?_ | refine E_loadp (ds := [_]) ag4 sz4 rfl rfl rfl rfl rfl ?_); refine DrawE_eq (st' := _) (by first | dsimp only [n0, n1, n2, n3, n4, n5, n6, n7, n8, n9, m0, m1, m2, m3, m4, m5, m6, m7, m8, m9, o0, o1, o2, o3, o4, ↓reduceIte] | rfl) ?_)
                (refine DrawE_do rfl ?_; refine E_not (b := false) rfl (by exact f5) ?_; refine DrawE_eq (st' := _) (by first | dsimp only [n0, n1, n2, n3, n4, n5, n6, n7, n8, n9, m0, m1, m2, m3, m4, m5, m6, m7, m8, m9, o0, o1, o2, o3, o4, ↓reduceIte] | rfl) ?_)
                iterate 3 ((first | (refine DrawE_do rfl ?_; refine E_move rfl ?_) | refine DrawE_not rfl ?_); refine DrawE_eq (st' := _) (by first | dsimp only [n0, n1, n2, n3, n4, n5, n6, n7, n8, n9, m0, m1, m2, m3, m4, m5, m6, m7, m8, m9, o0, o1, o2, o3, o4, ↓reduceIte] | rfl) ?_)
                ((first | (refine DrawE_do rfl ?_; (first | refine E_index el25 sz37 rfl rfl rfl rfl hEj rfl ?_ | refine E_index0 el25 sz37 rfl rfl rfl rfl hEj ?_ | refine E_indexArr el25 sz37 rfl rfl rfl rfl hEj ?_)) | refine DrawE_not rfl ?_); refine DrawE_eq (st' := _) (by first | dsimp only [n0, n1, n2, n3, n4, n5, n6, n7, n8, n9, m0, m1, m2, m3, m4, m5, m6, m7, m8, m9, o0, o1, o2, o3, o4, ↓reduceIte] | rfl) ?_)
                iterate 2 ((first | (refine DrawE_do rfl ?_; first | refine E_fieldp fo37_2 rfl rfl ?_ | refine E_fieldi fo37_2 rfl rfl ?_ | refine E_loadi (ds := [_]) ag3 sz3 rfl rfl rfl rfl ?_ | refine E_loadp (ds := [_]) ag3 sz3 rfl rfl rfl rfl rfl ?_) | refine DrawE_not rfl ?_); refine DrawE_eq (st' := _) (by first | dsimp only [n0, n1, n2, n3, n4, n5, n6, n7, n8, n9, m0, m1, m2, m3, m4, m5, m6, m7, m8, m9, o0, o1, o2, o3, o4, ↓reduceIte] | rfl) ?_)
                ((first | (refine DrawE_do rfl ?_; refine E_int rfl rfl rfl e12 ?_) | refine DrawE_not rfl ?_); refine DrawE_eq (st' := _) (by first | dsimp only [n0, n1, n2, n3, n4, n5, n6, n7, n8, n9, m0, m1, m2, m3, m4, m5, m6, m7, m8, m9, o0, o1, o2, o3, o4, ↓reduceIte] | rfl) ?_)
                iterate 3 ((first | (refine DrawE_do rfl ?_; refine E_move rfl ?_) | refine DrawE_not rfl ?_); refine DrawE_eq (st' := _) (by first | dsimp only [n0, n1, n2, n3, n4, n5, n6, n7, n8, n9, m0, m1, m2, m3, m4, m5, m6, m7, m8, m9, o0, o1, o2, o3, o4, ↓reduceIte] | rfl) ?_)
                ((first | (refine DrawE_do rfl ?_; (first | refine E_index el25 sz37 rfl rfl rfl rfl hEj rfl ?_ | refine E_index0 el25 sz37 rfl rfl rfl rfl hEj ?_ | refine E_indexArr el25 sz37 rfl rfl rfl rfl hEj ?_)) | refine DrawE_not rfl ?_); refine DrawE_eq (st' := _) (by first | dsimp only [n0, n1, n2, n3, n4, n5, n6, n7, n8, n9, m0, m1, m2, m3, m4, m5, m6, m7, m8, m9, o0, o1, o2, o3, o4, ↓reduceIte] | rfl) ?_)
                iterate 4 ((first | (refine DrawE_do rfl ?_; first | refine E_fieldp fo37_2 rfl rfl ?_ | refine E_fieldi fo37_2 rfl rfl ?_ | refine E_loadi (ds := [_]) ag3 sz3 rfl rfl rfl rfl ?_ | refine E_loadp (ds := [_]) ag3 sz3 rfl rfl rfl rfl rfl ?_ | refine E_move rfl ?_ | refine E_len un41 rfl rfl ?_) | refine DrawE_not rfl ?_); refine DrawE_eq (st' := _) (by first | dsimp only [n0, n1, n2, n3, n4, n5, n6, n7, n8, n9, m0, m1, m2, m3, m4, m5, m6, m7, m8, m9, o0, o1, o2, o3, o4, ↓reduceIte] | rfl) ?_)
                ((first | (refine DrawE_do rfl ?_; refine E_int rfl rfl rfl e21 ?_) | refine DrawE_not rfl ?_); refine DrawE_eq (st' := _) (by first | dsimp only [n0, n1, n2, n3, n4, n5, n6, n7, n8, n9, m0, m1, m2, m3, m4, m5, m6, m7, m8, m9, o0, o1, o2, o3, o4, ↓reduceIte] | rfl) ?_)
                iterate 4 ((first | (refine DrawE_do rfl ?_; first | refine E_pick rfl rfl ?_ | refine E_move rfl ?_) | refine DrawE_not rfl ?_); refine DrawE_eq (st' := _) (by first | dsimp only [n0, n1, n2, n3, n4, n5, n6, n7, n8, n9, m0, m1, m2, m3, m4, m5, m6, m7, m8, m9, o0, o1, o2, o3, o4, ↓reduceIte] | rfl) ?_)
                ((first | (refine DrawE_do rfl ?_; (first | refine E_index el25 sz37 rfl rfl rfl rfl hEj rfl ?_ | refine E_index0 el25 sz37 rfl rfl rfl rfl hEj ?_ | refine E_indexArr el25 sz37 rfl rfl rfl rfl hEj ?_)) | refine DrawE_not rfl ?_); refine DrawE_eq (st' := _) (by first | dsimp only [n0, n1, n2, n3, n4, n5, n6, n7, n8, n9, m0, m1, m2, m3, m4, m5, m6, m7, m8, m9, o0, o1, o2, o3, o4, ↓reduceIte] | rfl) ?_)
                iterate 2 ((first | (refine DrawE_do rfl ?_; first | refine E_fieldp fo37_3 rfl rfl ?_ | refine E_fieldi fo37_3 rfl rfl ?_ | refine E_loadi (ds := [_]) ag3 sz3 rfl rfl rfl rfl ?_ | refine E_loadp (ds := [_]) ag3 sz3 rfl rfl rfl rfl rfl ?_) | refine DrawE_not rfl ?_); refine DrawE_eq (st' := _) (by first | dsimp only [n0, n1, n2, n3, n4, n5, n6, n7, n8, n9, m0, m1, m2, m3, m4, m5, m6, m7, m8, m9, o0, o1, o2, o3, o4, ↓reduceIte] | rfl) ?_)
                ((first | (refine DrawE_do rfl ?_; refine E_int rfl rfl rfl e29 ?_) | refine DrawE_not rfl ?_); refine DrawE_eq (st' := _) (by first | dsimp only [n0, n1, n2, n3, n4, n5, n6, n7, n8, n9, m0, m1, m2, m3, m4, m5, m6, m7, m8, m9, o0, o1, o2, o3, o4, ↓reduceIte] | rfl) ?_)
                iterate 4 ((first | (refine DrawE_do rfl ?_; first | refine E_pick rfl rfl ?_ | refine E_move rfl ?_) | refine DrawE_not rfl ?_); refine DrawE_eq (st' := _) (by first | dsimp only [n0, n1, n2, n3, n4, n5, n6, n7, n8, n9, m0, m1, m2, m3, m4, m5, m6, m7, m8, m9, o0, o1, o2, o3, o4, ↓reduceIte] | rfl) ?_)
                ((first | (refine DrawE_do rfl ?_; (first | refine E_index el25 sz37 rfl rfl rfl rfl hEj rfl ?_ | refine E_index0 el25 sz37 rfl rfl rfl rfl hEj ?_ | refine E_indexArr el25 sz37 rfl rfl rfl rfl hEj ?_)) | refine DrawE_not rfl ?_); refine DrawE_eq (st' := _) (by first | dsimp only [n0, n1, n2, n3, n4, n5, n6, n7, n8, n9, m0, m1, m2, m3, m4, m5, m6, m7, m8, m9, o0, o1, o2, o3, o4, ↓reduceIte] | rfl) ?_)
                iterate 5 ((first | (refine DrawE_do rfl ?_; first | refine E_fieldp fo37_3 rfl rfl ?_ | refine E_fieldi fo37_3 rfl rfl ?_ | refine E_loadi (ds := [_]) ag3 sz3 rfl rfl rfl rfl ?_ | refine E_loadp (ds := [_]) ag3 sz3 rfl rfl rfl rfl rfl ?_ | refine E_move rfl ?_) | refine DrawE_not rfl ?_); refine DrawE_eq (st' := _) (by first | dsimp only [n0, n1, n2, n3, n4, n5, n6, n7, n8, n9, m0, m1, m2, m3, m4, m5, m6, m7, m8, m9, o0, o1, o2, o3, o4, ↓reduceIte] | rfl) ?_)
                ((first | (refine DrawE_do rfl ?_; (first | refine E_index el25 sz37 rfl rfl rfl rfl hEj rfl ?_ | refine E_index0 el25 sz37 rfl rfl rfl rfl hEj ?_ | refine E_indexArr el25 sz37 rfl rfl rfl rfl hEj ?_)) | refine DrawE_not rfl ?_); refine DrawE_eq (st' := _) (by first | dsimp only [n0, n1, n2, n3, n4, n5, n6, n7, n8, n9, m0, m1, m2, m3, m4, m5, m6, m7, m8, m9, o0, o1, o2, o3, o4, ↓reduceIte] | rfl) ?_)
                iterate 2 ((first | (refine DrawE_do rfl ?_; first | refine E_fieldp fo37_2 rfl rfl ?_ | refine E_fieldi fo37_2 rfl rfl ?_ | refine E_loadi (ds := [_]) ag3 sz3 rfl rfl rfl rfl ?_ | refine E_loadp (ds := [_]) ag3 sz3 rfl rfl rfl rfl rfl ?_) | refine DrawE_not rfl ?_); refine DrawE_eq (st' := _) (by first | dsimp only [n0, n1, n2, n3, n4, n5, n6, n7, n8, n9, m0, m1, m2, m3, m4, m5, m6, m7, m8, m9, o0, o1, o2, o3, o4, ↓reduceIte] | rfl) ?_)
                ((first | (refine DrawE_do rfl ?_; (first | refine E_index el41 sz44 rfl rfl rfl rfl rfl rfl ?_ | refine E_index0 el41 sz44 rfl rfl rfl rfl rfl ?_ | refine E_indexArr el41 sz44 rfl rfl rfl rfl rfl ?_)) | refine DrawE_not rfl ?_); refine DrawE_eq (st' := _) (by first | dsimp only [n0, n1, n2, n3, n4, n5, n6, n7, n8, n9, m0, m1, m2, m3, m4, m5, m6, m7, m8, m9, o0, o1, o2, o3, o4, ↓reduceIte] | rfl) ?_)
                iterate 5 ((first | (refine DrawE_do rfl ?_; first | refine E_loadi (ds := [_]) ag44 sz44 rfl rfl rfl rfl ?_ | refine E_loadp (ds := [_]) ag44 sz44 rfl rfl rfl rfl rfl ?_ | refine E_len un44 rfl rfl ?_ | refine E_int rfl rfl rfl rfl ?_ | refine E_pick rfl rfl ?_) | refine DrawE_not rfl ?_); refine DrawE_eq (st' := _) (by first | dsimp only [n0, n1, n2, n3, n4, n5, n6, n7, n8, n9, m0, m1, m2, m3, m4, m5, m6, m7, m8, m9, o0, o1, o2, o3, o4, ↓reduceIte] | rfl) ?_)
                refine DrawE_nil ⟨by kernel_rfl, ?_⟩
                repeat (first | refine R_seq ?_ | refine R_block ?_ | refine R_skip ?_)
                refine R_true rfl ?_
                repeat (first | refine R_seq ?_ | refine R_block ?_ | refine R_skip ?_)
                refine R_region ?_
                (refine OpsE_do rfl ?_; refine E_assign rfl rfl ?_; refine OpsE_eq (st' := _) (by first | dsimp only [n0, n1, n2, n3, n4, n5, n6, n7, n8, n9, m0, m1, m2, m3, m4, m5, m6, m7, m8, m9, o0, o1, o2, o3, o4, ↓reduceIte] | rfl) ?_)
                refine OpsE_nil ?_
                repeat (first | refine R_seq ?_ | refine R_block ?_ | refine R_skip ?_)
                refine R_ret ?_
                refine ⟨trivial, _, rfl, ?_⟩
                rw [bad (by simp [fitB, hf]; omega)]
                rfl
              · have e29 : intBin .lss .i64 e.offset 0 = some (.bool false) := by simp [intBin]; omega
                by_cases on : e.offset ≥ (bufs[b].length : Int)
                · have e46 : intBin .geq .i64 e.offset ((bufs[b].map intD).length : Int) = some (.bool true) := by simp [intBin]; omega
                  repeat (first | refine R_seq ?_ | refine R_block ?_ | refine R_skip ?_)
                  refine R_draw ?_
                  iterate 2 ((refine DrawE_do rfl ?_; refine E_move rfl ?_); refine DrawE_eq (st' := _) (by first | dsimp only [n0, n1, n2, n3, n4, n5, n6, n7, n8, n9, m0, m1, m2, m3, m4, m5, m6, m7, m8, m9, o0, o1, o2, o3, o4, ↓reduceIte] | rfl) ?_)
                  (refine DrawE_do rfl ?_; (first | refine E_index el25 sz37 rfl rfl rfl rfl hEj rfl ?_ | refine E_index0 el25 sz37 rfl rfl rfl rfl hEj ?_ | refine E_indexArr el25 sz37 rfl rfl rfl rfl hEj ?_); refine DrawE_eq (st' := _) (by first | dsimp only [n0, n1, n2, n3, n4, n5, n6, n7, n8, n9, m0, m1, m2, m3, m4, m5, m6, m7, m8, m9, o0, o1, o2, o3, o4, ↓reduceIte] | rfl) ?_)
                  iterate 2 ((refine DrawE_do rfl ?_; first | refine E_fieldp fo37_1 rfl rfl ?_ | refine E_fieldi fo37_1 rfl rfl ?_ | refine E_loadi (ds := [_]) ag4 sz4 rfl rfl rfl rfl ?_ | refine E_loadp (ds := [_]) ag4 sz4 rfl rfl rfl rfl rfl ?_); refine DrawE_eq (st' := _) (by first | dsimp only [n0, n1, n2, n3, n4, n5, n6, n7, n8, n9, m0, m1, m2, m3, m4, m5, m6, m7, m8, m9, o0, o1, o2, o3, o4, ↓reduceIte] | rfl) ?_)
                  (refine DrawE_do rfl ?_; refine E_not (b := false) rfl (by exact f5) ?_; refine DrawE_eq (st' := _) (by first | dsimp only [n0, n1, n2, n3, n4, n5, n6, n7, n8, n9, m0, m1, m2, m3, m4, m5, m6, m7, m8, m9, o0, o1, o2, o3, o4, ↓reduceIte] | rfl) ?_)
                  iterate 3 ((first | (refine DrawE_do rfl ?_; refine E_move rfl ?_) | refine DrawE_not rfl ?_); refine DrawE_eq (st' := _) (by first | dsimp only [n0, n1, n2, n3, n4, n5, n6, n7, n8, n9, m0, m1, m2, m3, m4, m5, m6, m7, m8, m9, o0, o1, o2, o3, o4, ↓reduceIte] | rfl) ?_)
                  ((first | (refine DrawE_do rfl ?_; (first | refine E_index el25 sz37 rfl rfl rfl rfl hEj rfl ?_ | refine E_index0 el25 sz37 rfl rfl rfl rfl hEj ?_ | refine E_indexArr el25 sz37 rfl rfl rfl rfl hEj ?_)) | refine DrawE_not rfl ?_); refine DrawE_eq (st' := _) (by first | dsimp only [n0, n1, n2, n3, n4, n5, n6, n7, n8, n9, m0, m1, m2, m3, m4, m5, m6, m7, m8, m9, o0, o1, o2, o3, o4, ↓reduceIte] | rfl) ?_)
                  iterate 2 ((first | (refine DrawE_do rfl ?_; first | refine E_fieldp fo37_2 rfl rfl ?_ | refine E_fieldi fo37_2 rfl rfl ?_ | refine E_loadi (ds := [_]) ag3 sz3 rfl rfl rfl rfl ?_ | refine E_loadp (ds := [_]) ag3 sz3 rfl rfl rfl rfl rfl ?_) | refine DrawE_not rfl ?_); refine DrawE_eq (st' := _) (by first | dsimp only [n0, n1, n2, n3, n4, n5, n6, n7, n8, n9, m0, m1, m2, m3, m4, m5, m6, m7, m8, m9, o0, o1, o2, o3, o4, ↓reduceIte] | rfl) ?_)
                  ((first | (refine DrawE_do rfl ?_; refine E_int rfl rfl rfl e12 ?_) | refine DrawE_not rfl ?_); refine DrawE_eq (st' := _) (by first | dsimp only [n0, n1, n2, n3, n4, n5, n6, n7, n8, n9, m0, m1, m2, m3, m4, m5, m6, m7, m8, m9, o0, o1, o2, o3, o4, ↓reduceIte] | rfl) ?_)
                  iterate 3 ((first | (refine DrawE_do rfl ?_; refine E_move rfl ?_) | refine DrawE_not rfl ?_); refine DrawE_eq (st' := _) (by first | dsimp only [n0, n1, n2, n3, n4, n5, n6, n7, n8, n9, m0, m1, m2, m3, m4, m5, m6, m7, m8, m9, o0, o1, o2, o3, o4, ↓reduceIte] | rfl) ?_)
                  ((first | (refine DrawE_do rfl ?_; (first | refine E_index el25 sz37 rfl rfl rfl rfl hEj rfl ?_ | refine E_index0 el25 sz37 rfl rfl rfl rfl hEj ?_ | refine E_indexArr el25 sz37 rfl rfl rfl rfl hEj ?_)) | refine DrawE_not rfl ?_); refine DrawE_eq (st' := _) (by first | dsimp only [n0, n1, n2, n3, n4, n5, n6, n7, n8, n9, m0, m1, m2, m3, m4, m5, m6, m7, m8, m9, o0, o1, o2, o3, o4, ↓reduceIte] | rfl) ?_)
                  iterate 4 ((first | (refine DrawE_do rfl ?_; first | refine E_fieldp fo37_2 rfl rfl ?_ | refine E_fieldi fo37_2 rfl rfl ?_ | refine E_loadi (ds := [_]) ag3 sz3 rfl rfl rfl rfl ?_ | refine E_loadp (ds := [_]) ag3 sz3 rfl rfl rfl rfl rfl ?_ | refine E_move rfl ?_ | refine E_len un41 rfl rfl ?_) | refine DrawE_not rfl ?_); refine DrawE_eq (st' := _) (by first | dsimp only [n0, n1, n2, n3, n4, n5, n6, n7, n8, n9, m0, m1, m2, m3, m4, m5, m6, m7, m8, m9, o0, o1, o2, o3, o4, ↓reduceIte] | rfl) ?_)
                  ((first | (refine DrawE_do rfl ?_; refine E_int rfl rfl rfl e21 ?_) | refine DrawE_not rfl ?_); refine DrawE_eq (st' := _) (by first | dsimp only [n0, n1, n2, n3, n4, n5, n6, n7, n8, n9, m0, m1, m2, m3, m4, m5, m6, m7, m8, m9, o0, o1, o2, o3, o4, ↓reduceIte] | rfl) ?_)
                  iterate 4 ((first | (refine DrawE_do rfl ?_; first | refine E_pick rfl rfl ?_ | refine E_move rfl ?_) | refine DrawE_not rfl ?_); refine DrawE_eq (st' := _) (by first | dsimp only [n0, n1, n2, n3, n4, n5, n6, n7, n8, n9, m0, m1, m2, m3, m4, m5, m6, m7, m8, m9, o0, o1, o2, o3, o4, ↓reduceIte] | rfl) ?_)
                  ((first | (refine DrawE_do rfl ?_; (first | refine E_index el25 sz37 rfl rfl rfl rfl hEj rfl ?_ | refine E_index0 el25 sz37 rfl rfl rfl rfl hEj ?_ | refine E_indexArr el25 sz37 rfl rfl rfl rfl hEj ?_)) | refine DrawE_not rfl ?_); refine DrawE_eq (st' := _) (by first | dsimp only [n0, n1, n2, n3, n4, n5, n6, n7, n8, n9, m0, m1, m2, m3, m4, m5, m6, m7, m8, m9, o0, o1, o2, o3, o4, ↓reduceIte] | rfl) ?_)
                  iterate 2 ((first | (refine DrawE_do rfl ?_; first | refine E_fieldp fo37_3 rfl rfl ?_ | refine E_fieldi fo37_3 rfl rfl ?_ | refine E_loadi (ds := [_]) ag3 sz3 rfl rfl rfl rfl ?_ | refine E_loadp (ds := [_]) ag3 sz3 rfl rfl rfl rfl rfl ?_) | refine DrawE_not rfl ?_); refine DrawE_eq (st' := _) (by first | dsimp only [n0, n1, n2, n3, n4, n5, n6, n7, n8, n9, m0, m1, m2, m3, m4, m5, m6, m7, m8, m9, o0, o1, o2, o3, o4, ↓reduceIte] | rfl) ?_)
                  ((first | (refine DrawE_do rfl ?_; refine E_int rfl rfl rfl e29 ?_) | refine DrawE_not rfl ?_); refine DrawE_eq (st' := _) (by first | dsimp only [n0, n1, n2, n3, n4, n5, n6, n7, n8, n9, m0, m1, m2, m3, m4, m5, m6, m7, m8, m9, o0, o1, o2, o3, o4, ↓reduceIte] | rfl) ?_)
                  iterate 4 ((first | (refine DrawE_do rfl ?_; first | refine E_pick rfl rfl ?_ | refine E_move rfl ?_) | refine DrawE_not rfl ?_); refine DrawE_eq (st' := _) (by first | dsimp only [n0, n1, n2, n3, n4, n5, n6, n7, n8, n9, m0, m1, m2, m3, m4, m5, m6, m7, m8, m9, o0, o1, o2, o3, o4, ↓reduceIte] | rfl) ?_)
                  ((first | (refine DrawE_do rfl ?_; (first | refine E_index el25 sz37 rfl rfl rfl rfl hEj rfl ?_ | refine E_index0 el25 sz37 rfl rfl rfl rfl hEj ?_ | refine E_indexArr el25 sz37 rfl rfl rfl rfl hEj ?_)) | refine DrawE_not rfl ?_); refine DrawE_eq (st' := _) (by first | dsimp only [n0, n1, n2, n3, n4, n5, n6, n7, n8, n9, m0, m1, m2, m3, m4, m5, m6, m7, m8, m9, o0, o1, o2, o3, o4, ↓reduceIte] | rfl) ?_)
                  iterate 5 ((first | (refine DrawE_do rfl ?_; first | refine E_fieldp fo37_3 rfl rfl ?_ | refine E_fieldi fo37_3 rfl rfl ?_ | refine E_loadi (ds := [_]) ag3 sz3 rfl rfl rfl rfl ?_ | refine E_loadp (ds := [_]) ag3 sz3 rfl rfl rfl rfl rfl ?_ | refine E_move rfl ?_) | refine DrawE_not rfl ?_); refine DrawE_eq (st' := _) (by first | dsimp only [n0, n1, n2, n3, n4, n5, n6, n7, n8, n9, m0, m1, m2, m3, m4, m5, m6, m7, m8, m9, o0, o1, o2, o3, o4, ↓reduceIte] | rfl) ?_)
                  ((first | (refine DrawE_do rfl ?_; (first | refine E_index el25 sz37 rfl rfl rfl rfl hEj rfl ?_ | refine E_index0 el25 sz37 rfl rfl rfl rfl hEj ?_ | refine E_indexArr el25 sz37 rfl rfl rfl rfl hEj ?_)) | refine DrawE_not rfl ?_); refine DrawE_eq (st' := _) (by first | dsimp only [n0, n1, n2, n3, n4, n5, n6, n7, n8, n9, m0, m1, m2, m3, m4, m5, m6, m7, m8, m9, o0, o1, o2, o3, o4, ↓reduceIte] | rfl) ?_)
                  iterate 2 ((first | (refine DrawE_do rfl ?_; first | refine E_fieldp fo37_2 rfl rfl ?_ | refine E_fieldi fo37_2 rfl rfl ?_ | refine E_loadi (ds := [_]) ag3 sz3 rfl rfl rfl rfl ?_ | refine E_loadp (ds := [_]) ag3 sz3 rfl rfl rfl rfl rfl ?_) | refine DrawE_not rfl ?_); refine DrawE_eq (st' := _) (by first | dsimp only [n0, n1, n2, n3, n4, n5, n6, n7, n8, n9, m0, m1, m2, m3, m4, m5, m6, m7, m8, m9, o0, o1, o2, o3, o4, ↓reduceIte] | rfl) ?_)
                  ((first | (refine DrawE_do rfl ?_; refine E_index (j := b) el41 sz44 rfl rfl rfl hb (bufs_get hbl) rfl ?_) | refine DrawE_not rfl ?_); refine DrawE_eq (st' := _) (by first | dsimp only [n0, n1, n2, n3, n4, n5, n6, n7, n8, n9, m0, m1, m2, m3, m4, m5, m6, m7, m8, m9, o0, o1, o2, o3, o4, ↓reduceIte] | rfl) ?_)
                  iterate 2 ((first | (refine DrawE_do rfl ?_; first | refine E_loadi (ds := [_]) ag44 sz44 rfl rfl rfl rfl ?_ | refine E_loadp (ds := [_]) ag44 sz44 rfl rfl rfl rfl rfl ?_ | refine E_len un44 rfl rfl ?_) | refine DrawE_not rfl ?_); refine DrawE_eq (st' := _) (by first | dsimp only [n0, n1, n2, n3, n4, n5, n6, n7, n8, n9, m0, m1, m2, m3, m4, m5, m6, m7, m8, m9, o0, o1, o2, o3, o4, ↓reduceIte] | rfl) ?_)
                  ((first | (refine DrawE_do rfl ?_; refine E_int rfl rfl rfl e46 ?_) | refine DrawE_not rfl ?_); refine DrawE_eq (st' := _) (by first | dsimp only [n0, n1, n2, n3, n4, n5, n6, n7, n8, n9, m0, m1, m2, m3, m4, m5, m6, m7, m8, m9, o0, o1, o2, o3, o4, ↓reduceIte] | rfl) ?_)
                  iterate 2 ((first | (refine DrawE_do rfl ?_; refine E_pick rfl rfl ?_) | refine DrawE_not rfl ?_); refine DrawE_eq (st' := _) (by first | dsimp only [n0, n1, n2, n3, n4, n5, n6, n7, n8, n9, m0, m1, m2, m3, m4, m5, m6, m7, m8, m9, o0, o1, o2, o3, o4, ↓reduceIte] | rfl) ?_)
                  refine DrawE_nil ⟨by kernel_rfl, ?_⟩
                  repeat (first | refine R_seq ?_ | refine R_block ?_ | refine R_skip ?_)
                  refine R_true rfl ?_
                  repeat (first | refine R_seq ?_ | refine R_block ?_ | refine R_skip ?_)
                  refine R_region ?_
                  (refine OpsE_do rfl ?_; refine E_assign rfl rfl ?_; refine OpsE_eq (st' := _) (by first | dsimp only [n0, n1, n2, n3, n4, n5, n6, n7, n8, n9, m0, m1, m2, m3, m4, m5, m6, m7, m8, m9, o0, o1, o2, o3, o4, ↓reduceIte] | rfl) ?_)
                  refine OpsE_nil ?_
                  repeat (first | refine R_seq ?_ | refine R_block ?_ | refine R_skip ?_)
                  refine R_ret ?_
                  refine ⟨trivial, _, rfl, ?_⟩
                  rw [bad (by rw [fitB, hgd]; simp [hf]; omega)]
                  rfl
                · have e46 : intBin .geq .i64 e.offset ((bufs[b].map intD).length : Int) = some (.bool false) := by simp [intBin]; omega
                  repeat (first | refine R_seq ?_ | refine R_block ?_ | refine R_skip ?_)
                  refine R_draw ?_
                  iterate 2 ((refine DrawE_do rfl ?_; refine E_move rfl ?_); refine DrawE_eq (st' := _) (by first | dsimp only [n0, n1, n2, n3, n4, n5, n6, n7, n8, n9, m0, m1, m2, m3, m4, m5, m6, m7, m8, m9, o0, o1, o2, o3, o4, ↓reduceIte] | rfl) ?_)
                  (refine DrawE_do rfl ?_; (first | refine E_index el25 sz37 rfl rfl rfl rfl hEj rfl ?_ | refine E_index0 el25 sz37 rfl rfl rfl rfl hEj ?_ | refine E_indexArr el25 sz37 rfl rfl rfl rfl hEj ?_); refine DrawE_eq (st' := _) (by first | dsimp only [n0, n1, n2, n3, n4, n5, n6, n7, n8, n9, m0, m1, m2, m3, m4, m5, m6, m7, m8, m9, o0, o1, o2, o3, o4, ↓reduceIte] | rfl) ?_)
                  iterate 2 ((refine DrawE_do rfl ?_; first | refine E_fieldp fo37_1 rfl rfl ?_ | refine E_fieldi fo37_1 rfl rfl ?_ | refine E_loadi (ds := [_]) ag4 sz4 rfl rfl rfl rfl ?_ | refine E_loadp (ds := [_]) ag4 sz4 rfl rfl rfl rfl rfl ?_); refine DrawE_eq (st' := _) (by first | dsimp only [n0, n1, n2, n3, n4, n5, n6, n7, n8, n9, m0, m1, m2, m3, m4, m5, m6, m7, m8, m9, o0, o1, o2, o3, o4, ↓reduceIte] | rfl) ?_)
                  (refine DrawE_do rfl ?_; refine E_not (b := false) rfl (by exact f5) ?_; refine DrawE_eq (st' := _) (by first | dsimp only [n0, n1, n2, n3, n4, n5, n6, n7, n8, n9, m0, m1, m2, m3, m4, m5, m6, m7, m8, m9, o0, o1, o2, o3, o4, ↓reduceIte] | rfl) ?_)
                  iterate 3 ((first | (refine DrawE_do rfl ?_; refine E_move rfl ?_) | refine DrawE_not rfl ?_); refine DrawE_eq (st' := _) (by first | dsimp only [n0, n1, n2, n3, n4, n5, n6, n7, n8, n9, m0, m1, m2, m3, m4, m5, m6, m7, m8, m9, o0, o1, o2, o3, o4, ↓reduceIte] | rfl) ?_)
                  ((first | (refine DrawE_do rfl ?_; (first | refine E_index el25 sz37 rfl rfl rfl rfl hEj rfl ?_ | refine E_index0 el25 sz37 rfl rfl rfl rfl hEj ?_ | refine E_indexArr el25 sz37 rfl rfl rfl rfl hEj ?_)) | refine DrawE_not rfl ?_); refine DrawE_eq (st' := _) (by first | dsimp only [n0, n1, n2, n3, n4, n5, n6, n7, n8, n9, m0, m1, m2, m3, m4, m5, m6, m7, m8, m9, o0, o1, o2, o3, o4, ↓reduceIte] | rfl) ?_)
                  iterate 2 ((first | (refine DrawE_do rfl ?_; first | refine E_fieldp fo37_2 rfl rfl ?_ | refine E_fieldi fo37_2 rfl rfl ?_ | refine E_loadi (ds := [_]) ag3 sz3 rfl rfl rfl rfl ?_ | refine E_loadp (ds := [_]) ag3 sz3 rfl rfl rfl rfl rfl ?_) | refine DrawE_not rfl ?_); refine DrawE_eq (st' := _) (by first | dsimp only [n0, n1, n2, n3, n4, n5, n6, n7, n8, n9, m0, m1, m2, m3, m4, m5, m6, m7, m8, m9, o0, o1, o2, o3, o4, ↓reduceIte] | rfl) ?_)
                  ((first | (refine DrawE_do rfl ?_; refine E_int rfl rfl rfl e12 ?_) | refine DrawE_not rfl ?_); refine DrawE_eq (st' := _) (by first | dsimp only [n0, n1, n2, n3, n4, n5, n6, n7, n8, n9, m0, m1, m2, m3, m4, m5, m6, m7, m8, m9, o0, o1, o2, o3, o4, ↓reduceIte] | rfl) ?_)
                  iterate 3 ((first | (refine DrawE_do rfl ?_; refine E_move rfl ?_) | refine DrawE_not rfl ?_); refine DrawE_eq (st' := _) (by first | dsimp only [n0, n1, n2, n3, n4, n5, n6, n7, n8, n9, m0, m1, m2, m3, m4, m5, m6, m7, m8, m9, o0, o1, o2, o3, o4, ↓reduceIte] | rfl) ?_)
                  ((first | (refine DrawE_do rfl ?_; (first | refine E_index el25 sz37 rfl rfl rfl rfl hEj rfl ?_ | refine E_index0 el25 sz37 rfl rfl rfl rfl hEj ?_ | refine E_indexArr el25 sz37 rfl rfl rfl rfl hEj ?_)) | refine DrawE_not rfl ?_); refine DrawE_eq (st' := _) (by first | dsimp only [n0, n1, n2, n3, n4, n5, n6, n7, n8, n9, m0, m1, m2, m3, m4, m5, m6, m7, m8, m9, o0, o1, o2, o3, o4, ↓reduceIte] | rfl) ?_)
                  iterate 4 ((first | (refine DrawE_do rfl ?_; first | refine E_fieldp fo37_2 rfl rfl ?_ | refine E_fieldi fo37_2 rfl rfl ?_ | refine E_loadi (ds := [_]) ag3 sz3 rfl rfl rfl rfl ?_ | refine E_loadp (ds := [_]) ag3 sz3 rfl rfl rfl rfl rfl ?_ | refine E_move rfl ?_ | refine E_len un41 rfl rfl ?_) | refine DrawE_not rfl ?_); refine DrawE_eq (st' := _) (by first | dsimp only [n0, n1, n2, n3, n4, n5, n6, n7, n8, n9, m0, m1, m2, m3, m4, m5, m6, m7, m8, m9, o0, o1, o2, o3, o4, ↓reduceIte] | rfl) ?_)
                  ((first | (refine DrawE_do rfl ?_; refine E_int rfl rfl rfl e21 ?_) | refine DrawE_not rfl ?_); refine DrawE_eq (st' := _) (by first | dsimp only [n0, n1, n2, n3, n4, n5, n6, n7, n8, n9, m0, m1, m2, m3, m4, m5, m6, m7, m8, m9, o0, o1, o2, o3, o4, ↓reduceIte] | rfl) ?_)
                  iterate 4 ((first | (refine DrawE_do rfl ?_; first | refine E_pick rfl rfl ?_ | refine E_move rfl ?_) | refine DrawE_not rfl ?_); refine DrawE_eq (st' := _) (by first | dsimp only [n0, n1, n2, n3, n4, n5, n6, n7, n8, n9, m0, m1, m2, m3, m4, m5, m6, m7, m8, m9, o0, o1, o2, o3, o4, ↓reduceIte] | rfl) ?_)
                  ((first | (refine DrawE_do rfl ?_; (first | refine E_index el25 sz37 rfl rfl rfl rfl hEj rfl ?_ | refine E_index0 el25 sz37 rfl rfl rfl rfl hEj ?_ | refine E_indexArr el25 sz37 rfl rfl rfl rfl hEj ?_)) | refine DrawE_not rfl ?_); refine DrawE_eq (st' := _) (by first | dsimp only [n0, n1, n2, n3, n4, n5, n6, n7, n8, n9, m0, m1, m2, m3, m4, m5, m6, m7, m8, m9, o0, o1, o2, o3, o4, ↓reduceIte] | rfl) ?_)
                  iterate 2 ((first | (refine DrawE_do rfl ?_; first | refine E_fieldp fo37_3 rfl rfl ?_ | refine E_fieldi fo37_3 rfl rfl ?_ | refine E_loadi (ds := [_]) ag3 sz3 rfl rfl rfl rfl ?_ | refine E_loadp (ds := [_]) ag3 sz3 rfl rfl rfl rfl rfl ?_) | refine DrawE_not rfl ?_); refine DrawE_eq (st' := _) (by first | dsimp only [n0, n1, n2, n3, n4, n5, n6, n7, n8, n9, m0, m1, m2, m3, m4, m5, m6, m7, m8, m9, o0, o1, o2, o3, o4, ↓reduceIte] | rfl) ?_)
                  ((first | (refine DrawE_do rfl ?_; refine E_int rfl rfl rfl e29 ?_) | refine DrawE_not rfl ?_); refine DrawE_eq (st' := _) (by first | dsimp only [n0, n1, n2, n3, n4, n5, n6, n7, n8, n9, m0, m1, m2, m3, m4, m5, m6, m7, m8, m9, o0, o1, o2, o3, o4, ↓reduceIte] | rfl) ?_)
                  iterate 4 ((first | (refine DrawE_do rfl ?_; first | refine E_pick rfl rfl ?_ | refine E_move rfl ?_) | refine DrawE_not rfl ?_); refine DrawE_eq (st' := _) (by first | dsimp only [n0, n1, n2, n3, n4, n5, n6, n7, n8, n9, m0, m1, m2, m3, m4, m5, m6, m7, m8, m9, o0, o1, o2, o3, o4, ↓reduceIte] | rfl) ?_)
                  ((first | (refine DrawE_do rfl ?_; (first | refine E_index el25 sz37 rfl rfl rfl rfl hEj rfl ?_ | refine E_index0 el25 sz37 rfl rfl rfl rfl hEj ?_ | refine E_indexArr el25 sz37 rfl rfl rfl rfl hEj ?_)) | refine DrawE_not rfl ?_); refine DrawE_eq (st' := _) (by first | dsimp only [n0, n1, n2, n3, n4, n5, n6, n7, n8, n9, m0, m1, m2, m3, m4, m5, m6, m7, m8, m9, o0, o1, o2, o3, o4, ↓reduceIte] | rfl) ?_)
                  iterate 5 ((first | (refine DrawE_do rfl ?_; first | refine E_fieldp fo37_3 rfl rfl ?_ | refine E_fieldi fo37_3 rfl rfl ?_ | refine E_loadi (ds := [_]) ag3 sz3 rfl rfl rfl rfl ?_ | refine E_loadp (ds := [_]) ag3 sz3 rfl rfl rfl rfl rfl ?_ | refine E_move rfl ?_) | refine DrawE_not rfl ?_); refine DrawE_eq (st' := _) (by first | dsimp only [n0, n1, n2, n3, n4, n5, n6, n7, n8, n9, m0, m1, m2, m3, m4, m5, m6, m7, m8, m9, o0, o1, o2, o3, o4, ↓reduceIte] | rfl) ?_)
                  ((first | (refine DrawE_do rfl ?_; (first | refine E_index el25 sz37 rfl rfl rfl rfl hEj rfl ?_ | refine E_index0 el25 sz37 rfl rfl rfl rfl hEj ?_ | refine E_indexArr el25 sz37 rfl rfl rfl rfl hEj ?_)) | refine DrawE_not rfl ?_); refine DrawE_eq (st' := _) (by first | dsimp only [n0, n1, n2, n3, n4, n5, n6, n7, n8, n9, m0, m1, m2, m3, m4, m5, m6, m7, m8, m9, o0, o1, o2, o3, o4, ↓reduceIte] | rfl) ?_)
                  iterate 2 ((first | (refine DrawE_do rfl ?_; first | refine E_fieldp fo37_2 rfl rfl ?_ | refine E_fieldi fo37_2 rfl rfl ?_ | refine E_loadi (ds := [_]) ag3 sz3 rfl rfl rfl rfl ?_ | refine E_loadp (ds := [_]) ag3 sz3 rfl rfl rfl rfl rfl ?_) | refine DrawE_not rfl ?_); refine DrawE_eq (st' := _) (by first | dsimp only [n0, n1, n2, n3, n4, n5, n6, n7, n8, n9, m0, m1, m2, m3, m4, m5, m6, m7, m8, m9, o0, o1, o2, o3, o4, ↓reduceIte] | rfl) ?_)
                  ((first | (refine DrawE_do rfl ?_; refine E_index (j := b) el41 sz44 rfl rfl rfl hb (bufs_get hbl) rfl ?_) | refine DrawE_not rfl ?_); refine DrawE_eq (st' := _) (by first | dsimp only [n0, n1, n2, n3, n4, n5, n6, n7, n8, n9, m0, m1, m2, m3, m4, m5, m6, m7, m8, m9, o0, o1, o2, o3, o4, ↓reduceIte] | rfl) ?_)
                  iterate 2 ((first | (refine DrawE_do rfl ?_; first | refine E_loadi (ds := [_]) ag44 sz44 rfl rfl rfl rfl ?_ | refine E_loadp (ds := [_]) ag44 sz44 rfl rfl rfl rfl rfl ?_ | refine E_len un44 rfl rfl ?_) | refine DrawE_not rfl ?_); refine DrawE_eq (st' := _) (by first | dsimp only [n0, n1, n2, n3, n4, n5, n6, n7, n8, n9, m0, m1, m2, m3, m4, m5, m6, m7, m8, m9, o0, o1, o2, o3, o4, ↓reduceIte] | rfl) ?_)
                  ((first | (refine DrawE_do rfl ?_; refine E_int rfl rfl rfl e46 ?_) | refine DrawE_not rfl ?_); refine DrawE_eq (st' := _) (by first | dsimp only [n0, n1, n2, n3, n4, n5, n6, n7, n8, n9, m0, m1, m2, m3, m4, m5, m6, m7, m8, m9, o0, o1, o2, o3, o4, ↓reduceIte] | rfl) ?_)
                  iterate 2 ((first | (refine DrawE_do rfl ?_; refine E_pick rfl rfl ?_) | refine DrawE_not rfl ?_); refine DrawE_eq (st' := _) (by first | dsimp only [n0, n1, n2, n3, n4, n5, n6, n7, n8, n9, m0, m1, m2, m3, m4, m5, m6, m7, m8, m9, o0, o1, o2, o3, o4, ↓reduceIte] | rfl) ?_)
                  refine DrawE_nil ⟨by kernel_rfl, ?_⟩
                  repeat (first | refine R_seq ?_ | refine R_block ?_ | refine R_skip ?_)
                  refine R_false rfl ?_
                  repeat (first | refine R_seq ?_ | refine R_block ?_ | refine R_skip ?_)
                  refine R_region ?_
                  iterate 3 ((refine OpsE_do rfl ?_; first | refine E_move rfl ?_ | refine E_int rfl rfl rfl rfl ?_ | refine E_assign rfl rfl ?_); refine OpsE_eq (st' := _) (by first | dsimp only [n0, n1, n2, n3, n4, n5, n6, n7, n8, n9, m0, m1, m2, m3, m4, m5, m6, m7, m8, m9, o0, o1, o2, o3, o4, ↓reduceIte] | rfl) ?_)
                  refine OpsE_nil ?_
                  refine ⟨j + 1, ?_, by omega, hj', good (by rw [fitB, hgd]; simp [hf]; omega)⟩
                  rw [wrap_succ (by omega)]
                  rfl
        · have f5 : (PV.dat (.raw (.bool e.fill))) = boolPV true := by rw [hf]; rfl
          repeat (first | refine R_seq ?_ | refine R_block ?_ | refine R_skip ?_)
          refine R_draw ?_
          iterate 2 ((refine DrawE_do rfl ?_; refine E_move rfl ?_); refine DrawE_eq (st' := _) (by first | dsimp only [n0, n1, n2, n3, n4, n5, n6, n7, n8, n9, m0, m1, m2, m3, m4, m5, m6, m7, m8, m9, o0, o1, o2, o3, o4, ↓reduceIte] | rfl) ?_)
          (refine DrawE_do rfl ?_; (first | refine E_index el25 sz37 rfl rfl rfl rfl hEj rfl ?_ | refine E_index0 el25 sz37 rfl rfl rfl rfl hEj ?_ | refine E_indexArr el25 sz37 rfl rfl rfl rfl hEj ?_); refine DrawE_eq (st' := _) (by first | dsimp only [n0, n1, n2, n3, n4, n5, n6, n7, n8, n9, m0, m1, m2, m3, m4, m5, m6, m7, m8, m9, o0, o1, o2, o3, o4, ↓reduceIte] | rfl) ?_)
          iterate 2 ((refine DrawE_do rfl ?_; first | refine E_fieldp fo37_1 rfl rfl ?_ | refine E_fieldi fo37_1 rfl rfl ?_ | refine E_loadi (ds := [_]) ag4 sz4 rfl rfl rfl rfl ?_ | refine E_loadp (ds := [_]) ag4 sz4 rfl rfl rfl rfl rfl ?_); refine DrawE_eq (st' := _) (by first | dsimp only [n0, n1, n2, n3, n4, n5, n6, n7, n8, n9, m0, m1, m2, m3, m4, m5, m6, m7, m8, m9, o0, o1, o2, o3, o4, ↓reduceIte] | rfl) ?_)
          (refine DrawE_do rfl ?_; refine E_not (b := true) rfl (by exact f5) ?_; refine DrawE_eq (st' := _) (by first | dsimp only [n0, n1, n2, n3, n4, n5, n6, n7, n8, n9, m0, m1, m2, m3, m4, m5, m6, m7, m8, m9, o0, o1, o2, o3, o4, ↓reduceIte] | rfl) ?_)
          iterate 3 ((first | (refine DrawE_do rfl ?_; refine E_move rfl ?_) | refine DrawE_not rfl ?_); refine DrawE_eq (st' := _) (by first | dsimp only [n0, n1, n2, n3, n4, n5, n6, n7, n8, n9, m0, m1, m2, m3, m4, m5, m6, m7, m8, m9, o0, o1, o2, o3, o4, ↓reduceIte] | rfl) ?_)
          ((first | (refine DrawE_do rfl ?_; (first | refine E_index el25 sz37 rfl rfl rfl rfl hEj rfl ?_ | refine E_index0 el25 sz37 rfl rfl rfl rfl hEj ?_ | refine E_indexArr el25 sz37 rfl rfl rfl rfl hEj ?_)) | refine DrawE_not rfl ?_); refine DrawE_eq (st' := _) (by first | dsimp only [n0, n1, n2, n3, n4, n5, n6, n7, n8, n9, m0, m1, m2, m3, m4, m5, m6, m7, m8, m9, o0, o1, o2, o3, o4, ↓reduceIte] | rfl) ?_)
          iterate 6 ((first | (refine DrawE_do rfl ?_; first | refine E_fieldp fo37_2 rfl rfl ?_ | refine E_fieldi fo37_2 rfl rfl ?_ | refine E_loadi (ds := [_]) ag3 sz3 rfl rfl rfl rfl ?_ | refine E_loadp (ds := [_]) ag3 sz3 rfl rfl rfl rfl rfl ?_ | refine E_int rfl rfl rfl rfl ?_ | refine E_move rfl ?_) | refine DrawE_not rfl ?_); refine DrawE_eq (st' := _) (by first | dsimp only [n0, n1, n2, n3, n4, n5, n6, n7, n8, n9, m0, m1, m2, m3, m4, m5, m6, m7, m8, m9, o0, o1, o2, o3, o4, ↓reduceIte] | rfl) ?_)
          ((first | (refine DrawE_do rfl ?_; (first | refine E_index el25 sz37 rfl rfl rfl rfl hEj rfl ?_ | refine E_index0 el25 sz37 rfl rfl rfl rfl hEj ?_ | refine E_indexArr el25 sz37 rfl rfl rfl rfl hEj ?_)) | refine DrawE_not rfl ?_); refine DrawE_eq (st' := _) (by first | dsimp only [n0, n1, n2, n3, n4, n5, n6, n7, n8, n9, m0, m1, m2, m3, m4, m5, m6, m7, m8, m9, o0, o1, o2, o3, o4, ↓reduceIte] | rfl) ?_)
          iterate 9 ((first | (refine DrawE_do rfl ?_; first | refine E_fieldp fo37_2 rfl rfl ?_ | refine E_fieldi fo37_2 rfl rfl ?_ | refine E_loadi (ds := [_]) ag3 sz3 rfl rfl rfl rfl ?_ | refine E_loadp (ds := [_]) ag3 sz3 rfl rfl rfl rfl rfl ?_ | refine E_move rfl ?_ | refine E_len un41 rfl rfl ?_ | refine E_int rfl rfl rfl rfl ?_ | refine E_pick rfl rfl ?_) | refine DrawE_not rfl ?_); refine DrawE_eq (st' := _) (by first | dsimp only [n0, n1, n2, n3, n4, n5, n6, n7, n8, n9, m0, m1, m2, m3, m4, m5, m6, m7, m8, m9, o0, o1, o2, o3, o4, ↓reduceIte] | rfl) ?_)
          ((first | (refine DrawE_do rfl ?_; (first | refine E_index el25 sz37 rfl rfl rfl rfl hEj rfl ?_ | refine E_index0 el25 sz37 rfl rfl rfl rfl hEj ?_ | refine E_indexArr el25 sz37 rfl rfl rfl rfl hEj ?_)) | refine DrawE_not rfl ?_); refine DrawE_eq (st' := _) (by first | dsimp only [n0, n1, n2, n3, n4, n5, n6, n7, n8, n9, m0, m1, m2, m3, m4, m5, m6, m7, m8, m9, o0, o1, o2, o3, o4, ↓reduceIte] | rfl) ?_)
          iterate 7 ((first | (refine DrawE_do rfl ?_; first | refine E_fieldp fo37_3 rfl rfl ?_ | refine E_fieldi fo37_3 rfl rfl ?_ | refine E_loadi (ds := [_]) ag3 sz3 rfl rfl rfl rfl ?_ | refine E_loadp (ds := [_]) ag3 sz3 rfl rfl rfl rfl rfl ?_ | refine E_int rfl rfl rfl rfl ?_ | refine E_pick rfl rfl ?_ | refine E_move rfl ?_) | refine DrawE_not rfl ?_); refine DrawE_eq (st' := _) (by first | dsimp only [n0, n1, n2, n3, n4, n5, n6, n7, n8, n9, m0, m1, m2, m3, m4, m5, m6, m7, m8, m9, o0, o1, o2, o3, o4, ↓reduceIte] | rfl) ?_)
          ((first | (refine DrawE_do rfl ?_; (first | refine E_index el25 sz37 rfl rfl rfl rfl hEj rfl ?_ | refine E_index0 el25 sz37 rfl rfl rfl rfl hEj ?_ | refine E_indexArr el25 sz37 rfl rfl rfl rfl hEj ?_)) | refine DrawE_not rfl ?_); refine DrawE_eq (st' := _) (by first | dsimp only [n0, n1, n2, n3, n4, n5, n6, n7, n8, n9, m0, m1, m2, m3, m4, m5, m6, m7, m8, m9, o0, o1, o2, o3, o4, ↓reduceIte] | rfl) ?_)
          iterate 5 ((first | (refine DrawE_do rfl ?_; first | refine E_fieldp fo37_3 rfl rfl ?_ | refine E_fieldi fo37_3 rfl rfl ?_ | refine E_loadi (ds := [_]) ag3 sz3 rfl rfl rfl rfl ?_ | refine E_loadp (ds := [_]) ag3 sz3 rfl rfl rfl rfl rfl ?_ | refine E_move rfl ?_) | refine DrawE_not rfl ?_); refine DrawE_eq (st' := _) (by first | dsimp only [n0, n1, n2, n3, n4, n5, n6, n7, n8, n9, m0, m1, m2, m3, m4, m5, m6, m7, m8, m9, o0, o1, o2, o3, o4, ↓reduceIte] | rfl) ?_)
          ((first | (refine DrawE_do rfl ?_; (first | refine E_index el25 sz37 rfl rfl rfl rfl hEj rfl ?_ | refine E_index0 el25 sz37 rfl rfl rfl rfl hEj ?_ | refine E_indexArr el25 sz37 rfl rfl rfl rfl hEj ?_)) | refine DrawE_not rfl ?_); refine DrawE_eq (st' := _) (by first | dsimp only [n0, n1, n2, n3, n4, n5, n6, n7, n8, n9, m0, m1, m2, m3, m4, m5, m6, m7, m8, m9, o0, o1, o2, o3, o4, ↓reduceIte] | rfl) ?_)
          iterate 2 ((first | (refine DrawE_do rfl ?_; first | refine E_fieldp fo37_2 rfl rfl ?_ | refine E_fieldi fo37_2 rfl rfl ?_ | refine E_loadi (ds := [_]) ag3 sz3 rfl rfl rfl rfl ?_ | refine E_loadp (ds := [_]) ag3 sz3 rfl rfl rfl rfl rfl ?_) | refine DrawE_not rfl ?_); refine DrawE_eq (st' := _) (by first | dsimp only [n0, n1, n2, n3, n4, n5, n6, n7, n8, n9, m0, m1, m2, m3, m4, m5, m6, m7, m8, m9, o0, o1, o2, o3, o4, ↓reduceIte] | rfl) ?_)
          ((first | (refine DrawE_do rfl ?_; (first | refine E_index el41 sz44 rfl rfl rfl rfl rfl rfl ?_ | refine E_index0 el41 sz44 rfl rfl rfl rfl rfl ?_ | refine E_indexArr el41 sz44 rfl rfl rfl rfl rfl ?_)) | refine DrawE_not rfl ?_); refine DrawE_eq (st' := _) (by first | dsimp only [n0, n1, n2, n3, n4, n5, n6, n7, n8, n9, m0, m1, m2, m3, m4, m5, m6, m7, m8, m9, o0, o1, o2, o3, o4, ↓reduceIte] | rfl) ?_)
          iterate 5 ((first | (refine DrawE_do rfl ?_; first | refine E_loadi (ds := [_]) ag44 sz44 rfl rfl rfl rfl ?_ | refine E_loadp (ds := [_]) ag44 sz44 rfl rfl rfl rfl rfl ?_ | refine E_len un44 rfl rfl ?_ | refine E_int rfl rfl rfl rfl ?_ | refine E_pick rfl rfl ?_) | refine DrawE_not rfl ?_); refine DrawE_eq (st' := _) (by first | dsimp only [n0, n1, n2, n3, n4, n5, n6, n7, n8, n9, m0, m1, m2, m3, m4, m5, m6, m7, m8, m9, o0, o1, o2, o3, o4, ↓reduceIte] | rfl) ?_)
          refine DrawE_nil ⟨by kernel_rfl, ?_⟩
          repeat (first | refine R_seq ?_ | refine R_block ?_ | refine R_skip ?_)
          refine R_false rfl ?_
          repeat (first | refine R_seq ?_ | refine R_block ?_ | refine R_skip ?_)
          refine R_region ?_
          iterate 3 ((refine OpsE_do rfl ?_; first | refine E_move rfl ?_ | refine E_int rfl rfl rfl rfl ?_ | refine E_assign rfl rfl ?_); refine OpsE_eq (st' := _) (by first | dsimp only [n0, n1, n2, n3, n4, n5, n6, n7, n8, n9, m0, m1, m2, m3, m4, m5, m6, m7, m8, m9, o0, o1, o2, o3, o4, ↓reduceIte] | rfl) ?_)
          refine OpsE_nil ?_
          refine ⟨j + 1, ?_, by omega, hj', good (by simp [fitB, hf]; omega)⟩
          rw [wrap_succ (by omega)]
          rfl
  · have hj' : j = E.length := by simp at h; omega
    subst hj'
    rw [List.take_length] at hall
    repeat (first | refine R_seq ?_ | refine R_block ?_ | refine R_skip ?_)
    refine R_exit ?_
    repeat (first | refine R_seq ?_ | refine R_block ?_ | refine R_skip ?_)
    refine R_region ?_
    (refine OpsE_do rfl ?_; refine E_assign rfl rfl ?_; refine OpsE_eq (st' := _) (by first | dsimp only [n0, n1, n2, n3, n4, n5, n6, n7, n8, n9, m0, m1, m2, m3, m4, m5, m6, m7, m8, m9, o0, o1, o2, o3, o4, ↓reduceIte] | rfl) ?_)
    refine OpsE_nil ?_
    repeat (first | refine R_seq ?_ | refine R_block ?_ | refine R_skip ?_)
    refine R_ret ?_
    refine ⟨trivial, _, rfl, ?_⟩
    rw [hall]
    rfl
end Go.Proofs.Try
