/-
  Seat a: the law of the runs of exact nests, on the machine.
-/
import Derived.Test.YtbknblppjhfkmaaA27
import Derived.Test.YtbknblppjhfkmaaA20
namespace Go.Proofs.Try
open Go Go.Pm
set_option linter.unusedVariables false
set_option linter.unusedSimpArgs false
set_option maxRecDepth 2000

theorem u16_rem300 {c : Int} (h0 : 0 ≤ c) (h1 : c ≤ 65535) : ∃ n : Nat, (IntKind.i64.wrap (c)).tmod 300 = (n : Int) ∧ n ≤ 1000 := by
  rw [wrap_i64 (by omega) (by omega), Int.tmod_eq_emod_of_nonneg h0]
  exact ⟨(c % 300).toNat, by omega, by omega⟩
/-- the lengths of buffers -/
def lensB (bufs : List (List Int)) : List Int := bufs.map fun b => (b.length : Int)
theorem firstI_neg {p : Nat → Bool} {n : Nat} (h : firstI p n < 0) : ∀ j, j < n → p j = false := by
  intro j hj
  cases hp : p j with
  | false => rfl
  | true =>
    exfalso
    rw [firstI] at h
    split at h
    · omega
    · rename_i hn
      rw [List.find?_eq_none] at hn
      exact hn j (List.mem_range.2 hj) hp
theorem fits_of {l : List Nst} {bufs : List (List Int)} {m : Nat} (h : firstI (badE m (lensB bufs) (eventsL l)) (eventsL l).length < 0) : fitsB l bufs m = true := by
  rw [fitsB, List.all_eq_true]
  intro e he
  obtain ⟨j, hj, rfl⟩ := List.getElem_of_mem he
  have hb := firstI_neg h j hj
  rw [badE_at hj, Bool.or_eq_false_iff, Bool.not_eq_false', Bool.not_eq_false', Bool.and_eq_true] at hb
  obtain ⟨⟨h1, _⟩, h2⟩ := hb
  have h1 := of_decide_eq_true h1
  have h2 := of_decide_eq_true h2
  refine decide_eq_true ⟨h1.1, h1.2, fun hf => ?_⟩
  rcases h2 with h2 | ⟨b0, b1, o0, o1⟩
  · rw [hf] at h2; cases h2
  · have hl : (lensB bufs).length = bufs.length := by simp [lensB]
    have hbl : (eventsL l)[j].buffer.toNat < bufs.length := by omega
    refine ⟨b0, by omega, o0, ?_⟩
    have e1 : (lensB bufs).getD (eventsL l)[j].buffer.toNat 0 = ((bufs.getD (eventsL l)[j].buffer.toNat []).length : Int) := by simp [lensB, hbl]
    rw [← e1]; exact o1
theorem c28v (l : List Nst) (s : List Int) (m : Nat) (t : Nat) (H : List Blk) (hS : ∀ n ∈ l, SmallN n) (hl : l.length ≤ 1000) (hm : m ≤ 1000) :
    PC prog env 28 [.dat (nestsD l), .vec t (s.map intD), .dat (intD m)] H (boolPV (decide (firstI (badE m s (eventsL l)) (eventsL l).length < 0) && decide (missI m (eventsL l) < 0))) H :=
  PC_lend (ds := [nestsD l, intsD s, intD m]) rfl (by kernel_rfl) (c28 l s m [] hS hl hm) rfl (fun h => by cases h)
theorem c27v (l : List Nst) (s : List Int) (m : Nat) (t : Nat) (H : List Blk) (hS : ∀ n ∈ l, SmallN n) (hl : l.length ≤ 1000) (hm : m ≤ 1000) : PC prog env 27 [.dat (nestsD l), .vec t (s.map intD), .dat (intD m)] H (.dat (repL l s m)) H :=
  PC_lend (ds := [nestsD l, intsD s, intD m]) rfl (by kernel_rfl) (c27 l s m [] hS hl hm) rfl (fun h => by cases h)
theorem c9_big (l : List Nst) (bufs : List (List Int)) (c : Int) (n : Nat) (hc : (IntKind.i64.wrap (c)).tmod 300 = (n : Int)) (hl : lensOk l) (hs : smallsB l 60 = false) : PC prog env 9 [.dat (nestsD l), .dat (bfsD bufs), .dat (.raw (.int .u16 c))] [] (boolPV true) [] := by
  refine PC_pure (fn := f9) (by kernel_rfl) rfl rfl (by kernel_rfl) rfl rfl ?_ (by simp [PV.lends])
  refine R_eq (st' := ⟨[.dat (nestsD l), .dat (bfsD bufs), .dat (.raw (.int .u16 c)), .tup [], .tup [], .tup [], .tup [], .tup [], .tup [], .tup [], .tup [], .tup [], .tup [], .tup [], .tup [], .tup [], .tup [], .tup [], .tup [], .tup [], .tup [], .tup [], .tup [], .tup [], .tup [], .tup [], .tup [], .tup [], .tup [], .tup [], .tup [], .tup [], .tup [], .tup [], .tup [], .tup [], .tup [], .tup [], .tup [], .tup [], .tup [], .tup [], .tup [], .tup [], .tup [], .tup [], .tup [], .tup [], .tup [], .tup [], .tup [], .tup [], .tup [], .tup [], .tup [], .tup [], .tup [], .tup [], .tup [], .tup [], .tup [], .tup [], .tup [], .tup [], .tup [], .tup [], .tup [], .tup [], .tup [], .tup [], .tup [], .tup [], .tup [], .tup [], .tup [], .tup [], .tup [], .tup [], .tup [], .tup []], []⟩) rfl ?_
  repeat (first | refine R_seq ?_ | refine R_block ?_ | refine R_skip ?_)
  refine R_region ?_
  (refine OpsE_do rfl ?_; refine E_assign rfl rfl ?_; refine OpsE_eq (st' := _) (by first | dsimp only [n0, n1, n2, n3, n4, n5, n6, n7, n8, n9, m0, m1, m2, m3, m4, m5, m6, m7, m8, m9, o0, o1, o2, o3, o4, ↓reduceIte] | rfl) ?_)
  refine OpsE_nil ?_
  repeat (first | refine R_seq ?_ | refine R_block ?_ | refine R_skip ?_)
  refine R_region ?_
  iterate 2 ((refine OpsE_do rfl ?_; first | refine E_move rfl ?_ | refine E_conv un42 un3 rfl rfl ?_); refine OpsE_eq (st' := _) (by first | dsimp only [n0, n1, n2, n3, n4, n5, n6, n7, n8, n9, m0, m1, m2, m3, m4, m5, m6, m7, m8, m9, o0, o1, o2, o3, o4, ↓reduceIte] | rfl) ?_)
  (refine OpsE_do rfl ?_; refine E_int rfl rfl rfl (rem_ok (by decide)) ?_; refine OpsE_eq (st' := _) (by first | dsimp only [n0, n1, n2, n3, n4, n5, n6, n7, n8, n9, m0, m1, m2, m3, m4, m5, m6, m7, m8, m9, o0, o1, o2, o3, o4, ↓reduceIte] | rfl) ?_)
  (refine OpsE_do rfl ?_; refine E_assign rfl rfl ?_; refine OpsE_eq (st' := _) (by first | dsimp only [n0, n1, n2, n3, n4, n5, n6, n7, n8, n9, m0, m1, m2, m3, m4, m5, m6, m7, m8, m9, o0, o1, o2, o3, o4, ↓reduceIte] | rfl) ?_)
  refine OpsE_nil ?_
  rw [hc]
  repeat (first | refine R_seq ?_ | refine R_block ?_ | refine R_skip ?_)
  refine R_region ?_
  (refine OpsE_do rfl ?_; (first | refine E_call rfl rfl (c24 _) ?_ | refine E_callfn rfl rfl (c24 _) ?_); refine OpsE_eq (st' := _) (by first | dsimp only [n0, n1, n2, n3, n4, n5, n6, n7, n8, n9, m0, m1, m2, m3, m4, m5, m6, m7, m8, m9, o0, o1, o2, o3, o4, ↓reduceIte] | rfl) ?_)
  iterate 3 ((first | (refine OpsE_do rfl ?_; first | refine E_not rfl rfl ?_ | refine E_move rfl ?_) | refine OpsE_not rfl ?_); refine OpsE_eq (st' := _) (by first | dsimp only [n0, n1, n2, n3, n4, n5, n6, n7, n8, n9, m0, m1, m2, m3, m4, m5, m6, m7, m8, m9, o0, o1, o2, o3, o4, ↓reduceIte] | rfl) ?_)
  ((first | (refine OpsE_do rfl ?_; (first | refine E_call rfl rfl (c11 _ _ _ hl) ?_ | refine E_callfn rfl rfl (c11 _ _ _ hl) ?_)) | refine OpsE_not rfl ?_); refine OpsE_eq (st' := _) (by first | dsimp only [n0, n1, n2, n3, n4, n5, n6, n7, n8, n9, m0, m1, m2, m3, m4, m5, m6, m7, m8, m9, o0, o1, o2, o3, o4, ↓reduceIte] | rfl) ?_)
  ((first | (refine OpsE_do rfl ?_; refine E_not (b := false) rfl (by rw [hs]; rfl) ?_) | refine OpsE_not rfl ?_); refine OpsE_eq (st' := _) (by first | dsimp only [n0, n1, n2, n3, n4, n5, n6, n7, n8, n9, m0, m1, m2, m3, m4, m5, m6, m7, m8, m9, o0, o1, o2, o3, o4, ↓reduceIte] | rfl) ?_)
  iterate 6 ((first | (refine OpsE_do rfl ?_; first | refine E_pick rfl rfl ?_ | refine E_move rfl ?_ | refine E_len un41 rfl rfl ?_ | refine E_int rfl rfl rfl rfl ?_) | refine OpsE_not rfl ?_); refine OpsE_eq (st' := _) (by first | dsimp only [n0, n1, n2, n3, n4, n5, n6, n7, n8, n9, m0, m1, m2, m3, m4, m5, m6, m7, m8, m9, o0, o1, o2, o3, o4, ↓reduceIte] | rfl) ?_)
  refine OpsE_nil ?_
  repeat (first | refine R_seq ?_ | refine R_block ?_ | refine R_skip ?_)
  refine R_true rfl ?_
  repeat (first | refine R_seq ?_ | refine R_block ?_ | refine R_skip ?_)
  refine R_region ?_
  (refine OpsE_do rfl ?_; (first | refine E_call rfl rfl (c24 _) ?_ | refine E_callfn rfl rfl (c24 _) ?_); refine OpsE_eq (st' := _) (by first | dsimp only [n0, n1, n2, n3, n4, n5, n6, n7, n8, n9, m0, m1, m2, m3, m4, m5, m6, m7, m8, m9, o0, o1, o2, o3, o4, ↓reduceIte] | rfl) ?_)
  (refine OpsE_do rfl ?_; refine E_assign rfl rfl ?_; refine OpsE_eq (st' := _) (by first | dsimp only [n0, n1, n2, n3, n4, n5, n6, n7, n8, n9, m0, m1, m2, m3, m4, m5, m6, m7, m8, m9, o0, o1, o2, o3, o4, ↓reduceIte] | rfl) ?_)
  refine OpsE_nil ?_
  repeat (first | refine R_seq ?_ | refine R_block ?_ | refine R_skip ?_)
  refine R_ret ?_
  exact ⟨trivial, _, rfl, rfl⟩
theorem c9_many (l : List Nst) (bufs : List (List Int)) (c : Int) (n : Nat) (hc : (IntKind.i64.wrap (c)).tmod 300 = (n : Int)) (hl : lensOk l) (hs : smallsB l 60 = true) (hb : bufs.length > 20) : PC prog env 9 [.dat (nestsD l), .dat (bfsD bufs), .dat (.raw (.int .u16 c))] [] (boolPV true) [] := by
  refine PC_pure (fn := f9) (by kernel_rfl) rfl rfl (by kernel_rfl) rfl rfl ?_ (by simp [PV.lends])
  have e10 : intBin .gtr .i64 ((bufs.map intsD).length : Int) 20 = some (.bool true) := by simp [intBin]; omega
  refine R_eq (st' := ⟨[.dat (nestsD l), .dat (bfsD bufs), .dat (.raw (.int .u16 c)), .tup [], .tup [], .tup [], .tup [], .tup [], .tup [], .tup [], .tup [], .tup [], .tup [], .tup [], .tup [], .tup [], .tup [], .tup [], .tup [], .tup [], .tup [], .tup [], .tup [], .tup [], .tup [], .tup [], .tup [], .tup [], .tup [], .tup [], .tup [], .tup [], .tup [], .tup [], .tup [], .tup [], .tup [], .tup [], .tup [], .tup [], .tup [], .tup [], .tup [], .tup [], .tup [], .tup [], .tup [], .tup [], .tup [], .tup [], .tup [], .tup [], .tup [], .tup [], .tup [], .tup [], .tup [], .tup [], .tup [], .tup [], .tup [], .tup [], .tup [], .tup [], .tup [], .tup [], .tup [], .tup [], .tup [], .tup [], .tup [], .tup [], .tup [], .tup [], .tup [], .tup [], .tup [], .tup [], .tup [], .tup []], []⟩) rfl ?_
  repeat (first | refine R_seq ?_ | refine R_block ?_ | refine R_skip ?_)
  refine R_region ?_
  (refine OpsE_do rfl ?_; refine E_assign rfl rfl ?_; refine OpsE_eq (st' := _) (by first | dsimp only [n0, n1, n2, n3, n4, n5, n6, n7, n8, n9, m0, m1, m2, m3, m4, m5, m6, m7, m8, m9, o0, o1, o2, o3, o4, ↓reduceIte] | rfl) ?_)
  refine OpsE_nil ?_
  repeat (first | refine R_seq ?_ | refine R_block ?_ | refine R_skip ?_)
  refine R_region ?_
  iterate 2 ((refine OpsE_do rfl ?_; first | refine E_move rfl ?_ | refine E_conv un42 un3 rfl rfl ?_); refine OpsE_eq (st' := _) (by first | dsimp only [n0, n1, n2, n3, n4, n5, n6, n7, n8, n9, m0, m1, m2, m3, m4, m5, m6, m7, m8, m9, o0, o1, o2, o3, o4, ↓reduceIte] | rfl) ?_)
  (refine OpsE_do rfl ?_; refine E_int rfl rfl rfl (rem_ok (by decide)) ?_; refine OpsE_eq (st' := _) (by first | dsimp only [n0, n1, n2, n3, n4, n5, n6, n7, n8, n9, m0, m1, m2, m3, m4, m5, m6, m7, m8, m9, o0, o1, o2, o3, o4, ↓reduceIte] | rfl) ?_)
  (refine OpsE_do rfl ?_; refine E_assign rfl rfl ?_; refine OpsE_eq (st' := _) (by first | dsimp only [n0, n1, n2, n3, n4, n5, n6, n7, n8, n9, m0, m1, m2, m3, m4, m5, m6, m7, m8, m9, o0, o1, o2, o3, o4, ↓reduceIte] | rfl) ?_)
  refine OpsE_nil ?_
  rw [hc]
  repeat (first | refine R_seq ?_ | refine R_block ?_ | refine R_skip ?_)
  refine R_region ?_
  (refine OpsE_do rfl ?_; (first | refine E_call rfl rfl (c24 _) ?_ | refine E_callfn rfl rfl (c24 _) ?_); refine OpsE_eq (st' := _) (by first | dsimp only [n0, n1, n2, n3, n4, n5, n6, n7, n8, n9, m0, m1, m2, m3, m4, m5, m6, m7, m8, m9, o0, o1, o2, o3, o4, ↓reduceIte] | rfl) ?_)
  iterate 3 ((first | (refine OpsE_do rfl ?_; first | refine E_not rfl rfl ?_ | refine E_move rfl ?_) | refine OpsE_not rfl ?_); refine OpsE_eq (st' := _) (by first | dsimp only [n0, n1, n2, n3, n4, n5, n6, n7, n8, n9, m0, m1, m2, m3, m4, m5, m6, m7, m8, m9, o0, o1, o2, o3, o4, ↓reduceIte] | rfl) ?_)
  ((first | (refine OpsE_do rfl ?_; (first | refine E_call rfl rfl (c11 _ _ _ hl) ?_ | refine E_callfn rfl rfl (c11 _ _ _ hl) ?_)) | refine OpsE_not rfl ?_); refine OpsE_eq (st' := _) (by first | dsimp only [n0, n1, n2, n3, n4, n5, n6, n7, n8, n9, m0, m1, m2, m3, m4, m5, m6, m7, m8, m9, o0, o1, o2, o3, o4, ↓reduceIte] | rfl) ?_)
  ((first | (refine OpsE_do rfl ?_; refine E_not (b := true) rfl (by rw [hs]; rfl) ?_) | refine OpsE_not rfl ?_); refine OpsE_eq (st' := _) (by first | dsimp only [n0, n1, n2, n3, n4, n5, n6, n7, n8, n9, m0, m1, m2, m3, m4, m5, m6, m7, m8, m9, o0, o1, o2, o3, o4, ↓reduceIte] | rfl) ?_)
  iterate 4 ((first | (refine OpsE_do rfl ?_; first | refine E_pick rfl rfl ?_ | refine E_move rfl ?_ | refine E_len un41 rfl rfl ?_) | refine OpsE_not rfl ?_); refine OpsE_eq (st' := _) (by first | dsimp only [n0, n1, n2, n3, n4, n5, n6, n7, n8, n9, m0, m1, m2, m3, m4, m5, m6, m7, m8, m9, o0, o1, o2, o3, o4, ↓reduceIte] | rfl) ?_)
  ((first | (refine OpsE_do rfl ?_; refine E_int rfl rfl rfl e10 ?_) | refine OpsE_not rfl ?_); refine OpsE_eq (st' := _) (by first | dsimp only [n0, n1, n2, n3, n4, n5, n6, n7, n8, n9, m0, m1, m2, m3, m4, m5, m6, m7, m8, m9, o0, o1, o2, o3, o4, ↓reduceIte] | rfl) ?_)
  (refine OpsE_do rfl ?_; refine E_pick rfl rfl ?_; refine OpsE_eq (st' := _) (by first | dsimp only [n0, n1, n2, n3, n4, n5, n6, n7, n8, n9, m0, m1, m2, m3, m4, m5, m6, m7, m8, m9, o0, o1, o2, o3, o4, ↓reduceIte] | rfl) ?_)
  refine OpsE_nil ?_
  repeat (first | refine R_seq ?_ | refine R_block ?_ | refine R_skip ?_)
  refine R_true rfl ?_
  repeat (first | refine R_seq ?_ | refine R_block ?_ | refine R_skip ?_)
  refine R_region ?_
  (refine OpsE_do rfl ?_; (first | refine E_call rfl rfl (c24 _) ?_ | refine E_callfn rfl rfl (c24 _) ?_); refine OpsE_eq (st' := _) (by first | dsimp only [n0, n1, n2, n3, n4, n5, n6, n7, n8, n9, m0, m1, m2, m3, m4, m5, m6, m7, m8, m9, o0, o1, o2, o3, o4, ↓reduceIte] | rfl) ?_)
  (refine OpsE_do rfl ?_; refine E_assign rfl rfl ?_; refine OpsE_eq (st' := _) (by first | dsimp only [n0, n1, n2, n3, n4, n5, n6, n7, n8, n9, m0, m1, m2, m3, m4, m5, m6, m7, m8, m9, o0, o1, o2, o3, o4, ↓reduceIte] | rfl) ?_)
  refine OpsE_nil ?_
  repeat (first | refine R_seq ?_ | refine R_block ?_ | refine R_skip ?_)
  refine R_ret ?_
  exact ⟨trivial, _, rfl, rfl⟩
theorem c9_in (l : List Nst) (bufs : List (List Int)) (c : Int) (n : Nat) (hc : (IntKind.i64.wrap (c)).tmod 300 = (n : Int)) (hl : lensOk l) (hn : n ≤ 1000) (hs : smallsB l 60 = true) (hb : ¬ bufs.length > 20) : PC prog env 9 [.dat (nestsD l), .dat (bfsD bufs), .dat (.raw (.int .u16 c))] [] (boolPV true) [] := by
  refine PC_pure (fn := f9) (by kernel_rfl) rfl rfl (by kernel_rfl) rfl rfl ?_ (by simp [PV.lends])
  have e10 : intBin .gtr .i64 ((bufs.map intsD).length : Int) 20 = some (.bool false) := by simp [intBin]; omega
  obtain ⟨hl60, hS⟩ := smalls60_of hs
  refine R_eq (st' := ⟨[.dat (nestsD l), .dat (bfsD bufs), .dat (.raw (.int .u16 c)), .tup [], .tup [], .tup [], .tup [], .tup [], .tup [], .tup [], .tup [], .tup [], .tup [], .tup [], .tup [], .tup [], .tup [], .tup [], .tup [], .tup [], .tup [], .tup [], .tup [], .tup [], .tup [], .tup [], .tup [], .tup [], .tup [], .tup [], .tup [], .tup [], .tup [], .tup [], .tup [], .tup [], .tup [], .tup [], .tup [], .tup [], .tup [], .tup [], .tup [], .tup [], .tup [], .tup [], .tup [], .tup [], .tup [], .tup [], .tup [], .tup [], .tup [], .tup [], .tup [], .tup [], .tup [], .tup [], .tup [], .tup [], .tup [], .tup [], .tup [], .tup [], .tup [], .tup [], .tup [], .tup [], .tup [], .tup [], .tup [], .tup [], .tup [], .tup [], .tup [], .tup [], .tup [], .tup [], .tup [], .tup []], []⟩) rfl ?_
  repeat (first | refine R_seq ?_ | refine R_block ?_ | refine R_skip ?_)
  refine R_region ?_
  (refine OpsE_do rfl ?_; refine E_assign rfl rfl ?_; refine OpsE_eq (st' := _) (by first | dsimp only [n0, n1, n2, n3, n4, n5, n6, n7, n8, n9, m0, m1, m2, m3, m4, m5, m6, m7, m8, m9, o0, o1, o2, o3, o4, ↓reduceIte] | rfl) ?_)
  refine OpsE_nil ?_
  repeat (first | refine R_seq ?_ | refine R_block ?_ | refine R_skip ?_)
  refine R_region ?_
  iterate 2 ((refine OpsE_do rfl ?_; first | refine E_move rfl ?_ | refine E_conv un42 un3 rfl rfl ?_); refine OpsE_eq (st' := _) (by first | dsimp only [n0, n1, n2, n3, n4, n5, n6, n7, n8, n9, m0, m1, m2, m3, m4, m5, m6, m7, m8, m9, o0, o1, o2, o3, o4, ↓reduceIte] | rfl) ?_)
  (refine OpsE_do rfl ?_; refine E_int rfl rfl rfl (rem_ok (by decide)) ?_; refine OpsE_eq (st' := _) (by first | dsimp only [n0, n1, n2, n3, n4, n5, n6, n7, n8, n9, m0, m1, m2, m3, m4, m5, m6, m7, m8, m9, o0, o1, o2, o3, o4, ↓reduceIte] | rfl) ?_)
  (refine OpsE_do rfl ?_; refine E_assign rfl rfl ?_; refine OpsE_eq (st' := _) (by first | dsimp only [n0, n1, n2, n3, n4, n5, n6, n7, n8, n9, m0, m1, m2, m3, m4, m5, m6, m7, m8, m9, o0, o1, o2, o3, o4, ↓reduceIte] | rfl) ?_)
  refine OpsE_nil ?_
  rw [hc]
  repeat (first | refine R_seq ?_ | refine R_block ?_ | refine R_skip ?_)
  refine R_region ?_
  (refine OpsE_do rfl ?_; (first | refine E_call rfl rfl (c24 _) ?_ | refine E_callfn rfl rfl (c24 _) ?_); refine OpsE_eq (st' := _) (by first | dsimp only [n0, n1, n2, n3, n4, n5, n6, n7, n8, n9, m0, m1, m2, m3, m4, m5, m6, m7, m8, m9, o0, o1, o2, o3, o4, ↓reduceIte] | rfl) ?_)
  iterate 3 ((first | (refine OpsE_do rfl ?_; first | refine E_not rfl rfl ?_ | refine E_move rfl ?_) | refine OpsE_not rfl ?_); refine OpsE_eq (st' := _) (by first | dsimp only [n0, n1, n2, n3, n4, n5, n6, n7, n8, n9, m0, m1, m2, m3, m4, m5, m6, m7, m8, m9, o0, o1, o2, o3, o4, ↓reduceIte] | rfl) ?_)
  ((first | (refine OpsE_do rfl ?_; (first | refine E_call rfl rfl (c11 _ _ _ hl) ?_ | refine E_callfn rfl rfl (c11 _ _ _ hl) ?_)) | refine OpsE_not rfl ?_); refine OpsE_eq (st' := _) (by first | dsimp only [n0, n1, n2, n3, n4, n5, n6, n7, n8, n9, m0, m1, m2, m3, m4, m5, m6, m7, m8, m9, o0, o1, o2, o3, o4, ↓reduceIte] | rfl) ?_)
  ((first | (refine OpsE_do rfl ?_; refine E_not (b := true) rfl (by rw [hs]; rfl) ?_) | refine OpsE_not rfl ?_); refine OpsE_eq (st' := _) (by first | dsimp only [n0, n1, n2, n3, n4, n5, n6, n7, n8, n9, m0, m1, m2, m3, m4, m5, m6, m7, m8, m9, o0, o1, o2, o3, o4, ↓reduceIte] | rfl) ?_)
  iterate 4 ((first | (refine OpsE_do rfl ?_; first | refine E_pick rfl rfl ?_ | refine E_move rfl ?_ | refine E_len un41 rfl rfl ?_) | refine OpsE_not rfl ?_); refine OpsE_eq (st' := _) (by first | dsimp only [n0, n1, n2, n3, n4, n5, n6, n7, n8, n9, m0, m1, m2, m3, m4, m5, m6, m7, m8, m9, o0, o1, o2, o3, o4, ↓reduceIte] | rfl) ?_)
  ((first | (refine OpsE_do rfl ?_; refine E_int rfl rfl rfl e10 ?_) | refine OpsE_not rfl ?_); refine OpsE_eq (st' := _) (by first | dsimp only [n0, n1, n2, n3, n4, n5, n6, n7, n8, n9, m0, m1, m2, m3, m4, m5, m6, m7, m8, m9, o0, o1, o2, o3, o4, ↓reduceIte] | rfl) ?_)
  (refine OpsE_do rfl ?_; refine E_pick rfl rfl ?_; refine OpsE_eq (st' := _) (by first | dsimp only [n0, n1, n2, n3, n4, n5, n6, n7, n8, n9, m0, m1, m2, m3, m4, m5, m6, m7, m8, m9, o0, o1, o2, o3, o4, ↓reduceIte] | rfl) ?_)
  refine OpsE_nil ?_
  repeat (first | refine R_seq ?_ | refine R_block ?_ | refine R_skip ?_)
  refine R_false rfl ?_
  repeat (first | refine R_seq ?_ | refine R_block ?_ | refine R_skip ?_)
  refine R_region ?_
  (refine OpsE_do rfl ?_; refine E_own rfl rfl ?_; refine OpsE_eq (st' := _) (by first | dsimp only [n0, n1, n2, n3, n4, n5, n6, n7, n8, n9, m0, m1, m2, m3, m4, m5, m6, m7, m8, m9, o0, o1, o2, o3, o4, ↓reduceIte] | rfl) ?_)
  refine OpsE_nil ?_
  repeat (first | refine R_seq ?_ | refine R_block ?_ | refine R_skip ?_)
  refine R_region ?_
  (refine OpsE_do rfl ?_; refine E_assign rfl rfl ?_; refine OpsE_eq (st' := _) (by first | dsimp only [n0, n1, n2, n3, n4, n5, n6, n7, n8, n9, m0, m1, m2, m3, m4, m5, m6, m7, m8, m9, o0, o1, o2, o3, o4, ↓reduceIte] | rfl) ?_)
  refine OpsE_nil ?_
  repeat (first | refine R_seq ?_ | refine R_block ?_ | refine R_skip ?_)
  refine R_loop ?_
  refine RL_ind (fun (j : Nat) => ⟨[.dat (nestsD l), .dat (bfsD bufs), .undef, .undef, .undef, .undef, .undef, .dat (intD (n : Int)), .vec 0 ((lensB (bufs.take j)).map intD), intPV (j : Int), .undef, .undef, .undef, .undef, .undef, .undef, .undef, .undef, .undef, .undef, .undef, .undef, .undef, .undef, .undef, .undef, .undef, .undef, .undef, .undef, .undef, .undef, .undef, .undef, .undef, .undef, .undef, .undef, .undef, .undef, .undef, .undef, .undef, .undef, .undef, .undef, .undef, .undef, .undef, .undef, .undef, .undef, .undef, .undef, .undef, .undef, .undef, .undef, .undef, .undef, .undef, .undef, .undef, .undef, .undef, .undef, .undef, .undef, .undef, .undef, .undef, .undef, .undef, .undef, .undef, .undef, .undef, .undef, .undef, .undef], [.tok 3 ((lensB (bufs.take j)).map intD).length]⟩)
    (fun j => j ≤ bufs.length) (fun j => bufs.length - j) (fun j hj => ?_) _ 0 _ (Nat.lt_succ_self _) (Nat.zero_le _) rfl
  repeat (first | refine R_seq ?_ | refine R_block ?_ | refine R_skip ?_)
  refine R_region ?_
  iterate 4 ((refine OpsE_do rfl ?_; first | refine E_move rfl ?_ | refine E_len un41 rfl rfl ?_ | refine E_int rfl rfl rfl rfl ?_); refine OpsE_eq (st' := _) (by first | dsimp only [n0, n1, n2, n3, n4, n5, n6, n7, n8, n9, m0, m1, m2, m3, m4, m5, m6, m7, m8, m9, o0, o1, o2, o3, o4, ↓reduceIte] | rfl) ?_)
  refine OpsE_nil ?_
  repeat (first | refine R_seq ?_ | refine R_block ?_ | refine R_skip ?_)
  refine R_if rfl (fun h => ?_) (fun h => ?_)
  · have hj' : j < bufs.length := by simpa using h
    repeat (first | refine R_seq ?_ | refine R_block ?_ | refine R_skip ?_)
    refine R_region ?_
    iterate 2 ((refine OpsE_do rfl ?_; refine E_move rfl ?_); refine OpsE_eq (st' := _) (by first | dsimp only [n0, n1, n2, n3, n4, n5, n6, n7, n8, n9, m0, m1, m2, m3, m4, m5, m6, m7, m8, m9, o0, o1, o2, o3, o4, ↓reduceIte] | rfl) ?_)
    (refine OpsE_do rfl ?_; (first | refine E_index el41 sz44 rfl rfl rfl rfl (bufs_get hj') rfl ?_ | refine E_index0 el41 sz44 rfl rfl rfl rfl (bufs_get hj') ?_ | refine E_indexArr el41 sz44 rfl rfl rfl rfl (bufs_get hj') ?_); refine OpsE_eq (st' := _) (by first | dsimp only [n0, n1, n2, n3, n4, n5, n6, n7, n8, n9, m0, m1, m2, m3, m4, m5, m6, m7, m8, m9, o0, o1, o2, o3, o4, ↓reduceIte] | rfl) ?_)
    iterate 3 ((refine OpsE_do rfl ?_; first | refine E_loadi (ds := [_]) ag44 sz44 rfl rfl rfl rfl ?_ | refine E_loadp (ds := [_]) ag44 sz44 rfl rfl rfl rfl rfl ?_ | refine E_len un44 rfl rfl ?_ | refine E_int rfl rfl rfl rfl ?_); refine OpsE_eq (st' := _) (by first | dsimp only [n0, n1, n2, n3, n4, n5, n6, n7, n8, n9, m0, m1, m2, m3, m4, m5, m6, m7, m8, m9, o0, o1, o2, o3, o4, ↓reduceIte] | rfl) ?_)
    refine OpsE_nil ?_
    repeat (first | refine R_seq ?_ | refine R_block ?_ | refine R_skip ?_)
    refine R_if rfl (fun hbig => ?_) (fun hbig => ?_)
    · repeat (first | refine R_seq ?_ | refine R_block ?_ | refine R_skip ?_)
      refine R_region ?_
      (refine OpsE_do rfl ?_; refine E_assign rfl rfl ?_; refine OpsE_eq (st' := _) (by first | dsimp only [n0, n1, n2, n3, n4, n5, n6, n7, n8, n9, m0, m1, m2, m3, m4, m5, m6, m7, m8, m9, o0, o1, o2, o3, o4, ↓reduceIte] | rfl) ?_)
      refine OpsE_nil ?_
      repeat (first | refine R_seq ?_ | refine R_block ?_ | refine R_skip ?_)
      refine R_ret ?_
      exact ⟨trivial, _, rfl, rfl⟩
    · have e1 : (lensB (bufs.take (j + 1))).map intD = (lensB (bufs.take j)).map intD ++ [intD ((bufs[j].map intD).length : Int)] := by
        rw [lensB, lensB, List.take_succ_eq_append_getElem hj', List.map_append, List.map_append]; simp
      have e2 : ((lensB (bufs.take j)).map intD).length ≤ 20 := by simp [lensB]; omega
      repeat (first | refine R_seq ?_ | refine R_block ?_ | refine R_skip ?_)
      refine R_region ?_
      iterate 3 ((refine OpsE_do rfl ?_; refine E_move rfl ?_); refine OpsE_eq (st' := _) (by first | dsimp only [n0, n1, n2, n3, n4, n5, n6, n7, n8, n9, m0, m1, m2, m3, m4, m5, m6, m7, m8, m9, o0, o1, o2, o3, o4, ↓reduceIte] | rfl) ?_)
      (refine OpsE_do rfl ?_; (first | refine E_index el41 sz44 rfl rfl rfl rfl (bufs_get hj') rfl ?_ | refine E_index0 el41 sz44 rfl rfl rfl rfl (bufs_get hj') ?_ | refine E_indexArr el41 sz44 rfl rfl rfl rfl (bufs_get hj') ?_); refine OpsE_eq (st' := _) (by first | dsimp only [n0, n1, n2, n3, n4, n5, n6, n7, n8, n9, m0, m1, m2, m3, m4, m5, m6, m7, m8, m9, o0, o1, o2, o3, o4, ↓reduceIte] | rfl) ?_)
      iterate 3 ((refine OpsE_do rfl ?_; first | refine E_loadi (ds := [_]) ag44 sz44 rfl rfl rfl rfl ?_ | refine E_loadp (ds := [_]) ag44 sz44 rfl rfl rfl rfl rfl ?_ | refine E_len un44 rfl rfl ?_ | refine E_list el49 sz3 zi3 rfl rfl rfl ⟨rfl, rfl⟩ rfl ⟨by decide, by decide⟩ rfl ?_); refine OpsE_eq (st' := _) (by first | dsimp only [n0, n1, n2, n3, n4, n5, n6, n7, n8, n9, m0, m1, m2, m3, m4, m5, m6, m7, m8, m9, o0, o1, o2, o3, o4, ↓reduceIte] | rfl) ?_)
      (refine OpsE_do rfl ?_; refine E_append el49 sz3 by3 zn3 ⟨by decide, by decide⟩ rfl rfl rfl rfl rfl (ints_fit _) rfl (by simp only [room, List.length_cons, List.length_nil]; omega) ?_; refine OpsE_eq (st' := _) (by first | dsimp only [n0, n1, n2, n3, n4, n5, n6, n7, n8, n9, m0, m1, m2, m3, m4, m5, m6, m7, m8, m9, o0, o1, o2, o3, o4, ↓reduceIte] | rfl) ?_)
      (refine OpsE_do rfl ?_; refine E_assign rfl rfl ?_; refine OpsE_eq (st' := _) (by first | dsimp only [n0, n1, n2, n3, n4, n5, n6, n7, n8, n9, m0, m1, m2, m3, m4, m5, m6, m7, m8, m9, o0, o1, o2, o3, o4, ↓reduceIte] | rfl) ?_)
      refine OpsE_nil ?_
      repeat (first | refine R_seq ?_ | refine R_block ?_ | refine R_skip ?_)
      refine R_region ?_
      iterate 3 ((refine OpsE_do rfl ?_; first | refine E_move rfl ?_ | refine E_int rfl rfl rfl rfl ?_ | refine E_assign rfl rfl ?_); refine OpsE_eq (st' := _) (by first | dsimp only [n0, n1, n2, n3, n4, n5, n6, n7, n8, n9, m0, m1, m2, m3, m4, m5, m6, m7, m8, m9, o0, o1, o2, o3, o4, ↓reduceIte] | rfl) ?_)
      refine OpsE_nil ?_
      refine ⟨j + 1, ?_, by omega, hj'⟩
      rw [e1, List.length_append, wrap_succ (by omega)]
      rfl
  · have hj' : j = bufs.length := by simp at h; omega
    subst hj'
    rw [List.take_length]
    repeat (first | refine R_seq ?_ | refine R_block ?_ | refine R_skip ?_)
    refine R_exit ?_
    have h28 := fun H => c28v l (lensB bufs) n 0 H hS (by omega) hn
    have h27 := fun H => c27v l (lensB bufs) n 0 H hS (by omega) hn
    have hfit := fits_of (l := l) (bufs := bufs) (m := n)
    simp only [repL] at h27
    generalize ((eventsL l).length : Int) - (fillsE (eventsL l) : Int) = r at h27
    generalize (fillsE (eventsL l) : Int) = f at h27
    generalize firstI (badE n (lensB bufs) (eventsL l)) (eventsL l).length = w at h27 h28 hfit
    generalize missI n (eventsL l) = k at h27 h28
    by_cases w0 : w < 0
    · have w1 : decide (w < 0) = true := decide_eq_true w0
      by_cases k0 : k < 0
      · have k1 : decide (k < 0) = true := decide_eq_true k0
        rw [w1, k1] at h28
        repeat (first | refine R_seq ?_ | refine R_block ?_ | refine R_skip ?_)
        refine R_region ?_
        (refine OpsE_do rfl ?_; refine E_move rfl ?_; refine OpsE_eq (st' := _) (by first | dsimp only [n0, n1, n2, n3, n4, n5, n6, n7, n8, n9, m0, m1, m2, m3, m4, m5, m6, m7, m8, m9, o0, o1, o2, o3, o4, ↓reduceIte] | rfl) ?_)
        (refine OpsE_do rfl ?_; (first | refine E_call rfl rfl (c15 l _ (by omega)) ?_ | refine E_callfn rfl rfl (c15 l _ (by omega)) ?_); refine OpsE_eq (st' := _) (by first | dsimp only [n0, n1, n2, n3, n4, n5, n6, n7, n8, n9, m0, m1, m2, m3, m4, m5, m6, m7, m8, m9, o0, o1, o2, o3, o4, ↓reduceIte] | rfl) ?_)
        iterate 2 ((refine OpsE_do rfl ?_; refine E_move rfl ?_); refine OpsE_eq (st' := _) (by first | dsimp only [n0, n1, n2, n3, n4, n5, n6, n7, n8, n9, m0, m1, m2, m3, m4, m5, m6, m7, m8, m9, o0, o1, o2, o3, o4, ↓reduceIte] | rfl) ?_)
        (refine OpsE_do rfl ?_; (first | refine E_call rfl rfl (h28 _) ?_ | refine E_callfn rfl rfl (h28 _) ?_); refine OpsE_eq (st' := _) (by first | dsimp only [n0, n1, n2, n3, n4, n5, n6, n7, n8, n9, m0, m1, m2, m3, m4, m5, m6, m7, m8, m9, o0, o1, o2, o3, o4, ↓reduceIte] | rfl) ?_)
        (refine OpsE_do rfl ?_; refine E_not rfl rfl ?_; refine OpsE_eq (st' := _) (by first | dsimp only [n0, n1, n2, n3, n4, n5, n6, n7, n8, n9, m0, m1, m2, m3, m4, m5, m6, m7, m8, m9, o0, o1, o2, o3, o4, ↓reduceIte] | rfl) ?_)
        refine OpsE_nil ?_
        repeat (first | refine R_seq ?_ | refine R_block ?_ | refine R_skip ?_)
        refine R_false rfl ?_
        have hf := hfit w0
        have h18 := fun H => c18 l bufs n H hS (by omega)
        simp only [hf] at h18
        repeat (first | refine R_seq ?_ | refine R_block ?_ | refine R_skip ?_)
        refine R_region ?_
        iterate 3 ((refine OpsE_do rfl ?_; refine E_move rfl ?_); refine OpsE_eq (st' := _) (by first | dsimp only [n0, n1, n2, n3, n4, n5, n6, n7, n8, n9, m0, m1, m2, m3, m4, m5, m6, m7, m8, m9, o0, o1, o2, o3, o4, ↓reduceIte] | rfl) ?_)
        (refine OpsE_do rfl ?_; (first | refine E_call rfl rfl (h18 _) ?_ | refine E_callfn rfl rfl (h18 _) ?_); refine OpsE_eq (st' := _) (by first | dsimp only [n0, n1, n2, n3, n4, n5, n6, n7, n8, n9, m0, m1, m2, m3, m4, m5, m6, m7, m8, m9, o0, o1, o2, o3, o4, ↓reduceIte] | rfl) ?_)
        (refine OpsE_do rfl ?_; refine E_not rfl rfl ?_; refine OpsE_eq (st' := _) (by first | dsimp only [n0, n1, n2, n3, n4, n5, n6, n7, n8, n9, m0, m1, m2, m3, m4, m5, m6, m7, m8, m9, o0, o1, o2, o3, o4, ↓reduceIte] | rfl) ?_)
        refine OpsE_nil ?_
        repeat (first | refine R_seq ?_ | refine R_block ?_ | refine R_skip ?_)
        refine R_false rfl ?_
        repeat (first | refine R_seq ?_ | refine R_block ?_ | refine R_skip ?_)
        refine R_region ?_
        (refine OpsE_do rfl ?_; refine E_move rfl ?_; refine OpsE_eq (st' := _) (by first | dsimp only [n0, n1, n2, n3, n4, n5, n6, n7, n8, n9, m0, m1, m2, m3, m4, m5, m6, m7, m8, m9, o0, o1, o2, o3, o4, ↓reduceIte] | rfl) ?_)
        (refine OpsE_do rfl ?_; (first | refine E_call rfl rfl (c15 l _ (by omega)) ?_ | refine E_callfn rfl rfl (c15 l _ (by omega)) ?_); refine OpsE_eq (st' := _) (by first | dsimp only [n0, n1, n2, n3, n4, n5, n6, n7, n8, n9, m0, m1, m2, m3, m4, m5, m6, m7, m8, m9, o0, o1, o2, o3, o4, ↓reduceIte] | rfl) ?_)
        iterate 2 ((refine OpsE_do rfl ?_; refine E_move rfl ?_); refine OpsE_eq (st' := _) (by first | dsimp only [n0, n1, n2, n3, n4, n5, n6, n7, n8, n9, m0, m1, m2, m3, m4, m5, m6, m7, m8, m9, o0, o1, o2, o3, o4, ↓reduceIte] | rfl) ?_)
        (refine OpsE_do rfl ?_; (first | refine E_call rfl rfl (c19 l bufs n _ hS (by omega) hn hf) ?_ | refine E_callfn rfl rfl (c19 l bufs n _ hS (by omega) hn hf) ?_); refine OpsE_eq (st' := _) (by first | dsimp only [n0, n1, n2, n3, n4, n5, n6, n7, n8, n9, m0, m1, m2, m3, m4, m5, m6, m7, m8, m9, o0, o1, o2, o3, o4, ↓reduceIte] | rfl) ?_)
        iterate 3 ((refine OpsE_do rfl ?_; refine E_move rfl ?_); refine OpsE_eq (st' := _) (by first | dsimp only [n0, n1, n2, n3, n4, n5, n6, n7, n8, n9, m0, m1, m2, m3, m4, m5, m6, m7, m8, m9, o0, o1, o2, o3, o4, ↓reduceIte] | rfl) ?_)
        (refine OpsE_do rfl ?_; (first | refine E_call rfl rfl (c21 l bufs n _ hS (by omega) hn hf) ?_ | refine E_callfn rfl rfl (c21 l bufs n _ hS (by omega) hn hf) ?_); refine OpsE_eq (st' := _) (by first | dsimp only [n0, n1, n2, n3, n4, n5, n6, n7, n8, n9, m0, m1, m2, m3, m4, m5, m6, m7, m8, m9, o0, o1, o2, o3, o4, ↓reduceIte] | rfl) ?_)
        (refine OpsE_do rfl ?_; (first | refine E_call rfl rfl (c20t _ _ (by rw [runL_len]; omega)) ?_ | refine E_callfn rfl rfl (c20t _ _ (by rw [runL_len]; omega)) ?_); refine OpsE_eq (st' := _) (by first | dsimp only [n0, n1, n2, n3, n4, n5, n6, n7, n8, n9, m0, m1, m2, m3, m4, m5, m6, m7, m8, m9, o0, o1, o2, o3, o4, ↓reduceIte] | rfl) ?_)
        (refine OpsE_do rfl ?_; refine E_assign rfl rfl ?_; refine OpsE_eq (st' := _) (by first | dsimp only [n0, n1, n2, n3, n4, n5, n6, n7, n8, n9, m0, m1, m2, m3, m4, m5, m6, m7, m8, m9, o0, o1, o2, o3, o4, ↓reduceIte] | rfl) ?_)
        refine OpsE_nil ?_
        repeat (first | refine R_seq ?_ | refine R_block ?_ | refine R_skip ?_)
        refine R_ret ?_
        exact ⟨trivial, _, rfl, rfl⟩
      · have k1 : decide (k < 0) = false := decide_eq_false k0
        have e2 : intBin .geq .i64 w 0 = some (.bool false) := by simp [intBin]; omega
        have e6 : intBin .geq .i64 k 0 = some (.bool true) := by simp [intBin]; omega
        rw [w1, k1] at h28
        repeat (first | refine R_seq ?_ | refine R_block ?_ | refine R_skip ?_)
        refine R_region ?_
        (refine OpsE_do rfl ?_; refine E_move rfl ?_; refine OpsE_eq (st' := _) (by first | dsimp only [n0, n1, n2, n3, n4, n5, n6, n7, n8, n9, m0, m1, m2, m3, m4, m5, m6, m7, m8, m9, o0, o1, o2, o3, o4, ↓reduceIte] | rfl) ?_)
        (refine OpsE_do rfl ?_; (first | refine E_call rfl rfl (c15 l _ (by omega)) ?_ | refine E_callfn rfl rfl (c15 l _ (by omega)) ?_); refine OpsE_eq (st' := _) (by first | dsimp only [n0, n1, n2, n3, n4, n5, n6, n7, n8, n9, m0, m1, m2, m3, m4, m5, m6, m7, m8, m9, o0, o1, o2, o3, o4, ↓reduceIte] | rfl) ?_)
        iterate 2 ((refine OpsE_do rfl ?_; refine E_move rfl ?_); refine OpsE_eq (st' := _) (by first | dsimp only [n0, n1, n2, n3, n4, n5, n6, n7, n8, n9, m0, m1, m2, m3, m4, m5, m6, m7, m8, m9, o0, o1, o2, o3, o4, ↓reduceIte] | rfl) ?_)
        (refine OpsE_do rfl ?_; (first | refine E_call rfl rfl (h28 _) ?_ | refine E_callfn rfl rfl (h28 _) ?_); refine OpsE_eq (st' := _) (by first | dsimp only [n0, n1, n2, n3, n4, n5, n6, n7, n8, n9, m0, m1, m2, m3, m4, m5, m6, m7, m8, m9, o0, o1, o2, o3, o4, ↓reduceIte] | rfl) ?_)
        (refine OpsE_do rfl ?_; refine E_not rfl rfl ?_; refine OpsE_eq (st' := _) (by first | dsimp only [n0, n1, n2, n3, n4, n5, n6, n7, n8, n9, m0, m1, m2, m3, m4, m5, m6, m7, m8, m9, o0, o1, o2, o3, o4, ↓reduceIte] | rfl) ?_)
        refine OpsE_nil ?_
        repeat (first | refine R_seq ?_ | refine R_block ?_ | refine R_skip ?_)
        refine R_true rfl ?_
        repeat (first | refine R_seq ?_ | refine R_block ?_ | refine R_skip ?_)
        refine R_region ?_
        iterate 3 ((refine OpsE_do rfl ?_; refine E_move rfl ?_); refine OpsE_eq (st' := _) (by first | dsimp only [n0, n1, n2, n3, n4, n5, n6, n7, n8, n9, m0, m1, m2, m3, m4, m5, m6, m7, m8, m9, o0, o1, o2, o3, o4, ↓reduceIte] | rfl) ?_)
        (refine OpsE_do rfl ?_; (first | refine E_call rfl rfl (h27 _) ?_ | refine E_callfn rfl rfl (h27 _) ?_); refine OpsE_eq (st' := _) (by first | dsimp only [n0, n1, n2, n3, n4, n5, n6, n7, n8, n9, m0, m1, m2, m3, m4, m5, m6, m7, m8, m9, o0, o1, o2, o3, o4, ↓reduceIte] | rfl) ?_)
        iterate 2 ((refine OpsE_do rfl ?_; first | refine E_alloc (cs := [_, _, _, _]) ze65 rfl rfl ?_ | refine E_store (vs := [_, _, _, _]) sz65 rfl rfl rfl rfl rfl rfl rfl ?_); refine OpsE_eq (st' := _) (by first | dsimp only [n0, n1, n2, n3, n4, n5, n6, n7, n8, n9, m0, m1, m2, m3, m4, m5, m6, m7, m8, m9, o0, o1, o2, o3, o4, ↓reduceIte] | rfl) ?_)
        refine OpsE_nil ?_
        repeat (first | refine R_seq ?_ | refine R_block ?_ | refine R_skip ?_)
        refine R_region ?_
        iterate 2 ((refine OpsE_do rfl ?_; first | refine E_fieldp fo65_2 rfl rfl ?_ | refine E_fieldi fo65_2 rfl rfl ?_ | refine E_loadi (ds := [_]) ag3 sz3 rfl rfl rfl rfl ?_ | refine E_loadp (ds := [_]) ag3 sz3 rfl rfl rfl rfl rfl ?_); refine OpsE_eq (st' := _) (by first | dsimp only [n0, n1, n2, n3, n4, n5, n6, n7, n8, n9, m0, m1, m2, m3, m4, m5, m6, m7, m8, m9, o0, o1, o2, o3, o4, ↓reduceIte] | rfl) ?_)
        (refine OpsE_do rfl ?_; refine E_int rfl rfl rfl e2 ?_; refine OpsE_eq (st' := _) (by first | dsimp only [n0, n1, n2, n3, n4, n5, n6, n7, n8, n9, m0, m1, m2, m3, m4, m5, m6, m7, m8, m9, o0, o1, o2, o3, o4, ↓reduceIte] | rfl) ?_)
        iterate 3 ((first | (refine OpsE_do rfl ?_; first | refine E_move rfl ?_ | refine E_fieldp fo65_3 rfl rfl ?_ | refine E_fieldi fo65_3 rfl rfl ?_ | refine E_loadi (ds := [_]) ag3 sz3 rfl rfl rfl rfl ?_ | refine E_loadp (ds := [_]) ag3 sz3 rfl rfl rfl rfl rfl ?_) | refine OpsE_not rfl ?_); refine OpsE_eq (st' := _) (by first | dsimp only [n0, n1, n2, n3, n4, n5, n6, n7, n8, n9, m0, m1, m2, m3, m4, m5, m6, m7, m8, m9, o0, o1, o2, o3, o4, ↓reduceIte] | rfl) ?_)
        ((first | (refine OpsE_do rfl ?_; refine E_int rfl rfl rfl e6 ?_) | refine OpsE_not rfl ?_); refine OpsE_eq (st' := _) (by first | dsimp only [n0, n1, n2, n3, n4, n5, n6, n7, n8, n9, m0, m1, m2, m3, m4, m5, m6, m7, m8, m9, o0, o1, o2, o3, o4, ↓reduceIte] | rfl) ?_)
        iterate 2 ((refine OpsE_do rfl ?_; first | refine E_pick rfl rfl ?_ | refine E_assign rfl rfl ?_); refine OpsE_eq (st' := _) (by first | dsimp only [n0, n1, n2, n3, n4, n5, n6, n7, n8, n9, m0, m1, m2, m3, m4, m5, m6, m7, m8, m9, o0, o1, o2, o3, o4, ↓reduceIte] | rfl) ?_)
        refine OpsE_nil ?_
        repeat (first | refine R_seq ?_ | refine R_block ?_ | refine R_skip ?_)
        refine R_ret ?_
        exact ⟨trivial, _, rfl, rfl⟩
    · have w1 : decide (w < 0) = false := decide_eq_false w0
      have e2 : intBin .geq .i64 w 0 = some (.bool true) := by simp [intBin]; omega
      rw [w1] at h28
      repeat (first | refine R_seq ?_ | refine R_block ?_ | refine R_skip ?_)
      refine R_region ?_
      (refine OpsE_do rfl ?_; refine E_move rfl ?_; refine OpsE_eq (st' := _) (by first | dsimp only [n0, n1, n2, n3, n4, n5, n6, n7, n8, n9, m0, m1, m2, m3, m4, m5, m6, m7, m8, m9, o0, o1, o2, o3, o4, ↓reduceIte] | rfl) ?_)
      (refine OpsE_do rfl ?_; (first | refine E_call rfl rfl (c15 l _ (by omega)) ?_ | refine E_callfn rfl rfl (c15 l _ (by omega)) ?_); refine OpsE_eq (st' := _) (by first | dsimp only [n0, n1, n2, n3, n4, n5, n6, n7, n8, n9, m0, m1, m2, m3, m4, m5, m6, m7, m8, m9, o0, o1, o2, o3, o4, ↓reduceIte] | rfl) ?_)
      iterate 2 ((refine OpsE_do rfl ?_; refine E_move rfl ?_); refine OpsE_eq (st' := _) (by first | dsimp only [n0, n1, n2, n3, n4, n5, n6, n7, n8, n9, m0, m1, m2, m3, m4, m5, m6, m7, m8, m9, o0, o1, o2, o3, o4, ↓reduceIte] | rfl) ?_)
      (refine OpsE_do rfl ?_; (first | refine E_call rfl rfl (h28 _) ?_ | refine E_callfn rfl rfl (h28 _) ?_); refine OpsE_eq (st' := _) (by first | dsimp only [n0, n1, n2, n3, n4, n5, n6, n7, n8, n9, m0, m1, m2, m3, m4, m5, m6, m7, m8, m9, o0, o1, o2, o3, o4, ↓reduceIte] | rfl) ?_)
      (refine OpsE_do rfl ?_; refine E_not rfl rfl ?_; refine OpsE_eq (st' := _) (by first | dsimp only [n0, n1, n2, n3, n4, n5, n6, n7, n8, n9, m0, m1, m2, m3, m4, m5, m6, m7, m8, m9, o0, o1, o2, o3, o4, ↓reduceIte] | rfl) ?_)
      refine OpsE_nil ?_
      repeat (first | refine R_seq ?_ | refine R_block ?_ | refine R_skip ?_)
      refine R_true rfl ?_
      repeat (first | refine R_seq ?_ | refine R_block ?_ | refine R_skip ?_)
      refine R_region ?_
      iterate 3 ((refine OpsE_do rfl ?_; refine E_move rfl ?_); refine OpsE_eq (st' := _) (by first | dsimp only [n0, n1, n2, n3, n4, n5, n6, n7, n8, n9, m0, m1, m2, m3, m4, m5, m6, m7, m8, m9, o0, o1, o2, o3, o4, ↓reduceIte] | rfl) ?_)
      (refine OpsE_do rfl ?_; (first | refine E_call rfl rfl (h27 _) ?_ | refine E_callfn rfl rfl (h27 _) ?_); refine OpsE_eq (st' := _) (by first | dsimp only [n0, n1, n2, n3, n4, n5, n6, n7, n8, n9, m0, m1, m2, m3, m4, m5, m6, m7, m8, m9, o0, o1, o2, o3, o4, ↓reduceIte] | rfl) ?_)
      iterate 2 ((refine OpsE_do rfl ?_; first | refine E_alloc (cs := [_, _, _, _]) ze65 rfl rfl ?_ | refine E_store (vs := [_, _, _, _]) sz65 rfl rfl rfl rfl rfl rfl rfl ?_); refine OpsE_eq (st' := _) (by first | dsimp only [n0, n1, n2, n3, n4, n5, n6, n7, n8, n9, m0, m1, m2, m3, m4, m5, m6, m7, m8, m9, o0, o1, o2, o3, o4, ↓reduceIte] | rfl) ?_)
      refine OpsE_nil ?_
      repeat (first | refine R_seq ?_ | refine R_block ?_ | refine R_skip ?_)
      refine R_region ?_
      iterate 2 ((refine OpsE_do rfl ?_; first | refine E_fieldp fo65_2 rfl rfl ?_ | refine E_fieldi fo65_2 rfl rfl ?_ | refine E_loadi (ds := [_]) ag3 sz3 rfl rfl rfl rfl ?_ | refine E_loadp (ds := [_]) ag3 sz3 rfl rfl rfl rfl rfl ?_); refine OpsE_eq (st' := _) (by first | dsimp only [n0, n1, n2, n3, n4, n5, n6, n7, n8, n9, m0, m1, m2, m3, m4, m5, m6, m7, m8, m9, o0, o1, o2, o3, o4, ↓reduceIte] | rfl) ?_)
      (refine OpsE_do rfl ?_; refine E_int rfl rfl rfl e2 ?_; refine OpsE_eq (st' := _) (by first | dsimp only [n0, n1, n2, n3, n4, n5, n6, n7, n8, n9, m0, m1, m2, m3, m4, m5, m6, m7, m8, m9, o0, o1, o2, o3, o4, ↓reduceIte] | rfl) ?_)
      iterate 6 ((first | (refine OpsE_do rfl ?_; first | refine E_move rfl ?_ | refine E_fieldp fo65_3 rfl rfl ?_ | refine E_fieldi fo65_3 rfl rfl ?_ | refine E_loadi (ds := [_]) ag3 sz3 rfl rfl rfl rfl ?_ | refine E_loadp (ds := [_]) ag3 sz3 rfl rfl rfl rfl rfl ?_ | refine E_int rfl rfl rfl rfl ?_ | refine E_pick rfl rfl ?_ | refine E_assign rfl rfl ?_) | refine OpsE_not rfl ?_); refine OpsE_eq (st' := _) (by first | dsimp only [n0, n1, n2, n3, n4, n5, n6, n7, n8, n9, m0, m1, m2, m3, m4, m5, m6, m7, m8, m9, o0, o1, o2, o3, o4, ↓reduceIte] | rfl) ?_)
      refine OpsE_nil ?_
      repeat (first | refine R_seq ?_ | refine R_block ?_ | refine R_skip ?_)
      refine R_ret ?_
      exact ⟨trivial, _, rfl, rfl⟩

/-- the law of the runs of exact nests, on the machine -/
theorem c9 (l : List Nst) (bufs : List (List Int)) (c : Int) (h0 : 0 ≤ c) (h1 : c ≤ 65535) (hl : lensOk l) : PC prog env 9 [.dat (nestsD l), .dat (bfsD bufs), .dat (.raw (.int .u16 c))] [] (boolPV true) [] := by
  obtain ⟨n, hc, hn⟩ := u16_rem300 h0 h1
  cases hs : smallsB l 60 with
  | false => exact c9_big l bufs c n hc hl hs
  | true =>
    by_cases hb : bufs.length > 20
    · exact c9_many l bufs c n hc hl hs hb
    · exact c9_in l bufs c n hc hl hn hs hb
end Go.Proofs.Try
