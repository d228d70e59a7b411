/-
  Seat a: the program's run.
-/
import Derived.Test.YtbknblppjhfkmaaA18
namespace Go.Proofs.Try
open Go Go.Pm
set_option linter.unusedVariables false
set_option linter.unusedSimpArgs false
set_option maxRecDepth 2000

theorem prune34 {s : List PV} {b0 b1 b2 b3 : Blk} : (prune 3 (some []) ⟨s, [b0, b1, b2, b3]⟩).heap = [purgeB [b0, b1, b2, b3] 3 b0, purgeB [b0, b1, b2, b3] 3 b1, purgeB [b0, b1, b2, b3] 3 b2] := rfl
theorem c19 (l : List Nst) (bufs : List (List Int)) (n : Nat) (H : List Blk) (hS : ∀ n ∈ l, SmallN n) (hl : l.length ≤ 1000) (hn : n ≤ 1000) (hfit : fitsB l bufs n = true) :
    PC prog env 19 [.dat (nestsD l), .dat (bfsD bufs), .dat (intD n)] H (.dat (intsD (runL bufs n (eventsL l)))) H := by
  refine PC_pure (fn := f19) (by kernel_rfl) rfl rfl (by kernel_rfl) rfl rfl ?_ (by simp [PV.lends])
  have hlen := eventsL_len hS
  have hE := eventsL_range l
  have hg : ∀ j (h : j < l.length), GoesTo l[j] ((fun j => if h : j < l.length then eventsN l[j] else []) j) := fun j hj => by simp only [hj, dif_pos]; exact goes_of (hS _ (List.getElem_mem hj))
  have hz : List.replicate ((n : Int)).toNat (PV.dat (.raw (.int .i64 0))) = (List.replicate n (0 : Int)).map fun m => .dat (intD m) := by simp [intD]
  rw [fitsB] at hfit
  refine R_eq (st' := ⟨[.dat (nestsD l), .dat (bfsD bufs), .dat (intD n), .tup [], .tup [], .tup [], .tup [], .tup [], .tup [], .tup [], .tup [], .tup [], .tup [], .tup [], .tup [], .tup [], .tup [], .tup [], .tup [], .tup [], .tup [], .tup [], .tup [], .tup [], .tup [], .tup [], .tup [], .tup [], .tup [], .tup [], .tup [], .tup [], .tup [], .tup []], []⟩) rfl ?_
  repeat (first | refine R_seq ?_ | refine R_block ?_ | refine R_skip ?_)
  refine R_region ?_
  (refine OpsE_do rfl ?_; refine E_box (cs := [_]) rfl rfl rfl ?_; refine OpsE_eq (st' := _) (by first | dsimp only [n0, n1, n2, n3, n4, n5, n6, n7, n8, n9, m0, m1, m2, m3, m4, m5, m6, m7, m8, m9, o0, o1, o2, o3, o4, ↓reduceIte] | rfl) ?_)
  (refine OpsE_do rfl ?_; refine E_assign rfl rfl ?_; refine OpsE_eq (st' := _) (by first | dsimp only [n0, n1, n2, n3, n4, n5, n6, n7, n8, n9, m0, m1, m2, m3, m4, m5, m6, m7, m8, m9, o0, o1, o2, o3, o4, ↓reduceIte] | rfl) ?_)
  refine OpsE_nil ?_
  repeat (first | refine R_seq ?_ | refine R_block ?_ | refine R_skip ?_)
  refine R_region ?_
  (refine OpsE_do rfl ?_; refine E_move rfl ?_; refine OpsE_eq (st' := _) (by first | dsimp only [n0, n1, n2, n3, n4, n5, n6, n7, n8, n9, m0, m1, m2, m3, m4, m5, m6, m7, m8, m9, o0, o1, o2, o3, o4, ↓reduceIte] | rfl) ?_)
  (refine OpsE_do rfl ?_; refine E_make el44 ze2 sz2 by2 rfl rfl rfl ⟨Int.natCast_nonneg _, Int.le_refl _, by simp [room]; omega, by omega, rfl⟩ ?_; refine OpsE_eq (st' := _) (by first | dsimp only [n0, n1, n2, n3, n4, n5, n6, n7, n8, n9, m0, m1, m2, m3, m4, m5, m6, m7, m8, m9, o0, o1, o2, o3, o4, ↓reduceIte] | rfl) ?_)
  (refine OpsE_do rfl ?_; refine E_alloc (cs := [_]) ze44 rfl rfl ?_; refine OpsE_eq (st' := _) (by first | dsimp only [n0, n1, n2, n3, n4, n5, n6, n7, n8, n9, m0, m1, m2, m3, m4, m5, m6, m7, m8, m9, o0, o1, o2, o3, o4, ↓reduceIte] | rfl) ?_)
  (refine OpsE_do rfl ?_; refine E_store (vs := [_]) sz44 rfl rfl rfl rfl rfl rfl rfl ?_; refine OpsE_eq (st' := _) (by first | dsimp only [n0, n1, n2, n3, n4, n5, n6, n7, n8, n9, m0, m1, m2, m3, m4, m5, m6, m7, m8, m9, o0, o1, o2, o3, o4, ↓reduceIte] | rfl) ?_)
  refine OpsE_nil ?_
  rw [hz]
  repeat (first | refine R_seq ?_ | refine R_block ?_ | refine R_skip ?_)
  refine R_region ?_
  (refine OpsE_do rfl ?_; refine E_move rfl ?_; refine OpsE_eq (st' := _) (by first | dsimp only [n0, n1, n2, n3, n4, n5, n6, n7, n8, n9, m0, m1, m2, m3, m4, m5, m6, m7, m8, m9, o0, o1, o2, o3, o4, ↓reduceIte] | rfl) ?_)
  (refine OpsE_do rfl ?_; (first | refine E_call rfl rfl (c16 l _) ?_ | refine E_callfn rfl rfl (c16 l _) ?_); refine OpsE_eq (st' := _) (by first | dsimp only [n0, n1, n2, n3, n4, n5, n6, n7, n8, n9, m0, m1, m2, m3, m4, m5, m6, m7, m8, m9, o0, o1, o2, o3, o4, ↓reduceIte] | rfl) ?_)
  refine OpsE_nil ?_
  generalize eventsL l = E at hlen hfit hE
  have hfit' : ∀ e ∈ E, fitB bufs (n : Int) e = true := List.all_eq_true.1 hfit
  repeat (first | refine R_seq ?_ | refine R_block ?_ | refine R_skip ?_)
  refine R_range (fn := f34) rfl (by kernel_rfl) (by kernel_rfl) rfl rfl ?_
  refine (c34E l _ E hE (by omega) hg _ _ (Fed_all Evt.toD (fun j => (⟨[.box [.dat (bfsD bufs)], .box ((runL bufs n (E.take j)).map fun m => .dat (intD m)), .box [.arr 1 0 n n]], none⟩ : Go.Pm.Rnd)) E (fun j hj' => YE_round rfl ?_)) _ rfl).mono (fun e is h => ⟨h.1, ?_⟩)
  · repeat (first | refine R_seq ?_ | refine R_block ?_ | refine R_skip ?_)
    refine R_region ?_
    (refine OpsE_do rfl ?_; refine E_alloc (cs := [_, _, _, _]) ze36 rfl rfl ?_; refine OpsE_eq (st' := _) (by first | dsimp only [n0, n1, n2, n3, n4, n5, n6, n7, n8, n9, m0, m1, m2, m3, m4, m5, m6, m7, m8, m9, o0, o1, o2, o3, o4, ↓reduceIte] | rfl) ?_)
    (refine OpsE_do rfl ?_; refine E_store (vs := [_, _, _, _]) sz36 rfl rfl rfl rfl rfl rfl rfl ?_; refine OpsE_eq (st' := _) (by first | dsimp only [n0, n1, n2, n3, n4, n5, n6, n7, n8, n9, m0, m1, m2, m3, m4, m5, m6, m7, m8, m9, o0, o1, o2, o3, o4, ↓reduceIte] | rfl) ?_)
    refine OpsE_nil ?_
    refine ⟨rfl, ?_⟩
    obtain ⟨w, hw, hwn, hr⟩ := fit_nat (hfit' _ (List.getElem_mem hj'))
    have hsucc := runL_succ bufs n hj'
    have hL := runL_len bufs n (E.take j)
    generalize runL bufs n (E.take j) = L at hsucc hL
    generalize E[j] = e at hw hr hsucc
    repeat (first | refine R_seq ?_ | refine R_block ?_ | refine R_skip ?_)
    refine R_region ?_
    (refine OpsE_do rfl ?_; (first | refine E_fieldp fo36_1 rfl rfl ?_ | refine E_fieldi fo36_1 rfl rfl ?_); refine OpsE_eq (st' := _) (by first | dsimp only [n0, n1, n2, n3, n4, n5, n6, n7, n8, n9, m0, m1, m2, m3, m4, m5, m6, m7, m8, m9, o0, o1, o2, o3, o4, ↓reduceIte] | rfl) ?_)
    (refine OpsE_do rfl ?_; (first | refine E_loadi (ds := [_]) ag4 sz4 rfl rfl rfl rfl ?_ | refine E_loadp (ds := [_]) ag4 sz4 rfl rfl rfl rfl rfl ?_); refine OpsE_eq (st' := _) (by first | dsimp only [n0, n1, n2, n3, n4, n5, n6, n7, n8, n9, m0, m1, m2, m3, m4, m5, m6, m7, m8, m9, o0, o1, o2, o3, o4, ↓reduceIte] | rfl) ?_)
    refine OpsE_nil ?_
    cases hf : e.fill
    · obtain ⟨b, o, hb, ho, hbl, hol, hv⟩ := hr hf
      repeat (first | refine R_seq ?_ | refine R_block ?_ | refine R_skip ?_)
      refine R_false rfl ?_
      repeat (first | refine R_seq ?_ | refine R_block ?_ | refine R_skip ?_)
      refine R_draw ?_
      (refine DrawE_do rfl ?_; (first | refine E_loadi (ds := [_]) ag44 sz44 rfl rfl rfl rfl ?_ | refine E_loadp (ds := [_]) ag44 sz44 rfl rfl rfl rfl rfl ?_); refine DrawE_eq (st' := _) (by first | dsimp only [n0, n1, n2, n3, n4, n5, n6, n7, n8, n9, m0, m1, m2, m3, m4, m5, m6, m7, m8, m9, o0, o1, o2, o3, o4, ↓reduceIte] | rfl) ?_)
      (refine DrawE_do rfl ?_; (first | refine E_fieldp fo36_0 rfl rfl ?_ | refine E_fieldi fo36_0 rfl rfl ?_); refine DrawE_eq (st' := _) (by first | dsimp only [n0, n1, n2, n3, n4, n5, n6, n7, n8, n9, m0, m1, m2, m3, m4, m5, m6, m7, m8, m9, o0, o1, o2, o3, o4, ↓reduceIte] | rfl) ?_)
      (refine DrawE_do rfl ?_; (first | refine E_loadi (ds := [_]) ag3 sz3 rfl rfl rfl rfl ?_ | refine E_loadp (ds := [_]) ag3 sz3 rfl rfl rfl rfl rfl ?_); refine DrawE_eq (st' := _) (by first | dsimp only [n0, n1, n2, n3, n4, n5, n6, n7, n8, n9, m0, m1, m2, m3, m4, m5, m6, m7, m8, m9, o0, o1, o2, o3, o4, ↓reduceIte] | rfl) ?_)
      (refine DrawE_do rfl ?_; (first | refine E_loadi (ds := [_]) ag41 sz41 rfl rfl rfl rfl ?_ | refine E_loadp (ds := [_]) ag41 sz41 rfl rfl rfl rfl rfl ?_); refine DrawE_eq (st' := _) (by first | dsimp only [n0, n1, n2, n3, n4, n5, n6, n7, n8, n9, m0, m1, m2, m3, m4, m5, m6, m7, m8, m9, o0, o1, o2, o3, o4, ↓reduceIte] | rfl) ?_)
      (refine DrawE_do rfl ?_; (first | refine E_fieldp fo36_2 rfl rfl ?_ | refine E_fieldi fo36_2 rfl rfl ?_); refine DrawE_eq (st' := _) (by first | dsimp only [n0, n1, n2, n3, n4, n5, n6, n7, n8, n9, m0, m1, m2, m3, m4, m5, m6, m7, m8, m9, o0, o1, o2, o3, o4, ↓reduceIte] | rfl) ?_)
      (refine DrawE_do rfl ?_; (first | refine E_loadi (ds := [_]) ag3 sz3 rfl rfl rfl rfl ?_ | refine E_loadp (ds := [_]) ag3 sz3 rfl rfl rfl rfl rfl ?_); refine DrawE_eq (st' := _) (by first | dsimp only [n0, n1, n2, n3, n4, n5, n6, n7, n8, n9, m0, m1, m2, m3, m4, m5, m6, m7, m8, m9, o0, o1, o2, o3, o4, ↓reduceIte] | rfl) ?_)
      (refine DrawE_do rfl ?_; refine E_index (j := b) el41 sz44 rfl rfl rfl hb (bufs_get hbl) rfl ?_; refine DrawE_eq (st' := _) (by first | dsimp only [n0, n1, n2, n3, n4, n5, n6, n7, n8, n9, m0, m1, m2, m3, m4, m5, m6, m7, m8, m9, o0, o1, o2, o3, o4, ↓reduceIte] | rfl) ?_)
      (refine DrawE_do rfl ?_; (first | refine E_loadi (ds := [_]) ag44 sz44 rfl rfl rfl rfl ?_ | refine E_loadp (ds := [_]) ag44 sz44 rfl rfl rfl rfl rfl ?_); refine DrawE_eq (st' := _) (by first | dsimp only [n0, n1, n2, n3, n4, n5, n6, n7, n8, n9, m0, m1, m2, m3, m4, m5, m6, m7, m8, m9, o0, o1, o2, o3, o4, ↓reduceIte] | rfl) ?_)
      (refine DrawE_do rfl ?_; (first | refine E_fieldp fo36_3 rfl rfl ?_ | refine E_fieldi fo36_3 rfl rfl ?_); refine DrawE_eq (st' := _) (by first | dsimp only [n0, n1, n2, n3, n4, n5, n6, n7, n8, n9, m0, m1, m2, m3, m4, m5, m6, m7, m8, m9, o0, o1, o2, o3, o4, ↓reduceIte] | rfl) ?_)
      (refine DrawE_do rfl ?_; (first | refine E_loadi (ds := [_]) ag3 sz3 rfl rfl rfl rfl ?_ | refine E_loadp (ds := [_]) ag3 sz3 rfl rfl rfl rfl rfl ?_); refine DrawE_eq (st' := _) (by first | dsimp only [n0, n1, n2, n3, n4, n5, n6, n7, n8, n9, m0, m1, m2, m3, m4, m5, m6, m7, m8, m9, o0, o1, o2, o3, o4, ↓reduceIte] | rfl) ?_)
      (refine DrawE_do rfl ?_; refine E_index (j := o) el44 sz2 rfl rfl rfl ho (ints_get hol) rfl ?_; refine DrawE_eq (st' := _) (by first | dsimp only [n0, n1, n2, n3, n4, n5, n6, n7, n8, n9, m0, m1, m2, m3, m4, m5, m6, m7, m8, m9, o0, o1, o2, o3, o4, ↓reduceIte] | rfl) ?_)
      (refine DrawE_do rfl ?_; (first | refine E_loadi (ds := [_]) ag2 sz2 rfl rfl rfl rfl ?_ | refine E_loadp (ds := [_]) ag2 sz2 rfl rfl rfl rfl rfl ?_); refine DrawE_eq (st' := _) (by first | dsimp only [n0, n1, n2, n3, n4, n5, n6, n7, n8, n9, m0, m1, m2, m3, m4, m5, m6, m7, m8, m9, o0, o1, o2, o3, o4, ↓reduceIte] | rfl) ?_)
      (refine DrawE_do rfl ?_; refine E_index0 el44 sz2 rfl rfl rfl hw hwn ?_; refine DrawE_eq (st' := _) (by first | dsimp only [n0, n1, n2, n3, n4, n5, n6, n7, n8, n9, m0, m1, m2, m3, m4, m5, m6, m7, m8, m9, o0, o1, o2, o3, o4, ↓reduceIte] | rfl) ?_)
      (refine DrawE_do rfl ?_; refine E_storeArr sz2 rfl rfl rfl rfl rfl (by rw [List.length_map, hL]; exact hwn) ?_; refine DrawE_eq (st' := _) (by first | dsimp only [n0, n1, n2, n3, n4, n5, n6, n7, n8, n9, m0, m1, m2, m3, m4, m5, m6, m7, m8, m9, o0, o1, o2, o3, o4, ↓reduceIte] | rfl) ?_)
      refine DrawE_nil ⟨by kernel_rfl, ?_⟩
      refine ⟨rfl, congrArg (fun h => (⟨h, none⟩ : Go.Pm.Rnd)) ?_⟩
      show _ = (prune 3 (some []) _).heap
      rw [prune34, js_set, purge_js, hsucc, hv, hw, Int.toNat_natCast]
      rfl
    · have hv : valE bufs e = 0 := by simp [valE, hf]
      repeat (first | refine R_seq ?_ | refine R_block ?_ | refine R_skip ?_)
      refine R_true rfl ?_
      repeat (first | refine R_seq ?_ | refine R_block ?_ | refine R_skip ?_)
      refine R_region ?_
      (refine OpsE_do rfl ?_; (first | refine E_loadi (ds := [_]) ag44 sz44 rfl rfl rfl rfl ?_ | refine E_loadp (ds := [_]) ag44 sz44 rfl rfl rfl rfl rfl ?_); refine OpsE_eq (st' := _) (by first | dsimp only [n0, n1, n2, n3, n4, n5, n6, n7, n8, n9, m0, m1, m2, m3, m4, m5, m6, m7, m8, m9, o0, o1, o2, o3, o4, ↓reduceIte] | rfl) ?_)
      (refine OpsE_do rfl ?_; (first | refine E_fieldp fo36_0 rfl rfl ?_ | refine E_fieldi fo36_0 rfl rfl ?_); refine OpsE_eq (st' := _) (by first | dsimp only [n0, n1, n2, n3, n4, n5, n6, n7, n8, n9, m0, m1, m2, m3, m4, m5, m6, m7, m8, m9, o0, o1, o2, o3, o4, ↓reduceIte] | rfl) ?_)
      (refine OpsE_do rfl ?_; (first | refine E_loadi (ds := [_]) ag3 sz3 rfl rfl rfl rfl ?_ | refine E_loadp (ds := [_]) ag3 sz3 rfl rfl rfl rfl rfl ?_); refine OpsE_eq (st' := _) (by first | dsimp only [n0, n1, n2, n3, n4, n5, n6, n7, n8, n9, m0, m1, m2, m3, m4, m5, m6, m7, m8, m9, o0, o1, o2, o3, o4, ↓reduceIte] | rfl) ?_)
      (refine OpsE_do rfl ?_; refine E_index0 el44 sz2 rfl rfl rfl hw hwn ?_; refine OpsE_eq (st' := _) (by first | dsimp only [n0, n1, n2, n3, n4, n5, n6, n7, n8, n9, m0, m1, m2, m3, m4, m5, m6, m7, m8, m9, o0, o1, o2, o3, o4, ↓reduceIte] | rfl) ?_)
      (refine OpsE_do rfl ?_; refine E_storeArr sz2 rfl rfl rfl rfl rfl (by rw [List.length_map, hL]; exact hwn) ?_; refine OpsE_eq (st' := _) (by first | dsimp only [n0, n1, n2, n3, n4, n5, n6, n7, n8, n9, m0, m1, m2, m3, m4, m5, m6, m7, m8, m9, o0, o1, o2, o3, o4, ↓reduceIte] | rfl) ?_)
      refine OpsE_nil ?_
      refine ⟨rfl, congrArg (fun h => (⟨h, none⟩ : Go.Pm.Rnd)) ?_⟩
      show _ = (prune 3 (some []) _).heap
      rw [prune34, show (PV.dat (.raw (.int .i64 0))) = .dat (intD 0) from rfl, js_set, purge_js, hsucc, hv, hw, Int.toNat_natCast]
      rfl
  · rw [h.2]
    repeat (first | refine R_seq ?_ | refine R_block ?_ | refine R_skip ?_)
    refine R_region ?_
    (refine OpsE_do rfl ?_; (first | refine E_loadi (ds := [_]) ag44 sz44 rfl rfl rfl rfl ?_ | refine E_loadp (ds := [_]) ag44 sz44 rfl rfl rfl rfl rfl ?_); refine OpsE_eq (st' := _) (by first | dsimp only [n0, n1, n2, n3, n4, n5, n6, n7, n8, n9, m0, m1, m2, m3, m4, m5, m6, m7, m8, m9, o0, o1, o2, o3, o4, ↓reduceIte] | rfl) ?_)
    (refine OpsE_do rfl ?_; refine E_assign rfl rfl ?_; refine OpsE_eq (st' := _) (by first | dsimp only [n0, n1, n2, n3, n4, n5, n6, n7, n8, n9, m0, m1, m2, m3, m4, m5, m6, m7, m8, m9, o0, o1, o2, o3, o4, ↓reduceIte] | rfl) ?_)
    refine OpsE_nil ?_
    repeat (first | refine R_seq ?_ | refine R_block ?_ | refine R_skip ?_)
    refine R_ret ?_
    refine ⟨trivial, _, rfl, ?_⟩
    have hL := runL_len bufs n E
    rw [List.take_length]
    generalize runL bufs n E = L at hL
    subst hL
    show (pure1 [.box [.dat (bfsD bufs)], .box (L.map fun m => .dat (intD m)), .box [.arr 1 0 L.length L.length]] (.arr 1 0 L.length L.length)).map PV.dat = _
    rw [pure_arr rfl]
    rfl
theorem c19v (l : List Nst) (bufs : List (List Int)) (n : Nat) (t : Nat) (H : List Blk) (hS : ∀ n ∈ l, SmallN n) (hl : l.length ≤ 1000) (hn : n ≤ 1000) (hfit : fitsB l bufs n = true) :
    PC prog env 19 [.dat (nestsD l), .vec t (bufs.map intsD), intPV (n : Int)] H (.dat (intsD (runL bufs n (eventsL l)))) H :=
  PC_lend (ds := [nestsD l, bfsD bufs, intD n]) rfl (by kernel_rfl) (c19 l bufs n [] hS hl hn hfit) rfl (fun h => by cases h)
end Go.Proofs.Try
