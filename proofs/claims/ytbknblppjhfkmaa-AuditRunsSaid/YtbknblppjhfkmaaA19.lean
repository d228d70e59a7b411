/-
  Seat a: the reference's run and the program's run.
-/
import Derived.Test.YtbknblppjhfkmaaA17
namespace Go.Proofs.Try
open Go Go.Pm
set_option linter.unusedVariables false
set_option linter.unusedSimpArgs false
set_option maxRecDepth 2000

/-- what an event writes -/
def valE (bufs : List (List Int)) (e : Evt) : Int := if e.fill then 0 else (bufs.getD e.buffer.toNat []).getD e.offset.toNat 0
/-- the numbers that events yield -/
def runL (bufs : List (List Int)) (n : Nat) (E : List Evt) : List Int := E.foldl (fun out e => out.set e.write.toNat (valE bufs e)) (List.replicate n 0)
theorem runL_succ (bufs : List (List Int)) (n : Nat) {E : List Evt} {j : Nat} (h : j < E.length) : runL bufs n (E.take (j + 1)) = (runL bufs n (E.take j)).set E[j].write.toNat (valE bufs E[j]) := by
  rw [runL, runL, List.take_succ_eq_append_getElem h, List.foldl_append]; rfl
theorem runL_len (bufs : List (List Int)) (n : Nat) (E : List Evt) : (runL bufs n E).length = n := by
  rw [runL]
  suffices h : ∀ (E : List Evt) (L : List Int), (E.foldl (fun out e => out.set e.write.toNat (valE bufs e)) L).length = L.length by rw [h]; simp
  intro E
  induction E with
  | nil => intro L; rfl
  | cons e E ih => intro L; rw [List.foldl_cons, ih, List.length_set]
theorem prune1 {keep : Option (List Nat)} {ks : List Nat} {s : List PV} {b0 : Blk} (h : keep = some ks) : prune 1 keep ⟨s, [b0]⟩ = ⟨keepS [b0] 1 ks 0 s, [purgeB [b0] 1 b0]⟩ := by
  subst h; rfl
theorem all_dat (l : List Int) : allDat (l.map fun m => .dat (intD m)) = some (l.map intD) := by
  induction l with
  | nil => rfl
  | cons a l ih => simp only [List.map_cons, allDat, ih, Option.map_some]
theorem pure_arr {H : List Blk} {i : Nat} {l : List Int} {cap : Nat} (h : H[i]? = some (.box (l.map fun m => .dat (intD m)))) : pure1 H (.arr i 0 l.length cap) = some (intsD l) := by
  have e1 : cut (l.map fun m => PV.dat (intD m)) 0 l.length = some (l.map fun m => PV.dat (intD m)) := by
    rw [cut, if_pos (by simp), List.drop_zero, List.take_of_length_le (by simp)]
  have e2 : (l.map intD).all Dat.isCell = true := by simp only [List.all_map, List.all_eq_true]; intro x _; rfl
  simp only [pure1, pureC, h, e1, Option.bind_some, all_dat, e2, if_true]
  rfl
/-- what fits, in naturals -/
theorem fit_nat {bufs : List (List Int)} {n : Nat} {e : Evt} (h : fitB bufs (n : Int) e = true) : ∃ w : Nat, e.write = (w : Int) ∧ w < n ∧ (e.fill = false → ∃ b o : Nat, e.buffer = (b : Int) ∧ e.offset = (o : Int) ∧ ∃ (hb : b < bufs.length) (ho : o < bufs[b].length), valE bufs e = bufs[b][o]) := by
  have h := of_decide_eq_true h
  refine ⟨e.write.toNat, by omega, by omega, fun hf => ?_⟩
  obtain ⟨h1, h2, h3, h4⟩ := h.2.2 hf
  have hb : e.buffer.toNat < bufs.length := by omega
  have hg : bufs.getD e.buffer.toNat [] = bufs[e.buffer.toNat] := by simp [hb]
  rw [hg] at h4
  have ho : e.offset.toNat < bufs[e.buffer.toNat].length := by omega
  exact ⟨e.buffer.toNat, e.offset.toNat, by omega, by omega, hb, ho, by simp [valE, hf, hb, ho]⟩

theorem c21 (l : List Nst) (bufs : List (List Int)) (n : Nat) (H : List Blk) (hS : ∀ n ∈ l, SmallN n) (hl : l.length ≤ 1000) (hn : n ≤ 1000) (hfit : fitsB l bufs n = true) :
    PC prog env 21 [.dat (nestsD l), .dat (bfsD bufs), .dat (intD n)] H (.dat (intsD (runL bufs n (eventsL l)))) H := by
  refine PC_pure (fn := f21) (by kernel_rfl) rfl rfl (by kernel_rfl) rfl rfl ?_ (by simp [PV.lends])
  have hlen := eventsL_len hS
  have hz : List.replicate ((n : Int)).toNat (PV.dat (.raw (.int .i64 0))) = (List.replicate n (0 : Int)).map fun m => .dat (intD m) := by simp [intD]
  rw [fitsB] at hfit
  refine R_eq (st' := ⟨[.dat (nestsD l), .dat (bfsD bufs), .dat (intD n), .tup [], .tup [], .tup [], .tup [], .tup [], .tup [], .tup [], .tup [], .tup [], .tup [], .tup [], .tup [], .tup [], .tup [], .tup [], .tup [], .tup [], .tup [], .tup [], .tup [], .tup [], .tup [], .tup [], .tup [], .tup [], .tup [], .tup [], .tup [], .tup [], .tup [], .tup [], .tup [], .tup [], .tup [], .tup [], .tup [], .tup [], .tup [], .tup [], .tup [], .tup [], .tup [], .tup [], .tup [], .tup [], .tup [], .tup [], .tup [], .tup [], .tup [], .tup [], .tup [], .tup []], []⟩) rfl ?_
  repeat (first | refine R_seq ?_ | refine R_block ?_ | refine R_skip ?_)
  refine R_region ?_
  (refine OpsE_do rfl ?_; refine E_assign rfl rfl ?_; refine OpsE_eq (st' := _) (by first | dsimp only [n0, n1, n2, n3, n4, n5, n6, n7, n8, n9, m0, m1, m2, m3, m4, m5, m6, m7, m8, m9, o0, o1, o2, o3, o4, ↓reduceIte] | rfl) ?_)
  refine OpsE_nil ?_
  repeat (first | refine R_seq ?_ | refine R_block ?_ | refine R_skip ?_)
  refine R_region ?_
  (refine OpsE_do rfl ?_; refine E_move rfl ?_; refine OpsE_eq (st' := _) (by first | dsimp only [n0, n1, n2, n3, n4, n5, n6, n7, n8, n9, m0, m1, m2, m3, m4, m5, m6, m7, m8, m9, o0, o1, o2, o3, o4, ↓reduceIte] | rfl) ?_)
  (refine OpsE_do rfl ?_; refine E_make el44 ze2 sz2 by2 rfl rfl rfl ⟨Int.natCast_nonneg _, Int.le_refl _, by simp [room]; omega, by omega, rfl⟩ ?_; refine OpsE_eq (st' := _) (by first | dsimp only [n0, n1, n2, n3, n4, n5, n6, n7, n8, n9, m0, m1, m2, m3, m4, m5, m6, m7, m8, m9, o0, o1, o2, o3, o4, ↓reduceIte] | rfl) ?_)
  (refine OpsE_do rfl ?_; refine E_assign rfl rfl ?_; refine OpsE_eq (st' := _) (by first | dsimp only [n0, n1, n2, n3, n4, n5, n6, n7, n8, n9, m0, m1, m2, m3, m4, m5, m6, m7, m8, m9, o0, o1, o2, o3, o4, ↓reduceIte] | rfl) ?_)
  refine OpsE_nil ?_
  rw [hz]
  repeat (first | refine R_seq ?_ | refine R_block ?_ | refine R_skip ?_)
  refine R_region ?_
  (refine OpsE_do rfl ?_; refine E_move rfl ?_; refine OpsE_eq (st' := _) (by first | dsimp only [n0, n1, n2, n3, n4, n5, n6, n7, n8, n9, m0, m1, m2, m3, m4, m5, m6, m7, m8, m9, o0, o1, o2, o3, o4, ↓reduceIte] | rfl) ?_)
  (refine OpsE_do rfl ?_; (first | refine E_call rfl rfl (c12L hS hl _) ?_ | refine E_callfn rfl rfl (c12L hS hl _) ?_); refine OpsE_eq (st' := _) (by first | dsimp only [n0, n1, n2, n3, n4, n5, n6, n7, n8, n9, m0, m1, m2, m3, m4, m5, m6, m7, m8, m9, o0, o1, o2, o3, o4, ↓reduceIte] | rfl) ?_)
  (refine OpsE_do rfl ?_; refine E_assign rfl rfl ?_; refine OpsE_eq (st' := _) (by first | dsimp only [n0, n1, n2, n3, n4, n5, n6, n7, n8, n9, m0, m1, m2, m3, m4, m5, m6, m7, m8, m9, o0, o1, o2, o3, o4, ↓reduceIte] | rfl) ?_)
  refine OpsE_nil ?_
  repeat (first | refine R_seq ?_ | refine R_block ?_ | refine R_skip ?_)
  refine R_region ?_
  (refine OpsE_do rfl ?_; refine E_assign rfl rfl ?_; refine OpsE_eq (st' := _) (by first | dsimp only [n0, n1, n2, n3, n4, n5, n6, n7, n8, n9, m0, m1, m2, m3, m4, m5, m6, m7, m8, m9, o0, o1, o2, o3, o4, ↓reduceIte] | rfl) ?_)
  refine OpsE_nil ?_
  generalize eventsL l = E at hlen hfit
  have hfit' : ∀ e ∈ E, fitB bufs (n : Int) e = true := List.all_eq_true.1 hfit
  repeat (first | refine R_seq ?_ | refine R_block ?_ | refine R_skip ?_)
  refine R_loop ?_
  refine RL_ind (fun (j : Nat) => ⟨[.undef, .dat (bfsD bufs), .undef, .undef, .undef, .undef, .undef, .arr 0 0 n n, .dat (evtsD E), intPV (j : Int), .undef, .undef, .undef, .undef, .undef, .undef, .undef, .undef, .undef, .undef, .undef, .undef, .undef, .undef, .undef, .undef, .undef, .undef, .undef, .undef, .undef, .undef, .undef, .undef, .undef, .undef, .undef, .undef, .undef, .undef, .undef, .undef, .undef, .undef, .undef, .undef, .undef, .undef, .undef, .undef, .undef, .undef, .undef, .undef, .undef, .undef], [.box ((runL bufs n (E.take j)).map fun m => .dat (intD m))]⟩)
    (fun j => j ≤ E.length) (fun j => E.length - j) (fun j hj => ?_) _ 0 _ (Nat.lt_succ_self _) (Nat.zero_le _) (by refine (prune1 rfl).trans ?_; rw [purge_js]; rfl)
  repeat (first | refine R_seq ?_ | refine R_block ?_ | refine R_skip ?_)
  refine R_region ?_
  iterate 4 ((refine OpsE_do rfl ?_; first | refine E_move rfl ?_ | refine E_len un25 rfl rfl ?_ | refine E_int rfl rfl rfl rfl ?_); refine OpsE_eq (st' := _) (by first | dsimp only [n0, n1, n2, n3, n4, n5, n6, n7, n8, n9, m0, m1, m2, m3, m4, m5, m6, m7, m8, m9, o0, o1, o2, o3, o4, ↓reduceIte] | rfl) ?_)
  refine OpsE_nil ?_
  repeat (first | refine R_seq ?_ | refine R_block ?_ | refine R_skip ?_)
  refine R_if rfl (fun h => ?_) (fun h => ?_)
  · have hj' : j < E.length := by simpa using h
    have hEj := evts_get hj'
    obtain ⟨w, hw, hwn, hr⟩ := fit_nat (hfit' _ (List.getElem_mem hj'))
    have hsucc := runL_succ bufs n hj'
    have hL := runL_len bufs n (E.take j)
    generalize runL bufs n (E.take j) = L at hsucc hL
    generalize E[j] = e at hEj hw hr hsucc
    repeat (first | refine R_seq ?_ | refine R_block ?_ | refine R_skip ?_)
    refine R_region ?_
    iterate 3 ((refine OpsE_do rfl ?_; refine E_move rfl ?_); refine OpsE_eq (st' := _) (by first | dsimp only [n0, n1, n2, n3, n4, n5, n6, n7, n8, n9, m0, m1, m2, m3, m4, m5, m6, m7, m8, m9, o0, o1, o2, o3, o4, ↓reduceIte] | rfl) ?_)
    (refine OpsE_do rfl ?_; (first | refine E_index el25 sz37 rfl rfl rfl rfl hEj rfl ?_ | refine E_index0 el25 sz37 rfl rfl rfl rfl hEj ?_ | refine E_indexArr el25 sz37 rfl rfl rfl rfl hEj ?_); refine OpsE_eq (st' := _) (by first | dsimp only [n0, n1, n2, n3, n4, n5, n6, n7, n8, n9, m0, m1, m2, m3, m4, m5, m6, m7, m8, m9, o0, o1, o2, o3, o4, ↓reduceIte] | rfl) ?_)
    iterate 2 ((refine OpsE_do rfl ?_; first | refine E_fieldp fo37_0 rfl rfl ?_ | refine E_fieldi fo37_0 rfl rfl ?_ | refine E_loadi (ds := [_]) ag3 sz3 rfl rfl rfl rfl ?_ | refine E_loadp (ds := [_]) ag3 sz3 rfl rfl rfl rfl rfl ?_); refine OpsE_eq (st' := _) (by first | dsimp only [n0, n1, n2, n3, n4, n5, n6, n7, n8, n9, m0, m1, m2, m3, m4, m5, m6, m7, m8, m9, o0, o1, o2, o3, o4, ↓reduceIte] | rfl) ?_)
    (refine OpsE_do rfl ?_; refine E_index0 el44 sz2 rfl rfl rfl hw hwn ?_; refine OpsE_eq (st' := _) (by first | dsimp only [n0, n1, n2, n3, n4, n5, n6, n7, n8, n9, m0, m1, m2, m3, m4, m5, m6, m7, m8, m9, o0, o1, o2, o3, o4, ↓reduceIte] | rfl) ?_)
    (refine OpsE_do rfl ?_; refine E_storeArr sz2 rfl rfl rfl rfl rfl (by rw [List.length_map, hL]; exact hwn) ?_; refine OpsE_eq (st' := _) (by first | dsimp only [n0, n1, n2, n3, n4, n5, n6, n7, n8, n9, m0, m1, m2, m3, m4, m5, m6, m7, m8, m9, o0, o1, o2, o3, o4, ↓reduceIte] | rfl) ?_)
    refine OpsE_nil ?_
    cases hf : e.fill
    · obtain ⟨b, o, hb, ho, hbl, hol, hv⟩ := hr hf
      have f5 : (PV.dat (.raw (.bool e.fill))) = boolPV false := by rw [hf]; rfl
      repeat (first | refine R_seq ?_ | refine R_block ?_ | refine R_skip ?_)
      refine R_region ?_
      iterate 2 ((refine OpsE_do rfl ?_; refine E_move rfl ?_); refine OpsE_eq (st' := _) (by first | dsimp only [n0, n1, n2, n3, n4, n5, n6, n7, n8, n9, m0, m1, m2, m3, m4, m5, m6, m7, m8, m9, o0, o1, o2, o3, o4, ↓reduceIte] | rfl) ?_)
      (refine OpsE_do rfl ?_; (first | refine E_index el25 sz37 rfl rfl rfl rfl hEj rfl ?_ | refine E_index0 el25 sz37 rfl rfl rfl rfl hEj ?_ | refine E_indexArr el25 sz37 rfl rfl rfl rfl hEj ?_); refine OpsE_eq (st' := _) (by first | dsimp only [n0, n1, n2, n3, n4, n5, n6, n7, n8, n9, m0, m1, m2, m3, m4, m5, m6, m7, m8, m9, o0, o1, o2, o3, o4, ↓reduceIte] | rfl) ?_)
      iterate 2 ((refine OpsE_do rfl ?_; first | refine E_fieldp fo37_1 rfl rfl ?_ | refine E_fieldi fo37_1 rfl rfl ?_ | refine E_loadi (ds := [_]) ag4 sz4 rfl rfl rfl rfl ?_ | refine E_loadp (ds := [_]) ag4 sz4 rfl rfl rfl rfl rfl ?_); refine OpsE_eq (st' := _) (by first | dsimp only [n0, n1, n2, n3, n4, n5, n6, n7, n8, n9, m0, m1, m2, m3, m4, m5, m6, m7, m8, m9, o0, o1, o2, o3, o4, ↓reduceIte] | rfl) ?_)
      (refine OpsE_do rfl ?_; refine E_not (b := false) rfl (by exact f5) ?_; refine OpsE_eq (st' := _) (by first | dsimp only [n0, n1, n2, n3, n4, n5, n6, n7, n8, n9, m0, m1, m2, m3, m4, m5, m6, m7, m8, m9, o0, o1, o2, o3, o4, ↓reduceIte] | rfl) ?_)
      refine OpsE_nil ?_
      repeat (first | refine R_seq ?_ | refine R_block ?_ | refine R_skip ?_)
      refine R_true rfl ?_
      repeat (first | refine R_seq ?_ | refine R_block ?_ | refine R_skip ?_)
      refine R_draw ?_
      iterate 3 ((refine DrawE_do rfl ?_; refine E_move rfl ?_); refine DrawE_eq (st' := _) (by first | dsimp only [n0, n1, n2, n3, n4, n5, n6, n7, n8, n9, m0, m1, m2, m3, m4, m5, m6, m7, m8, m9, o0, o1, o2, o3, o4, ↓reduceIte] | rfl) ?_)
      (refine DrawE_do rfl ?_; (first | refine E_index el25 sz37 rfl rfl rfl rfl hEj rfl ?_ | refine E_index0 el25 sz37 rfl rfl rfl rfl hEj ?_ | refine E_indexArr el25 sz37 rfl rfl rfl rfl hEj ?_); refine DrawE_eq (st' := _) (by first | dsimp only [n0, n1, n2, n3, n4, n5, n6, n7, n8, n9, m0, m1, m2, m3, m4, m5, m6, m7, m8, m9, o0, o1, o2, o3, o4, ↓reduceIte] | rfl) ?_)
      iterate 5 ((refine DrawE_do rfl ?_; first | refine E_fieldp fo37_0 rfl rfl ?_ | refine E_fieldi fo37_0 rfl rfl ?_ | refine E_loadi (ds := [_]) ag3 sz3 rfl rfl rfl rfl ?_ | refine E_loadp (ds := [_]) ag3 sz3 rfl rfl rfl rfl rfl ?_ | refine E_move rfl ?_); refine DrawE_eq (st' := _) (by first | dsimp only [n0, n1, n2, n3, n4, n5, n6, n7, n8, n9, m0, m1, m2, m3, m4, m5, m6, m7, m8, m9, o0, o1, o2, o3, o4, ↓reduceIte] | rfl) ?_)
      (refine DrawE_do rfl ?_; (first | refine E_index el25 sz37 rfl rfl rfl rfl hEj rfl ?_ | refine E_index0 el25 sz37 rfl rfl rfl rfl hEj ?_ | refine E_indexArr el25 sz37 rfl rfl rfl rfl hEj ?_); refine DrawE_eq (st' := _) (by first | dsimp only [n0, n1, n2, n3, n4, n5, n6, n7, n8, n9, m0, m1, m2, m3, m4, m5, m6, m7, m8, m9, o0, o1, o2, o3, o4, ↓reduceIte] | rfl) ?_)
      iterate 2 ((refine DrawE_do rfl ?_; first | refine E_fieldp fo37_2 rfl rfl ?_ | refine E_fieldi fo37_2 rfl rfl ?_ | refine E_loadi (ds := [_]) ag3 sz3 rfl rfl rfl rfl ?_ | refine E_loadp (ds := [_]) ag3 sz3 rfl rfl rfl rfl rfl ?_); refine DrawE_eq (st' := _) (by first | dsimp only [n0, n1, n2, n3, n4, n5, n6, n7, n8, n9, m0, m1, m2, m3, m4, m5, m6, m7, m8, m9, o0, o1, o2, o3, o4, ↓reduceIte] | rfl) ?_)
      (refine DrawE_do rfl ?_; refine E_index (j := b) el41 sz44 rfl rfl rfl hb (bufs_get hbl) rfl ?_; refine DrawE_eq (st' := _) (by first | dsimp only [n0, n1, n2, n3, n4, n5, n6, n7, n8, n9, m0, m1, m2, m3, m4, m5, m6, m7, m8, m9, o0, o1, o2, o3, o4, ↓reduceIte] | rfl) ?_)
      iterate 3 ((refine DrawE_do rfl ?_; first | refine E_loadi (ds := [_]) ag44 sz44 rfl rfl rfl rfl ?_ | refine E_loadp (ds := [_]) ag44 sz44 rfl rfl rfl rfl rfl ?_ | refine E_move rfl ?_); refine DrawE_eq (st' := _) (by first | dsimp only [n0, n1, n2, n3, n4, n5, n6, n7, n8, n9, m0, m1, m2, m3, m4, m5, m6, m7, m8, m9, o0, o1, o2, o3, o4, ↓reduceIte] | rfl) ?_)
      (refine DrawE_do rfl ?_; (first | refine E_index el25 sz37 rfl rfl rfl rfl hEj rfl ?_ | refine E_index0 el25 sz37 rfl rfl rfl rfl hEj ?_ | refine E_indexArr el25 sz37 rfl rfl rfl rfl hEj ?_); refine DrawE_eq (st' := _) (by first | dsimp only [n0, n1, n2, n3, n4, n5, n6, n7, n8, n9, m0, m1, m2, m3, m4, m5, m6, m7, m8, m9, o0, o1, o2, o3, o4, ↓reduceIte] | rfl) ?_)
      iterate 2 ((refine DrawE_do rfl ?_; first | refine E_fieldp fo37_3 rfl rfl ?_ | refine E_fieldi fo37_3 rfl rfl ?_ | refine E_loadi (ds := [_]) ag3 sz3 rfl rfl rfl rfl ?_ | refine E_loadp (ds := [_]) ag3 sz3 rfl rfl rfl rfl rfl ?_); refine DrawE_eq (st' := _) (by first | dsimp only [n0, n1, n2, n3, n4, n5, n6, n7, n8, n9, m0, m1, m2, m3, m4, m5, m6, m7, m8, m9, o0, o1, o2, o3, o4, ↓reduceIte] | rfl) ?_)
      (refine DrawE_do rfl ?_; refine E_index (j := o) el44 sz2 rfl rfl rfl ho (ints_get hol) rfl ?_; refine DrawE_eq (st' := _) (by first | dsimp only [n0, n1, n2, n3, n4, n5, n6, n7, n8, n9, m0, m1, m2, m3, m4, m5, m6, m7, m8, m9, o0, o1, o2, o3, o4, ↓reduceIte] | rfl) ?_)
      (refine DrawE_do rfl ?_; (first | refine E_loadi (ds := [_]) ag2 sz2 rfl rfl rfl rfl ?_ | refine E_loadp (ds := [_]) ag2 sz2 rfl rfl rfl rfl rfl ?_); refine DrawE_eq (st' := _) (by first | dsimp only [n0, n1, n2, n3, n4, n5, n6, n7, n8, n9, m0, m1, m2, m3, m4, m5, m6, m7, m8, m9, o0, o1, o2, o3, o4, ↓reduceIte] | rfl) ?_)
      (refine DrawE_do rfl ?_; refine E_index0 el44 sz2 rfl rfl rfl hw hwn ?_; refine DrawE_eq (st' := _) (by first | dsimp only [n0, n1, n2, n3, n4, n5, n6, n7, n8, n9, m0, m1, m2, m3, m4, m5, m6, m7, m8, m9, o0, o1, o2, o3, o4, ↓reduceIte] | rfl) ?_)
      (refine DrawE_do rfl ?_; refine E_storeArr sz2 rfl rfl rfl rfl rfl (by rw [List.length_set, List.length_map, hL]; exact hwn) ?_; refine DrawE_eq (st' := _) (by first | dsimp only [n0, n1, n2, n3, n4, n5, n6, n7, n8, n9, m0, m1, m2, m3, m4, m5, m6, m7, m8, m9, o0, o1, o2, o3, o4, ↓reduceIte] | rfl) ?_)
      refine DrawE_nil ⟨by kernel_rfl, ?_⟩
      repeat (first | refine R_seq ?_ | refine R_block ?_ | refine R_skip ?_)
      refine R_region ?_
      iterate 3 ((refine OpsE_do rfl ?_; first | refine E_move rfl ?_ | refine E_int rfl rfl rfl rfl ?_ | refine E_assign rfl rfl ?_); refine OpsE_eq (st' := _) (by first | dsimp only [n0, n1, n2, n3, n4, n5, n6, n7, n8, n9, m0, m1, m2, m3, m4, m5, m6, m7, m8, m9, o0, o1, o2, o3, o4, ↓reduceIte] | rfl) ?_)
      refine OpsE_nil ?_
      refine ⟨j + 1, ?_, by omega, hj'⟩
      refine (prune1 rfl).trans ?_
      rw [show (PV.dat (.raw (.int .i64 0))) = .dat (intD 0) from rfl, js_set, js_set, List.set_set, purge_js, wrap_succ (by omega), hsucc, hv, hw, Int.toNat_natCast]
      rfl
    · have f5 : (PV.dat (.raw (.bool e.fill))) = boolPV true := by rw [hf]; rfl
      repeat (first | refine R_seq ?_ | refine R_block ?_ | refine R_skip ?_)
      refine R_region ?_
      iterate 2 ((refine OpsE_do rfl ?_; refine E_move rfl ?_); refine OpsE_eq (st' := _) (by first | dsimp only [n0, n1, n2, n3, n4, n5, n6, n7, n8, n9, m0, m1, m2, m3, m4, m5, m6, m7, m8, m9, o0, o1, o2, o3, o4, ↓reduceIte] | rfl) ?_)
      (refine OpsE_do rfl ?_; (first | refine E_index el25 sz37 rfl rfl rfl rfl hEj rfl ?_ | refine E_index0 el25 sz37 rfl rfl rfl rfl hEj ?_ | refine E_indexArr el25 sz37 rfl rfl rfl rfl hEj ?_); refine OpsE_eq (st' := _) (by first | dsimp only [n0, n1, n2, n3, n4, n5, n6, n7, n8, n9, m0, m1, m2, m3, m4, m5, m6, m7, m8, m9, o0, o1, o2, o3, o4, ↓reduceIte] | rfl) ?_)
      iterate 2 ((refine OpsE_do rfl ?_; first | refine E_fieldp fo37_1 rfl rfl ?_ | refine E_fieldi fo37_1 rfl rfl ?_ | refine E_loadi (ds := [_]) ag4 sz4 rfl rfl rfl rfl ?_ | refine E_loadp (ds := [_]) ag4 sz4 rfl rfl rfl rfl rfl ?_); refine OpsE_eq (st' := _) (by first | dsimp only [n0, n1, n2, n3, n4, n5, n6, n7, n8, n9, m0, m1, m2, m3, m4, m5, m6, m7, m8, m9, o0, o1, o2, o3, o4, ↓reduceIte] | rfl) ?_)
      (refine OpsE_do rfl ?_; refine E_not (b := true) rfl (by exact f5) ?_; refine OpsE_eq (st' := _) (by first | dsimp only [n0, n1, n2, n3, n4, n5, n6, n7, n8, n9, m0, m1, m2, m3, m4, m5, m6, m7, m8, m9, o0, o1, o2, o3, o4, ↓reduceIte] | rfl) ?_)
      refine OpsE_nil ?_
      repeat (first | refine R_seq ?_ | refine R_block ?_ | refine R_skip ?_)
      refine R_false rfl ?_
      repeat (first | refine R_seq ?_ | refine R_block ?_ | refine R_skip ?_)
      refine R_region ?_
      iterate 3 ((refine OpsE_do rfl ?_; first | refine E_move rfl ?_ | refine E_int rfl rfl rfl rfl ?_ | refine E_assign rfl rfl ?_); refine OpsE_eq (st' := _) (by first | dsimp only [n0, n1, n2, n3, n4, n5, n6, n7, n8, n9, m0, m1, m2, m3, m4, m5, m6, m7, m8, m9, o0, o1, o2, o3, o4, ↓reduceIte] | rfl) ?_)
      refine OpsE_nil ?_
      refine ⟨j + 1, ?_, by omega, hj'⟩
      refine (prune1 rfl).trans ?_
      have hv : valE bufs e = 0 := by simp [valE, hf]
      rw [show (PV.dat (.raw (.int .i64 0))) = .dat (intD 0) from rfl, js_set, purge_js, wrap_succ (by omega), hsucc, hv, hw, Int.toNat_natCast]
      rfl
  · have hj' : j = E.length := by simp at h; omega
    subst hj'
    rw [List.take_length]
    repeat (first | refine R_seq ?_ | refine R_block ?_ | refine R_skip ?_)
    refine R_exit ?_
    repeat (first | refine R_seq ?_ | refine R_block ?_ | refine R_skip ?_)
    refine R_region ?_
    iterate 2 ((refine OpsE_do rfl ?_; first | refine E_move rfl ?_ | refine E_assign rfl rfl ?_); refine OpsE_eq (st' := _) (by first | dsimp only [n0, n1, n2, n3, n4, n5, n6, n7, n8, n9, m0, m1, m2, m3, m4, m5, m6, m7, m8, m9, o0, o1, o2, o3, o4, ↓reduceIte] | rfl) ?_)
    refine OpsE_nil ?_
    repeat (first | refine R_seq ?_ | refine R_block ?_ | refine R_skip ?_)
    refine R_ret ?_
    refine ⟨trivial, _, rfl, ?_⟩
    have hL := runL_len bufs n E
    generalize runL bufs n E = L at hL
    subst hL
    show (pure1 [.box (L.map fun m => .dat (intD m))] (.arr 0 0 L.length L.length)).map PV.dat = _
    rw [pure_arr rfl]
    rfl

theorem prune34 {s : List PV} {b0 b1 b2 b3 : Blk} : (prune 3 (some []) ⟨s, [b0, b1, b2, b3]⟩).heap = [purgeB [b0, b1, b2, b3] 3 b0, purgeB [b0, b1, b2, b3] 3 b1, purgeB [b0, b1, b2, b3] 3 b2] := rfl
theorem c19 (l : List Nst) (bufs : List (List Int)) (n : Nat) (H : List Blk) (hS : ∀ n ∈ l, SmallN n) (hl : l.length ≤ 1000) (hn : n ≤ 1000) (hfit : fitsB l bufs n = true) :
    PC prog env 19 [.dat (nestsD l), .dat (bfsD bufs), .dat (intD n)] H (.dat (intsD (runL bufs n (eventsL l)))) H := by
  refine PC_pure (fn := f19) (by kernel_rfl) rfl rfl (by kernel_rfl) rfl rfl ?_ (by simp [PV.lends])
  have hlen := eventsL_len hS
  have hE := eventsL_range l
  have hg : ∀ j (h : j < l.length), GoesTo l[j] ((fun j => if h : j < l.length then eventsN l[j] else []) j) := fun j hj => by simp only [hj, dif_pos]; exact goes_of (hS _ (List.getElem_mem hj))
  have hz : List.replicate ((n : Int)).toNat (PV.dat (.raw (.int .i64 0))) = (List.replicate n (0 : Int)).map fun m => .dat (intD m) := by simp [intD]
  rw [fitsB] at hfit
  refine R_eq (st' := ⟨[.dat (nestsD l), .dat (bfsD bufs), .dat (intD n), .tup [], .tup [], .tup [], .tup [], .tup [], .tup [], .tup [], .tup [], .tup [], .tup [], .tup [], .tup [], .tup [], .tup [], .tup [], .tup [], .tup [], .tup [], .tup [], .tup [], .tup [], .tup [], .tup [], .tup [], .tup [], .tup [], .tup [], .tup [], .tup [], .tup [], .tup []], []⟩) rfl ?_
  repeat (first | refine R_seq ?_ | refine R_block ?_ | refine R_skip ?_)
  refine R_region ?_
  iterate 2 ((refine OpsE_do rfl ?_; first | refine E_box (cs := [_]) rfl rfl rfl ?_ | refine E_assign rfl rfl ?_); refine OpsE_eq (st' := _) (by first | dsimp only [n0, n1, n2, n3, n4, n5, n6, n7, n8, n9, m0, m1, m2, m3, m4, m5, m6, m7, m8, m9, o0, o1, o2, o3, o4, ↓reduceIte] | rfl) ?_)
  refine OpsE_nil ?_
  repeat (first | refine R_seq ?_ | refine R_block ?_ | refine R_skip ?_)
  refine R_region ?_
  (refine OpsE_do rfl ?_; refine E_move rfl ?_; refine OpsE_eq (st' := _) (by first | dsimp only [n0, n1, n2, n3, n4, n5, n6, n7, n8, n9, m0, m1, m2, m3, m4, m5, m6, m7, m8, m9, o0, o1, o2, o3, o4, ↓reduceIte] | rfl) ?_)
  (refine OpsE_do rfl ?_; refine E_make el44 ze2 sz2 by2 rfl rfl rfl ⟨Int.natCast_nonneg _, Int.le_refl _, by simp [room]; omega, by omega, rfl⟩ ?_; refine OpsE_eq (st' := _) (by first | dsimp only [n0, n1, n2, n3, n4, n5, n6, n7, n8, n9, m0, m1, m2, m3, m4, m5, m6, m7, m8, m9, o0, o1, o2, o3, o4, ↓reduceIte] | rfl) ?_)
  iterate 2 ((refine OpsE_do rfl ?_; first | refine E_alloc (cs := [_]) ze44 rfl rfl ?_ | refine E_store (vs := [_]) sz44 rfl rfl rfl rfl rfl rfl rfl ?_); refine OpsE_eq (st' := _) (by first | dsimp only [n0, n1, n2, n3, n4, n5, n6, n7, n8, n9, m0, m1, m2, m3, m4, m5, m6, m7, m8, m9, o0, o1, o2, o3, o4, ↓reduceIte] | rfl) ?_)
  refine OpsE_nil ?_
  rw [hz]
  repeat (first | refine R_seq ?_ | refine R_block ?_ | refine R_skip ?_)
  refine R_region ?_
  (refine OpsE_do rfl ?_; refine E_move rfl ?_; refine OpsE_eq (st' := _) (by first | dsimp only [n0, n1, n2, n3, n4, n5, n6, n7, n8, n9, m0, m1, m2, m3, m4, m5, m6, m7, m8, m9, o0, o1, o2, o3, o4, ↓reduceIte] | rfl) ?_)
  (refine OpsE_do rfl ?_; (first | refine E_call rfl rfl (c16 l _) ?_ | refine E_callfn rfl rfl (c16 l _) ?_); refine OpsE_eq (st' := _) (by first | dsimp only [n0, n1, n2, n3, n4, n5, n6, n7, n8, n9, m0, m1, m2, m3, m4, m5, m6, m7, m8, m9, o0, o1, o2, o3, o4, ↓reduceIte] | rfl) ?_)
  refine OpsE_nil ?_
  generalize eventsL l = E at hlen hfit hE
  have hfit' : ∀ e ∈ E, fitB bufs (n : Int) e = true := List.all_eq_true.1 hfit
  repeat (first | refine R_seq ?_ | refine R_block ?_ | refine R_skip ?_)
  refine R_range (fn := f34) rfl (by kernel_rfl) (by kernel_rfl) rfl rfl ?_
  refine (c34E l _ E hE (by omega) hg _ _ (Fed_all Evt.toD (fun j => (⟨[.box [.dat (bfsD bufs)], .box ((runL bufs n (E.take j)).map fun m => .dat (intD m)), .box [.arr 1 0 n n]], none⟩ : Go.Pm.Rnd)) E (fun j hj' => YE_round rfl ?_)) _ rfl).mono (fun e is h => ⟨h.1, ?_⟩)
  · repeat (first | refine R_seq ?_ | refine R_block ?_ | refine R_skip ?_)
    refine R_region ?_
    iterate 2 ((refine OpsE_do rfl ?_; first | refine E_alloc (cs := [_, _, _, _]) ze36 rfl rfl ?_ | refine E_store (vs := [_, _, _, _]) sz36 rfl rfl rfl rfl rfl rfl rfl ?_); refine OpsE_eq (st' := _) (by first | dsimp only [n0, n1, n2, n3, n4, n5, n6, n7, n8, n9, m0, m1, m2, m3, m4, m5, m6, m7, m8, m9, o0, o1, o2, o3, o4, ↓reduceIte] | rfl) ?_)
    refine OpsE_nil ?_
    refine ⟨rfl, ?_⟩
    obtain ⟨w, hw, hwn, hr⟩ := fit_nat (hfit' _ (List.getElem_mem hj'))
    have hsucc := runL_succ bufs n hj'
    have hL := runL_len bufs n (E.take j)
    generalize runL bufs n (E.take j) = L at hsucc hL
    generalize E[j] = e at hw hr hsucc
    repeat (first | refine R_seq ?_ | refine R_block ?_ | refine R_skip ?_)
    refine R_region ?_
    iterate 2 ((refine OpsE_do rfl ?_; first | refine E_fieldp fo36_1 rfl rfl ?_ | refine E_fieldi fo36_1 rfl rfl ?_ | refine E_loadi (ds := [_]) ag4 sz4 rfl rfl rfl rfl ?_ | refine E_loadp (ds := [_]) ag4 sz4 rfl rfl rfl rfl rfl ?_); refine OpsE_eq (st' := _) (by first | dsimp only [n0, n1, n2, n3, n4, n5, n6, n7, n8, n9, m0, m1, m2, m3, m4, m5, m6, m7, m8, m9, o0, o1, o2, o3, o4, ↓reduceIte] | rfl) ?_)
    refine OpsE_nil ?_
    cases hf : e.fill
    · obtain ⟨b, o, hb, ho, hbl, hol, hv⟩ := hr hf
      repeat (first | refine R_seq ?_ | refine R_block ?_ | refine R_skip ?_)
      refine R_false rfl ?_
      repeat (first | refine R_seq ?_ | refine R_block ?_ | refine R_skip ?_)
      refine R_draw ?_
      iterate 6 ((refine DrawE_do rfl ?_; first | refine E_loadi (ds := [_]) ag44 sz44 rfl rfl rfl rfl ?_ | refine E_loadp (ds := [_]) ag44 sz44 rfl rfl rfl rfl rfl ?_ | refine E_fieldp fo36_0 rfl rfl ?_ | refine E_fieldi fo36_0 rfl rfl ?_ | refine E_loadi (ds := [_]) ag3 sz3 rfl rfl rfl rfl ?_ | refine E_loadp (ds := [_]) ag3 sz3 rfl rfl rfl rfl rfl ?_ | refine E_loadi (ds := [_]) ag41 sz41 rfl rfl rfl rfl ?_ | refine E_loadp (ds := [_]) ag41 sz41 rfl rfl rfl rfl rfl ?_ | refine E_fieldp fo36_2 rfl rfl ?_ | refine E_fieldi fo36_2 rfl rfl ?_); refine DrawE_eq (st' := _) (by first | dsimp only [n0, n1, n2, n3, n4, n5, n6, n7, n8, n9, m0, m1, m2, m3, m4, m5, m6, m7, m8, m9, o0, o1, o2, o3, o4, ↓reduceIte] | rfl) ?_)
      (refine DrawE_do rfl ?_; refine E_index (j := b) el41 sz44 rfl rfl rfl hb (bufs_get hbl) rfl ?_; refine DrawE_eq (st' := _) (by first | dsimp only [n0, n1, n2, n3, n4, n5, n6, n7, n8, n9, m0, m1, m2, m3, m4, m5, m6, m7, m8, m9, o0, o1, o2, o3, o4, ↓reduceIte] | rfl) ?_)
      iterate 3 ((refine DrawE_do rfl ?_; first | refine E_loadi (ds := [_]) ag44 sz44 rfl rfl rfl rfl ?_ | refine E_loadp (ds := [_]) ag44 sz44 rfl rfl rfl rfl rfl ?_ | refine E_fieldp fo36_3 rfl rfl ?_ | refine E_fieldi fo36_3 rfl rfl ?_ | refine E_loadi (ds := [_]) ag3 sz3 rfl rfl rfl rfl ?_ | refine E_loadp (ds := [_]) ag3 sz3 rfl rfl rfl rfl rfl ?_); refine DrawE_eq (st' := _) (by first | dsimp only [n0, n1, n2, n3, n4, n5, n6, n7, n8, n9, m0, m1, m2, m3, m4, m5, m6, m7, m8, m9, o0, o1, o2, o3, o4, ↓reduceIte] | rfl) ?_)
      (refine DrawE_do rfl ?_; refine E_index (j := o) el44 sz2 rfl rfl rfl ho (ints_get hol) rfl ?_; refine DrawE_eq (st' := _) (by first | dsimp only [n0, n1, n2, n3, n4, n5, n6, n7, n8, n9, m0, m1, m2, m3, m4, m5, m6, m7, m8, m9, o0, o1, o2, o3, o4, ↓reduceIte] | rfl) ?_)
      (refine DrawE_do rfl ?_; (first | refine E_loadi (ds := [_]) ag2 sz2 rfl rfl rfl rfl ?_ | refine E_loadp (ds := [_]) ag2 sz2 rfl rfl rfl rfl rfl ?_); refine DrawE_eq (st' := _) (by first | dsimp only [n0, n1, n2, n3, n4, n5, n6, n7, n8, n9, m0, m1, m2, m3, m4, m5, m6, m7, m8, m9, o0, o1, o2, o3, o4, ↓reduceIte] | rfl) ?_)
      (refine DrawE_do rfl ?_; refine E_index0 el44 sz2 rfl rfl rfl hw hwn ?_; refine DrawE_eq (st' := _) (by first | dsimp only [n0, n1, n2, n3, n4, n5, n6, n7, n8, n9, m0, m1, m2, m3, m4, m5, m6, m7, m8, m9, o0, o1, o2, o3, o4, ↓reduceIte] | rfl) ?_)
      (refine DrawE_do rfl ?_; refine E_storeArr sz2 rfl rfl rfl rfl rfl (by rw [List.length_map, hL]; exact hwn) ?_; refine DrawE_eq (st' := _) (by first | dsimp only [n0, n1, n2, n3, n4, n5, n6, n7, n8, n9, m0, m1, m2, m3, m4, m5, m6, m7, m8, m9, o0, o1, o2, o3, o4, ↓reduceIte] | rfl) ?_)
      refine DrawE_nil ⟨by kernel_rfl, ?_⟩
      refine ⟨rfl, congrArg (fun h => (⟨h, none⟩ : Go.Pm.Rnd)) ?_⟩
      show _ = (prune 3 (some []) _).heap
      rw [prune34, js_set, purge_js, hsucc, hv, hw, Int.toNat_natCast]
      rfl
    · have hv : valE bufs e = 0 := by simp [valE, hf]
      repeat (first | refine R_seq ?_ | refine R_block ?_ | refine R_skip ?_)
      refine R_true rfl ?_
      repeat (first | refine R_seq ?_ | refine R_block ?_ | refine R_skip ?_)
      refine R_region ?_
      iterate 3 ((refine OpsE_do rfl ?_; first | refine E_loadi (ds := [_]) ag44 sz44 rfl rfl rfl rfl ?_ | refine E_loadp (ds := [_]) ag44 sz44 rfl rfl rfl rfl rfl ?_ | refine E_fieldp fo36_0 rfl rfl ?_ | refine E_fieldi fo36_0 rfl rfl ?_ | refine E_loadi (ds := [_]) ag3 sz3 rfl rfl rfl rfl ?_ | refine E_loadp (ds := [_]) ag3 sz3 rfl rfl rfl rfl rfl ?_); refine OpsE_eq (st' := _) (by first | dsimp only [n0, n1, n2, n3, n4, n5, n6, n7, n8, n9, m0, m1, m2, m3, m4, m5, m6, m7, m8, m9, o0, o1, o2, o3, o4, ↓reduceIte] | rfl) ?_)
      (refine OpsE_do rfl ?_; refine E_index0 el44 sz2 rfl rfl rfl hw hwn ?_; refine OpsE_eq (st' := _) (by first | dsimp only [n0, n1, n2, n3, n4, n5, n6, n7, n8, n9, m0, m1, m2, m3, m4, m5, m6, m7, m8, m9, o0, o1, o2, o3, o4, ↓reduceIte] | rfl) ?_)
      (refine OpsE_do rfl ?_; refine E_storeArr sz2 rfl rfl rfl rfl rfl (by rw [List.length_map, hL]; exact hwn) ?_; refine OpsE_eq (st' := _) (by first | dsimp only [n0, n1, n2, n3, n4, n5, n6, n7, n8, n9, m0, m1, m2, m3, m4, m5, m6, m7, m8, m9, o0, o1, o2, o3, o4, ↓reduceIte] | rfl) ?_)
      refine OpsE_nil ?_
      refine ⟨rfl, congrArg (fun h => (⟨h, none⟩ : Go.Pm.Rnd)) ?_⟩
      show _ = (prune 3 (some []) _).heap
      rw [prune34, show (PV.dat (.raw (.int .i64 0))) = .dat (intD 0) from rfl, js_set, purge_js, hsucc, hv, hw, Int.toNat_natCast]
      rfl
  · rw [h.2]
    repeat (first | refine R_seq ?_ | refine R_block ?_ | refine R_skip ?_)
    refine R_region ?_
    iterate 2 ((refine OpsE_do rfl ?_; first | refine E_loadi (ds := [_]) ag44 sz44 rfl rfl rfl rfl ?_ | refine E_loadp (ds := [_]) ag44 sz44 rfl rfl rfl rfl rfl ?_ | refine E_assign rfl rfl ?_); refine OpsE_eq (st' := _) (by first | dsimp only [n0, n1, n2, n3, n4, n5, n6, n7, n8, n9, m0, m1, m2, m3, m4, m5, m6, m7, m8, m9, o0, o1, o2, o3, o4, ↓reduceIte] | rfl) ?_)
    refine OpsE_nil ?_
    repeat (first | refine R_seq ?_ | refine R_block ?_ | refine R_skip ?_)
    refine R_ret ?_
    refine ⟨trivial, _, rfl, ?_⟩
    have hL := runL_len bufs n E
    rw [List.take_length]
    generalize runL bufs n E = L at hL
    subst hL
    show (pure1 [.box [.dat (bfsD bufs)], .box (L.map fun m => .dat (intD m)), .box [.arr 1 0 L.length L.length]] (.arr 1 0 L.length L.length)).map PV.dat = _
    rw [pure_arr rfl]
    rfl
theorem c19v (l : List Nst) (bufs : List (List Int)) (n : Nat) (t : Nat) (H : List Blk) (hS : ∀ n ∈ l, SmallN n) (hl : l.length ≤ 1000) (hn : n ≤ 1000) (hfit : fitsB l bufs n = true) :
    PC prog env 19 [.dat (nestsD l), .vec t (bufs.map intsD), intPV (n : Int)] H (.dat (intsD (runL bufs n (eventsL l)))) H :=
  PC_lend (ds := [nestsD l, bfsD bufs, intD n]) rfl (by kernel_rfl) (c19 l bufs n [] hS hl hn hfit) rfl (fun h => by cases h)
end Go.Proofs.Try
