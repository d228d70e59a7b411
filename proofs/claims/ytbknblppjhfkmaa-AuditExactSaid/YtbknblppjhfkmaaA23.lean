/-
  Seat a: what the audit finds, as lists; the least offset that is not written; the reference's rule.
-/
import Derived.Test.YtbknblppjhfkmaaA22
import Derived.Test.YtbknblppjhfkmaaPmRng
namespace Go.Proofs.Try
open Go Go.Pm
set_option linter.unusedVariables false
set_option linter.unusedSimpArgs false
set_option maxRecDepth 2000

/-- the first of n for which p holds, or -1 -/
def firstI (p : Nat → Bool) (n : Nat) : Int := match (List.range n).find? p with | some j => (j : Int) | none => -1
theorem firstI_some {p : Nat → Bool} {n m : Nat} (hm : m < n) (hp : p m = true) (hl : ∀ j, j < m → p j = false) : firstI p n = (m : Int) := by
  have : (List.range n).find? p = some m := by
    rw [List.find?_range_eq_some]
    exact ⟨hp, by simpa using hm, fun j hj => by simp [hl j hj]⟩
  rw [firstI, this]
theorem firstI_none {p : Nat → Bool} {n : Nat} (hl : ∀ j, j < n → p j = false) : firstI p n = -1 := by
  have : (List.range n).find? p = none := by
    rw [List.find?_eq_none]
    intro j hj
    rw [hl j (List.mem_range.1 hj)]; simp
  rw [firstI, this]
theorem firstI_congr {p q : Nat → Bool} {n : Nat} (h : ∀ j, j < n → p j = q j) : firstI p n = firstI q n := by
  by_cases hx : ∃ m, m < n ∧ p m = true ∧ ∀ j, j < m → p j = false
  · obtain ⟨m, h1, h2, h3⟩ := hx
    rw [firstI_some h1 h2 h3, firstI_some h1 (by rw [← h m h1]; exact h2) (fun j hj => by rw [← h j (by omega)]; exact h3 j hj)]
  · have hall : ∀ j, j < n → p j = false := by
      intro j
      induction j using Nat.strongRecOn with
      | ind j ih =>
        intro hj
        cases hp : p j with
        | false => rfl
        | true => exact absurd ⟨j, hj, hp, fun k hk => ih k hk (by omega)⟩ hx
    rw [firstI_none hall, firstI_none (fun j hj => by rw [← h j hj]; exact hall j hj)]

/-- does an event write at w? -/
def atB (w : Int) (e : Evt) : Bool := decide (e.write = w)
def inB (m : Nat) (e : Evt) : Bool := decide (0 ≤ e.write ∧ e.write < (m : Int))
/-- what is written -/
def writL (m : Nat) (E : List Evt) : List Bool := E.foldl (fun out e => if inB m e then out.set e.write.toNat true else out) (List.replicate m false)
theorem writL_succ (m : Nat) {E : List Evt} {j : Nat} (h : j < E.length) : writL m (E.take (j + 1)) = if inB m E[j] then (writL m (E.take j)).set E[j].write.toNat true else writL m (E.take j) := by
  rw [writL, writL, List.take_succ_eq_append_getElem h, List.foldl_append]; rfl
theorem writ_len (m : Nat) (E : List Evt) : (writL m E).length = m := by
  rw [writL]
  suffices h : ∀ (E : List Evt) (L : List Bool), (E.foldl (fun out e => if inB m e then out.set e.write.toNat true else out) L).length = L.length by rw [h]; simp
  intro E
  induction E with
  | nil => intro L; rfl
  | cons e E ih => intro L; rw [List.foldl_cons, ih]; split <;> simp
theorem writ_get (m : Nat) (E : List Evt) (i : Nat) (hi : i < m) : (writL m E).getD i false = E.any (atB (i : Int)) := by
  have key : ∀ (E : List Evt) (L : List Bool) (hL : L.length = m), ((E.foldl (fun out e => if inB m e then out.set e.write.toNat true else out) L).getD i false) = (L.getD i false || E.any (atB (i : Int))) := by
    intro E
    induction E with
    | nil => intro L hL; simp
    | cons e E ih =>
      intro L hL
      rw [List.foldl_cons, ih _ (by split <;> simp [hL]), List.any_cons]
      by_cases hu : inB m e = true
      · rw [if_pos hu]
        have hu' := of_decide_eq_true hu
        by_cases hb : e.write = (i : Int)
        · have e1 : atB (i : Int) e = true := decide_eq_true hb
          have e2 : e.write.toNat = i := by omega
          simp [e1, e2, hL, hi]
        · have e1 : atB (i : Int) e = false := decide_eq_false hb
          have e2 : e.write.toNat ≠ i := by omega
          simp [e1, List.getElem?_set_ne e2]
      · rw [if_neg hu]
        have e1 : atB (i : Int) e = false := decide_eq_false (fun h => hu (decide_eq_true ⟨by omega, by omega⟩))
        simp [e1]
  have := key E (List.replicate m false) (by simp)
  rw [← writL] at this
  rw [this]
  simp [hi]
/-- an event reads a cell that there is -/
def readOk (s : List Int) (e : Evt) : Bool := decide (e.fill = true ∨ (0 ≤ e.buffer ∧ e.buffer < s.length ∧ 0 ≤ e.offset ∧ e.offset < s.getD e.buffer.toNat 0))
/-- the event of index j is wrong -/
def badE (m : Nat) (s : List Int) (E : List Evt) (j : Nat) : Bool := match E[j]? with
  | some e => !(inB m e && !(E.take j).any (atB e.write)) || !readOk s e
  | none => false
theorem badE_at {m : Nat} {s : List Int} {E : List Evt} {j : Nat} (h : j < E.length) : badE m s E j = (!(inB m E[j] && !(E.take j).any (atB E[j].write)) || !readOk s E[j]) := by
  rw [badE, List.getElem?_eq_getElem h]

/-- the index of the first place that is false -/
def idxF (L : List Bool) : Int := firstI (fun i => !L.getD i false) L.length
theorem c58 (L : List Bool) (H : List Blk) (hl : L.length ≤ 1000000) : PC prog env 58 [.dat (boolsD L), .dat (.raw (.bool false))] H (intPV (idxF L)) H := by
  refine PC_pure (fn := f58) (by kernel_rfl) rfl rfl (by kernel_rfl) rfl rfl ?_ (by simp [PV.lends])
  refine R_eq (st' := ⟨[.dat (boolsD L), .dat (.raw (.bool false)), .tup [], .tup [], .tup [], .tup [], .tup [], .tup [], .tup [], .tup [], .tup [], .tup [], .tup [], .tup [], .tup [], .tup [], .tup [], .tup [], .tup []], []⟩) rfl ?_
  repeat (first | refine R_seq ?_ | refine R_block ?_ | refine R_skip ?_)
  refine R_region ?_
  (refine OpsE_do rfl ?_; refine E_assign rfl rfl ?_; refine OpsE_eq (st' := _) (by first | dsimp only [n0, n1, n2, n3, n4, n5, n6, n7, n8, n9, m0, m1, m2, m3, m4, m5, m6, m7, m8, m9, o0, o1, o2, o3, o4, ↓reduceIte] | rfl) ?_)
  refine OpsE_nil ?_
  repeat (first | refine R_seq ?_ | refine R_block ?_ | refine R_skip ?_)
  refine R_region ?_
  iterate 3 ((refine OpsE_do rfl ?_; first | refine E_move rfl ?_ | refine E_len un69 rfl rfl ?_); refine OpsE_eq (st' := _) (by first | dsimp only [n0, n1, n2, n3, n4, n5, n6, n7, n8, n9, m0, m1, m2, m3, m4, m5, m6, m7, m8, m9, o0, o1, o2, o3, o4, ↓reduceIte] | rfl) ?_)
  refine OpsE_nil ?_
  repeat (first | refine R_seq ?_ | refine R_block ?_ | refine R_skip ?_)
  refine R_loop ?_
  refine RL_ind (fun (j : Nat) => ⟨[.dat (boolsD L), .dat (.raw (.bool false)), .undef, .undef, .undef, .undef, .undef, intPV ((L.map boolD).length : Int), intPV (j : Int), .undef, .undef, .undef, .undef, .undef, .undef, .undef, .undef, .undef, .undef], []⟩)
    (fun j => j ≤ L.length ∧ ∀ i, i < j → L.getD i false = true) (fun j => L.length - j) (fun j hj => ?_) _ 0 _ (Nat.lt_succ_self _) ⟨Nat.zero_le _, fun i hi => by omega⟩ rfl
  obtain ⟨hj, hall⟩ := hj
  repeat (first | refine R_seq ?_ | refine R_block ?_ | refine R_skip ?_)
  refine R_region ?_
  (refine OpsE_do rfl ?_; (first | refine E_int rfl rfl rfl rfl ?_ | refine E_bin rfl rfl rfl rfl ?_); refine OpsE_eq (st' := _) (by first | dsimp only [n0, n1, n2, n3, n4, n5, n6, n7, n8, n9, m0, m1, m2, m3, m4, m5, m6, m7, m8, m9, o0, o1, o2, o3, o4, ↓reduceIte] | rfl) ?_)
  refine OpsE_nil ?_
  repeat (first | refine R_seq ?_ | refine R_block ?_ | refine R_skip ?_)
  refine R_if rfl (fun h => ?_) (fun h => ?_)
  · have hj' : j < L.length := by simpa using h
    repeat (first | refine R_seq ?_ | refine R_block ?_ | refine R_skip ?_)
    refine R_region ?_
    iterate 2 ((refine OpsE_do rfl ?_; first | refine E_move rfl ?_ | refine E_assign rfl rfl ?_); refine OpsE_eq (st' := _) (by first | dsimp only [n0, n1, n2, n3, n4, n5, n6, n7, n8, n9, m0, m1, m2, m3, m4, m5, m6, m7, m8, m9, o0, o1, o2, o3, o4, ↓reduceIte] | rfl) ?_)
    refine OpsE_nil ?_
    have hgd : L.getD j false = L[j] := by simp [hj']
    have hbg := bools_get hj'
    cases hb : L[j]
    · rw [hb] at hgd hbg
      repeat (first | refine R_seq ?_ | refine R_block ?_ | refine R_skip ?_)
      refine R_region ?_
      iterate 3 ((refine OpsE_do rfl ?_; refine E_move rfl ?_); refine OpsE_eq (st' := _) (by first | dsimp only [n0, n1, n2, n3, n4, n5, n6, n7, n8, n9, m0, m1, m2, m3, m4, m5, m6, m7, m8, m9, o0, o1, o2, o3, o4, ↓reduceIte] | rfl) ?_)
      (refine OpsE_do rfl ?_; (first | refine E_index el69 sz4 rfl rfl rfl rfl hbg rfl ?_ | refine E_index0 el69 sz4 rfl rfl rfl rfl hbg ?_ | refine E_indexArr el69 sz4 rfl rfl rfl rfl hbg ?_); refine OpsE_eq (st' := _) (by first | dsimp only [n0, n1, n2, n3, n4, n5, n6, n7, n8, n9, m0, m1, m2, m3, m4, m5, m6, m7, m8, m9, o0, o1, o2, o3, o4, ↓reduceIte] | rfl) ?_)
      (refine OpsE_do rfl ?_; (first | refine E_loadi (ds := [_]) ag4 sz4 rfl rfl rfl rfl ?_ | refine E_loadp (ds := [_]) ag4 sz4 rfl rfl rfl rfl rfl ?_); refine OpsE_eq (st' := _) (by first | dsimp only [n0, n1, n2, n3, n4, n5, n6, n7, n8, n9, m0, m1, m2, m3, m4, m5, m6, m7, m8, m9, o0, o1, o2, o3, o4, ↓reduceIte] | rfl) ?_)
      (refine OpsE_do rfl ?_; refine E_eqlB (a := false) (b := false) un4 rfl rfl rfl ?_; refine OpsE_eq (st' := _) (by first | dsimp only [n0, n1, n2, n3, n4, n5, n6, n7, n8, n9, m0, m1, m2, m3, m4, m5, m6, m7, m8, m9, o0, o1, o2, o3, o4, ↓reduceIte] | rfl) ?_)
      refine OpsE_nil ?_
      repeat (first | refine R_seq ?_ | refine R_block ?_ | refine R_skip ?_)
      refine R_true rfl ?_
      repeat (first | refine R_seq ?_ | refine R_block ?_ | refine R_skip ?_)
      refine R_region ?_
      iterate 2 ((refine OpsE_do rfl ?_; first | refine E_move rfl ?_ | refine E_assign rfl rfl ?_); refine OpsE_eq (st' := _) (by first | dsimp only [n0, n1, n2, n3, n4, n5, n6, n7, n8, n9, m0, m1, m2, m3, m4, m5, m6, m7, m8, m9, o0, o1, o2, o3, o4, ↓reduceIte] | rfl) ?_)
      refine OpsE_nil ?_
      repeat (first | refine R_seq ?_ | refine R_block ?_ | refine R_skip ?_)
      refine R_ret ?_
      refine ⟨trivial, _, rfl, ?_⟩
      rw [idxF, firstI_some hj' (by rw [hgd]; rfl) (fun i hi => by rw [hall i hi]; rfl)]
      rfl
    · rw [hb] at hgd hbg
      repeat (first | refine R_seq ?_ | refine R_block ?_ | refine R_skip ?_)
      refine R_region ?_
      iterate 3 ((refine OpsE_do rfl ?_; refine E_move rfl ?_); refine OpsE_eq (st' := _) (by first | dsimp only [n0, n1, n2, n3, n4, n5, n6, n7, n8, n9, m0, m1, m2, m3, m4, m5, m6, m7, m8, m9, o0, o1, o2, o3, o4, ↓reduceIte] | rfl) ?_)
      (refine OpsE_do rfl ?_; (first | refine E_index el69 sz4 rfl rfl rfl rfl hbg rfl ?_ | refine E_index0 el69 sz4 rfl rfl rfl rfl hbg ?_ | refine E_indexArr el69 sz4 rfl rfl rfl rfl hbg ?_); refine OpsE_eq (st' := _) (by first | dsimp only [n0, n1, n2, n3, n4, n5, n6, n7, n8, n9, m0, m1, m2, m3, m4, m5, m6, m7, m8, m9, o0, o1, o2, o3, o4, ↓reduceIte] | rfl) ?_)
      (refine OpsE_do rfl ?_; (first | refine E_loadi (ds := [_]) ag4 sz4 rfl rfl rfl rfl ?_ | refine E_loadp (ds := [_]) ag4 sz4 rfl rfl rfl rfl rfl ?_); refine OpsE_eq (st' := _) (by first | dsimp only [n0, n1, n2, n3, n4, n5, n6, n7, n8, n9, m0, m1, m2, m3, m4, m5, m6, m7, m8, m9, o0, o1, o2, o3, o4, ↓reduceIte] | rfl) ?_)
      (refine OpsE_do rfl ?_; refine E_eqlB (a := false) (b := true) un4 rfl rfl rfl ?_; refine OpsE_eq (st' := _) (by first | dsimp only [n0, n1, n2, n3, n4, n5, n6, n7, n8, n9, m0, m1, m2, m3, m4, m5, m6, m7, m8, m9, o0, o1, o2, o3, o4, ↓reduceIte] | rfl) ?_)
      refine OpsE_nil ?_
      repeat (first | refine R_seq ?_ | refine R_block ?_ | refine R_skip ?_)
      refine R_false rfl ?_
      repeat (first | refine R_seq ?_ | refine R_block ?_ | refine R_skip ?_)
      refine R_region ?_
      iterate 2 ((refine OpsE_do rfl ?_; first | refine E_int rfl rfl rfl rfl ?_ | refine E_move rfl ?_); refine OpsE_eq (st' := _) (by first | dsimp only [n0, n1, n2, n3, n4, n5, n6, n7, n8, n9, m0, m1, m2, m3, m4, m5, m6, m7, m8, m9, o0, o1, o2, o3, o4, ↓reduceIte] | rfl) ?_)
      refine OpsE_nil ?_
      refine ⟨j + 1, ?_, by omega, hj', fun i hi => ?_⟩
      · rw [wrap_succ (by omega)]
        rfl
      · by_cases hij : i < j
        · exact hall i hij
        · have : i = j := by omega
          subst this; exact hgd
  · have hj' : j = L.length := by simp at h; omega
    subst hj'
    repeat (first | refine R_seq ?_ | refine R_block ?_ | refine R_skip ?_)
    refine R_exit ?_
    repeat (first | refine R_seq ?_ | refine R_block ?_ | refine R_skip ?_)
    refine R_region ?_
    (refine OpsE_do rfl ?_; refine E_assign rfl rfl ?_; refine OpsE_eq (st' := _) (by first | dsimp only [n0, n1, n2, n3, n4, n5, n6, n7, n8, n9, m0, m1, m2, m3, m4, m5, m6, m7, m8, m9, o0, o1, o2, o3, o4, ↓reduceIte] | rfl) ?_)
    refine OpsE_nil ?_
    repeat (first | refine R_seq ?_ | refine R_block ?_ | refine R_skip ?_)
    refine R_ret ?_
    refine ⟨trivial, _, rfl, ?_⟩
    rw [idxF, firstI_none (fun i hi => by rw [hall i hi]; rfl)]
    rfl
theorem c58v (L : List Bool) (i cap : Nat) (H : List Blk) (hl : L.length ≤ 1000000) (hH : H[i]? = some (.box (L.map fun m => .dat (boolD m)))) : PC prog env 58 [.arr i 0 L.length cap, .dat (.raw (.bool false))] H (intPV (idxF L)) H :=
  PC_lend (ds := [boolsD L, .raw (.bool false)]) rfl (by kernel_rfl) (c58 L [] hl) (by
    have := pure_map boolD (fun _ => rfl) (cap := cap) hH
    simp only [pures, this]; rfl) (fun _ => rfl)

/-- the least offset at which no event writes -/
def missI (m : Nat) (E : List Evt) : Int := firstI (fun i => !E.any (atB (i : Int))) m
theorem idx_miss (m : Nat) (E : List Evt) : idxF (writL m E) = missI m E := by
  rw [idxF, missI, writ_len]
  exact firstI_congr (fun j hj => by rw [writ_get m E j hj])

theorem prune33 {s : List PV} {b0 b1 b2 b3 : Blk} : (prune 3 (some []) ⟨s, [b0, b1, b2, b3]⟩).heap = [purgeB [b0, b1, b2, b3] 3 b0, purgeB [b0, b1, b2, b3] 3 b1, purgeB [b0, b1, b2, b3] 3 b2] := rfl
theorem c45 (l : List Nst) (m : Nat) (H : List Blk) (hS : ∀ n ∈ l, SmallN n) (hl : l.length ≤ 1000) (hm : m ≤ 1000) :
    PC prog env 45 [.dat (nestsD l), .dat (intD m)] H (intPV (missI m (eventsL l))) H := by
  refine PC_pure (fn := f45) (by kernel_rfl) rfl rfl (by kernel_rfl) rfl rfl ?_ (by simp [PV.lends])
  have hlen := eventsL_len hS
  have hE := eventsL_range l
  have hg : ∀ j (h : j < l.length), GoesTo l[j] ((fun j => if h : j < l.length then eventsN l[j] else []) j) := fun j hj => by simp only [hj, dif_pos]; exact goes_of (hS _ (List.getElem_mem hj))
  have hz : List.replicate ((m : Int)).toNat (PV.dat (.raw (.bool false))) = (List.replicate m false).map fun m => .dat (boolD m) := by simp [boolD]
  refine R_eq (st' := ⟨[.dat (nestsD l), .dat (intD m), .tup [], .tup [], .tup [], .tup [], .tup [], .tup [], .tup [], .tup [], .tup [], .tup [], .tup [], .tup [], .tup [], .tup [], .tup [], .tup [], .tup [], .tup [], .tup [], .tup [], .tup [], .tup [], .tup [], .tup [], .tup []], []⟩) rfl ?_
  repeat (first | refine R_seq ?_ | refine R_block ?_ | refine R_skip ?_)
  refine R_region ?_
  iterate 2 ((refine OpsE_do rfl ?_; first | refine E_box (cs := [_]) rfl rfl rfl ?_ | refine E_assign rfl rfl ?_); refine OpsE_eq (st' := _) (by first | dsimp only [n0, n1, n2, n3, n4, n5, n6, n7, n8, n9, m0, m1, m2, m3, m4, m5, m6, m7, m8, m9, o0, o1, o2, o3, o4, ↓reduceIte] | rfl) ?_)
  refine OpsE_nil ?_
  repeat (first | refine R_seq ?_ | refine R_block ?_ | refine R_skip ?_)
  refine R_region ?_
  (refine OpsE_do rfl ?_; (first | refine E_loadi (ds := [_]) ag3 sz3 rfl rfl rfl rfl ?_ | refine E_loadp (ds := [_]) ag3 sz3 rfl rfl rfl rfl rfl ?_); refine OpsE_eq (st' := _) (by first | dsimp only [n0, n1, n2, n3, n4, n5, n6, n7, n8, n9, m0, m1, m2, m3, m4, m5, m6, m7, m8, m9, o0, o1, o2, o3, o4, ↓reduceIte] | rfl) ?_)
  (refine OpsE_do rfl ?_; refine E_make el69 ze4 sz4 by4 rfl rfl rfl ⟨Int.natCast_nonneg _, Int.le_refl _, by simp [room]; omega, by omega, rfl⟩ ?_; refine OpsE_eq (st' := _) (by first | dsimp only [n0, n1, n2, n3, n4, n5, n6, n7, n8, n9, m0, m1, m2, m3, m4, m5, m6, m7, m8, m9, o0, o1, o2, o3, o4, ↓reduceIte] | rfl) ?_)
  iterate 2 ((refine OpsE_do rfl ?_; first | refine E_alloc (cs := [_]) ze69 rfl rfl ?_ | refine E_store (vs := [_]) sz69 rfl rfl rfl rfl rfl rfl rfl ?_); refine OpsE_eq (st' := _) (by first | dsimp only [n0, n1, n2, n3, n4, n5, n6, n7, n8, n9, m0, m1, m2, m3, m4, m5, m6, m7, m8, m9, o0, o1, o2, o3, o4, ↓reduceIte] | rfl) ?_)
  refine OpsE_nil ?_
  rw [hz]
  repeat (first | refine R_seq ?_ | refine R_block ?_ | refine R_skip ?_)
  refine R_region ?_
  (refine OpsE_do rfl ?_; refine E_move rfl ?_; refine OpsE_eq (st' := _) (by first | dsimp only [n0, n1, n2, n3, n4, n5, n6, n7, n8, n9, m0, m1, m2, m3, m4, m5, m6, m7, m8, m9, o0, o1, o2, o3, o4, ↓reduceIte] | rfl) ?_)
  (refine OpsE_do rfl ?_; (first | refine E_call rfl rfl (c16 l _) ?_ | refine E_callfn rfl rfl (c16 l _) ?_); refine OpsE_eq (st' := _) (by first | dsimp only [n0, n1, n2, n3, n4, n5, n6, n7, n8, n9, m0, m1, m2, m3, m4, m5, m6, m7, m8, m9, o0, o1, o2, o3, o4, ↓reduceIte] | rfl) ?_)
  refine OpsE_nil ?_
  generalize eventsL l = E at hlen hE
  repeat (first | refine R_seq ?_ | refine R_block ?_ | refine R_skip ?_)
  refine R_range (fn := f34) rfl (by kernel_rfl) (by kernel_rfl) rfl rfl ?_
  refine (c34E l _ E hE (by omega) hg _ _ (Fed_all Evt.toD (fun j => (⟨[.box [.dat (intD m)], .box ((writL m (E.take j)).map fun m => .dat (boolD m)), .box [.arr 1 0 m m]], none⟩ : Go.Pm.Rnd)) E (fun j hj' => YE_round rfl ?_)) _ rfl).mono (fun e is h => ⟨h.1, ?_⟩)
  · repeat (first | refine R_seq ?_ | refine R_block ?_ | refine R_skip ?_)
    refine R_region ?_
    iterate 2 ((refine OpsE_do rfl ?_; first | refine E_alloc (cs := [_, _, _, _]) ze36 rfl rfl ?_ | refine E_store (vs := [_, _, _, _]) sz36 rfl rfl rfl rfl rfl rfl rfl ?_); refine OpsE_eq (st' := _) (by first | dsimp only [n0, n1, n2, n3, n4, n5, n6, n7, n8, n9, m0, m1, m2, m3, m4, m5, m6, m7, m8, m9, o0, o1, o2, o3, o4, ↓reduceIte] | rfl) ?_)
    refine OpsE_nil ?_
    refine ⟨rfl, ?_⟩
    have hsucc := writL_succ m hj'
    have hL := writ_len m (E.take j)
    generalize writL m (E.take j) = L at hsucc hL
    generalize E[j] = e at hsucc
    by_cases b0 : e.write ≥ 0
    · have e2 : intBin .geq .i64 e.write 0 = some (.bool true) := by simp [intBin]; omega
      by_cases bm : e.write < (m : Int)
      · have e7 : intBin .lss .i64 e.write (m : Int) = some (.bool true) := by simp [intBin]; omega
        obtain ⟨b, hb⟩ : ∃ b : Nat, e.write = (b : Int) := ⟨e.write.toNat, by omega⟩
        repeat (first | refine R_seq ?_ | refine R_block ?_ | refine R_skip ?_)
        refine R_region ?_
        iterate 2 ((refine OpsE_do rfl ?_; first | refine E_fieldp fo36_0 rfl rfl ?_ | refine E_fieldi fo36_0 rfl rfl ?_ | refine E_loadi (ds := [_]) ag3 sz3 rfl rfl rfl rfl ?_ | refine E_loadp (ds := [_]) ag3 sz3 rfl rfl rfl rfl rfl ?_); refine OpsE_eq (st' := _) (by first | dsimp only [n0, n1, n2, n3, n4, n5, n6, n7, n8, n9, m0, m1, m2, m3, m4, m5, m6, m7, m8, m9, o0, o1, o2, o3, o4, ↓reduceIte] | rfl) ?_)
        (refine OpsE_do rfl ?_; refine E_int rfl rfl rfl e2 ?_; refine OpsE_eq (st' := _) (by first | dsimp only [n0, n1, n2, n3, n4, n5, n6, n7, n8, n9, m0, m1, m2, m3, m4, m5, m6, m7, m8, m9, o0, o1, o2, o3, o4, ↓reduceIte] | rfl) ?_)
        iterate 4 ((first | (refine OpsE_do rfl ?_; first | refine E_move rfl ?_ | refine E_fieldp fo36_0 rfl rfl ?_ | refine E_fieldi fo36_0 rfl rfl ?_ | refine E_loadi (ds := [_]) ag3 sz3 rfl rfl rfl rfl ?_ | refine E_loadp (ds := [_]) ag3 sz3 rfl rfl rfl rfl rfl ?_) | refine OpsE_not rfl ?_); refine OpsE_eq (st' := _) (by first | dsimp only [n0, n1, n2, n3, n4, n5, n6, n7, n8, n9, m0, m1, m2, m3, m4, m5, m6, m7, m8, m9, o0, o1, o2, o3, o4, ↓reduceIte] | rfl) ?_)
        ((first | (refine OpsE_do rfl ?_; refine E_int rfl rfl rfl e7 ?_) | refine OpsE_not rfl ?_); refine OpsE_eq (st' := _) (by first | dsimp only [n0, n1, n2, n3, n4, n5, n6, n7, n8, n9, m0, m1, m2, m3, m4, m5, m6, m7, m8, m9, o0, o1, o2, o3, o4, ↓reduceIte] | rfl) ?_)
        (refine OpsE_do rfl ?_; refine E_pick rfl rfl ?_; refine OpsE_eq (st' := _) (by first | dsimp only [n0, n1, n2, n3, n4, n5, n6, n7, n8, n9, m0, m1, m2, m3, m4, m5, m6, m7, m8, m9, o0, o1, o2, o3, o4, ↓reduceIte] | rfl) ?_)
        refine OpsE_nil ?_
        repeat (first | refine R_seq ?_ | refine R_block ?_ | refine R_skip ?_)
        refine R_true rfl ?_
        repeat (first | refine R_seq ?_ | refine R_block ?_ | refine R_skip ?_)
        refine R_region ?_
        iterate 3 ((refine OpsE_do rfl ?_; first | refine E_loadi (ds := [_]) ag69 sz69 rfl rfl rfl rfl ?_ | refine E_loadp (ds := [_]) ag69 sz69 rfl rfl rfl rfl rfl ?_ | refine E_fieldp fo36_0 rfl rfl ?_ | refine E_fieldi fo36_0 rfl rfl ?_ | refine E_loadi (ds := [_]) ag3 sz3 rfl rfl rfl rfl ?_ | refine E_loadp (ds := [_]) ag3 sz3 rfl rfl rfl rfl rfl ?_); refine OpsE_eq (st' := _) (by first | dsimp only [n0, n1, n2, n3, n4, n5, n6, n7, n8, n9, m0, m1, m2, m3, m4, m5, m6, m7, m8, m9, o0, o1, o2, o3, o4, ↓reduceIte] | rfl) ?_)
        (refine OpsE_do rfl ?_; refine E_index0 el69 sz4 rfl rfl rfl hb (by omega) ?_; refine OpsE_eq (st' := _) (by first | dsimp only [n0, n1, n2, n3, n4, n5, n6, n7, n8, n9, m0, m1, m2, m3, m4, m5, m6, m7, m8, m9, o0, o1, o2, o3, o4, ↓reduceIte] | rfl) ?_)
        (refine OpsE_do rfl ?_; refine E_storeArr sz4 rfl rfl rfl rfl rfl (by rw [List.length_map, hL]; omega) ?_; refine OpsE_eq (st' := _) (by first | dsimp only [n0, n1, n2, n3, n4, n5, n6, n7, n8, n9, m0, m1, m2, m3, m4, m5, m6, m7, m8, m9, o0, o1, o2, o3, o4, ↓reduceIte] | rfl) ?_)
        refine OpsE_nil ?_
        refine ⟨rfl, congrArg (fun h => (⟨h, none⟩ : Go.Pm.Rnd)) ?_⟩
        show _ = (prune 3 (some []) _).heap
        rw [prune33, show (PV.dat (.raw (.bool true))) = .dat (boolD true) from rfl, map_put, purge_map, hsucc, if_pos (show inB m e = true from decide_eq_true ⟨b0, bm⟩), hb, Int.toNat_natCast]
        rfl
      · have e7 : intBin .lss .i64 e.write (m : Int) = some (.bool false) := by simp [intBin]; omega
        repeat (first | refine R_seq ?_ | refine R_block ?_ | refine R_skip ?_)
        refine R_region ?_
        iterate 2 ((refine OpsE_do rfl ?_; first | refine E_fieldp fo36_0 rfl rfl ?_ | refine E_fieldi fo36_0 rfl rfl ?_ | refine E_loadi (ds := [_]) ag3 sz3 rfl rfl rfl rfl ?_ | refine E_loadp (ds := [_]) ag3 sz3 rfl rfl rfl rfl rfl ?_); refine OpsE_eq (st' := _) (by first | dsimp only [n0, n1, n2, n3, n4, n5, n6, n7, n8, n9, m0, m1, m2, m3, m4, m5, m6, m7, m8, m9, o0, o1, o2, o3, o4, ↓reduceIte] | rfl) ?_)
        (refine OpsE_do rfl ?_; refine E_int rfl rfl rfl e2 ?_; refine OpsE_eq (st' := _) (by first | dsimp only [n0, n1, n2, n3, n4, n5, n6, n7, n8, n9, m0, m1, m2, m3, m4, m5, m6, m7, m8, m9, o0, o1, o2, o3, o4, ↓reduceIte] | rfl) ?_)
        iterate 4 ((first | (refine OpsE_do rfl ?_; first | refine E_move rfl ?_ | refine E_fieldp fo36_0 rfl rfl ?_ | refine E_fieldi fo36_0 rfl rfl ?_ | refine E_loadi (ds := [_]) ag3 sz3 rfl rfl rfl rfl ?_ | refine E_loadp (ds := [_]) ag3 sz3 rfl rfl rfl rfl rfl ?_) | refine OpsE_not rfl ?_); refine OpsE_eq (st' := _) (by first | dsimp only [n0, n1, n2, n3, n4, n5, n6, n7, n8, n9, m0, m1, m2, m3, m4, m5, m6, m7, m8, m9, o0, o1, o2, o3, o4, ↓reduceIte] | rfl) ?_)
        ((first | (refine OpsE_do rfl ?_; refine E_int rfl rfl rfl e7 ?_) | refine OpsE_not rfl ?_); refine OpsE_eq (st' := _) (by first | dsimp only [n0, n1, n2, n3, n4, n5, n6, n7, n8, n9, m0, m1, m2, m3, m4, m5, m6, m7, m8, m9, o0, o1, o2, o3, o4, ↓reduceIte] | rfl) ?_)
        (refine OpsE_do rfl ?_; refine E_pick rfl rfl ?_; refine OpsE_eq (st' := _) (by first | dsimp only [n0, n1, n2, n3, n4, n5, n6, n7, n8, n9, m0, m1, m2, m3, m4, m5, m6, m7, m8, m9, o0, o1, o2, o3, o4, ↓reduceIte] | rfl) ?_)
        refine OpsE_nil ?_
        repeat (first | refine R_seq ?_ | refine R_block ?_ | refine R_skip ?_)
        refine R_false rfl ?_
        refine R_skip ?_
        refine ⟨rfl, congrArg (fun h => (⟨h, none⟩ : Go.Pm.Rnd)) ?_⟩
        show _ = (prune 3 (some []) _).heap
        rw [prune33, purge_map, hsucc, if_neg (show ¬ inB m e = true from fun h => bm (of_decide_eq_true h).2)]
        rfl
    · have e2 : intBin .geq .i64 e.write 0 = some (.bool false) := by simp [intBin]; omega
      repeat (first | refine R_seq ?_ | refine R_block ?_ | refine R_skip ?_)
      refine R_region ?_
      iterate 2 ((refine OpsE_do rfl ?_; first | refine E_fieldp fo36_0 rfl rfl ?_ | refine E_fieldi fo36_0 rfl rfl ?_ | refine E_loadi (ds := [_]) ag3 sz3 rfl rfl rfl rfl ?_ | refine E_loadp (ds := [_]) ag3 sz3 rfl rfl rfl rfl rfl ?_); refine OpsE_eq (st' := _) (by first | dsimp only [n0, n1, n2, n3, n4, n5, n6, n7, n8, n9, m0, m1, m2, m3, m4, m5, m6, m7, m8, m9, o0, o1, o2, o3, o4, ↓reduceIte] | rfl) ?_)
      (refine OpsE_do rfl ?_; refine E_int rfl rfl rfl e2 ?_; refine OpsE_eq (st' := _) (by first | dsimp only [n0, n1, n2, n3, n4, n5, n6, n7, n8, n9, m0, m1, m2, m3, m4, m5, m6, m7, m8, m9, o0, o1, o2, o3, o4, ↓reduceIte] | rfl) ?_)
      iterate 6 ((first | (refine OpsE_do rfl ?_; first | refine E_move rfl ?_ | refine E_fieldp fo36_0 rfl rfl ?_ | refine E_fieldi fo36_0 rfl rfl ?_ | refine E_loadi (ds := [_]) ag3 sz3 rfl rfl rfl rfl ?_ | refine E_loadp (ds := [_]) ag3 sz3 rfl rfl rfl rfl rfl ?_ | refine E_int rfl rfl rfl rfl ?_ | refine E_pick rfl rfl ?_) | refine OpsE_not rfl ?_); refine OpsE_eq (st' := _) (by first | dsimp only [n0, n1, n2, n3, n4, n5, n6, n7, n8, n9, m0, m1, m2, m3, m4, m5, m6, m7, m8, m9, o0, o1, o2, o3, o4, ↓reduceIte] | rfl) ?_)
      refine OpsE_nil ?_
      repeat (first | refine R_seq ?_ | refine R_block ?_ | refine R_skip ?_)
      refine R_false rfl ?_
      refine R_skip ?_
      refine ⟨rfl, congrArg (fun h => (⟨h, none⟩ : Go.Pm.Rnd)) ?_⟩
      show _ = (prune 3 (some []) _).heap
      rw [prune33, purge_map, hsucc, if_neg (show ¬ inB m e = true from fun h => b0 (of_decide_eq_true h).1)]
      rfl
  · rw [h.2]
    rw [List.take_length, ← idx_miss]
    have hL := writ_len m E
    generalize writL m E = L at hL
    subst hL
    repeat (first | refine R_seq ?_ | refine R_block ?_ | refine R_skip ?_)
    refine R_region ?_
    (refine OpsE_do rfl ?_; (first | refine E_loadi (ds := [_]) ag69 sz69 rfl rfl rfl rfl ?_ | refine E_loadp (ds := [_]) ag69 sz69 rfl rfl rfl rfl rfl ?_); refine OpsE_eq (st' := _) (by first | dsimp only [n0, n1, n2, n3, n4, n5, n6, n7, n8, n9, m0, m1, m2, m3, m4, m5, m6, m7, m8, m9, o0, o1, o2, o3, o4, ↓reduceIte] | rfl) ?_)
    (refine OpsE_do rfl ?_; (first | refine E_call rfl rfl (c58v L 1 L.length _ (by omega) rfl) ?_ | refine E_callfn rfl rfl (c58v L 1 L.length _ (by omega) rfl) ?_); refine OpsE_eq (st' := _) (by first | dsimp only [n0, n1, n2, n3, n4, n5, n6, n7, n8, n9, m0, m1, m2, m3, m4, m5, m6, m7, m8, m9, o0, o1, o2, o3, o4, ↓reduceIte] | rfl) ?_)
    (refine OpsE_do rfl ?_; refine E_assign rfl rfl ?_; refine OpsE_eq (st' := _) (by first | dsimp only [n0, n1, n2, n3, n4, n5, n6, n7, n8, n9, m0, m1, m2, m3, m4, m5, m6, m7, m8, m9, o0, o1, o2, o3, o4, ↓reduceIte] | rfl) ?_)
    refine OpsE_nil ?_
    repeat (first | refine R_seq ?_ | refine R_block ?_ | refine R_skip ?_)
    refine R_ret ?_
    exact ⟨trivial, _, rfl, rfl⟩
end Go.Proofs.Try
