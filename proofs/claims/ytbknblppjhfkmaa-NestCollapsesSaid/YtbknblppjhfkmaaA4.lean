/-
  Seat a: all indices of a shape.
-/
import Derived.Test.YtbknblppjhfkmaaA3
namespace Go.Proofs.Try
open Go Go.Pm
set_option linter.unusedVariables false
set_option linter.unusedSimpArgs false
set_option maxRecDepth 2000

def llD (L : List (List Int)) : Dat := .lst (L.map intsD)
def extL (d : Int) (p : List Int) : List (List Int) := (List.range d.toNat).map fun (n : Nat) => p ++ [(n : Int)]
/-- all indices, in order -/
def allL (s : List Int) : List (List Int) := s.foldl (fun out d => out.flatMap (extL d)) [[]]
theorem allL_succ {s : List Int} {j : Nat} (h : j < s.length) : (allL (s.take j)).flatMap (extL s[j]) = allL (s.take (j + 1)) := by
  rw [allL, allL, List.take_succ_eq_append_getElem h, List.foldl_append]; rfl
theorem ll_get {L : List (List Int)} {j : Nat} (h : j < L.length) : (L.map intsD)[j]? = some (intsD L[j]) := by simp [h]
theorem ll_snoc (L : List (List Int)) (p : List Int) (n : Int) : (L ++ [p ++ [n]]).map intsD = L.map intsD ++ [.lst (p.map intD ++ [intD n])] := by simp [intsD]
theorem ints_fit (p : List Int) : (p.map intD).all (Dat.fits 1) = true := by simp only [List.all_map, List.all_eq_true]; intro x _; rfl
theorem ll_fit (L : List (List Int)) : (L.map intsD).all (Dat.fits 1) = true := by simp only [List.all_map, List.all_eq_true]; intro x _; rfl
theorem allL_len (s : List Int) : ∀ p ∈ allL s, p.length = s.length := by
  have : ∀ (s : List Int) (L : List (List Int)) (m : Nat), (∀ p ∈ L, p.length = m) → ∀ p ∈ s.foldl (fun out d => out.flatMap (extL d)) L, p.length = m + s.length := by
    intro s
    induction s with
    | nil => intro L m h p hp; simpa using h p hp
    | cons d s ih =>
      intro L m h p hp
      have := ih (L.flatMap (extL d)) (m + 1) (fun q hq => by
        simp only [List.mem_flatMap, extL, List.mem_map] at hq
        obtain ⟨a, ha, n, _, rfl⟩ := hq
        simp [h a ha]) p hp
      simp only [List.length_cons]; omega
  intro p hp
  have := this s [[]] 0 (by simp) p hp
  omega

theorem c49 (s : List Int) (H : List Blk) (hl : s.length ≤ 1048576) (hb : ∀ j, j ≤ s.length → (allL (s.take j)).length ≤ 1000000) : PC prog env 49 [.dat (intsD s)] H (.dat (llD (allL s))) H := by
  refine PC_pure (fn := f49) (by kernel_rfl) rfl rfl (by kernel_rfl) rfl rfl ?_ (by simp [PV.lends])
  refine R_eq (st' := ⟨[.dat (intsD s), .tup [], .tup [], .tup [], .tup [], .tup [], .tup [], .tup [], .tup [], .tup [], .tup [], .tup [], .tup [], .tup [], .tup [], .tup [], .tup [], .tup [], .tup [], .tup [], .tup [], .tup [], .tup [], .tup [], .tup [], .tup [], .tup [], .tup [], .tup [], .tup [], .tup [], .tup [], .tup [], .tup [], .tup [], .tup [], .tup [], .tup [], .tup [], .tup [], .tup [], .tup [], .tup [], .tup []], []⟩) rfl ?_
  repeat (first | refine R_seq ?_ | refine R_block ?_ | refine R_skip ?_)
  refine R_region ?_
  (refine OpsE_do rfl ?_; refine E_assign rfl rfl ?_; refine OpsE_eq (st' := _) (by first | dsimp only [n0, n1, n2, n3, n4, n5, n6, n7, n8, n9, m0, m1, m2, m3, m4, m5, m6, m7, m8, m9, o0, o1, o2, o3, o4, ↓reduceIte] | rfl) ?_)
  refine OpsE_nil ?_
  repeat (first | refine R_seq ?_ | refine R_block ?_ | refine R_skip ?_)
  refine R_region ?_
  iterate 3 ((refine OpsE_do rfl ?_; first | refine E_list el49 sz3 zi3 rfl rfl rfl ⟨rfl, rfl⟩ rfl ⟨by decide, by decide⟩ rfl ?_ | refine E_list el89 sz49 zi49 rfl rfl rfl ⟨rfl, rfl⟩ rfl ⟨by decide, by decide⟩ rfl ?_ | refine E_assign rfl rfl ?_); refine OpsE_eq (st' := _) (by first | dsimp only [n0, n1, n2, n3, n4, n5, n6, n7, n8, n9, m0, m1, m2, m3, m4, m5, m6, m7, m8, m9, o0, o1, o2, o3, o4, ↓reduceIte] | rfl) ?_)
  refine OpsE_nil ?_
  repeat (first | refine R_seq ?_ | refine R_block ?_ | refine R_skip ?_)
  refine R_region ?_
  (refine OpsE_do rfl ?_; refine E_assign rfl rfl ?_; refine OpsE_eq (st' := _) (by first | dsimp only [n0, n1, n2, n3, n4, n5, n6, n7, n8, n9, m0, m1, m2, m3, m4, m5, m6, m7, m8, m9, o0, o1, o2, o3, o4, ↓reduceIte] | rfl) ?_)
  refine OpsE_nil ?_
  repeat (first | refine R_seq ?_ | refine R_block ?_ | refine R_skip ?_)
  refine R_loop ?_
  refine RL_ind (fun (i : Nat) => ⟨[.dat (intsD s), .undef, .undef, .dat (llD (allL (s.take i))), intPV (i : Int), .undef, .undef, .undef, .undef, .undef, .undef, .undef, .undef, .undef, .undef, .undef, .undef, .undef, .undef, .undef, .undef, .undef, .undef, .undef, .undef, .undef, .undef, .undef, .undef, .undef, .undef, .undef, .undef, .undef, .undef, .undef, .undef, .undef, .undef, .undef, .undef, .undef, .undef, .undef], []⟩)
    (fun i => i ≤ s.length) (fun i => s.length - i) (fun i hi => ?_) _ 0 _ (Nat.lt_succ_self _) (Nat.zero_le _) rfl
  repeat (first | refine R_seq ?_ | refine R_block ?_ | refine R_skip ?_)
  refine R_region ?_
  iterate 4 ((refine OpsE_do rfl ?_; first | refine E_move rfl ?_ | refine E_len un49 rfl rfl ?_ | refine E_int rfl rfl rfl rfl ?_); refine OpsE_eq (st' := _) (by first | dsimp only [n0, n1, n2, n3, n4, n5, n6, n7, n8, n9, m0, m1, m2, m3, m4, m5, m6, m7, m8, m9, o0, o1, o2, o3, o4, ↓reduceIte] | rfl) ?_)
  refine OpsE_nil ?_
  repeat (first | refine R_seq ?_ | refine R_block ?_ | refine R_skip ?_)
  refine R_if rfl (fun hi' => ?_) (fun hi' => ?_)
  · have hi' : i < s.length := by simpa using hi'
    have hbi := hb i (by omega)
    have hbn := hb (i + 1) hi'
    rw [← allL_succ hi'] at hbn
    generalize hout : allL (s.take i) = out at hbi hbn
    repeat (first | refine R_seq ?_ | refine R_block ?_ | refine R_skip ?_)
    refine R_region ?_
    (refine OpsE_do rfl ?_; refine E_own rfl rfl ?_; refine OpsE_eq (st' := _) (by first | dsimp only [n0, n1, n2, n3, n4, n5, n6, n7, n8, n9, m0, m1, m2, m3, m4, m5, m6, m7, m8, m9, o0, o1, o2, o3, o4, ↓reduceIte] | rfl) ?_)
    refine OpsE_nil ?_
    repeat (first | refine R_seq ?_ | refine R_block ?_ | refine R_skip ?_)
    refine R_region ?_
    (refine OpsE_do rfl ?_; refine E_assign rfl rfl ?_; refine OpsE_eq (st' := _) (by first | dsimp only [n0, n1, n2, n3, n4, n5, n6, n7, n8, n9, m0, m1, m2, m3, m4, m5, m6, m7, m8, m9, o0, o1, o2, o3, o4, ↓reduceIte] | rfl) ?_)
    refine OpsE_nil ?_
    repeat (first | refine R_seq ?_ | refine R_block ?_ | refine R_skip ?_)
    refine R_loop ?_
    refine RL_ind (fun (k : Nat) => ⟨[.dat (intsD s), .undef, .undef, .dat (llD out), intPV (i : Int), .vec 0 (((out.take k).flatMap (extL s[i])).map intsD), intPV (k : Int), .undef, .undef, .undef, .undef, .undef, .undef, .undef, .undef, .undef, .undef, .undef, .undef, .undef, .undef, .undef, .undef, .undef, .undef, .undef, .undef, .undef, .undef, .undef, .undef, .undef, .undef, .undef, .undef, .undef, .undef, .undef, .undef, .undef, .undef, .undef, .undef, .undef], [.tok 49 (((out.take k).flatMap (extL s[i])).map intsD).length]⟩)
      (fun k => k ≤ out.length) (fun k => out.length - k) (fun k hk => ?_) _ 0 _ (Nat.lt_succ_self _) (Nat.zero_le _) rfl
    repeat (first | refine R_seq ?_ | refine R_block ?_ | refine R_skip ?_)
    refine R_region ?_
    iterate 4 ((refine OpsE_do rfl ?_; first | refine E_move rfl ?_ | refine E_len un89 rfl rfl ?_ | refine E_int rfl rfl rfl rfl ?_); refine OpsE_eq (st' := _) (by first | dsimp only [n0, n1, n2, n3, n4, n5, n6, n7, n8, n9, m0, m1, m2, m3, m4, m5, m6, m7, m8, m9, o0, o1, o2, o3, o4, ↓reduceIte] | rfl) ?_)
    refine OpsE_nil ?_
    repeat (first | refine R_seq ?_ | refine R_block ?_ | refine R_skip ?_)
    refine R_if rfl (fun hk' => ?_) (fun hk' => ?_)
    · have hk' : k < out.length := by simpa using hk'
      have hpk : out[k].length ≤ 1048576 := by
        have := allL_len (s.take i) out[k] (by rw [hout]; exact List.getElem_mem hk')
        rw [this, List.length_take]; omega
      have hpre : ((out.take k).flatMap (extL s[i])).length + (extL s[i] out[k]).length ≤ 1000000 := by
        have h1 : (out.take (k + 1)).flatMap (extL s[i]) = (out.take k).flatMap (extL s[i]) ++ extL s[i] out[k] := by
          rw [List.take_succ_eq_append_getElem hk', List.flatMap_append]; simp
        have h2 : out.flatMap (extL s[i]) = (out.take (k + 1)).flatMap (extL s[i]) ++ (out.drop (k + 1)).flatMap (extL s[i]) := by
          rw [← List.flatMap_append, List.take_append_drop]
        rw [h2, h1, List.length_append, List.length_append] at hbn
        omega
      have hel : (extL s[i] out[k]).length = s[i].toNat := by simp [extL]
      generalize hpr : (out.take k).flatMap (extL s[i]) = pre at hpre
      repeat (first | refine R_seq ?_ | refine R_block ?_ | refine R_skip ?_)
      refine R_region ?_
      (refine OpsE_do rfl ?_; refine E_assign rfl rfl ?_; refine OpsE_eq (st' := _) (by first | dsimp only [n0, n1, n2, n3, n4, n5, n6, n7, n8, n9, m0, m1, m2, m3, m4, m5, m6, m7, m8, m9, o0, o1, o2, o3, o4, ↓reduceIte] | rfl) ?_)
      refine OpsE_nil ?_
      repeat (first | refine R_seq ?_ | refine R_block ?_ | refine R_skip ?_)
      refine R_loop ?_
      refine RL_ind (fun (n : Nat) => ⟨[.dat (intsD s), .undef, .undef, .dat (llD out), intPV (i : Int), .vec 0 ((pre ++ extL (n : Int) out[k]).map intsD), intPV (k : Int), intPV (n : Int), .undef, .undef, .undef, .undef, .undef, .undef, .undef, .undef, .undef, .undef, .undef, .undef, .undef, .undef, .undef, .undef, .undef, .undef, .undef, .undef, .undef, .undef, .undef, .undef, .undef, .undef, .undef, .undef, .undef, .undef, .undef, .undef, .undef, .undef, .undef, .undef], [.tok 49 ((pre ++ extL (n : Int) out[k]).map intsD).length]⟩)
        (fun n => n ≤ s[i].toNat) (fun n => s[i].toNat - n) (fun n hn => ?_) _ 0 _ (Nat.lt_succ_self _) (Nat.zero_le _) (by rw [show extL ((0 : Nat) : Int) out[k] = [] from rfl, List.append_nil]; rfl)
      repeat (first | refine R_seq ?_ | refine R_block ?_ | refine R_skip ?_)
      refine R_region ?_
      iterate 3 ((refine OpsE_do rfl ?_; refine E_move rfl ?_); refine OpsE_eq (st' := _) (by first | dsimp only [n0, n1, n2, n3, n4, n5, n6, n7, n8, n9, m0, m1, m2, m3, m4, m5, m6, m7, m8, m9, o0, o1, o2, o3, o4, ↓reduceIte] | rfl) ?_)
      (refine OpsE_do rfl ?_; (first | refine E_index el49 sz3 rfl rfl rfl rfl (ints_get hi') rfl ?_ | refine E_index0 el49 sz3 rfl rfl rfl rfl (ints_get hi') ?_ | refine E_indexArr el49 sz3 rfl rfl rfl rfl (ints_get hi') ?_); refine OpsE_eq (st' := _) (by first | dsimp only [n0, n1, n2, n3, n4, n5, n6, n7, n8, n9, m0, m1, m2, m3, m4, m5, m6, m7, m8, m9, o0, o1, o2, o3, o4, ↓reduceIte] | rfl) ?_)
      iterate 2 ((refine OpsE_do rfl ?_; first | refine E_loadi (ds := [_]) ag3 sz3 rfl rfl rfl rfl ?_ | refine E_loadp (ds := [_]) ag3 sz3 rfl rfl rfl rfl rfl ?_ | refine E_int rfl rfl rfl rfl ?_); refine OpsE_eq (st' := _) (by first | dsimp only [n0, n1, n2, n3, n4, n5, n6, n7, n8, n9, m0, m1, m2, m3, m4, m5, m6, m7, m8, m9, o0, o1, o2, o3, o4, ↓reduceIte] | rfl) ?_)
      refine OpsE_nil ?_
      repeat (first | refine R_seq ?_ | refine R_block ?_ | refine R_skip ?_)
      refine R_if rfl (fun hn' => ?_) (fun hn' => ?_)
      · have hn' : n < s[i].toNat := by omega
        have hen : (extL (n : Int) out[k]).length = n := by simp [extL]
        repeat (first | refine R_seq ?_ | refine R_block ?_ | refine R_skip ?_)
        refine R_region ?_
        iterate 4 ((refine OpsE_do rfl ?_; first | refine E_move rfl ?_ | refine E_listOwn el49 sz3 zi3 rfl rfl rfl ⟨rfl, rfl⟩ rfl ⟨by decide, by decide⟩ rfl ?_); refine OpsE_eq (st' := _) (by first | dsimp only [n0, n1, n2, n3, n4, n5, n6, n7, n8, n9, m0, m1, m2, m3, m4, m5, m6, m7, m8, m9, o0, o1, o2, o3, o4, ↓reduceIte] | rfl) ?_)
        (refine OpsE_do rfl ?_; (first | refine E_index el89 sz49 rfl rfl rfl rfl (ll_get hk') rfl ?_ | refine E_index0 el89 sz49 rfl rfl rfl rfl (ll_get hk') ?_ | refine E_indexArr el89 sz49 rfl rfl rfl rfl (ll_get hk') ?_); refine OpsE_eq (st' := _) (by first | dsimp only [n0, n1, n2, n3, n4, n5, n6, n7, n8, n9, m0, m1, m2, m3, m4, m5, m6, m7, m8, m9, o0, o1, o2, o3, o4, ↓reduceIte] | rfl) ?_)
        (refine OpsE_do rfl ?_; (first | refine E_loadi (ds := [_]) ag49 sz49 rfl rfl rfl rfl ?_ | refine E_loadp (ds := [_]) ag49 sz49 rfl rfl rfl rfl rfl ?_); refine OpsE_eq (st' := _) (by first | dsimp only [n0, n1, n2, n3, n4, n5, n6, n7, n8, n9, m0, m1, m2, m3, m4, m5, m6, m7, m8, m9, o0, o1, o2, o3, o4, ↓reduceIte] | rfl) ?_)
        (refine OpsE_do rfl ?_; refine E_append el49 sz3 by3 zn3 ⟨by decide, by decide⟩ rfl rfl rfl rfl rfl rfl (ints_fit _) (by simp [room]; omega) ?_; refine OpsE_eq (st' := _) (by first | dsimp only [n0, n1, n2, n3, n4, n5, n6, n7, n8, n9, m0, m1, m2, m3, m4, m5, m6, m7, m8, m9, o0, o1, o2, o3, o4, ↓reduceIte] | rfl) ?_)
        iterate 2 ((refine OpsE_do rfl ?_; first | refine E_move rfl ?_ | refine E_list el49 sz3 zi3 rfl rfl rfl ⟨rfl, rfl⟩ rfl ⟨by decide, by decide⟩ rfl ?_); refine OpsE_eq (st' := _) (by first | dsimp only [n0, n1, n2, n3, n4, n5, n6, n7, n8, n9, m0, m1, m2, m3, m4, m5, m6, m7, m8, m9, o0, o1, o2, o3, o4, ↓reduceIte] | rfl) ?_)
        (refine OpsE_do rfl ?_; refine E_append el49 sz3 by3 zn3 ⟨by decide, by decide⟩ rfl rfl rfl rfl (by simp) (ints_fit _) rfl (by simp [room]; omega) ?_; refine OpsE_eq (st' := _) (by first | dsimp only [n0, n1, n2, n3, n4, n5, n6, n7, n8, n9, m0, m1, m2, m3, m4, m5, m6, m7, m8, m9, o0, o1, o2, o3, o4, ↓reduceIte] | rfl) ?_)
        (refine OpsE_do rfl ?_; refine E_list el89 sz49 zi49 rfl rfl rfl ⟨rfl, rfl⟩ rfl ⟨by decide, by decide⟩ rfl ?_; refine OpsE_eq (st' := _) (by first | dsimp only [n0, n1, n2, n3, n4, n5, n6, n7, n8, n9, m0, m1, m2, m3, m4, m5, m6, m7, m8, m9, o0, o1, o2, o3, o4, ↓reduceIte] | rfl) ?_)
        (refine OpsE_do rfl ?_; refine E_append el89 sz49 by49 zn49 ⟨by decide, by decide⟩ rfl rfl rfl rfl rfl (ll_fit _) rfl (by simp [room, hen]; omega) ?_; refine OpsE_eq (st' := _) (by first | dsimp only [n0, n1, n2, n3, n4, n5, n6, n7, n8, n9, m0, m1, m2, m3, m4, m5, m6, m7, m8, m9, o0, o1, o2, o3, o4, ↓reduceIte] | rfl) ?_)
        (refine OpsE_do rfl ?_; refine E_assign rfl rfl ?_; refine OpsE_eq (st' := _) (by first | dsimp only [n0, n1, n2, n3, n4, n5, n6, n7, n8, n9, m0, m1, m2, m3, m4, m5, m6, m7, m8, m9, o0, o1, o2, o3, o4, ↓reduceIte] | rfl) ?_)
        refine OpsE_nil ?_
        repeat (first | refine R_seq ?_ | refine R_block ?_ | refine R_skip ?_)
        refine R_region ?_
        iterate 3 ((refine OpsE_do rfl ?_; first | refine E_move rfl ?_ | refine E_int rfl rfl rfl rfl ?_ | refine E_assign rfl rfl ?_); refine OpsE_eq (st' := _) (by first | dsimp only [n0, n1, n2, n3, n4, n5, n6, n7, n8, n9, m0, m1, m2, m3, m4, m5, m6, m7, m8, m9, o0, o1, o2, o3, o4, ↓reduceIte] | rfl) ?_)
        refine OpsE_nil ?_
        refine ⟨n + 1, ?_, by omega, hn'⟩
        have e1 : extL ((n + 1 : Nat) : Int) out[k] = extL (n : Int) out[k] ++ [out[k] ++ [(n : Int)]] := by simp [extL, List.range_succ]
        rw [e1, ← List.append_assoc, ll_snoc, List.length_append, wrap_succ (by omega)]
        rfl
      · have hn' : n = s[i].toNat := by omega
        subst hn'
        repeat (first | refine R_seq ?_ | refine R_block ?_ | refine R_skip ?_)
        refine R_exit ?_
        repeat (first | refine R_seq ?_ | refine R_block ?_ | refine R_skip ?_)
        refine R_region ?_
        iterate 3 ((refine OpsE_do rfl ?_; first | refine E_move rfl ?_ | refine E_int rfl rfl rfl rfl ?_ | refine E_assign rfl rfl ?_); refine OpsE_eq (st' := _) (by first | dsimp only [n0, n1, n2, n3, n4, n5, n6, n7, n8, n9, m0, m1, m2, m3, m4, m5, m6, m7, m8, m9, o0, o1, o2, o3, o4, ↓reduceIte] | rfl) ?_)
        refine OpsE_nil ?_
        refine ⟨k + 1, ?_, by omega, hk'⟩
        have e1 : (out.take (k + 1)).flatMap (extL s[i]) = pre ++ extL ((s[i].toNat : Nat) : Int) out[k] := by
          rw [List.take_succ_eq_append_getElem hk', List.flatMap_append, hpr]; simp only [extL, Int.toNat_natCast, List.flatMap_cons, List.flatMap_nil, List.append_nil]
        rw [e1, wrap_succ (by omega)]
        rfl
    · have hk' : k = out.length := by simp at hk'; omega
      subst hk'
      repeat (first | refine R_seq ?_ | refine R_block ?_ | refine R_skip ?_)
      refine R_exit ?_
      repeat (first | refine R_seq ?_ | refine R_block ?_ | refine R_skip ?_)
      refine R_region ?_
      iterate 2 ((refine OpsE_do rfl ?_; first | refine E_move rfl ?_ | refine E_assign rfl rfl ?_); refine OpsE_eq (st' := _) (by first | dsimp only [n0, n1, n2, n3, n4, n5, n6, n7, n8, n9, m0, m1, m2, m3, m4, m5, m6, m7, m8, m9, o0, o1, o2, o3, o4, ↓reduceIte] | rfl) ?_)
      refine OpsE_nil ?_
      repeat (first | refine R_seq ?_ | refine R_block ?_ | refine R_skip ?_)
      refine R_region ?_
      iterate 3 ((refine OpsE_do rfl ?_; first | refine E_move rfl ?_ | refine E_int rfl rfl rfl rfl ?_ | refine E_assign rfl rfl ?_); refine OpsE_eq (st' := _) (by first | dsimp only [n0, n1, n2, n3, n4, n5, n6, n7, n8, n9, m0, m1, m2, m3, m4, m5, m6, m7, m8, m9, o0, o1, o2, o3, o4, ↓reduceIte] | rfl) ?_)
      refine OpsE_nil ?_
      refine ⟨i + 1, ?_, by omega, hi'⟩
      rw [← allL_succ hi', hout, List.take_length, wrap_succ (by omega)]
      rfl
  · have hi' : i = s.length := by simp at hi'; omega
    subst hi'
    repeat (first | refine R_seq ?_ | refine R_block ?_ | refine R_skip ?_)
    refine R_exit ?_
    repeat (first | refine R_seq ?_ | refine R_block ?_ | refine R_skip ?_)
    refine R_region ?_
    iterate 2 ((refine OpsE_do rfl ?_; first | refine E_move rfl ?_ | refine E_assign rfl rfl ?_); refine OpsE_eq (st' := _) (by first | dsimp only [n0, n1, n2, n3, n4, n5, n6, n7, n8, n9, m0, m1, m2, m3, m4, m5, m6, m7, m8, m9, o0, o1, o2, o3, o4, ↓reduceIte] | rfl) ?_)
    refine OpsE_nil ?_
    repeat (first | refine R_seq ?_ | refine R_block ?_ | refine R_skip ?_)
    refine R_ret ?_
    refine ⟨trivial, _, rfl, ?_⟩
    rw [List.take_length]
    rfl
end Go.Proofs.Try
