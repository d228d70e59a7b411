/-
  Seat a: the first event that is wrong.
-/
import Derived.Test.YtbknblppjhfkmaaA24
namespace Go.Proofs.Try
open Go Go.Pm
set_option linter.unusedVariables false
set_option linter.unusedSimpArgs false
set_option maxRecDepth 2000

theorem pruneN {n : Nat} {s : List PV} {H : List Blk} : (prune n (some []) ⟨s, H⟩).heap = (H.take n).map (purgeB H n) := rfl
/-- may the event be written, where W has been written? -/
def freeB (m : Nat) (W : List Bool) (e : Evt) : Bool := inB m e && !(W.getD e.write.toNat false)
/-- what has been marked behind event j, wrong or not -/
def nextW (m : Nat) (E : List Evt) (j : Nat) : List Bool := match E[j - 1]? with
  | some e => if freeB m (writL m (E.take (j - 1))) e then (writL m (E.take (j - 1))).set e.write.toNat true else writL m (E.take (j - 1))
  | none => []
theorem nextW_succ {m : Nat} {E : List Evt} {j : Nat} (h : j < E.length) : nextW m E (j + 1) = if freeB m (writL m (E.take j)) E[j] then (writL m (E.take j)).set E[j].write.toNat true else writL m (E.take j) := by
  rw [nextW, Nat.add_sub_cancel, List.getElem?_eq_getElem h]
theorem badE_W {m : Nat} {s : List Int} {E : List Evt} {j : Nat} (h : j < E.length) : badE m s E j = (!(freeB m (writL m (E.take j)) E[j]) || !readOk s E[j]) := by
  rw [badE_at h, freeB]
  cases hi : inB m E[j] with
  | false => rfl
  | true =>
    have hi' := of_decide_eq_true hi
    rw [writ_get m _ _ (by omega), show ((E[j].write.toNat : Nat) : Int) = E[j].write by omega]
theorem c42_gen (l : List Nst) (m : Nat) (s : List Int) (hS : ∀ n ∈ l, SmallN n) (hl : l.length ≤ 1000) (hm : m ≤ 1000) (E : List Evt) (hEl : eventsL l = E) (H' : List Blk) (r : Int)
    (hN : (∀ j, j < E.length → badE m s E j = false) → r = -1 ∧ H' = [.box [.dat (intD 0), .dat (intD 0), .dat (intD 0), .dat (intD 0)], .box [.dat (intD m)], .box ((writL m E).map fun m => .dat (boolD m)), .box [.arr 2 0 m m], .box [.dat (intsD s)], .box [.fn 56 [.ptr 1 0, .ptr 3 0], .fn 57 [.ptr 4 0]], .box [.arr 5 0 2 2], .box [.dat (intD (-1))], .box [.dat (intD E.length)]])
    (hR : ∀ q, q < E.length → badE m s E q = true → (∀ j, j < q → badE m s E j = false) → r = (q : Int) ∧ H' = [.box [.dat (intD 0), .dat (intD 0), .dat (intD 0), .dat (intD 0)], .box [.dat (intD m)], .box ((nextW m E (q + 1)).map fun m => .dat (boolD m)), .box [.arr 2 0 m m], .box [.dat (intsD s)], .box [.fn 56 [.ptr 1 0, .ptr 3 0], .fn 57 [.ptr 4 0]], .box [.arr 5 0 2 2], .box [.dat (intD (q : Int))], .box [.dat (intD (q : Int))]]) :
    PC prog env 42 [.dat (nestsD l), .arr 5 0 2 2] [.box [.dat (intD 0), .dat (intD 0), .dat (intD 0), .dat (intD 0)], .box [.dat (intD m)], .box ((List.replicate m false).map fun m => .dat (boolD m)), .box [.arr 2 0 m m], .box [.dat (intsD s)], .box [.fn 56 [.ptr 1 0, .ptr 3 0], .fn 57 [.ptr 4 0]]] (intPV r) H' := by
  have hlen := eventsL_len hS
  have hE := eventsL_range l
  have hg : ∀ j (h : j < l.length), GoesTo l[j] ((fun j => if h : j < l.length then eventsN l[j] else []) j) := fun j hj => by simp only [hj, dif_pos]; exact goes_of (hS _ (List.getElem_mem hj))
  rw [hEl] at hlen hE
  refine PC_body (fn := f42) (by kernel_rfl) rfl rfl (by kernel_rfl) rfl ?_
  refine R_eq (st' := ⟨[.dat (nestsD l), .arr 5 0 2 2, .tup [], .tup [], .tup [], .tup [], .tup [], .tup [], .tup [], .tup [], .tup [], .tup [], .tup [], .tup [], .tup [], .tup []], [.box [.dat (intD 0), .dat (intD 0), .dat (intD 0), .dat (intD 0)], .box [.dat (intD m)], .box ((List.replicate m false).map fun m => .dat (boolD m)), .box [.arr 2 0 m m], .box [.dat (intsD s)], .box [.fn 56 [.ptr 1 0, .ptr 3 0], .fn 57 [.ptr 4 0]]]⟩) rfl ?_
  repeat (first | refine R_seq ?_ | refine R_block ?_ | refine R_skip ?_)
  refine R_region ?_
  iterate 2 ((refine OpsE_do rfl ?_; first | refine E_box (cs := [_]) rfl rfl rfl ?_ | refine E_alloc (cs := [_]) ze3 rfl rfl ?_); refine OpsE_eq (st' := _) (by first | dsimp only [n0, n1, n2, n3, n4, n5, n6, n7, n8, n9, m0, m1, m2, m3, m4, m5, m6, m7, m8, m9, o0, o1, o2, o3, o4, ↓reduceIte] | rfl) ?_)
  refine OpsE_nil ?_
  repeat (first | refine R_seq ?_ | refine R_block ?_ | refine R_skip ?_)
  refine R_region ?_
  iterate 2 ((refine OpsE_do rfl ?_; first | refine E_alloc (cs := [_]) ze3 rfl rfl ?_ | refine E_store (vs := [_]) sz3 rfl rfl rfl rfl rfl rfl rfl ?_); refine OpsE_eq (st' := _) (by first | dsimp only [n0, n1, n2, n3, n4, n5, n6, n7, n8, n9, m0, m1, m2, m3, m4, m5, m6, m7, m8, m9, o0, o1, o2, o3, o4, ↓reduceIte] | rfl) ?_)
  refine OpsE_nil ?_
  repeat (first | refine R_seq ?_ | refine R_block ?_ | refine R_skip ?_)
  refine R_region ?_
  (refine OpsE_do rfl ?_; refine E_move rfl ?_; refine OpsE_eq (st' := _) (by first | dsimp only [n0, n1, n2, n3, n4, n5, n6, n7, n8, n9, m0, m1, m2, m3, m4, m5, m6, m7, m8, m9, o0, o1, o2, o3, o4, ↓reduceIte] | rfl) ?_)
  (refine OpsE_do rfl ?_; (first | refine E_call rfl rfl (c16 l _) ?_ | refine E_callfn rfl rfl (c16 l _) ?_); refine OpsE_eq (st' := _) (by first | dsimp only [n0, n1, n2, n3, n4, n5, n6, n7, n8, n9, m0, m1, m2, m3, m4, m5, m6, m7, m8, m9, o0, o1, o2, o3, o4, ↓reduceIte] | rfl) ?_)
  refine OpsE_nil ?_
  repeat (first | refine R_seq ?_ | refine R_skip ?_)
  refine R_return (fn := f34) Evt.toD E (fun j => [.box [.dat (intD 0), .dat (intD 0), .dat (intD 0), .dat (intD 0)], .box [.dat (intD m)], .box ((writL m (E.take j)).map fun m => .dat (boolD m)), .box [.arr 2 0 m m], .box [.dat (intsD s)], .box [.fn 56 [.ptr 1 0, .ptr 3 0], .fn 57 [.ptr 4 0]], .box [.arr 5 0 2 2], .box [.dat (intD 0)], .box [.dat (intD (j : Int))]]) (fun j => [.box [.dat (intD 0), .dat (intD 0), .dat (intD 0), .dat (intD 0)], .box [.dat (intD m)], .box ((nextW m E j).map fun m => .dat (boolD m)), .box [.arr 2 0 m m], .box [.dat (intsD s)], .box [.fn 56 [.ptr 1 0, .ptr 3 0], .fn 57 [.ptr 4 0]], .box [.arr 5 0 2 2], .box [.dat (intD ((j - 1 : Nat) : Int))], .box [.dat (intD ((j - 1 : Nat) : Int))]]) (badE m s E) rfl (by kernel_rfl) (by kernel_rfl) rfl rfl rfl (fun Y fin s hF => c34E l _ E hE (by omega) hg fin s hF _ rfl) (fun j hj' => YE_round rfl ?_) (fun hall => ?_) (fun q hq hqb hql => ?_)
  · repeat (first | refine R_seq ?_ | refine R_block ?_ | refine R_skip ?_)
    refine R_region ?_
    iterate 2 ((refine OpsE_do rfl ?_; first | refine E_alloc (cs := [_, _, _, _]) ze36 rfl rfl ?_ | refine E_store (vs := [_, _, _, _]) sz36 rfl rfl rfl rfl rfl rfl rfl ?_); refine OpsE_eq (st' := _) (by first | dsimp only [n0, n1, n2, n3, n4, n5, n6, n7, n8, n9, m0, m1, m2, m3, m4, m5, m6, m7, m8, m9, o0, o1, o2, o3, o4, ↓reduceIte] | rfl) ?_)
    refine OpsE_nil ?_
    refine ⟨rfl, ?_⟩
    have hbad := badE_W (m := m) (s := s) hj'
    have hnext := nextW_succ (m := m) hj'
    have hsucc := writL_succ m hj'
    have hL := writ_len m (E.take j)
    generalize hWW : writL m (E.take j) = L at hsucc hL hnext hbad
    generalize hee : E[j] = e at hsucc hnext hbad
    cases hc : freeB m L e
    · rw [hc] at hbad hnext
      rw [show badE m s E j = true from hbad, if_pos rfl, hnext]
      repeat (first | refine R_seq ?_ | refine R_block ?_ | refine R_skip ?_)
      refine R_region ?_
      iterate 2 ((refine OpsE_do rfl ?_; first | refine E_loadi (ds := [_]) ag100 sz100 rfl rfl rfl rfl ?_ | refine E_loadp (ds := [_]) ag100 sz100 rfl rfl rfl rfl rfl ?_ | refine E_func rfl ?_ | refine E_closure rfl rfl rfl ?_); refine OpsE_eq (st' := _) (by first | dsimp only [n0, n1, n2, n3, n4, n5, n6, n7, n8, n9, m0, m1, m2, m3, m4, m5, m6, m7, m8, m9, o0, o1, o2, o3, o4, ↓reduceIte] | rfl) ?_)
      (refine OpsE_do rfl ?_; (first | refine E_call rfl rfl (c54_a m s (j : Int) e L hL hc) ?_ | refine E_callfn rfl rfl (c54_a m s (j : Int) e L hL hc) ?_); refine OpsE_eq (st' := _) (by first | dsimp only [n0, n1, n2, n3, n4, n5, n6, n7, n8, n9, m0, m1, m2, m3, m4, m5, m6, m7, m8, m9, o0, o1, o2, o3, o4, ↓reduceIte] | rfl) ?_)
      refine OpsE_nil ?_
      repeat (first | refine R_seq ?_ | refine R_block ?_ | refine R_skip ?_)
      refine R_true rfl ?_
      repeat (first | refine R_seq ?_ | refine R_block ?_ | refine R_skip ?_)
      refine R_region ?_
      iterate 2 ((refine OpsE_do rfl ?_; first | refine E_loadi (ds := [_]) ag3 sz3 rfl rfl rfl rfl ?_ | refine E_loadp (ds := [_]) ag3 sz3 rfl rfl rfl rfl rfl ?_ | refine E_store (vs := [_]) sz3 rfl rfl rfl rfl rfl rfl rfl ?_); refine OpsE_eq (st' := _) (by first | dsimp only [n0, n1, n2, n3, n4, n5, n6, n7, n8, n9, m0, m1, m2, m3, m4, m5, m6, m7, m8, m9, o0, o1, o2, o3, o4, ↓reduceIte] | rfl) ?_)
      refine OpsE_nil ?_
      repeat (first | refine R_seq ?_ | refine R_block ?_ | refine R_skip ?_)
      refine R_ret ?_
      refine ⟨rfl, congrArg (fun h => (⟨h, some .ret⟩ : Go.Pm.Rnd)) ?_⟩
      show _ = (prune 9 (some []) _).heap
      rw [pruneN]
      simp only [List.take, List.map_cons, List.map_nil, purge_map]
      rfl
    · rw [hc] at hbad hnext
      have hc' := hc
      simp only [freeB, Bool.and_eq_true, Bool.not_eq_true'] at hc'
      cases hr : readOk s e
      · rw [hr] at hbad
        rw [show badE m s E j = true from hbad, if_pos rfl, hnext]
        repeat (first | refine R_seq ?_ | refine R_block ?_ | refine R_skip ?_)
        refine R_region ?_
        iterate 2 ((refine OpsE_do rfl ?_; first | refine E_loadi (ds := [_]) ag100 sz100 rfl rfl rfl rfl ?_ | refine E_loadp (ds := [_]) ag100 sz100 rfl rfl rfl rfl rfl ?_ | refine E_func rfl ?_ | refine E_closure rfl rfl rfl ?_); refine OpsE_eq (st' := _) (by first | dsimp only [n0, n1, n2, n3, n4, n5, n6, n7, n8, n9, m0, m1, m2, m3, m4, m5, m6, m7, m8, m9, o0, o1, o2, o3, o4, ↓reduceIte] | rfl) ?_)
        (refine OpsE_do rfl ?_; (first | refine E_call rfl rfl (c54_b m s (j : Int) e L hL hc'.1 hc'.2 hr) ?_ | refine E_callfn rfl rfl (c54_b m s (j : Int) e L hL hc'.1 hc'.2 hr) ?_); refine OpsE_eq (st' := _) (by first | dsimp only [n0, n1, n2, n3, n4, n5, n6, n7, n8, n9, m0, m1, m2, m3, m4, m5, m6, m7, m8, m9, o0, o1, o2, o3, o4, ↓reduceIte] | rfl) ?_)
        refine OpsE_nil ?_
        repeat (first | refine R_seq ?_ | refine R_block ?_ | refine R_skip ?_)
        refine R_true rfl ?_
        repeat (first | refine R_seq ?_ | refine R_block ?_ | refine R_skip ?_)
        refine R_region ?_
        iterate 2 ((refine OpsE_do rfl ?_; first | refine E_loadi (ds := [_]) ag3 sz3 rfl rfl rfl rfl ?_ | refine E_loadp (ds := [_]) ag3 sz3 rfl rfl rfl rfl rfl ?_ | refine E_store (vs := [_]) sz3 rfl rfl rfl rfl rfl rfl rfl ?_); refine OpsE_eq (st' := _) (by first | dsimp only [n0, n1, n2, n3, n4, n5, n6, n7, n8, n9, m0, m1, m2, m3, m4, m5, m6, m7, m8, m9, o0, o1, o2, o3, o4, ↓reduceIte] | rfl) ?_)
        refine OpsE_nil ?_
        repeat (first | refine R_seq ?_ | refine R_block ?_ | refine R_skip ?_)
        refine R_ret ?_
        refine ⟨rfl, congrArg (fun h => (⟨h, some .ret⟩ : Go.Pm.Rnd)) ?_⟩
        show _ = (prune 9 (some []) _).heap
        rw [pruneN, if_pos rfl]
        simp only [List.take, List.map_cons, List.map_nil, purge_map]
        rfl
      · rw [hr] at hbad
        rw [show badE m s E j = false from hbad]
        rw [hc'.1, if_pos rfl] at hsucc
        repeat (first | refine R_seq ?_ | refine R_block ?_ | refine R_skip ?_)
        refine R_region ?_
        iterate 2 ((refine OpsE_do rfl ?_; first | refine E_loadi (ds := [_]) ag100 sz100 rfl rfl rfl rfl ?_ | refine E_loadp (ds := [_]) ag100 sz100 rfl rfl rfl rfl rfl ?_ | refine E_func rfl ?_ | refine E_closure rfl rfl rfl ?_); refine OpsE_eq (st' := _) (by first | dsimp only [n0, n1, n2, n3, n4, n5, n6, n7, n8, n9, m0, m1, m2, m3, m4, m5, m6, m7, m8, m9, o0, o1, o2, o3, o4, ↓reduceIte] | rfl) ?_)
        (refine OpsE_do rfl ?_; (first | refine E_call rfl rfl (c54_c m s (j : Int) e L hL hc'.1 hc'.2 hr) ?_ | refine E_callfn rfl rfl (c54_c m s (j : Int) e L hL hc'.1 hc'.2 hr) ?_); refine OpsE_eq (st' := _) (by first | dsimp only [n0, n1, n2, n3, n4, n5, n6, n7, n8, n9, m0, m1, m2, m3, m4, m5, m6, m7, m8, m9, o0, o1, o2, o3, o4, ↓reduceIte] | rfl) ?_)
        refine OpsE_nil ?_
        repeat (first | refine R_seq ?_ | refine R_block ?_ | refine R_skip ?_)
        refine R_false rfl ?_
        repeat (first | refine R_seq ?_ | refine R_block ?_ | refine R_skip ?_)
        refine R_region ?_
        iterate 3 ((refine OpsE_do rfl ?_; first | refine E_loadi (ds := [_]) ag3 sz3 rfl rfl rfl rfl ?_ | refine E_loadp (ds := [_]) ag3 sz3 rfl rfl rfl rfl rfl ?_ | refine E_int rfl rfl rfl rfl ?_ | refine E_store (vs := [_]) sz3 rfl rfl rfl rfl rfl rfl rfl ?_); refine OpsE_eq (st' := _) (by first | dsimp only [n0, n1, n2, n3, n4, n5, n6, n7, n8, n9, m0, m1, m2, m3, m4, m5, m6, m7, m8, m9, o0, o1, o2, o3, o4, ↓reduceIte] | rfl) ?_)
        refine OpsE_nil ?_
        refine ⟨rfl, congrArg (fun h => (⟨h, none⟩ : Go.Pm.Rnd)) ?_⟩
        show _ = (prune 9 (some []) _).heap
        rw [pruneN, hsucc]
        simp only [List.take, List.map_cons, List.map_nil, purge_map]
        rw [wrap_succ (by omega)]
        rfl
  · obtain ⟨rfl, rfl⟩ := hN hall
    rw [List.take_length]
    repeat (first | refine R_seq ?_ | refine R_block ?_ | refine R_skip ?_)
    refine R_region ?_
    (refine OpsE_do rfl ?_; refine E_store (vs := [_]) sz3 rfl rfl rfl rfl rfl rfl rfl ?_; refine OpsE_eq (st' := _) (by first | dsimp only [n0, n1, n2, n3, n4, n5, n6, n7, n8, n9, m0, m1, m2, m3, m4, m5, m6, m7, m8, m9, o0, o1, o2, o3, o4, ↓reduceIte] | rfl) ?_)
    refine OpsE_nil ?_
    repeat (first | refine R_seq ?_ | refine R_block ?_ | refine R_skip ?_)
    refine R_ret ?_
    exact ⟨trivial, _, rfl, rfl, rfl⟩
  · obtain ⟨rfl, rfl⟩ := hR q hq hqb hql
    exact ⟨trivial, _, rfl, rfl, rfl⟩
theorem c42 (l : List Nst) (m : Nat) (s : List Int) (hS : ∀ n ∈ l, SmallN n) (hl : l.length ≤ 1000) (hm : m ≤ 1000) :
    ∃ H', PC prog env 42 [.dat (nestsD l), .arr 5 0 2 2] [.box [.dat (intD 0), .dat (intD 0), .dat (intD 0), .dat (intD 0)], .box [.dat (intD m)], .box ((List.replicate m false).map fun m => .dat (boolD m)), .box [.arr 2 0 m m], .box [.dat (intsD s)], .box [.fn 56 [.ptr 1 0, .ptr 3 0], .fn 57 [.ptr 4 0]]] (intPV (firstI (badE m s (eventsL l)) (eventsL l).length)) (.box [.dat (intD 0), .dat (intD 0), .dat (intD 0), .dat (intD 0)] :: H') := by
  by_cases hx : ∃ q, q < (eventsL l).length ∧ badE m s (eventsL l) q = true ∧ ∀ j, j < q → badE m s (eventsL l) j = false
  · obtain ⟨q, hq, hqb, hql⟩ := hx
    rw [firstI_some hq hqb hql]
    refine ⟨_, c42_gen l m s hS hl hm _ rfl [.box [.dat (intD 0), .dat (intD 0), .dat (intD 0), .dat (intD 0)], .box [.dat (intD m)], .box ((nextW m (eventsL l) (q + 1)).map fun m => .dat (boolD m)), .box [.arr 2 0 m m], .box [.dat (intsD s)], .box [.fn 56 [.ptr 1 0, .ptr 3 0], .fn 57 [.ptr 4 0]], .box [.arr 5 0 2 2], .box [.dat (intD (q : Int))], .box [.dat (intD (q : Int))]] _ (fun hall => ?_) (fun q' h1 h2 h3 => ?_)⟩
    · have := hall q hq
      rw [hqb] at this; cases this
    · have : q' = q := by
        by_cases h4 : q' < q
        · rw [hql q' h4] at h2; cases h2
        · by_cases h5 : q < q'
          · rw [h3 q h5] at hqb; cases hqb
          · omega
      subst this
      exact ⟨rfl, rfl⟩
  · have hall : ∀ j, j < (eventsL l).length → badE m s (eventsL l) j = false := by
      intro j
      induction j using Nat.strongRecOn with
      | ind j ih =>
        intro hj
        cases hp : badE m s (eventsL l) j with
        | false => rfl
        | true => exact absurd ⟨j, hj, hp, fun k hk => ih k hk (by omega)⟩ hx
    rw [firstI_none hall]
    exact ⟨_, c42_gen l m s hS hl hm _ rfl [.box [.dat (intD 0), .dat (intD 0), .dat (intD 0), .dat (intD 0)], .box [.dat (intD m)], .box ((writL m (eventsL l)).map fun m => .dat (boolD m)), .box [.arr 2 0 m m], .box [.dat (intsD s)], .box [.fn 56 [.ptr 1 0, .ptr 3 0], .fn 57 [.ptr 4 0]], .box [.arr 5 0 2 2], .box [.dat (intD (-1))], .box [.dat (intD (eventsL l).length)]] _ (fun _ => ⟨rfl, rfl⟩) (fun q h1 h2 _ => by rw [hall q h1] at h2; cases h2)⟩
end Go.Proofs.Try
