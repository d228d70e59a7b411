/-
  Seat a: comparing lists of events; collecting events.
-/
import Derived.Test.YtbknblppjhfkmaaA10
import Derived.Test.YtbknblppjhfkmaaPmEq
namespace Go.Proofs.Try
open Go Go.Pm
set_option linter.unusedVariables false
set_option linter.unusedSimpArgs false
set_option maxRecDepth 2000

theorem evt_seq (e e' : Evt) : SEq prog 37 #[.int .i64 e.write, .bool e.fill, .int .i64 e.buffer, .int .i64 e.offset] #[.int .i64 e'.write, .bool e'.fill, .int .i64 e'.buffer, .int .i64 e'.offset] (decide (e = e')) := by
  have h : SEq prog 37 #[.int .i64 e.write, .bool e.fill, .int .i64 e.buffer, .int .i64 e.offset] #[.int .i64 e'.write, .bool e'.fill, .int .i64 e'.buffer, .int .i64 e'.offset] ((e.write == e'.write) && ((e.fill == e'.fill) && ((e.buffer == e'.buffer) && ((e.offset == e'.offset) && true)))) :=
    SEq_of (fs := prog.fieldsOf 37) (by kernel_rfl) (by kernel_rfl) (by kernel_rfl) (by kernel_rfl)
  have e1 : ((e.write == e'.write) && ((e.fill == e'.fill) && ((e.buffer == e'.buffer) && ((e.offset == e'.offset) && true)))) = decide (e = e') := by
    rw [Bool.eq_iff_iff]
    cases e; cases e'
    simp
  rw [← e1]; exact h

theorem c13 (a b : List Evt) (H : List Blk) (ha : a.length ≤ 1048576) : PC prog env 13 [.dat (evtsD a), .dat (evtsD b)] H (boolPV (decide (a = b))) H := by
  refine PC_pure (fn := f13) (by kernel_rfl) rfl rfl (by kernel_rfl) rfl rfl ?_ (by simp [PV.lends])
  refine R_eq (st' := ⟨[.dat (evtsD a), .dat (evtsD b), .tup [], .tup [], .tup [], .tup [], .tup [], .tup [], .tup [], .tup [], .tup [], .tup [], .tup [], .tup [], .tup [], .tup [], .tup [], .tup [], .tup [], .tup [], .tup [], .tup [], .tup [], .tup [], .tup [], .tup []], []⟩) rfl ?_
  repeat (first | refine R_seq ?_ | refine R_block ?_ | refine R_skip ?_)
  refine R_region ?_
  (refine OpsE_do rfl ?_; refine E_assign rfl rfl ?_; refine OpsE_eq (st' := _) (by first | dsimp only [n0, n1, n2, n3, n4, n5, n6, n7, n8, n9, m0, m1, m2, m3, m4, m5, m6, m7, m8, m9, o0, o1, o2, o3, o4, ↓reduceIte] | rfl) ?_)
  refine OpsE_nil ?_
  repeat (first | refine R_seq ?_ | refine R_block ?_ | refine R_skip ?_)
  refine R_region ?_
  iterate 5 ((refine OpsE_do rfl ?_; first | refine E_move rfl ?_ | refine E_len un28 rfl rfl ?_ | refine E_len un25 rfl rfl ?_ | refine E_int rfl rfl rfl rfl ?_); refine OpsE_eq (st' := _) (by first | dsimp only [n0, n1, n2, n3, n4, n5, n6, n7, n8, n9, m0, m1, m2, m3, m4, m5, m6, m7, m8, m9, o0, o1, o2, o3, o4, ↓reduceIte] | rfl) ?_)
  refine OpsE_nil ?_
  repeat (first | refine R_seq ?_ | refine R_block ?_ | refine R_skip ?_)
  refine R_cond rfl (fun h => ?_) (fun h => ?_)
  · have h' : a.length ≠ b.length := by simp at h; omega
    repeat (first | refine R_seq ?_ | refine R_block ?_ | refine R_skip ?_)
    refine R_region ?_
    (refine OpsE_do rfl ?_; refine E_assign rfl rfl ?_; refine OpsE_eq (st' := _) (by first | dsimp only [n0, n1, n2, n3, n4, n5, n6, n7, n8, n9, m0, m1, m2, m3, m4, m5, m6, m7, m8, m9, o0, o1, o2, o3, o4, ↓reduceIte] | rfl) ?_)
    refine OpsE_nil ?_
    repeat (first | refine R_seq ?_ | refine R_block ?_ | refine R_skip ?_)
    refine R_ret ?_
    refine ⟨trivial, _, rfl, ?_⟩
    rw [show decide (a = b) = false from decide_eq_false (fun e => h' (by rw [e]))]
    rfl
  · have h' : a.length = b.length := by simp at h; omega
    repeat (first | refine R_seq ?_ | refine R_block ?_ | refine R_skip ?_)
    refine R_region ?_
    (refine OpsE_do rfl ?_; refine E_assign rfl rfl ?_; refine OpsE_eq (st' := _) (by first | dsimp only [n0, n1, n2, n3, n4, n5, n6, n7, n8, n9, m0, m1, m2, m3, m4, m5, m6, m7, m8, m9, o0, o1, o2, o3, o4, ↓reduceIte] | rfl) ?_)
    refine OpsE_nil ?_
    repeat (first | refine R_seq ?_ | refine R_block ?_ | refine R_skip ?_)
    refine R_loop ?_
    refine RL_ind (fun (j : Nat) => ⟨[.dat (evtsD a), .dat (evtsD b), .undef, .undef, .undef, intPV (j : Int), .undef, .undef, .undef, .undef, .undef, .undef, .undef, .undef, .undef, .undef, .undef, .undef, .undef, .undef, .undef, .undef, .undef, .undef, .undef, .undef], []⟩)
      (fun j => j ≤ a.length ∧ a.take j = b.take j) (fun j => a.length - j) (fun j hj => ?_) _ 0 _ (Nat.lt_succ_self _) ⟨Nat.zero_le _, rfl⟩ rfl
    obtain ⟨hj, ht⟩ := hj
    repeat (first | refine R_seq ?_ | refine R_block ?_ | refine R_skip ?_)
    refine R_region ?_
    iterate 4 ((refine OpsE_do rfl ?_; first | refine E_move rfl ?_ | refine E_len un28 rfl rfl ?_ | refine E_int rfl rfl rfl rfl ?_); refine OpsE_eq (st' := _) (by first | dsimp only [n0, n1, n2, n3, n4, n5, n6, n7, n8, n9, m0, m1, m2, m3, m4, m5, m6, m7, m8, m9, o0, o1, o2, o3, o4, ↓reduceIte] | rfl) ?_)
    refine OpsE_nil ?_
    repeat (first | refine R_seq ?_ | refine R_block ?_ | refine R_skip ?_)
    refine R_if rfl (fun h => ?_) (fun h => ?_)
    · have hj' : j < a.length := by simpa using h
      have hjb : j < b.length := by omega
      repeat (first | refine R_seq ?_ | refine R_block ?_ | refine R_skip ?_)
      refine R_draw ?_
      iterate 2 ((refine DrawE_do rfl ?_; refine E_move rfl ?_); refine DrawE_eq (st' := _) (by first | dsimp only [n0, n1, n2, n3, n4, n5, n6, n7, n8, n9, m0, m1, m2, m3, m4, m5, m6, m7, m8, m9, o0, o1, o2, o3, o4, ↓reduceIte] | rfl) ?_)
      (refine DrawE_do rfl ?_; (first | refine E_index el28 sz36 rfl rfl rfl rfl (evts_get hj') rfl ?_ | refine E_index0 el28 sz36 rfl rfl rfl rfl (evts_get hj') ?_ | refine E_indexArr el28 sz36 rfl rfl rfl rfl (evts_get hj') ?_); refine DrawE_eq (st' := _) (by first | dsimp only [n0, n1, n2, n3, n4, n5, n6, n7, n8, n9, m0, m1, m2, m3, m4, m5, m6, m7, m8, m9, o0, o1, o2, o3, o4, ↓reduceIte] | rfl) ?_)
      iterate 3 ((refine DrawE_do rfl ?_; first | refine E_loadi (ds := [_, _, _, _]) (d := .agg [_, _, _, _]) ag36 sz36 rfl rfl rfl rfl ?_ | refine E_loadp (ds := [_, _, _, _]) (v := .dat (.agg [_, _, _, _])) ag36 sz36 rfl rfl rfl rfl rfl ?_ | refine E_loadp (ds := [_, _, _, _]) (v := .agg [_, _, _, _]) ag36 sz36 rfl rfl rfl rfl rfl ?_ | refine E_move rfl ?_); refine DrawE_eq (st' := _) (by first | dsimp only [n0, n1, n2, n3, n4, n5, n6, n7, n8, n9, m0, m1, m2, m3, m4, m5, m6, m7, m8, m9, o0, o1, o2, o3, o4, ↓reduceIte] | rfl) ?_)
      (refine DrawE_do rfl ?_; (first | refine E_index el25 sz37 rfl rfl rfl rfl (evts_get hjb) rfl ?_ | refine E_index0 el25 sz37 rfl rfl rfl rfl (evts_get hjb) ?_ | refine E_indexArr el25 sz37 rfl rfl rfl rfl (evts_get hjb) ?_); refine DrawE_eq (st' := _) (by first | dsimp only [n0, n1, n2, n3, n4, n5, n6, n7, n8, n9, m0, m1, m2, m3, m4, m5, m6, m7, m8, m9, o0, o1, o2, o3, o4, ↓reduceIte] | rfl) ?_)
      (refine DrawE_do rfl ?_; (first | refine E_loadi (ds := [_, _, _, _]) (d := .agg [_, _, _, _]) ag37 sz37 rfl rfl rfl rfl ?_ | refine E_loadp (ds := [_, _, _, _]) (v := .dat (.agg [_, _, _, _])) ag37 sz37 rfl rfl rfl rfl rfl ?_ | refine E_loadp (ds := [_, _, _, _]) (v := .agg [_, _, _, _]) ag37 sz37 rfl rfl rfl rfl rfl ?_); refine DrawE_eq (st' := _) (by first | dsimp only [n0, n1, n2, n3, n4, n5, n6, n7, n8, n9, m0, m1, m2, m3, m4, m5, m6, m7, m8, m9, o0, o1, o2, o3, o4, ↓reduceIte] | rfl) ?_)
      (refine DrawE_do rfl ?_; refine E_neqS rfl rfl rfl (evt_seq a[j] b[j]) ?_; refine DrawE_eq (st' := _) (by first | dsimp only [n0, n1, n2, n3, n4, n5, n6, n7, n8, n9, m0, m1, m2, m3, m4, m5, m6, m7, m8, m9, o0, o1, o2, o3, o4, ↓reduceIte] | rfl) ?_)
      refine DrawE_nil ⟨by kernel_rfl, ?_⟩
      repeat (first | refine R_seq ?_ | refine R_block ?_ | refine R_skip ?_)
      refine R_cond rfl (fun hne => ?_) (fun hne => ?_)
      · have hne' : a[j] ≠ b[j] := by simpa using hne
        repeat (first | refine R_seq ?_ | refine R_block ?_ | refine R_skip ?_)
        refine R_region ?_
        (refine OpsE_do rfl ?_; refine E_assign rfl rfl ?_; refine OpsE_eq (st' := _) (by first | dsimp only [n0, n1, n2, n3, n4, n5, n6, n7, n8, n9, m0, m1, m2, m3, m4, m5, m6, m7, m8, m9, o0, o1, o2, o3, o4, ↓reduceIte] | rfl) ?_)
        refine OpsE_nil ?_
        repeat (first | refine R_seq ?_ | refine R_block ?_ | refine R_skip ?_)
        refine R_ret ?_
        refine ⟨trivial, _, rfl, ?_⟩
        rw [show decide (a = b) = false from decide_eq_false (fun e => hne' (by subst e; rfl))]
        rfl
      · have hne' : a[j] = b[j] := by simpa using hne
        repeat (first | refine R_seq ?_ | refine R_block ?_ | refine R_skip ?_)
        refine R_region ?_
        iterate 3 ((refine OpsE_do rfl ?_; first | refine E_move rfl ?_ | refine E_int rfl rfl rfl rfl ?_ | refine E_assign rfl rfl ?_); refine OpsE_eq (st' := _) (by first | dsimp only [n0, n1, n2, n3, n4, n5, n6, n7, n8, n9, m0, m1, m2, m3, m4, m5, m6, m7, m8, m9, o0, o1, o2, o3, o4, ↓reduceIte] | rfl) ?_)
        refine OpsE_nil ?_
        refine ⟨j + 1, ?_, by omega, by omega, ?_⟩
        · rw [wrap_succ (by omega)]
          rfl
        · rw [List.take_succ_eq_append_getElem hj', List.take_succ_eq_append_getElem hjb, ht, hne']
    · have hj' : j = a.length := by simp at h; omega
      subst hj'
      repeat (first | refine R_seq ?_ | refine R_block ?_ | refine R_skip ?_)
      refine R_exit ?_
      repeat (first | refine R_seq ?_ | refine R_block ?_ | refine R_skip ?_)
      refine R_region ?_
      (refine OpsE_do rfl ?_; refine E_assign rfl rfl ?_; refine OpsE_eq (st' := _) (by first | dsimp only [n0, n1, n2, n3, n4, n5, n6, n7, n8, n9, m0, m1, m2, m3, m4, m5, m6, m7, m8, m9, o0, o1, o2, o3, o4, ↓reduceIte] | rfl) ?_)
      refine OpsE_nil ?_
      repeat (first | refine R_seq ?_ | refine R_block ?_ | refine R_skip ?_)
      refine R_ret ?_
      refine ⟨trivial, _, rfl, ?_⟩
      rw [List.take_length, h', List.take_length] at ht
      rw [decide_eq_true ht]
      rfl

theorem c34E {σ : Type} {Y : Nat → Nat → List Dat → σ → Option (Bool × σ)} (l : List Nst) (es : Nat → List Evt) (E : List Evt) (hE : (List.range l.length).flatMap es = E) (hl : l.length ≤ 1048576) (hn : ∀ j (h : j < l.length), GoesTo l[j] (es j)) (fin s : σ)
    (hF : Fed Y fin (E.map Evt.toD) s) :
    ∀ c, f34.body = some c → IR prog env Y (env.hint 34) c ⟨⟨.undef :: [.iptr [nestsD l]] ++ List.replicate (f34.ntmps - ([PV.iptr [nestsD l]].length + 1)) (.tup []), []⟩, [0], s⟩ fun e is => (match e with | .exit _ => False | _ => True) ∧ is.out = fin := by
  subst hE; exact c34 l es hl hn fin s hF
/-- the body of 'events' appends each event -/
theorem c14 (l : List Nst) (es : Nat → List Evt) (H : List Blk) (hl : l.length ≤ 1048576) (hn : ∀ j (h : j < l.length), GoesTo l[j] (es j)) (hb : ((List.range l.length).flatMap es).length ≤ 1000000) :
    PC prog env 14 [.dat (nestsD l)] H (.dat (evtsD ((List.range l.length).flatMap es))) H := by
  refine PC_pure (fn := f14) (by kernel_rfl) rfl rfl (by kernel_rfl) rfl rfl ?_ (by simp [PV.lends])
  refine R_eq (st' := ⟨[.dat (nestsD l), .tup [], .tup [], .tup [], .tup [], .tup [], .tup [], .tup [], .tup [], .tup [], .tup [], .tup [], .tup [], .tup [], .tup [], .tup [], .tup []], []⟩) rfl ?_
  repeat (first | refine R_seq ?_ | refine R_block ?_ | refine R_skip ?_)
  refine R_region ?_
  (refine OpsE_do rfl ?_; refine E_assign rfl rfl ?_; refine OpsE_eq (st' := _) (by first | dsimp only [n0, n1, n2, n3, n4, n5, n6, n7, n8, n9, m0, m1, m2, m3, m4, m5, m6, m7, m8, m9, o0, o1, o2, o3, o4, ↓reduceIte] | rfl) ?_)
  refine OpsE_nil ?_
  repeat (first | refine R_seq ?_ | refine R_block ?_ | refine R_skip ?_)
  refine R_region ?_
  (refine OpsE_do rfl ?_; refine E_alloc (cs := [_]) ze28 rfl rfl ?_; refine OpsE_eq (st' := _) (by first | dsimp only [n0, n1, n2, n3, n4, n5, n6, n7, n8, n9, m0, m1, m2, m3, m4, m5, m6, m7, m8, m9, o0, o1, o2, o3, o4, ↓reduceIte] | rfl) ?_)
  refine OpsE_nil ?_
  repeat (first | refine R_seq ?_ | refine R_block ?_ | refine R_skip ?_)
  refine R_region ?_
  (refine OpsE_do rfl ?_; refine E_move rfl ?_; refine OpsE_eq (st' := _) (by first | dsimp only [n0, n1, n2, n3, n4, n5, n6, n7, n8, n9, m0, m1, m2, m3, m4, m5, m6, m7, m8, m9, o0, o1, o2, o3, o4, ↓reduceIte] | rfl) ?_)
  (refine OpsE_do rfl ?_; (first | refine E_call rfl rfl rfl (c16 l _) ?_ | refine E_callfn rfl rfl rfl (c16 l _) ?_); refine OpsE_eq (st' := _) (by first | dsimp only [n0, n1, n2, n3, n4, n5, n6, n7, n8, n9, m0, m1, m2, m3, m4, m5, m6, m7, m8, m9, o0, o1, o2, o3, o4, ↓reduceIte] | rfl) ?_)
  (refine OpsE_do rfl ?_; refine E_assign rfl rfl ?_; refine OpsE_eq (st' := _) (by first | dsimp only [n0, n1, n2, n3, n4, n5, n6, n7, n8, n9, m0, m1, m2, m3, m4, m5, m6, m7, m8, m9, o0, o1, o2, o3, o4, ↓reduceIte] | rfl) ?_)
  refine OpsE_nil ?_
  repeat (first | refine R_seq ?_ | refine R_block ?_ | refine R_skip ?_)
  refine R_region ?_
  (refine OpsE_do rfl ?_; refine E_move rfl ?_; refine OpsE_eq (st' := _) (by first | dsimp only [n0, n1, n2, n3, n4, n5, n6, n7, n8, n9, m0, m1, m2, m3, m4, m5, m6, m7, m8, m9, o0, o1, o2, o3, o4, ↓reduceIte] | rfl) ?_)
  (refine OpsE_do rfl ?_; refine E_fnNil (b := false) rfl rfl rfl (by kernel_rfl) ?_; refine OpsE_eq (st' := _) (by first | dsimp only [n0, n1, n2, n3, n4, n5, n6, n7, n8, n9, m0, m1, m2, m3, m4, m5, m6, m7, m8, m9, o0, o1, o2, o3, o4, ↓reduceIte] | rfl) ?_)
  refine OpsE_nil ?_
  repeat (first | refine R_seq ?_ | refine R_block ?_ | refine R_skip ?_)
  refine R_false rfl ?_
  repeat (first | refine R_seq ?_ | refine R_block ?_ | refine R_skip ?_)
  refine R_region ?_
  (refine OpsE_do rfl ?_; refine E_move rfl ?_; refine OpsE_eq (st' := _) (by first | dsimp only [n0, n1, n2, n3, n4, n5, n6, n7, n8, n9, m0, m1, m2, m3, m4, m5, m6, m7, m8, m9, o0, o1, o2, o3, o4, ↓reduceIte] | rfl) ?_)
  refine OpsE_nil ?_
  repeat (first | refine R_seq ?_ | refine R_block ?_ | refine R_skip ?_)
  refine R_range (fn := f34) rfl (by kernel_rfl) (by kernel_rfl) rfl rfl ?_
  generalize hE : (List.range l.length).flatMap es = E at hb
  refine (c34E l es E hE hl hn _ _ (Fed_all Evt.toD (fun j => (⟨[.box [.vec 1 ((E.take j).map Evt.toD)], .tok 36 ((E.take j).map Evt.toD).length], none⟩ : Go.Pm.Rnd)) E (fun j hj => YE_round rfl ?_)) _ rfl).mono (fun e is h => ⟨h.1, ?_⟩)
  · repeat (first | refine R_seq ?_ | refine R_block ?_ | refine R_skip ?_)
    refine R_region ?_
    iterate 2 ((refine OpsE_do rfl ?_; first | refine E_alloc (cs := [_, _, _, _]) ze36 rfl rfl ?_ | refine E_store (vs := [_, _, _, _]) sz36 rfl rfl rfl rfl rfl rfl rfl ?_); refine OpsE_eq (st' := _) (by first | dsimp only [n0, n1, n2, n3, n4, n5, n6, n7, n8, n9, m0, m1, m2, m3, m4, m5, m6, m7, m8, m9, o0, o1, o2, o3, o4, ↓reduceIte] | rfl) ?_)
    refine OpsE_nil ?_
    refine ⟨rfl, ?_⟩
    repeat (first | refine R_seq ?_ | refine R_block ?_ | refine R_skip ?_)
    refine R_region ?_
    iterate 3 ((refine OpsE_do rfl ?_; first | refine E_loadi (ds := [_]) ag28 sz28 rfl rfl rfl rfl ?_ | refine E_loadp (ds := [_]) ag28 sz28 rfl rfl rfl rfl rfl ?_ | refine E_loadi (ds := [_, _, _, _]) (d := .agg [_, _, _, _]) ag36 sz36 rfl rfl rfl rfl ?_ | refine E_loadp (ds := [_, _, _, _]) (v := .dat (.agg [_, _, _, _])) ag36 sz36 rfl rfl rfl rfl rfl ?_ | refine E_loadp (ds := [_, _, _, _]) (v := .agg [_, _, _, _]) ag36 sz36 rfl rfl rfl rfl rfl ?_ | refine E_list el28 sz36 zi36 rfl rfl rfl ⟨rfl, rfl⟩ rfl ⟨by decide, by decide⟩ rfl ?_); refine OpsE_eq (st' := _) (by first | dsimp only [n0, n1, n2, n3, n4, n5, n6, n7, n8, n9, m0, m1, m2, m3, m4, m5, m6, m7, m8, m9, o0, o1, o2, o3, o4, ↓reduceIte] | rfl) ?_)
    (refine OpsE_do rfl ?_; refine E_append el28 sz36 by36 zn36 ⟨by decide, by decide⟩ rfl rfl rfl rfl rfl (evts_fit _) rfl (by simp [room]; omega) ?_; refine OpsE_eq (st' := _) (by first | dsimp only [n0, n1, n2, n3, n4, n5, n6, n7, n8, n9, m0, m1, m2, m3, m4, m5, m6, m7, m8, m9, o0, o1, o2, o3, o4, ↓reduceIte] | rfl) ?_)
    (refine OpsE_do rfl ?_; refine E_store (vs := [_]) sz28 rfl rfl rfl rfl rfl rfl rfl ?_; refine OpsE_eq (st' := _) (by first | dsimp only [n0, n1, n2, n3, n4, n5, n6, n7, n8, n9, m0, m1, m2, m3, m4, m5, m6, m7, m8, m9, o0, o1, o2, o3, o4, ↓reduceIte] | rfl) ?_)
    refine OpsE_nil ?_
    refine ⟨rfl, ?_⟩
    rw [List.take_succ_eq_append_getElem hj, List.map_append, List.length_append]
    rfl
  · rw [h.2]
    repeat (first | refine R_seq ?_ | refine R_block ?_ | refine R_skip ?_)
    refine R_region ?_
    iterate 2 ((refine OpsE_do rfl ?_; first | refine E_loadi (ds := [_]) ag28 sz28 rfl rfl rfl rfl ?_ | refine E_loadp (ds := [_]) ag28 sz28 rfl rfl rfl rfl rfl ?_ | refine E_assign rfl rfl ?_); refine OpsE_eq (st' := _) (by first | dsimp only [n0, n1, n2, n3, n4, n5, n6, n7, n8, n9, m0, m1, m2, m3, m4, m5, m6, m7, m8, m9, o0, o1, o2, o3, o4, ↓reduceIte] | rfl) ?_)
    refine OpsE_nil ?_
    repeat (first | refine R_seq ?_ | refine R_block ?_ | refine R_skip ?_)
    refine R_ret ?_
    refine ⟨trivial, _, rfl, ?_⟩
    rw [List.take_length]
    rfl
end Go.Proofs.Try
