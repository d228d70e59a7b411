/-
  Seat a: the iterator over the events.
-/
import Derived.Test.YtbknblppjhfkmaaA9
import Derived.Test.YtbknblppjhfkmaaPmIt
namespace Go.Proofs.Try
open Go Go.Pm
set_option linter.unusedVariables false
set_option linter.unusedSimpArgs false
set_option maxRecDepth 2000

/-- the sums after the next round -/
def accW (n : Nst) (a : Int) (q : Nat) : Int := if n.read.kind = 1 then a else moved n.dims n.read.strides a q
/-- the events of a nest's rounds from these numbers and sums on -/
inductive Rounds (n : Nst) : List Int → Int → Int → List Evt → Prop
  | last {js : List Int} {w a : Int} : (nextFrom n.dims n.dims.length js).2.2 = false → Rounds n js w a [eventC n w a]
  | more {js : List Int} {w a : Int} {q : Nat} {es : List Evt} : q < n.dims.length → (nextFrom n.dims n.dims.length js).2.2 = true → (nextFrom n.dims n.dims.length js).2.1 = (q : Int) → Rounds n (nextFrom n.dims n.dims.length js).1 (moved n.dims n.steps w q) (accW n a q) es → Rounds n js w a (eventC n w a :: es)
/-- what the iterator asks of a nest: its shape, and its events -/
structure GoesTo (n : Nst) (es : List Evt) : Prop where
  dims : n.dims.length ≤ 1048576
  steps : n.steps.length = n.dims.length
  strides : n.read.kind ≠ 1 → n.read.strides.length = n.dims.length
  mod : n.read.kind = 3 → n.read.mod ≠ 0
  rounds : Rounds n (List.replicate n.dims.length 0) n.write (at0 n) es

theorem prune4 {keep : Option (List Nat)} {ks : List Nat} {s : List PV} {b0 b1 b2 b3 : Blk} (h : keep = some ks) : prune 4 keep ⟨s, [b0, b1, b2, b3]⟩ =
    ⟨keepS [b0, b1, b2, b3] 4 ks 0 s, [purgeB [b0, b1, b2, b3] 4 b0, purgeB [b0, b1, b2, b3] 4 b1, purgeB [b0, b1, b2, b3] 4 b2, purgeB [b0, b1, b2, b3] 4 b3]⟩ := by
  subst h; rfl
theorem prune46 {keep : Option (List Nat)} {ks : List Nat} {s : List PV} {b0 b1 b2 b3 b4 b5 : Blk} (h : keep = some ks) : prune 4 keep ⟨s, [b0, b1, b2, b3, b4, b5]⟩ =
    ⟨keepS [b0, b1, b2, b3, b4, b5] 4 ks 0 s, [purgeB [b0, b1, b2, b3, b4, b5] 4 b0, purgeB [b0, b1, b2, b3, b4, b5] 4 b1, purgeB [b0, b1, b2, b3, b4, b5] 4 b2, purgeB [b0, b1, b2, b3, b4, b5] 4 b3]⟩ := by
  subst h; rfl

theorem ISt_eq {σ : Type} {s s' : St} {y y' : List Tmp} {o : σ} (h : s = s') (hy : y = y') : (⟨s, y, o⟩ : ISt σ) = ⟨s', y', o⟩ := by rw [h, hy]
variable {σ : Type} {Y : Nat → Nat → List Dat → σ → Option (Bool × σ)}
theorem c34 (l : List Nst) (es : Nat → List Evt) (hl : l.length ≤ 1048576) (hn : ∀ j (h : j < l.length), GoesTo l[j] (es j)) (fin s : σ)
    (hF : Fed Y fin (((List.range l.length).flatMap es).map Evt.toD) s) :
    ∀ c, f34.body = some c → IR prog env Y (env.hint 34) c ⟨⟨.undef :: [.iptr [nestsD l]] ++ List.replicate (f34.ntmps - ([PV.iptr [nestsD l]].length + 1)) (.tup []), []⟩, [0], s⟩ fun e is => (match e with | .exit _ => False | _ => True) ∧ is.out = fin := by
  refine IR_code rfl ?_
  refine IR_eq (is' := ⟨⟨[.undef, .iptr [nestsD l], .tup [], .tup [], .tup [], .tup [], .tup [], .tup [], .tup [], .tup [], .tup [], .tup [], .tup [], .tup [], .tup [], .tup [], .tup [], .tup [], .tup [], .tup [], .tup [], .tup [], .tup [], .tup []], []⟩, [0], s⟩) rfl ?_
  repeat (first | refine IR_seq ?_ | refine IR_block ?_ | refine IR_skip ?_)
  refine IR_region ?_
  iterate 3 ((refine IOps_do (fun _ _ => rfl) rfl ?_; first | refine E_loadi (ds := [_]) ag30 sz30 rfl rfl rfl rfl ?_ | refine E_loadp (ds := [_]) ag30 sz30 rfl rfl rfl rfl rfl ?_ | refine E_len un30 rfl rfl ?_ | refine E_move rfl ?_); refine IOps_eq (is' := _) (by first | dsimp only [n0, n1, n2, n3, n4, n5, n6, n7, n8, n9, m0, m1, m2, m3, m4, m5, m6, m7, m8, m9, o0, o1, o2, o3, o4, ↓reduceIte] | rfl) ?_)
  refine IOps_nil ?_
  repeat (first | refine IR_seq ?_ | refine IR_block ?_ | refine IR_skip ?_)
  refine IR_loop ?_
  refine IRL_ind (fun (x : Nat × σ) => ⟨⟨[.undef, .undef, .undef, .undef, .undef, .undef, .undef, .dat (nestsD l), intPV (l.map Nst.toD).length, intPV (x.1 : Int), .undef, .undef, .undef, .undef, .undef, .undef, .undef, .undef, .undef, .undef, .undef, .undef, .undef, .undef], []⟩, [0], x.2⟩)
    (fun x => x.1 ≤ l.length ∧ Fed Y fin (((List.range' x.1 (l.length - x.1)).flatMap es).map Evt.toD) x.2) (fun x => l.length - x.1) (fun x hx => ?_) _ (0, s) _ (Nat.lt_succ_self _) ⟨Nat.zero_le _, by rw [Nat.sub_zero, ← List.range_eq_range']; exact hF⟩ rfl
  obtain ⟨j, s⟩ := x
  obtain ⟨hj, hF⟩ := hx
  simp only at hj hF
  repeat (first | refine IR_seq ?_ | refine IR_block ?_ | refine IR_skip ?_)
  refine IR_region ?_
  (refine IOps_do (fun _ _ => rfl) rfl ?_; (first | refine E_int rfl rfl rfl rfl ?_ | refine E_bin rfl rfl rfl rfl ?_); refine IOps_eq (is' := _) (by first | dsimp only [n0, n1, n2, n3, n4, n5, n6, n7, n8, n9, m0, m1, m2, m3, m4, m5, m6, m7, m8, m9, o0, o1, o2, o3, o4, ↓reduceIte] | rfl) ?_)
  refine IOps_nil ?_
  repeat (first | refine IR_seq ?_ | refine IR_block ?_ | refine IR_skip ?_)
  refine IR_if rfl (fun h => ?_) (fun h => ?_)
  · have hj' : j < l.length := by simpa using h
    have hg := hn j hj'
    rw [show l.length - j = (l.length - (j + 1)) + 1 by omega, List.range'_succ, List.flatMap_cons, List.map_append] at hF
    generalize hrest : ((List.range' (j + 1) (l.length - (j + 1))).flatMap es).map Evt.toD = rest at hF
    repeat (first | refine IR_seq ?_ | refine IR_block ?_ | refine IR_skip ?_)
    refine IR_region ?_
    (refine IOps_do (fun _ _ => rfl) rfl ?_; (first | refine E_index el30 sz53 rfl rfl rfl rfl (nests_get hj') rfl ?_ | refine E_index0 el30 sz53 rfl rfl rfl rfl (nests_get hj') ?_ | refine E_indexArr el30 sz53 rfl rfl rfl rfl (nests_get hj') ?_); refine IOps_eq (is' := _) (by first | dsimp only [n0, n1, n2, n3, n4, n5, n6, n7, n8, n9, m0, m1, m2, m3, m4, m5, m6, m7, m8, m9, o0, o1, o2, o3, o4, ↓reduceIte] | rfl) ?_)
    iterate 3 ((refine IOps_do (fun _ _ => rfl) rfl ?_; first | refine E_loadi (ds := [_, _, _, _, _, _, _, _, _, _]) (d := .agg [_, _, _, _, _, _, _, _, _, _]) ag53 sz53 rfl rfl rfl rfl ?_ | refine E_loadp (ds := [_, _, _, _, _, _, _, _, _, _]) (v := .dat (.agg [_, _, _, _, _, _, _, _, _, _])) ag53 sz53 rfl rfl rfl rfl rfl ?_ | refine E_loadp (ds := [_, _, _, _, _, _, _, _, _, _]) (v := .agg [_, _, _, _, _, _, _, _, _, _]) ag53 sz53 rfl rfl rfl rfl rfl ?_ | refine E_alloc (cs := [_, _, _, _, _, _, _, _, _, _]) ze53 rfl rfl ?_ | refine E_store (vs := [_, _, _, _, _, _, _, _, _, _]) sz53 rfl rfl rfl rfl rfl rfl rfl ?_); refine IOps_eq (is' := _) (by first | dsimp only [n0, n1, n2, n3, n4, n5, n6, n7, n8, n9, m0, m1, m2, m3, m4, m5, m6, m7, m8, m9, o0, o1, o2, o3, o4, ↓reduceIte] | rfl) ?_)
    refine IOps_nil ?_
    generalize l[j] = n at hg
    generalize es j = esj at hg hF
    obtain ⟨g1, g2, g3, g4, g5⟩ := hg
    repeat (first | refine IR_seq ?_ | refine IR_block ?_ | refine IR_skip ?_)
    refine IR_region ?_
    (refine IOps_do (fun _ _ => rfl) rfl ?_; (first | refine E_loadi (ds := [_, _, _, _, _, _, _, _, _, _]) (d := .agg [_, _, _, _, _, _, _, _, _, _]) ag53 sz53 rfl rfl rfl rfl ?_ | refine E_loadp (ds := [_, _, _, _, _, _, _, _, _, _]) (v := .dat (.agg [_, _, _, _, _, _, _, _, _, _])) ag53 sz53 rfl rfl rfl rfl rfl ?_ | refine E_loadp (ds := [_, _, _, _, _, _, _, _, _, _]) (v := .agg [_, _, _, _, _, _, _, _, _, _]) ag53 sz53 rfl rfl rfl rfl rfl ?_); refine IOps_eq (is' := _) (by first | dsimp only [n0, n1, n2, n3, n4, n5, n6, n7, n8, n9, m0, m1, m2, m3, m4, m5, m6, m7, m8, m9, o0, o1, o2, o3, o4, ↓reduceIte] | rfl) ?_)
    (refine IOps_do (fun _ _ => rfl) rfl ?_; (first | refine E_call rfl rfl rfl (c35 n g1) ?_ | refine E_callfn rfl rfl rfl (c35 n g1) ?_); refine IOps_eq (is' := _) (by first | dsimp only [n0, n1, n2, n3, n4, n5, n6, n7, n8, n9, m0, m1, m2, m3, m4, m5, m6, m7, m8, m9, o0, o1, o2, o3, o4, ↓reduceIte] | rfl) ?_)
    iterate 2 ((refine IOps_do (fun _ _ => rfl) rfl ?_; refine E_assign rfl rfl ?_); refine IOps_eq (is' := _) (by first | dsimp only [n0, n1, n2, n3, n4, n5, n6, n7, n8, n9, m0, m1, m2, m3, m4, m5, m6, m7, m8, m9, o0, o1, o2, o3, o4, ↓reduceIte] | rfl) ?_)
    refine IOps_nil ?_
    repeat (first | refine IR_seq ?_ | refine IR_block ?_ | refine IR_skip ?_)
    refine IR_loop ?_
    refine IRL_ind (fun (x : Bool × List Int × Int × Int × σ × List Evt) => ⟨⟨[.undef, .undef, .undef, .undef, .undef, .ptr 3 0, boolPV x.1, .dat (nestsD l), intPV (l.map Nst.toD).length, intPV (j : Int), .undef, .undef, .undef, .undef, .undef, .undef, .undef, .undef, .undef, .undef, .undef, .undef, .undef, .undef], [.box [.dat (intsD n.dims), .dat (intD n.write), .dat (intsD n.steps), .dat (intD n.read.kind), .dat (intD n.read.buffer), .dat (intD n.read.base), .dat (intsD n.read.strides), .dat (intD n.read.start), .dat (intD n.read.step), .dat (intD n.read.mod)], .box [.dat (intsD n.dims), .dat (intD n.write), .dat (intsD n.steps), .dat (intD n.read.kind), .dat (intD n.read.buffer), .dat (intD n.read.base), .dat (intsD n.read.strides), .dat (intD n.read.start), .dat (intD n.read.step), .dat (intD n.read.mod)], jsB x.2.1, .box [.arr 2 0 n.dims.length n.dims.length, .dat (intsD n.dims), .dat (intsD n.dims), .dat (intD n.write), .dat (intsD n.steps), .dat (intD n.read.kind), .dat (intD n.read.buffer), .dat (intD n.read.base), .dat (intsD n.read.strides), .dat (intD n.read.start), .dat (intD n.read.step), .dat (intD n.read.mod), .dat (intD x.2.2.1), .dat (intD x.2.2.2.1)]]⟩, [0], x.2.2.2.2.1⟩)
      (fun x => x.2.1.length = n.dims.length ∧ ((x.1 = true ∧ Rounds n x.2.1 x.2.2.1 x.2.2.2.1 x.2.2.2.2.2) ∨ (x.1 = false ∧ x.2.2.2.2.2 = [])) ∧ Fed Y fin (x.2.2.2.2.2.map Evt.toD ++ rest) x.2.2.2.2.1)
      (fun x => x.2.2.2.2.2.length) (fun x hx => ?_) _ (true, List.replicate n.dims.length 0, n.write, at0 n, s, esj) _ (Nat.lt_succ_self _) ⟨by simp, Or.inl ⟨rfl, g5⟩, hF⟩ ?_
    · obtain ⟨ok, js, w, a, s, es'⟩ := x
      obtain ⟨hjs, hR, hF⟩ := hx
      simp only at hjs hR hF
      rcases hR with ⟨rfl, hR⟩ | ⟨rfl, rfl⟩
      · repeat (first | refine IR_seq ?_ | refine IR_block ?_ | refine IR_skip ?_)
        refine IR_region ?_
        (refine IOps_do (fun _ _ => rfl) rfl ?_; refine E_move rfl ?_; refine IOps_eq (is' := _) (by first | dsimp only [n0, n1, n2, n3, n4, n5, n6, n7, n8, n9, m0, m1, m2, m3, m4, m5, m6, m7, m8, m9, o0, o1, o2, o3, o4, ↓reduceIte] | rfl) ?_)
        refine IOps_nil ?_
        repeat (first | refine IR_seq ?_ | refine IR_block ?_ | refine IR_skip ?_)
        refine IR_true rfl ?_
        cases hR with
        | last hno =>
          cases hF with
          | go hy hF' =>
            repeat (first | refine IR_seq ?_ | refine IR_block ?_ | refine IR_skip ?_)
            refine IR_region ?_
            (refine IOps_mv rfl rfl rfl rfl (show 18 < 24 by decide) ?_; refine IOps_eq (is' := _) (by first | dsimp only [n0, n1, n2, n3, n4, n5, n6, n7, n8, n9, m0, m1, m2, m3, m4, m5, m6, m7, m8, m9, o0, o1, o2, o3, o4, ↓reduceIte] | rfl) ?_)
            (refine IOps_do (fun _ _ => rfl) rfl ?_; refine E_move rfl ?_; refine IOps_eq (is' := _) (by first | dsimp only [n0, n1, n2, n3, n4, n5, n6, n7, n8, n9, m0, m1, m2, m3, m4, m5, m6, m7, m8, m9, o0, o1, o2, o3, o4, ↓reduceIte] | rfl) ?_)
            (refine IOps_do (fun _ _ => rfl) rfl ?_; (first | refine E_call rfl rfl rfl (c37 n n.dims.length w a _ _ _ g4) ?_ | refine E_callfn rfl rfl rfl (c37 n n.dims.length w a _ _ _ g4) ?_); refine IOps_eq (is' := _) (by first | dsimp only [n0, n1, n2, n3, n4, n5, n6, n7, n8, n9, m0, m1, m2, m3, m4, m5, m6, m7, m8, m9, o0, o1, o2, o3, o4, ↓reduceIte] | rfl) ?_)
            (refine IOps_yield rfl rfl rfl rfl rfl hy ?_; refine IOps_eq (is' := _) (by first | dsimp only [n0, n1, n2, n3, n4, n5, n6, n7, n8, n9, m0, m1, m2, m3, m4, m5, m6, m7, m8, m9, o0, o1, o2, o3, o4, ↓reduceIte] | rfl) ?_)
            (refine IOps_do (fun _ _ => rfl) rfl ?_; refine E_not rfl rfl ?_; refine IOps_eq (is' := _) (by first | dsimp only [n0, n1, n2, n3, n4, n5, n6, n7, n8, n9, m0, m1, m2, m3, m4, m5, m6, m7, m8, m9, o0, o1, o2, o3, o4, ↓reduceIte] | rfl) ?_)
            refine IOps_nil ?_
            repeat (first | refine IR_seq ?_ | refine IR_block ?_ | refine IR_skip ?_)
            refine IR_false rfl ?_
            repeat (first | refine IR_seq ?_ | refine IR_block ?_ | refine IR_skip ?_)
            refine IR_region ?_
            (refine IOps_do (fun _ _ => rfl) rfl ?_; refine E_move rfl ?_; refine IOps_eq (is' := _) (by first | dsimp only [n0, n1, n2, n3, n4, n5, n6, n7, n8, n9, m0, m1, m2, m3, m4, m5, m6, m7, m8, m9, o0, o1, o2, o3, o4, ↓reduceIte] | rfl) ?_)
            (refine IOps_do (fun _ _ => rfl) rfl ?_; (first | refine E_call rfl rfl rfl (c36_no n js n.dims.length w a (eventC n w a) hjs rfl g1 hno) ?_ | refine E_callfn rfl rfl rfl (c36_no n js n.dims.length w a (eventC n w a) hjs rfl g1 hno) ?_); refine IOps_eq (is' := _) (by first | dsimp only [n0, n1, n2, n3, n4, n5, n6, n7, n8, n9, m0, m1, m2, m3, m4, m5, m6, m7, m8, m9, o0, o1, o2, o3, o4, ↓reduceIte] | rfl) ?_)
            (refine IOps_do (fun _ _ => rfl) rfl ?_; refine E_assign rfl rfl ?_; refine IOps_eq (is' := _) (by first | dsimp only [n0, n1, n2, n3, n4, n5, n6, n7, n8, n9, m0, m1, m2, m3, m4, m5, m6, m7, m8, m9, o0, o1, o2, o3, o4, ↓reduceIte] | rfl) ?_)
            refine IOps_nil ?_
            refine ⟨(false, (nextFrom n.dims n.dims.length js).1, w, a, _, []), ?_, by simp, ⟨by simp only [nextFrom_len]; exact hjs, Or.inr ⟨rfl, rfl⟩, hF'⟩⟩
            refine (ISt_eq (prune46 rfl) rfl).trans ?_
            rw [purge_js]
            rfl
          | stop hy =>
            repeat (first | refine IR_seq ?_ | refine IR_block ?_ | refine IR_skip ?_)
            refine IR_region ?_
            (refine IOps_mv rfl rfl rfl rfl (show 18 < 24 by decide) ?_; refine IOps_eq (is' := _) (by first | dsimp only [n0, n1, n2, n3, n4, n5, n6, n7, n8, n9, m0, m1, m2, m3, m4, m5, m6, m7, m8, m9, o0, o1, o2, o3, o4, ↓reduceIte] | rfl) ?_)
            (refine IOps_do (fun _ _ => rfl) rfl ?_; refine E_move rfl ?_; refine IOps_eq (is' := _) (by first | dsimp only [n0, n1, n2, n3, n4, n5, n6, n7, n8, n9, m0, m1, m2, m3, m4, m5, m6, m7, m8, m9, o0, o1, o2, o3, o4, ↓reduceIte] | rfl) ?_)
            (refine IOps_do (fun _ _ => rfl) rfl ?_; (first | refine E_call rfl rfl rfl (c37 n n.dims.length w a _ _ _ g4) ?_ | refine E_callfn rfl rfl rfl (c37 n n.dims.length w a _ _ _ g4) ?_); refine IOps_eq (is' := _) (by first | dsimp only [n0, n1, n2, n3, n4, n5, n6, n7, n8, n9, m0, m1, m2, m3, m4, m5, m6, m7, m8, m9, o0, o1, o2, o3, o4, ↓reduceIte] | rfl) ?_)
            (refine IOps_yield rfl rfl rfl rfl rfl hy ?_; refine IOps_eq (is' := _) (by first | dsimp only [n0, n1, n2, n3, n4, n5, n6, n7, n8, n9, m0, m1, m2, m3, m4, m5, m6, m7, m8, m9, o0, o1, o2, o3, o4, ↓reduceIte] | rfl) ?_)
            (refine IOps_do (fun _ _ => rfl) rfl ?_; refine E_not rfl rfl ?_; refine IOps_eq (is' := _) (by first | dsimp only [n0, n1, n2, n3, n4, n5, n6, n7, n8, n9, m0, m1, m2, m3, m4, m5, m6, m7, m8, m9, o0, o1, o2, o3, o4, ↓reduceIte] | rfl) ?_)
            refine IOps_nil ?_
            repeat (first | refine IR_seq ?_ | refine IR_block ?_ | refine IR_skip ?_)
            refine IR_true rfl ?_
            repeat (first | refine IR_seq ?_ | refine IR_block ?_ | refine IR_skip ?_)
            refine IR_ret ?_
            exact ⟨trivial, rfl⟩
        | more hq hyes hqe hR' =>
          cases hF with
          | go hy hF' =>
            repeat (first | refine IR_seq ?_ | refine IR_block ?_ | refine IR_skip ?_)
            refine IR_region ?_
            (refine IOps_mv rfl rfl rfl rfl (show 18 < 24 by decide) ?_; refine IOps_eq (is' := _) (by first | dsimp only [n0, n1, n2, n3, n4, n5, n6, n7, n8, n9, m0, m1, m2, m3, m4, m5, m6, m7, m8, m9, o0, o1, o2, o3, o4, ↓reduceIte] | rfl) ?_)
            (refine IOps_do (fun _ _ => rfl) rfl ?_; refine E_move rfl ?_; refine IOps_eq (is' := _) (by first | dsimp only [n0, n1, n2, n3, n4, n5, n6, n7, n8, n9, m0, m1, m2, m3, m4, m5, m6, m7, m8, m9, o0, o1, o2, o3, o4, ↓reduceIte] | rfl) ?_)
            (refine IOps_do (fun _ _ => rfl) rfl ?_; (first | refine E_call rfl rfl rfl (c37 n n.dims.length w a _ _ _ g4) ?_ | refine E_callfn rfl rfl rfl (c37 n n.dims.length w a _ _ _ g4) ?_); refine IOps_eq (is' := _) (by first | dsimp only [n0, n1, n2, n3, n4, n5, n6, n7, n8, n9, m0, m1, m2, m3, m4, m5, m6, m7, m8, m9, o0, o1, o2, o3, o4, ↓reduceIte] | rfl) ?_)
            (refine IOps_yield rfl rfl rfl rfl rfl hy ?_; refine IOps_eq (is' := _) (by first | dsimp only [n0, n1, n2, n3, n4, n5, n6, n7, n8, n9, m0, m1, m2, m3, m4, m5, m6, m7, m8, m9, o0, o1, o2, o3, o4, ↓reduceIte] | rfl) ?_)
            (refine IOps_do (fun _ _ => rfl) rfl ?_; refine E_not rfl rfl ?_; refine IOps_eq (is' := _) (by first | dsimp only [n0, n1, n2, n3, n4, n5, n6, n7, n8, n9, m0, m1, m2, m3, m4, m5, m6, m7, m8, m9, o0, o1, o2, o3, o4, ↓reduceIte] | rfl) ?_)
            refine IOps_nil ?_
            repeat (first | refine IR_seq ?_ | refine IR_block ?_ | refine IR_skip ?_)
            refine IR_false rfl ?_
            repeat (first | refine IR_seq ?_ | refine IR_block ?_ | refine IR_skip ?_)
            refine IR_region ?_
            (refine IOps_do (fun _ _ => rfl) rfl ?_; refine E_move rfl ?_; refine IOps_eq (is' := _) (by first | dsimp only [n0, n1, n2, n3, n4, n5, n6, n7, n8, n9, m0, m1, m2, m3, m4, m5, m6, m7, m8, m9, o0, o1, o2, o3, o4, ↓reduceIte] | rfl) ?_)
            (refine IOps_do (fun _ _ => rfl) rfl ?_; (first | refine E_call rfl rfl rfl (c36_yes n js n.dims.length w a (eventC n w a) hjs rfl g2 g1 _ hq g3 hyes hqe) ?_ | refine E_callfn rfl rfl rfl (c36_yes n js n.dims.length w a (eventC n w a) hjs rfl g2 g1 _ hq g3 hyes hqe) ?_); refine IOps_eq (is' := _) (by first | dsimp only [n0, n1, n2, n3, n4, n5, n6, n7, n8, n9, m0, m1, m2, m3, m4, m5, m6, m7, m8, m9, o0, o1, o2, o3, o4, ↓reduceIte] | rfl) ?_)
            (refine IOps_do (fun _ _ => rfl) rfl ?_; refine E_assign rfl rfl ?_; refine IOps_eq (is' := _) (by first | dsimp only [n0, n1, n2, n3, n4, n5, n6, n7, n8, n9, m0, m1, m2, m3, m4, m5, m6, m7, m8, m9, o0, o1, o2, o3, o4, ↓reduceIte] | rfl) ?_)
            refine IOps_nil ?_
            refine ⟨(true, (nextFrom n.dims n.dims.length js).1, _, _, _, _), ?_, ?_, ⟨by simp only [nextFrom_len]; exact hjs, Or.inl ⟨rfl, hR'⟩, hF'⟩⟩
            · refine (ISt_eq (prune46 rfl) rfl).trans ?_
              rw [purge_js]
              rfl
            · simp
          | stop hy =>
            repeat (first | refine IR_seq ?_ | refine IR_block ?_ | refine IR_skip ?_)
            refine IR_region ?_
            (refine IOps_mv rfl rfl rfl rfl (show 18 < 24 by decide) ?_; refine IOps_eq (is' := _) (by first | dsimp only [n0, n1, n2, n3, n4, n5, n6, n7, n8, n9, m0, m1, m2, m3, m4, m5, m6, m7, m8, m9, o0, o1, o2, o3, o4, ↓reduceIte] | rfl) ?_)
            (refine IOps_do (fun _ _ => rfl) rfl ?_; refine E_move rfl ?_; refine IOps_eq (is' := _) (by first | dsimp only [n0, n1, n2, n3, n4, n5, n6, n7, n8, n9, m0, m1, m2, m3, m4, m5, m6, m7, m8, m9, o0, o1, o2, o3, o4, ↓reduceIte] | rfl) ?_)
            (refine IOps_do (fun _ _ => rfl) rfl ?_; (first | refine E_call rfl rfl rfl (c37 n n.dims.length w a _ _ _ g4) ?_ | refine E_callfn rfl rfl rfl (c37 n n.dims.length w a _ _ _ g4) ?_); refine IOps_eq (is' := _) (by first | dsimp only [n0, n1, n2, n3, n4, n5, n6, n7, n8, n9, m0, m1, m2, m3, m4, m5, m6, m7, m8, m9, o0, o1, o2, o3, o4, ↓reduceIte] | rfl) ?_)
            (refine IOps_yield rfl rfl rfl rfl rfl hy ?_; refine IOps_eq (is' := _) (by first | dsimp only [n0, n1, n2, n3, n4, n5, n6, n7, n8, n9, m0, m1, m2, m3, m4, m5, m6, m7, m8, m9, o0, o1, o2, o3, o4, ↓reduceIte] | rfl) ?_)
            (refine IOps_do (fun _ _ => rfl) rfl ?_; refine E_not rfl rfl ?_; refine IOps_eq (is' := _) (by first | dsimp only [n0, n1, n2, n3, n4, n5, n6, n7, n8, n9, m0, m1, m2, m3, m4, m5, m6, m7, m8, m9, o0, o1, o2, o3, o4, ↓reduceIte] | rfl) ?_)
            refine IOps_nil ?_
            repeat (first | refine IR_seq ?_ | refine IR_block ?_ | refine IR_skip ?_)
            refine IR_true rfl ?_
            repeat (first | refine IR_seq ?_ | refine IR_block ?_ | refine IR_skip ?_)
            refine IR_ret ?_
            exact ⟨trivial, rfl⟩
      · repeat (first | refine IR_seq ?_ | refine IR_block ?_ | refine IR_skip ?_)
        refine IR_region ?_
        (refine IOps_do (fun _ _ => rfl) rfl ?_; refine E_move rfl ?_; refine IOps_eq (is' := _) (by first | dsimp only [n0, n1, n2, n3, n4, n5, n6, n7, n8, n9, m0, m1, m2, m3, m4, m5, m6, m7, m8, m9, o0, o1, o2, o3, o4, ↓reduceIte] | rfl) ?_)
        refine IOps_nil ?_
        repeat (first | refine IR_seq ?_ | refine IR_block ?_ | refine IR_skip ?_)
        refine IR_false rfl ?_
        repeat (first | refine IR_seq ?_ | refine IR_block ?_ | refine IR_skip ?_)
        refine IR_exit ?_
        repeat (first | refine IR_seq ?_ | refine IR_block ?_ | refine IR_skip ?_)
        refine IR_region ?_
        iterate 2 ((refine IOps_do (fun _ _ => rfl) rfl ?_; first | refine E_int rfl rfl rfl rfl ?_ | refine E_move rfl ?_); refine IOps_eq (is' := _) (by first | dsimp only [n0, n1, n2, n3, n4, n5, n6, n7, n8, n9, m0, m1, m2, m3, m4, m5, m6, m7, m8, m9, o0, o1, o2, o3, o4, ↓reduceIte] | rfl) ?_)
        refine IOps_nil ?_
        refine ⟨(j + 1, s), ?_, ?_, hj', ?_⟩
        · rw [wrap_succ (by omega)]
          rfl
        · simp only; omega
        · rw [hrest]; exact hF
    · refine (ISt_eq (prune4 rfl) rfl).trans ?_
      rw [jsB, purge_js, show (List.map intD n.dims).length = n.dims.length from List.length_map ..]
      rfl
  · have hj' : j = l.length := by simp at h; omega
    subst hj'
    repeat (first | refine IR_seq ?_ | refine IR_block ?_ | refine IR_skip ?_)
    refine IR_exit ?_
    rw [Nat.sub_self] at hF
    cases hF
    exact ⟨trivial, rfl⟩
end Go.Proofs.Try
