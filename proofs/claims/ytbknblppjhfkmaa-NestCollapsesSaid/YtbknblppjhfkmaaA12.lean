/-
  Seat a: the law of the events, on the machine.
-/
import Derived.Test.YtbknblppjhfkmaaA11
namespace Go.Proofs.Try
open Go Go.Pm
set_option linter.unusedVariables false
set_option linter.unusedSimpArgs false
set_option maxRecDepth 2000

/-- what holds of small nests -/
structure Small (l : List Nst) : Prop where
  ok : ∀ n ∈ l, NestOK n
  goes : ∀ j (h : j < l.length), GoesTo l[j] (eventsN l[j])
  few : (eventsL l).length ≤ 1000000
theorem eventsL_range (l : List Nst) : (List.range l.length).flatMap (fun j => if h : j < l.length then eventsN l[j] else []) = eventsL l := by
  have e : (List.range l.length).map (fun j => if h : j < l.length then eventsN l[j] else []) = l.map eventsN := by
    refine List.ext_getElem (by simp) fun i h1 h2 => ?_
    have hi : i < l.length := by simpa using h1
    simp [hi]
  rw [List.flatMap_def, e, eventsL, List.flatMap_def]
/-- the number of events that fill -/
def fillsE (l : List Evt) : Nat := (l.filter (·.fill)).length

theorem c3_big (l : List Nst) (stop : Int) (hl : lensOk l) (hs : smallsB l 100 = false) : PC prog env 3 [.dat (nestsD l), .dat (.raw (.int .u8 stop))] [] (boolPV true) [] := by
  refine PC_pure (fn := f3) (by kernel_rfl) rfl rfl (by kernel_rfl) rfl rfl ?_ (by simp [PV.lends])
  refine R_eq (st' := ⟨[.dat (nestsD l), .dat (.raw (.int .u8 stop)), .tup [], .tup [], .tup [], .tup [], .tup [], .tup [], .tup [], .tup [], .tup [], .tup [], .tup [], .tup [], .tup [], .tup [], .tup [], .tup [], .tup [], .tup [], .tup [], .tup [], .tup [], .tup [], .tup [], .tup [], .tup [], .tup [], .tup [], .tup [], .tup [], .tup [], .tup [], .tup [], .tup [], .tup [], .tup [], .tup [], .tup [], .tup [], .tup [], .tup [], .tup [], .tup [], .tup [], .tup [], .tup [], .tup [], .tup [], .tup [], .tup [], .tup [], .tup [], .tup [], .tup [], .tup [], .tup [], .tup [], .tup [], .tup [], .tup [], .tup [], .tup [], .tup [], .tup [], .tup [], .tup [], .tup [], .tup [], .tup [], .tup [], .tup [], .tup [], .tup [], .tup [], .tup [], .tup [], .tup [], .tup [], .tup [], .tup [], .tup [], .tup [], .tup [], .tup [], .tup [], .tup [], .tup [], .tup [], .tup []], []⟩) rfl ?_
  repeat (first | refine R_seq ?_ | refine R_block ?_ | refine R_skip ?_)
  refine R_region ?_
  iterate 2 ((refine OpsE_do rfl ?_; first | refine E_box (cs := [_]) rfl rfl rfl ?_ | refine E_alloc (cs := [_]) ze4 rfl rfl ?_); refine OpsE_eq (st' := _) (by first | dsimp only [n0, n1, n2, n3, n4, n5, n6, n7, n8, n9, m0, m1, m2, m3, m4, m5, m6, m7, m8, m9, o0, o1, o2, o3, o4, ↓reduceIte] | rfl) ?_)
  refine OpsE_nil ?_
  repeat (first | refine R_seq ?_ | refine R_block ?_ | refine R_skip ?_)
  refine R_region ?_
  (refine OpsE_do rfl ?_; (first | refine E_call rfl rfl rfl (c10 _) ?_ | refine E_callfn rfl rfl rfl (c10 _) ?_); refine OpsE_eq (st' := _) (by first | dsimp only [n0, n1, n2, n3, n4, n5, n6, n7, n8, n9, m0, m1, m2, m3, m4, m5, m6, m7, m8, m9, o0, o1, o2, o3, o4, ↓reduceIte] | rfl) ?_)
  iterate 3 ((first | (refine OpsE_do rfl ?_; first | refine E_not rfl rfl ?_ | refine E_move rfl ?_) | refine OpsE_not rfl ?_); refine OpsE_eq (st' := _) (by first | dsimp only [n0, n1, n2, n3, n4, n5, n6, n7, n8, n9, m0, m1, m2, m3, m4, m5, m6, m7, m8, m9, o0, o1, o2, o3, o4, ↓reduceIte] | rfl) ?_)
  ((first | (refine OpsE_do rfl ?_; (first | refine E_call rfl rfl rfl (c11 _ _ _ hl) ?_ | refine E_callfn rfl rfl rfl (c11 _ _ _ hl) ?_)) | refine OpsE_not rfl ?_); refine OpsE_eq (st' := _) (by first | dsimp only [n0, n1, n2, n3, n4, n5, n6, n7, n8, n9, m0, m1, m2, m3, m4, m5, m6, m7, m8, m9, o0, o1, o2, o3, o4, ↓reduceIte] | rfl) ?_)
  iterate 2 ((first | (refine OpsE_do rfl ?_; first | refine E_not rfl rfl ?_ | refine E_pick rfl rfl ?_) | refine OpsE_not rfl ?_); refine OpsE_eq (st' := _) (by first | dsimp only [n0, n1, n2, n3, n4, n5, n6, n7, n8, n9, m0, m1, m2, m3, m4, m5, m6, m7, m8, m9, o0, o1, o2, o3, o4, ↓reduceIte] | rfl) ?_)
  refine OpsE_nil ?_
  rw [hs]
  repeat (first | refine R_seq ?_ | refine R_block ?_ | refine R_skip ?_)
  refine R_true rfl ?_
  repeat (first | refine R_seq ?_ | refine R_block ?_ | refine R_skip ?_)
  refine R_region ?_
  (refine OpsE_do rfl ?_; (first | refine E_call rfl rfl rfl (c10 _) ?_ | refine E_callfn rfl rfl rfl (c10 _) ?_); refine OpsE_eq (st' := _) (by first | dsimp only [n0, n1, n2, n3, n4, n5, n6, n7, n8, n9, m0, m1, m2, m3, m4, m5, m6, m7, m8, m9, o0, o1, o2, o3, o4, ↓reduceIte] | rfl) ?_)
  (refine OpsE_do rfl ?_; refine E_store (vs := [_]) sz4 rfl rfl rfl rfl rfl rfl rfl ?_; refine OpsE_eq (st' := _) (by first | dsimp only [n0, n1, n2, n3, n4, n5, n6, n7, n8, n9, m0, m1, m2, m3, m4, m5, m6, m7, m8, m9, o0, o1, o2, o3, o4, ↓reduceIte] | rfl) ?_)
  refine OpsE_nil ?_
  repeat (first | refine R_seq ?_ | refine R_block ?_ | refine R_skip ?_)
  refine R_ret ?_
  exact ⟨trivial, _, rfl, rfl⟩

theorem c3_small (l : List Nst) (stop : Int) (h0 : 0 ≤ stop) (h1 : stop ≤ 255) (hl : lensOk l) (hs : smallsB l 100 = true) (hS : Small l) (hdl : ∀ n ∈ l, n.dims.length ≤ 1048576) (hc : countM l = (((eventsL l).length : Int) - (fillsE (eventsL l) : Int), (fillsE (eventsL l) : Int))) :
    PC prog env 3 [.dat (nestsD l), .dat (.raw (.int .u8 stop))] [] (boolPV true) [] := by
  refine PC_pure (fn := f3) (by kernel_rfl) rfl rfl (by kernel_rfl) rfl rfl ?_ (by simp [PV.lends])
  have hlen : l.length ≤ 1048576 := by
    simp only [smallsB, Bool.and_eq_true, Bool.not_eq_true', decide_eq_false_iff_not, List.length_map] at hs; omega
  have hW : IntKind.i64.wrap (stop + 1) = stop + 1 := wrap_i64 (by omega) (by omega)
  have hV : IntKind.i64.wrap (stop) = stop := wrap_i64 (by omega) (by omega)
  have hE := eventsL_range l
  have hg : ∀ j (h : j < l.length), GoesTo l[j] ((fun j => if h : j < l.length then eventsN l[j] else []) j) := fun j h => by simp only [h, dif_pos]; exact hS.goes j h
  have c14E : ∀ H, PC prog env 14 [.dat (nestsD l)] H (.dat (evtsD (eventsL l))) H := fun H => by
    have := c14 l _ H hlen hg (by rw [hE]; exact hS.few)
    rw [hE] at this; exact this
  have hfew := hS.few
  refine R_eq (st' := ⟨[.dat (nestsD l), .dat (.raw (.int .u8 stop)), .tup [], .tup [], .tup [], .tup [], .tup [], .tup [], .tup [], .tup [], .tup [], .tup [], .tup [], .tup [], .tup [], .tup [], .tup [], .tup [], .tup [], .tup [], .tup [], .tup [], .tup [], .tup [], .tup [], .tup [], .tup [], .tup [], .tup [], .tup [], .tup [], .tup [], .tup [], .tup [], .tup [], .tup [], .tup [], .tup [], .tup [], .tup [], .tup [], .tup [], .tup [], .tup [], .tup [], .tup [], .tup [], .tup [], .tup [], .tup [], .tup [], .tup [], .tup [], .tup [], .tup [], .tup [], .tup [], .tup [], .tup [], .tup [], .tup [], .tup [], .tup [], .tup [], .tup [], .tup [], .tup [], .tup [], .tup [], .tup [], .tup [], .tup [], .tup [], .tup [], .tup [], .tup [], .tup [], .tup [], .tup [], .tup [], .tup [], .tup [], .tup [], .tup [], .tup [], .tup [], .tup [], .tup [], .tup [], .tup []], []⟩) rfl ?_
  repeat (first | refine R_seq ?_ | refine R_block ?_ | refine R_skip ?_)
  refine R_region ?_
  iterate 2 ((refine OpsE_do rfl ?_; first | refine E_box (cs := [_]) rfl rfl rfl ?_ | refine E_alloc (cs := [_]) ze4 rfl rfl ?_); refine OpsE_eq (st' := _) (by first | dsimp only [n0, n1, n2, n3, n4, n5, n6, n7, n8, n9, m0, m1, m2, m3, m4, m5, m6, m7, m8, m9, o0, o1, o2, o3, o4, ↓reduceIte] | rfl) ?_)
  refine OpsE_nil ?_
  repeat (first | refine R_seq ?_ | refine R_block ?_ | refine R_skip ?_)
  refine R_region ?_
  (refine OpsE_do rfl ?_; (first | refine E_call rfl rfl rfl (c10 _) ?_ | refine E_callfn rfl rfl rfl (c10 _) ?_); refine OpsE_eq (st' := _) (by first | dsimp only [n0, n1, n2, n3, n4, n5, n6, n7, n8, n9, m0, m1, m2, m3, m4, m5, m6, m7, m8, m9, o0, o1, o2, o3, o4, ↓reduceIte] | rfl) ?_)
  iterate 3 ((first | (refine OpsE_do rfl ?_; first | refine E_not rfl rfl ?_ | refine E_move rfl ?_) | refine OpsE_not rfl ?_); refine OpsE_eq (st' := _) (by first | dsimp only [n0, n1, n2, n3, n4, n5, n6, n7, n8, n9, m0, m1, m2, m3, m4, m5, m6, m7, m8, m9, o0, o1, o2, o3, o4, ↓reduceIte] | rfl) ?_)
  ((first | (refine OpsE_do rfl ?_; (first | refine E_call rfl rfl rfl (c11 _ _ _ hl) ?_ | refine E_callfn rfl rfl rfl (c11 _ _ _ hl) ?_)) | refine OpsE_not rfl ?_); refine OpsE_eq (st' := _) (by first | dsimp only [n0, n1, n2, n3, n4, n5, n6, n7, n8, n9, m0, m1, m2, m3, m4, m5, m6, m7, m8, m9, o0, o1, o2, o3, o4, ↓reduceIte] | rfl) ?_)
  iterate 2 ((first | (refine OpsE_do rfl ?_; first | refine E_not rfl rfl ?_ | refine E_pick rfl rfl ?_) | refine OpsE_not rfl ?_); refine OpsE_eq (st' := _) (by first | dsimp only [n0, n1, n2, n3, n4, n5, n6, n7, n8, n9, m0, m1, m2, m3, m4, m5, m6, m7, m8, m9, o0, o1, o2, o3, o4, ↓reduceIte] | rfl) ?_)
  refine OpsE_nil ?_
  rw [hs]
  repeat (first | refine R_seq ?_ | refine R_block ?_ | refine R_skip ?_)
  refine R_false rfl ?_
  repeat (first | refine R_seq ?_ | refine R_block ?_ | refine R_skip ?_)
  refine R_region ?_
  (refine OpsE_do rfl ?_; refine E_move rfl ?_; refine OpsE_eq (st' := _) (by first | dsimp only [n0, n1, n2, n3, n4, n5, n6, n7, n8, n9, m0, m1, m2, m3, m4, m5, m6, m7, m8, m9, o0, o1, o2, o3, o4, ↓reduceIte] | rfl) ?_)
  (refine OpsE_do rfl ?_; (first | refine E_call rfl rfl rfl (c12 l _ hlen hS.ok hS.few) ?_ | refine E_callfn rfl rfl rfl (c12 l _ hlen hS.ok hS.few) ?_); refine OpsE_eq (st' := _) (by first | dsimp only [n0, n1, n2, n3, n4, n5, n6, n7, n8, n9, m0, m1, m2, m3, m4, m5, m6, m7, m8, m9, o0, o1, o2, o3, o4, ↓reduceIte] | rfl) ?_)
  iterate 2 ((refine OpsE_do rfl ?_; first | refine E_alloc (cs := [_]) ze25 rfl rfl ?_ | refine E_store (vs := [_]) sz25 rfl rfl rfl rfl rfl rfl rfl ?_); refine OpsE_eq (st' := _) (by first | dsimp only [n0, n1, n2, n3, n4, n5, n6, n7, n8, n9, m0, m1, m2, m3, m4, m5, m6, m7, m8, m9, o0, o1, o2, o3, o4, ↓reduceIte] | rfl) ?_)
  refine OpsE_nil ?_
  generalize hEE : eventsL l = E at *
  repeat (first | refine R_seq ?_ | refine R_block ?_ | refine R_skip ?_)
  refine R_draw ?_
  (refine DrawE_do rfl ?_; refine E_move rfl ?_; refine DrawE_eq (st' := _) (by first | dsimp only [n0, n1, n2, n3, n4, n5, n6, n7, n8, n9, m0, m1, m2, m3, m4, m5, m6, m7, m8, m9, o0, o1, o2, o3, o4, ↓reduceIte] | rfl) ?_)
  (refine DrawE_do rfl ?_; (first | refine E_call rfl rfl rfl (c15 l _ hlen) ?_ | refine E_callfn rfl rfl rfl (c15 l _ hlen) ?_); refine DrawE_eq (st' := _) (by first | dsimp only [n0, n1, n2, n3, n4, n5, n6, n7, n8, n9, m0, m1, m2, m3, m4, m5, m6, m7, m8, m9, o0, o1, o2, o3, o4, ↓reduceIte] | rfl) ?_)
  (refine DrawE_do rfl ?_; (first | refine E_call rfl rfl rfl (c14E _) ?_ | refine E_callfn rfl rfl rfl (c14E _) ?_); refine DrawE_eq (st' := _) (by first | dsimp only [n0, n1, n2, n3, n4, n5, n6, n7, n8, n9, m0, m1, m2, m3, m4, m5, m6, m7, m8, m9, o0, o1, o2, o3, o4, ↓reduceIte] | rfl) ?_)
  (refine DrawE_do rfl ?_; (first | refine E_loadi (ds := [_]) ag25 sz25 rfl rfl rfl rfl ?_ | refine E_loadp (ds := [_]) ag25 sz25 rfl rfl rfl rfl rfl ?_); refine DrawE_eq (st' := _) (by first | dsimp only [n0, n1, n2, n3, n4, n5, n6, n7, n8, n9, m0, m1, m2, m3, m4, m5, m6, m7, m8, m9, o0, o1, o2, o3, o4, ↓reduceIte] | rfl) ?_)
  (refine DrawE_do rfl ?_; (first | refine E_call rfl rfl rfl (c13 E E _ (by omega)) ?_ | refine E_callfn rfl rfl rfl (c13 E E _ (by omega)) ?_); refine DrawE_eq (st' := _) (by first | dsimp only [n0, n1, n2, n3, n4, n5, n6, n7, n8, n9, m0, m1, m2, m3, m4, m5, m6, m7, m8, m9, o0, o1, o2, o3, o4, ↓reduceIte] | rfl) ?_)
  (refine DrawE_do rfl ?_; refine E_not rfl rfl ?_; refine DrawE_eq (st' := _) (by first | dsimp only [n0, n1, n2, n3, n4, n5, n6, n7, n8, n9, m0, m1, m2, m3, m4, m5, m6, m7, m8, m9, o0, o1, o2, o3, o4, ↓reduceIte] | rfl) ?_)
  refine DrawE_nil ⟨by kernel_rfl, ?_⟩
  rw [show decide (E = E) = true from decide_eq_true rfl]
  repeat (first | refine R_seq ?_ | refine R_block ?_ | refine R_skip ?_)
  refine R_false rfl ?_
  repeat (first | refine R_seq ?_ | refine R_block ?_ | refine R_skip ?_)
  refine R_region ?_
  iterate 2 ((refine OpsE_do rfl ?_; first | refine E_alloc (cs := [_]) ze3 rfl rfl ?_ | refine E_store (vs := [_]) sz3 rfl rfl rfl rfl rfl rfl rfl ?_); refine OpsE_eq (st' := _) (by first | dsimp only [n0, n1, n2, n3, n4, n5, n6, n7, n8, n9, m0, m1, m2, m3, m4, m5, m6, m7, m8, m9, o0, o1, o2, o3, o4, ↓reduceIte] | rfl) ?_)
  refine OpsE_nil ?_
  repeat (first | refine R_seq ?_ | refine R_block ?_ | refine R_skip ?_)
  refine R_region ?_
  (refine OpsE_do rfl ?_; refine E_move rfl ?_; refine OpsE_eq (st' := _) (by first | dsimp only [n0, n1, n2, n3, n4, n5, n6, n7, n8, n9, m0, m1, m2, m3, m4, m5, m6, m7, m8, m9, o0, o1, o2, o3, o4, ↓reduceIte] | rfl) ?_)
  (refine OpsE_do rfl ?_; (first | refine E_call rfl rfl rfl (c15 l _ hlen) ?_ | refine E_callfn rfl rfl rfl (c15 l _ hlen) ?_); refine OpsE_eq (st' := _) (by first | dsimp only [n0, n1, n2, n3, n4, n5, n6, n7, n8, n9, m0, m1, m2, m3, m4, m5, m6, m7, m8, m9, o0, o1, o2, o3, o4, ↓reduceIte] | rfl) ?_)
  (refine OpsE_do rfl ?_; (first | refine E_call rfl rfl rfl (c16 l _) ?_ | refine E_callfn rfl rfl rfl (c16 l _) ?_); refine OpsE_eq (st' := _) (by first | dsimp only [n0, n1, n2, n3, n4, n5, n6, n7, n8, n9, m0, m1, m2, m3, m4, m5, m6, m7, m8, m9, o0, o1, o2, o3, o4, ↓reduceIte] | rfl) ?_)
  refine OpsE_nil ?_
  repeat (first | refine R_seq ?_ | refine R_skip ?_)
  refine R_break (fn := f34) Evt.toD E (fun j => [.box [.dat (.raw (.int .u8 stop))], .box [.dat (.raw (.bool false))], .box [.dat (evtsD E)], .box [.dat (intD (j : Int))]]) (fun j => decide ((j : Int) + 1 > stop)) rfl (by kernel_rfl) (by kernel_rfl) rfl rfl rfl (fun Y fin s hF => c34E l _ E hE hlen hg fin s hF _ rfl) (fun j hj => YE_round rfl ?_) (fun k hk hno hyes => ?_)
  · repeat (first | refine R_seq ?_ | refine R_block ?_ | refine R_skip ?_)
    refine R_region ?_
    iterate 2 ((refine OpsE_do rfl ?_; first | refine E_alloc (cs := [_, _, _, _]) ze36 rfl rfl ?_ | refine E_store (vs := [_, _, _, _]) sz36 rfl rfl rfl rfl rfl rfl rfl ?_); refine OpsE_eq (st' := _) (by first | dsimp only [n0, n1, n2, n3, n4, n5, n6, n7, n8, n9, m0, m1, m2, m3, m4, m5, m6, m7, m8, m9, o0, o1, o2, o3, o4, ↓reduceIte] | rfl) ?_)
    refine OpsE_nil ?_
    refine ⟨rfl, ?_⟩
    have hj3 : intBin .geq .i64 (j : Int) ((E.map Evt.toD).length : Int) = some (.bool false) := by
      simp only [intBin, Option.some.injEq, Value.bool.injEq, decide_eq_false_iff_not, List.length_map]; omega
    repeat (first | refine R_seq ?_ | refine R_block ?_ | refine R_skip ?_)
    refine R_draw ?_
    iterate 3 ((refine DrawE_do rfl ?_; first | refine E_loadi (ds := [_]) ag3 sz3 rfl rfl rfl rfl ?_ | refine E_loadp (ds := [_]) ag3 sz3 rfl rfl rfl rfl rfl ?_ | refine E_loadi (ds := [_]) ag25 sz25 rfl rfl rfl rfl ?_ | refine E_loadp (ds := [_]) ag25 sz25 rfl rfl rfl rfl rfl ?_ | refine E_len un25 rfl rfl ?_); refine DrawE_eq (st' := _) (by first | dsimp only [n0, n1, n2, n3, n4, n5, n6, n7, n8, n9, m0, m1, m2, m3, m4, m5, m6, m7, m8, m9, o0, o1, o2, o3, o4, ↓reduceIte] | rfl) ?_)
    (refine DrawE_do rfl ?_; refine E_int rfl rfl rfl hj3 ?_; refine DrawE_eq (st' := _) (by first | dsimp only [n0, n1, n2, n3, n4, n5, n6, n7, n8, n9, m0, m1, m2, m3, m4, m5, m6, m7, m8, m9, o0, o1, o2, o3, o4, ↓reduceIte] | rfl) ?_)
    iterate 4 ((first | (refine DrawE_do rfl ?_; first | refine E_move rfl ?_ | refine E_loadi (ds := [_, _, _, _]) (d := .agg [_, _, _, _]) ag36 sz36 rfl rfl rfl rfl ?_ | refine E_loadp (ds := [_, _, _, _]) (v := .dat (.agg [_, _, _, _])) ag36 sz36 rfl rfl rfl rfl rfl ?_ | refine E_loadp (ds := [_, _, _, _]) (v := .agg [_, _, _, _]) ag36 sz36 rfl rfl rfl rfl rfl ?_ | refine E_loadi (ds := [_]) ag25 sz25 rfl rfl rfl rfl ?_ | refine E_loadp (ds := [_]) ag25 sz25 rfl rfl rfl rfl rfl ?_ | refine E_loadi (ds := [_]) ag3 sz3 rfl rfl rfl rfl ?_ | refine E_loadp (ds := [_]) ag3 sz3 rfl rfl rfl rfl rfl ?_) | refine DrawE_not rfl ?_); refine DrawE_eq (st' := _) (by first | dsimp only [n0, n1, n2, n3, n4, n5, n6, n7, n8, n9, m0, m1, m2, m3, m4, m5, m6, m7, m8, m9, o0, o1, o2, o3, o4, ↓reduceIte] | rfl) ?_)
    ((first | (refine DrawE_do rfl ?_; (first | refine E_index el25 sz37 rfl rfl rfl rfl (evts_get hj) rfl ?_ | refine E_index0 el25 sz37 rfl rfl rfl rfl (evts_get hj) ?_ | refine E_indexArr el25 sz37 rfl rfl rfl rfl (evts_get hj) ?_)) | refine DrawE_not rfl ?_); refine DrawE_eq (st' := _) (by first | dsimp only [n0, n1, n2, n3, n4, n5, n6, n7, n8, n9, m0, m1, m2, m3, m4, m5, m6, m7, m8, m9, o0, o1, o2, o3, o4, ↓reduceIte] | rfl) ?_)
    ((first | (refine DrawE_do rfl ?_; (first | refine E_loadi (ds := [_, _, _, _]) (d := .agg [_, _, _, _]) ag37 sz37 rfl rfl rfl rfl ?_ | refine E_loadp (ds := [_, _, _, _]) (v := .dat (.agg [_, _, _, _])) ag37 sz37 rfl rfl rfl rfl rfl ?_ | refine E_loadp (ds := [_, _, _, _]) (v := .agg [_, _, _, _]) ag37 sz37 rfl rfl rfl rfl rfl ?_)) | refine DrawE_not rfl ?_); refine DrawE_eq (st' := _) (by first | dsimp only [n0, n1, n2, n3, n4, n5, n6, n7, n8, n9, m0, m1, m2, m3, m4, m5, m6, m7, m8, m9, o0, o1, o2, o3, o4, ↓reduceIte] | rfl) ?_)
    ((first | (refine DrawE_do rfl ?_; refine E_neqS rfl rfl rfl (evt_seq E[j] E[j]) ?_) | refine DrawE_not rfl ?_); refine DrawE_eq (st' := _) (by first | dsimp only [n0, n1, n2, n3, n4, n5, n6, n7, n8, n9, m0, m1, m2, m3, m4, m5, m6, m7, m8, m9, o0, o1, o2, o3, o4, ↓reduceIte] | rfl) ?_)
    (refine DrawE_do rfl ?_; refine E_pick rfl rfl ?_; refine DrawE_eq (st' := _) (by first | dsimp only [n0, n1, n2, n3, n4, n5, n6, n7, n8, n9, m0, m1, m2, m3, m4, m5, m6, m7, m8, m9, o0, o1, o2, o3, o4, ↓reduceIte] | rfl) ?_)
    refine DrawE_nil ⟨by kernel_rfl, ?_⟩
    rw [show decide (E[j] = E[j]) = true from decide_eq_true rfl]
    repeat (first | refine R_seq ?_ | refine R_block ?_ | refine R_skip ?_)
    refine R_false rfl ?_
    repeat (first | refine R_seq ?_ | refine R_block ?_ | refine R_skip ?_)
    refine R_region ?_
    iterate 3 ((refine OpsE_do rfl ?_; first | refine E_loadi (ds := [_]) ag3 sz3 rfl rfl rfl rfl ?_ | refine E_loadp (ds := [_]) ag3 sz3 rfl rfl rfl rfl rfl ?_ | refine E_int rfl rfl rfl rfl ?_ | refine E_store (vs := [_]) sz3 rfl rfl rfl rfl rfl rfl rfl ?_); refine OpsE_eq (st' := _) (by first | dsimp only [n0, n1, n2, n3, n4, n5, n6, n7, n8, n9, m0, m1, m2, m3, m4, m5, m6, m7, m8, m9, o0, o1, o2, o3, o4, ↓reduceIte] | rfl) ?_)
    refine OpsE_nil ?_
    repeat (first | refine R_seq ?_ | refine R_block ?_ | refine R_skip ?_)
    refine R_region ?_
    iterate 4 ((refine OpsE_do rfl ?_; first | refine E_loadi (ds := [_]) ag3 sz3 rfl rfl rfl rfl ?_ | refine E_loadp (ds := [_]) ag3 sz3 rfl rfl rfl rfl rfl ?_ | refine E_loadi (ds := [_]) ag5 sz5 rfl rfl rfl rfl ?_ | refine E_loadp (ds := [_]) ag5 sz5 rfl rfl rfl rfl rfl ?_ | refine E_conv un5 un3 rfl rfl ?_ | refine E_int rfl rfl rfl rfl ?_); refine OpsE_eq (st' := _) (by first | dsimp only [n0, n1, n2, n3, n4, n5, n6, n7, n8, n9, m0, m1, m2, m3, m4, m5, m6, m7, m8, m9, o0, o1, o2, o3, o4, ↓reduceIte] | rfl) ?_)
    refine OpsE_nil ?_
    have hj4 : IntKind.i64.wrap ((j : Int) + 1) = (j : Int) + 1 := wrap_i64 (by omega) (by omega)
    rw [hj4, hV]
    repeat (first | refine R_seq ?_ | refine R_block ?_ | refine R_skip ?_)
    refine R_if rfl (fun hstop => ?_) (fun hstop => ?_)
    · repeat (first | refine R_seq ?_ | refine R_block ?_ | refine R_skip ?_)
      refine R_exit ?_
      refine ⟨?_, ?_⟩
      · rw [decide_eq_true hstop]; rfl
      · simp only [decide_eq_true hstop, if_true]; rfl
    · refine R_skip ?_
      refine ⟨?_, ?_⟩
      · rw [decide_eq_false hstop]; rfl
      · simp only [decide_eq_false hstop, Bool.false_eq_true, if_false]; rfl
  · have hkk : (k : Int) = (if stop + 1 < (E.length : Int) then stop + 1 else (E.length : Int)) := by
      have hno' : ∀ j, j + 1 < k → ¬ ((j : Int) + 1 > stop) := fun j hj => of_decide_eq_false (hno j hj)
      by_cases h : k < E.length
      · obtain ⟨m, rfl, hm⟩ := hyes h
        have hm' := of_decide_eq_true hm
        cases m with
        | zero => split <;> omega
        | succ m => have := hno' m (by omega); split <;> omega
      · have : k = E.length := by omega
        subst this
        split
        · rename_i hlt
          have := hno' stop.toNat (by omega)
          omega
        · rfl
    clear hno hyes
    repeat (first | refine R_seq ?_ | refine R_block ?_ | refine R_skip ?_)
    refine R_region ?_
    (refine OpsE_do rfl ?_; refine E_assign rfl rfl ?_; refine OpsE_eq (st' := _) (by first | dsimp only [n0, n1, n2, n3, n4, n5, n6, n7, n8, n9, m0, m1, m2, m3, m4, m5, m6, m7, m8, m9, o0, o1, o2, o3, o4, ↓reduceIte] | rfl) ?_)
    refine OpsE_nil ?_
    repeat (first | refine R_seq ?_ | refine R_block ?_ | refine R_skip ?_)
    refine R_region ?_
    (refine OpsE_do rfl ?_; refine E_assign rfl rfl ?_; refine OpsE_eq (st' := _) (by first | dsimp only [n0, n1, n2, n3, n4, n5, n6, n7, n8, n9, m0, m1, m2, m3, m4, m5, m6, m7, m8, m9, o0, o1, o2, o3, o4, ↓reduceIte] | rfl) ?_)
    refine OpsE_nil ?_
    repeat (first | refine R_seq ?_ | refine R_block ?_ | refine R_skip ?_)
    refine R_loop ?_
    refine RL_ind (fun (i : Nat) => ⟨[.dat (nestsD l), .undef, .undef, .ptr 0 0, .ptr 1 0, .ptr 2 0, .ptr 3 0, .undef, intPV (fillsE (E.take i) : Nat), intPV (i : Int), .undef, .undef, .undef, .undef, .undef, .undef, .undef, .undef, .undef, .undef, .undef, .undef, .undef, .undef, .undef, .undef, .undef, .undef, .undef, .undef, .undef, .undef, .undef, .undef, .undef, .undef, .undef, .undef, .undef, .undef, .undef, .undef, .undef, .undef, .undef, .undef, .undef, .undef, .undef, .undef, .undef, .undef, .undef, .undef, .undef, .undef, .undef, .undef, .undef, .undef, .undef, .undef, .undef, .undef, .undef, .undef, .undef, .undef, .undef, .undef, .undef, .undef, .undef, .undef, .undef, .undef, .undef, .undef, .undef, .undef, .undef, .undef, .undef, .undef, .undef, .undef, .undef, .undef, .undef, .undef], [.box [.dat (.raw (.int .u8 stop))], .box [.dat (.raw (.bool false))], .box [.dat (evtsD E)], .box [.dat (intD (k : Int))]]⟩)
      (fun i => i ≤ E.length) (fun i => E.length - i) (fun i hi => ?_) _ 0 _ (Nat.lt_succ_self _) (Nat.zero_le _) rfl
    repeat (first | refine R_seq ?_ | refine R_block ?_ | refine R_skip ?_)
    refine R_region ?_
    iterate 4 ((refine OpsE_do rfl ?_; first | refine E_move rfl ?_ | refine E_loadi (ds := [_]) ag25 sz25 rfl rfl rfl rfl ?_ | refine E_loadp (ds := [_]) ag25 sz25 rfl rfl rfl rfl rfl ?_ | refine E_len un25 rfl rfl ?_ | refine E_int rfl rfl rfl rfl ?_); refine OpsE_eq (st' := _) (by first | dsimp only [n0, n1, n2, n3, n4, n5, n6, n7, n8, n9, m0, m1, m2, m3, m4, m5, m6, m7, m8, m9, o0, o1, o2, o3, o4, ↓reduceIte] | rfl) ?_)
    refine OpsE_nil ?_
    repeat (first | refine R_seq ?_ | refine R_block ?_ | refine R_skip ?_)
    refine R_if rfl (fun h => ?_) (fun h => ?_)
    · have hi' : i < E.length := by simpa using h
      have hfl : fillsE (E.take (i + 1)) = fillsE (E.take i) + (if E[i].fill then 1 else 0) := by
        rw [fillsE, fillsE, List.take_succ_eq_append_getElem hi', List.filter_append, List.length_append]
        cases hf : E[i].fill <;> simp [hf]
      have hle : fillsE (E.take i) ≤ i := by
        have := List.length_filter_le (·.fill) (E.take i)
        rw [fillsE]; simp at this; omega
      repeat (first | refine R_seq ?_ | refine R_block ?_ | refine R_skip ?_)
      refine R_region ?_
      iterate 2 ((refine OpsE_do rfl ?_; first | refine E_loadi (ds := [_]) ag25 sz25 rfl rfl rfl rfl ?_ | refine E_loadp (ds := [_]) ag25 sz25 rfl rfl rfl rfl rfl ?_ | refine E_move rfl ?_); refine OpsE_eq (st' := _) (by first | dsimp only [n0, n1, n2, n3, n4, n5, n6, n7, n8, n9, m0, m1, m2, m3, m4, m5, m6, m7, m8, m9, o0, o1, o2, o3, o4, ↓reduceIte] | rfl) ?_)
      (refine OpsE_do rfl ?_; (first | refine E_index el25 sz37 rfl rfl rfl rfl (evts_get hi') rfl ?_ | refine E_index0 el25 sz37 rfl rfl rfl rfl (evts_get hi') ?_ | refine E_indexArr el25 sz37 rfl rfl rfl rfl (evts_get hi') ?_); refine OpsE_eq (st' := _) (by first | dsimp only [n0, n1, n2, n3, n4, n5, n6, n7, n8, n9, m0, m1, m2, m3, m4, m5, m6, m7, m8, m9, o0, o1, o2, o3, o4, ↓reduceIte] | rfl) ?_)
      iterate 2 ((refine OpsE_do rfl ?_; first | refine E_fieldp fo37_1 rfl rfl ?_ | refine E_fieldi fo37_1 rfl rfl ?_ | refine E_loadi (ds := [_]) ag4 sz4 rfl rfl rfl rfl ?_ | refine E_loadp (ds := [_]) ag4 sz4 rfl rfl rfl rfl rfl ?_); refine OpsE_eq (st' := _) (by first | dsimp only [n0, n1, n2, n3, n4, n5, n6, n7, n8, n9, m0, m1, m2, m3, m4, m5, m6, m7, m8, m9, o0, o1, o2, o3, o4, ↓reduceIte] | rfl) ?_)
      refine OpsE_nil ?_
      cases hf : E[i].fill
      · rw [hf] at hfl
        repeat (first | refine R_seq ?_ | refine R_block ?_ | refine R_skip ?_)
        refine R_false rfl ?_
        repeat (first | refine R_seq ?_ | refine R_block ?_ | refine R_skip ?_)
        refine R_region ?_
        iterate 3 ((refine OpsE_do rfl ?_; first | refine E_move rfl ?_ | refine E_int rfl rfl rfl rfl ?_ | refine E_assign rfl rfl ?_); refine OpsE_eq (st' := _) (by first | dsimp only [n0, n1, n2, n3, n4, n5, n6, n7, n8, n9, m0, m1, m2, m3, m4, m5, m6, m7, m8, m9, o0, o1, o2, o3, o4, ↓reduceIte] | rfl) ?_)
        refine OpsE_nil ?_
        refine ⟨i + 1, ?_, by omega, hi'⟩
        rw [hfl, wrap_succ (by omega)]
        rfl
      · rw [hf] at hfl
        repeat (first | refine R_seq ?_ | refine R_block ?_ | refine R_skip ?_)
        refine R_true rfl ?_
        repeat (first | refine R_seq ?_ | refine R_block ?_ | refine R_skip ?_)
        refine R_region ?_
        iterate 3 ((refine OpsE_do rfl ?_; first | refine E_move rfl ?_ | refine E_int rfl rfl rfl rfl ?_ | refine E_assign rfl rfl ?_); refine OpsE_eq (st' := _) (by first | dsimp only [n0, n1, n2, n3, n4, n5, n6, n7, n8, n9, m0, m1, m2, m3, m4, m5, m6, m7, m8, m9, o0, o1, o2, o3, o4, ↓reduceIte] | rfl) ?_)
        refine OpsE_nil ?_
        repeat (first | refine R_seq ?_ | refine R_block ?_ | refine R_skip ?_)
        refine R_region ?_
        iterate 3 ((refine OpsE_do rfl ?_; first | refine E_move rfl ?_ | refine E_int rfl rfl rfl rfl ?_ | refine E_assign rfl rfl ?_); refine OpsE_eq (st' := _) (by first | dsimp only [n0, n1, n2, n3, n4, n5, n6, n7, n8, n9, m0, m1, m2, m3, m4, m5, m6, m7, m8, m9, o0, o1, o2, o3, o4, ↓reduceIte] | rfl) ?_)
        refine OpsE_nil ?_
        refine ⟨i + 1, ?_, by omega, hi'⟩
        rw [hfl, wrap_succ (by omega), wrap_succ (by omega)]
        rfl
    · have hi' : i = E.length := by simp at h; omega
      subst hi'
      repeat (first | refine R_seq ?_ | refine R_block ?_ | refine R_skip ?_)
      refine R_exit ?_
      rw [List.take_length]
      have hle : fillsE E ≤ E.length := List.length_filter_le _ _
      generalize fillsE E = F at hc hle
      repeat (first | refine R_seq ?_ | refine R_block ?_ | refine R_skip ?_)
      refine R_region ?_
      (refine OpsE_do rfl ?_; refine E_move rfl ?_; refine OpsE_eq (st' := _) (by first | dsimp only [n0, n1, n2, n3, n4, n5, n6, n7, n8, n9, m0, m1, m2, m3, m4, m5, m6, m7, m8, m9, o0, o1, o2, o3, o4, ↓reduceIte] | rfl) ?_)
      (refine OpsE_do rfl ?_; (first | refine E_call rfl rfl rfl (c15 l _ hlen) ?_ | refine E_callfn rfl rfl rfl (c15 l _ hlen) ?_); refine OpsE_eq (st' := _) (by first | dsimp only [n0, n1, n2, n3, n4, n5, n6, n7, n8, n9, m0, m1, m2, m3, m4, m5, m6, m7, m8, m9, o0, o1, o2, o3, o4, ↓reduceIte] | rfl) ?_)
      (refine OpsE_do rfl ?_; (first | refine E_call rfl rfl rfl (c17 l _ hlen hdl) ?_ | refine E_callfn rfl rfl rfl (c17 l _ hlen hdl) ?_); refine OpsE_eq (st' := _) (by first | dsimp only [n0, n1, n2, n3, n4, n5, n6, n7, n8, n9, m0, m1, m2, m3, m4, m5, m6, m7, m8, m9, o0, o1, o2, o3, o4, ↓reduceIte] | rfl) ?_)
      iterate 5 ((refine OpsE_do rfl ?_; first | refine E_move rfl ?_ | refine E_extract rfl rfl rfl ?_ | refine E_assign rfl rfl ?_); refine OpsE_eq (st' := _) (by first | dsimp only [n0, n1, n2, n3, n4, n5, n6, n7, n8, n9, m0, m1, m2, m3, m4, m5, m6, m7, m8, m9, o0, o1, o2, o3, o4, ↓reduceIte] | rfl) ?_)
      refine OpsE_nil ?_
      rw [hc]
      have hl1 : ((E.map Evt.toD).length : Int) = (E.length : Int) := by rw [List.length_map]
      have e7 : intBin .eql .i64 (k : Int) (if IntKind.i64.wrap (IntKind.i64.wrap (stop) + 1) < ((E.map Evt.toD).length : Int) then IntKind.i64.wrap (IntKind.i64.wrap (stop) + 1) else ((E.map Evt.toD).length : Int)) = some (.bool true) := by
        rw [hV, hW, hl1, ← hkk]; simp [intBin]
      have e11 : intBin .eql .i64 (F : Int) (F : Int) = some (.bool true) := by simp [intBin]
      have e19 : intBin .eql .i64 ((E.length : Int) - (F : Int)) (IntKind.i64.wrap (((E.map Evt.toD).length : Int) - (F : Int))) = some (.bool true) := by
        rw [hl1, wrap_i64 (by omega) (by omega)]; simp [intBin]
      repeat (first | refine R_seq ?_ | refine R_block ?_ | refine R_skip ?_)
      refine R_region ?_
      iterate 7 ((refine OpsE_do rfl ?_; first | refine E_loadi (ds := [_]) ag3 sz3 rfl rfl rfl rfl ?_ | refine E_loadp (ds := [_]) ag3 sz3 rfl rfl rfl rfl rfl ?_ | refine E_loadi (ds := [_]) ag25 sz25 rfl rfl rfl rfl ?_ | refine E_loadp (ds := [_]) ag25 sz25 rfl rfl rfl rfl rfl ?_ | refine E_len un25 rfl rfl ?_ | refine E_loadi (ds := [_]) ag5 sz5 rfl rfl rfl rfl ?_ | refine E_loadp (ds := [_]) ag5 sz5 rfl rfl rfl rfl rfl ?_ | refine E_conv un5 un3 rfl rfl ?_ | refine E_int rfl rfl rfl rfl ?_ | refine E_min rfl rfl rfl ?_); refine OpsE_eq (st' := _) (by first | dsimp only [n0, n1, n2, n3, n4, n5, n6, n7, n8, n9, m0, m1, m2, m3, m4, m5, m6, m7, m8, m9, o0, o1, o2, o3, o4, ↓reduceIte] | rfl) ?_)
      (refine OpsE_do rfl ?_; refine E_int rfl rfl rfl e7 ?_; refine OpsE_eq (st' := _) (by first | dsimp only [n0, n1, n2, n3, n4, n5, n6, n7, n8, n9, m0, m1, m2, m3, m4, m5, m6, m7, m8, m9, o0, o1, o2, o3, o4, ↓reduceIte] | rfl) ?_)
      iterate 3 ((first | (refine OpsE_do rfl ?_; refine E_move rfl ?_) | refine OpsE_not rfl ?_); refine OpsE_eq (st' := _) (by first | dsimp only [n0, n1, n2, n3, n4, n5, n6, n7, n8, n9, m0, m1, m2, m3, m4, m5, m6, m7, m8, m9, o0, o1, o2, o3, o4, ↓reduceIte] | rfl) ?_)
      ((first | (refine OpsE_do rfl ?_; refine E_int rfl rfl rfl e11 ?_) | refine OpsE_not rfl ?_); refine OpsE_eq (st' := _) (by first | dsimp only [n0, n1, n2, n3, n4, n5, n6, n7, n8, n9, m0, m1, m2, m3, m4, m5, m6, m7, m8, m9, o0, o1, o2, o3, o4, ↓reduceIte] | rfl) ?_)
      iterate 7 ((first | (refine OpsE_do rfl ?_; first | refine E_pick rfl rfl ?_ | refine E_move rfl ?_ | refine E_loadi (ds := [_]) ag25 sz25 rfl rfl rfl rfl ?_ | refine E_loadp (ds := [_]) ag25 sz25 rfl rfl rfl rfl rfl ?_ | refine E_len un25 rfl rfl ?_ | refine E_int rfl rfl rfl rfl ?_) | refine OpsE_not rfl ?_); refine OpsE_eq (st' := _) (by first | dsimp only [n0, n1, n2, n3, n4, n5, n6, n7, n8, n9, m0, m1, m2, m3, m4, m5, m6, m7, m8, m9, o0, o1, o2, o3, o4, ↓reduceIte] | rfl) ?_)
      ((first | (refine OpsE_do rfl ?_; refine E_int rfl rfl rfl e19 ?_) | refine OpsE_not rfl ?_); refine OpsE_eq (st' := _) (by first | dsimp only [n0, n1, n2, n3, n4, n5, n6, n7, n8, n9, m0, m1, m2, m3, m4, m5, m6, m7, m8, m9, o0, o1, o2, o3, o4, ↓reduceIte] | rfl) ?_)
      iterate 2 ((refine OpsE_do rfl ?_; first | refine E_pick rfl rfl ?_ | refine E_store (vs := [_]) sz4 rfl rfl rfl rfl rfl rfl rfl ?_); refine OpsE_eq (st' := _) (by first | dsimp only [n0, n1, n2, n3, n4, n5, n6, n7, n8, n9, m0, m1, m2, m3, m4, m5, m6, m7, m8, m9, o0, o1, o2, o3, o4, ↓reduceIte] | rfl) ?_)
      refine OpsE_nil ?_
      repeat (first | refine R_seq ?_ | refine R_block ?_ | refine R_skip ?_)
      refine R_ret ?_
      exact ⟨trivial, _, rfl, rfl⟩
end Go.Proofs.Try
