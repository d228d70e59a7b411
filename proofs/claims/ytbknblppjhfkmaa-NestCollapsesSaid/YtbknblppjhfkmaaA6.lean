/-
  Seat a: the counter of a nest's rounds.
-/
import Derived.Test.YtbknblppjhfkmaaA5
namespace Go.Proofs.Try
open Go Go.Pm
set_option linter.unusedVariables false
set_option linter.unusedSimpArgs false
set_option maxRecDepth 2000

/-- the rounds' numbers, in a box of their own -/
def jsB (js : List Int) : Blk := .box (js.map fun m => .dat (intD m))
/-- the counter -/
def ctrB (n : Nst) (k : Nat) (w a : Int) : Blk := .box [.arr 2 0 k k, .dat (intsD n.dims), .dat (intsD n.dims), .dat (intD n.write), .dat (intsD n.steps), .dat (intD n.read.kind), .dat (intD n.read.buffer), .dat (intD n.read.base), .dat (intsD n.read.strides), .dat (intD n.read.start), .dat (intD n.read.step), .dat (intD n.read.mod), .dat (intD w), .dat (intD a)]
/-- the first offset -/
def at0 (n : Nst) : Int := if n.read.kind = 3 then n.read.start else n.read.base

theorem c35 (n : Nst) (hl : n.dims.length ≤ 1048576) :
    PC prog env 35 [.dat n.toD] [.box [.dat (intsD n.dims), .dat (intD n.write), .dat (intsD n.steps), .dat (intD n.read.kind), .dat (intD n.read.buffer), .dat (intD n.read.base), .dat (intsD n.read.strides), .dat (intD n.read.start), .dat (intD n.read.step), .dat (intD n.read.mod)]] (.ptr 3 0) [.box [.dat (intsD n.dims), .dat (intD n.write), .dat (intsD n.steps), .dat (intD n.read.kind), .dat (intD n.read.buffer), .dat (intD n.read.base), .dat (intsD n.read.strides), .dat (intD n.read.start), .dat (intD n.read.step), .dat (intD n.read.mod)], .box [.dat (intsD n.dims), .dat (intD n.write), .dat (intsD n.steps), .dat (intD n.read.kind), .dat (intD n.read.buffer), .dat (intD n.read.base), .dat (intsD n.read.strides), .dat (intD n.read.start), .dat (intD n.read.step), .dat (intD n.read.mod)], jsB (List.replicate n.dims.length 0), ctrB n (n.dims.map intD).length n.write (at0 n)] := by
  refine PC_body (fn := f35) (by kernel_rfl) rfl rfl (by kernel_rfl) rfl ?_
  refine R_eq (st' := ⟨[.dat (n.toD), .tup [], .tup [], .tup [], .tup [], .tup [], .tup [], .tup [], .tup [], .tup [], .tup [], .tup [], .tup [], .tup [], .tup [], .tup [], .tup [], .tup [], .tup [], .tup [], .tup [], .tup [], .tup [], .tup [], .tup [], .tup [], .tup [], .tup [], .tup [], .tup []], [.box [.dat (intsD n.dims), .dat (intD n.write), .dat (intsD n.steps), .dat (intD n.read.kind), .dat (intD n.read.buffer), .dat (intD n.read.base), .dat (intsD n.read.strides), .dat (intD n.read.start), .dat (intD n.read.step), .dat (intD n.read.mod)]]⟩) rfl ?_
  have hz : List.replicate (((n.dims.map intD).length : Int)).toNat (PV.dat (.raw (.int .i64 0))) = (List.replicate n.dims.length (0 : Int)).map fun m => .dat (intD m) := by simp [intD]
  repeat (first | refine R_seq ?_ | refine R_block ?_ | refine R_skip ?_)
  refine R_region ?_
  iterate 2 ((refine OpsE_do rfl ?_; first | refine E_box (cs := [_, _, _, _, _, _, _, _, _, _]) rfl rfl rfl ?_ | refine E_assign rfl rfl ?_); refine OpsE_eq (st' := _) (by first | dsimp only [n0, n1, n2, n3, n4, n5, n6, n7, n8, n9, m0, m1, m2, m3, m4, m5, m6, m7, m8, m9, o0, o1, o2, o3, o4, ↓reduceIte] | rfl) ?_)
  refine OpsE_nil ?_
  repeat (first | refine R_seq ?_ | refine R_block ?_ | refine R_skip ?_)
  refine R_draw ?_
  iterate 3 ((refine DrawE_do rfl ?_; first | refine E_fieldp fo53_0 rfl rfl ?_ | refine E_fieldi fo53_0 rfl rfl ?_ | refine E_loadi (ds := [_]) ag49 sz49 rfl rfl rfl rfl ?_ | refine E_loadp (ds := [_]) ag49 sz49 rfl rfl rfl rfl rfl ?_ | refine E_len un49 rfl rfl ?_); refine DrawE_eq (st' := _) (by first | dsimp only [n0, n1, n2, n3, n4, n5, n6, n7, n8, n9, m0, m1, m2, m3, m4, m5, m6, m7, m8, m9, o0, o1, o2, o3, o4, ↓reduceIte] | rfl) ?_)
  (refine DrawE_do rfl ?_; refine E_make el49 ze3 sz3 by3 rfl rfl rfl ⟨Int.natCast_nonneg _, Int.le_refl _, by simp [room]; omega, by simp; omega, rfl⟩ ?_; refine DrawE_eq (st' := _) (by first | dsimp only [n0, n1, n2, n3, n4, n5, n6, n7, n8, n9, m0, m1, m2, m3, m4, m5, m6, m7, m8, m9, o0, o1, o2, o3, o4, ↓reduceIte] | rfl) ?_)
  iterate 12 ((refine DrawE_do rfl ?_; first | refine E_fieldp fo53_0 rfl rfl ?_ | refine E_fieldi fo53_0 rfl rfl ?_ | refine E_loadi (ds := [_]) ag49 sz49 rfl rfl rfl rfl ?_ | refine E_loadp (ds := [_]) ag49 sz49 rfl rfl rfl rfl rfl ?_ | refine E_build (cs := [_, _]) (cs' := [_, _]) (v := .dat (.agg [_, _])) ze95 pl95 rfl rfl rfl rfl rfl rfl ?_ | refine E_build (cs := [_, _]) (cs' := [_, _]) (v := .agg [_, _]) ze95 pl95 rfl rfl rfl rfl rfl rfl ?_ | refine E_loadi (ds := [_, _, _, _, _, _, _, _, _, _]) (d := .agg [_, _, _, _, _, _, _, _, _, _]) ag53 sz53 rfl rfl rfl rfl ?_ | refine E_loadp (ds := [_, _, _, _, _, _, _, _, _, _]) (v := .dat (.agg [_, _, _, _, _, _, _, _, _, _])) ag53 sz53 rfl rfl rfl rfl rfl ?_ | refine E_loadp (ds := [_, _, _, _, _, _, _, _, _, _]) (v := .agg [_, _, _, _, _, _, _, _, _, _]) ag53 sz53 rfl rfl rfl rfl rfl ?_ | refine E_fieldp fo53_1 rfl rfl ?_ | refine E_fieldi fo53_1 rfl rfl ?_ | refine E_loadi (ds := [_]) ag3 sz3 rfl rfl rfl rfl ?_ | refine E_loadp (ds := [_]) ag3 sz3 rfl rfl rfl rfl rfl ?_ | refine E_fieldp fo53_3 rfl rfl ?_ | refine E_fieldi fo53_3 rfl rfl ?_ | refine E_fieldp fo51_2 rfl rfl ?_ | refine E_fieldi fo51_2 rfl rfl ?_ | refine E_build (cs := [_, _, _, _, _, _, _, _, _, _, _, _, _, _]) (cs' := [_, _, _, _, _, _, _, _, _, _, _, _, _, _]) (v := .dat (.agg [_, _, _, _, _, _, _, _, _, _, _, _, _, _])) ze97 pl97 rfl rfl rfl rfl rfl rfl ?_ | refine E_build (cs := [_, _, _, _, _, _, _, _, _, _, _, _, _, _]) (cs' := [_, _, _, _, _, _, _, _, _, _, _, _, _, _]) (v := .agg [_, _, _, _, _, _, _, _, _, _, _, _, _, _]) ze97 pl97 rfl rfl rfl rfl rfl rfl ?_ | refine E_box (cs := [_, _, _, _, _, _, _, _, _, _, _, _, _, _]) rfl rfl rfl ?_ | refine E_assign rfl rfl ?_); refine DrawE_eq (st' := _) (by first | dsimp only [n0, n1, n2, n3, n4, n5, n6, n7, n8, n9, m0, m1, m2, m3, m4, m5, m6, m7, m8, m9, o0, o1, o2, o3, o4, ↓reduceIte] | rfl) ?_)
  refine DrawE_nil ⟨by kernel_rfl, ?_⟩
  repeat (first | refine R_seq ?_ | refine R_block ?_ | refine R_skip ?_)
  refine R_region ?_
  iterate 4 ((refine OpsE_do rfl ?_; first | refine E_fieldp fo53_3 rfl rfl ?_ | refine E_fieldi fo53_3 rfl rfl ?_ | refine E_fieldp fo51_0 rfl rfl ?_ | refine E_fieldi fo51_0 rfl rfl ?_ | refine E_loadi (ds := [_]) ag3 sz3 rfl rfl rfl rfl ?_ | refine E_loadp (ds := [_]) ag3 sz3 rfl rfl rfl rfl rfl ?_ | refine E_int rfl rfl rfl rfl ?_); refine OpsE_eq (st' := _) (by first | dsimp only [n0, n1, n2, n3, n4, n5, n6, n7, n8, n9, m0, m1, m2, m3, m4, m5, m6, m7, m8, m9, o0, o1, o2, o3, o4, ↓reduceIte] | rfl) ?_)
  refine OpsE_nil ?_
  repeat (first | refine R_seq ?_ | refine R_block ?_ | refine R_skip ?_)
  refine R_cond rfl (fun hk => ?_) (fun hk => ?_)
  · have hk' : n.read.kind = 3 := by simpa using hk
    repeat (first | refine R_seq ?_ | refine R_block ?_ | refine R_skip ?_)
    refine R_region ?_
    iterate 7 ((refine OpsE_do rfl ?_; first | refine E_move rfl ?_ | refine E_fieldp fo53_3 rfl rfl ?_ | refine E_fieldi fo53_3 rfl rfl ?_ | refine E_fieldp fo51_4 rfl rfl ?_ | refine E_fieldi fo51_4 rfl rfl ?_ | refine E_loadi (ds := [_]) ag3 sz3 rfl rfl rfl rfl ?_ | refine E_loadp (ds := [_]) ag3 sz3 rfl rfl rfl rfl rfl ?_ | refine E_nilp rfl rfl ?_ | refine E_nili rfl rfl ?_ | refine E_nilf rfl rfl ?_ | refine E_fieldp fo97_3 rfl rfl ?_ | refine E_fieldi fo97_3 rfl rfl ?_ | refine E_store (vs := [_]) sz3 rfl rfl rfl rfl rfl rfl rfl ?_); refine OpsE_eq (st' := _) (by first | dsimp only [n0, n1, n2, n3, n4, n5, n6, n7, n8, n9, m0, m1, m2, m3, m4, m5, m6, m7, m8, m9, o0, o1, o2, o3, o4, ↓reduceIte] | rfl) ?_)
    refine OpsE_nil ?_
    repeat (first | refine R_seq ?_ | refine R_block ?_ | refine R_skip ?_)
    refine R_region ?_
    iterate 2 ((refine OpsE_do rfl ?_; first | refine E_move rfl ?_ | refine E_assign rfl rfl ?_); refine OpsE_eq (st' := _) (by first | dsimp only [n0, n1, n2, n3, n4, n5, n6, n7, n8, n9, m0, m1, m2, m3, m4, m5, m6, m7, m8, m9, o0, o1, o2, o3, o4, ↓reduceIte] | rfl) ?_)
    refine OpsE_nil ?_
    repeat (first | refine R_seq ?_ | refine R_block ?_ | refine R_skip ?_)
    refine R_ret ?_
    refine ⟨trivial, _, rfl, rfl, ?_⟩
    rw [at0, if_pos hk', jsB, ← hz]
    rfl
  · have hk' : ¬ n.read.kind = 3 := by simpa using hk
    repeat (first | refine R_seq ?_ | refine R_block ?_ | refine R_skip ?_)
    refine R_region ?_
    iterate 2 ((refine OpsE_do rfl ?_; first | refine E_move rfl ?_ | refine E_assign rfl rfl ?_); refine OpsE_eq (st' := _) (by first | dsimp only [n0, n1, n2, n3, n4, n5, n6, n7, n8, n9, m0, m1, m2, m3, m4, m5, m6, m7, m8, m9, o0, o1, o2, o3, o4, ↓reduceIte] | rfl) ?_)
    refine OpsE_nil ?_
    repeat (first | refine R_seq ?_ | refine R_block ?_ | refine R_skip ?_)
    refine R_ret ?_
    refine ⟨trivial, _, rfl, rfl, ?_⟩
    rw [at0, if_neg hk', jsB, ← hz]
    rfl
/-- the event of the present round -/
def eventC (n : Nst) (w a : Int) : Evt :=
  if n.read.kind = 2 then { write := w, fill := false, buffer := n.read.buffer, offset := a }
  else if n.read.kind = 3 then { write := w, fill := false, buffer := n.read.buffer, offset := IntKind.i64.wrap (n.read.base + IntKind.i64.wrap (n.read.step * (IntKind.i64.wrap (a.tmod n.read.mod + n.read.mod)).tmod n.read.mod)) }
  else { write := w, fill := true, buffer := 0, offset := 0 }
def Evt.box (e : Evt) : Blk := .box [.dat (intD e.write), .dat (.raw (.bool e.fill)), .dat (intD e.buffer), .dat (intD e.offset)]
def Acc.box (a : Acc) : Blk := .box [.dat (intD a.kind), .dat (intD a.buffer), .dat (intD a.base), .dat (intsD a.strides), .dat (intD a.start), .dat (intD a.step), .dat (intD a.mod)]

theorem c37 (n : Nst) (k : Nat) (w a : Int) (b0 b1 b2 : Blk) (hm : n.read.kind = 3 → n.read.mod ≠ 0) :
    PC prog env 37 [.ptr 3 0] [b0, b1, b2, ctrB n k w a] (.dat (eventC n w a).toD) [b0, b1, b2, ctrB n k w a, (eventC n w a).box, n.read.box] := by
  refine PC_body (fn := f37) (by kernel_rfl) rfl rfl (by kernel_rfl) rfl ?_
  refine R_eq (st' := ⟨[.ptr 3 0, .tup [], .tup [], .tup [], .tup [], .tup [], .tup [], .tup [], .tup [], .tup [], .tup [], .tup [], .tup [], .tup [], .tup [], .tup [], .tup [], .tup [], .tup [], .tup [], .tup [], .tup [], .tup [], .tup [], .tup [], .tup [], .tup [], .tup [], .tup [], .tup [], .tup [], .tup [], .tup [], .tup [], .tup [], .tup [], .tup [], .tup [], .tup [], .tup [], .tup [], .tup [], .tup [], .tup [], .tup [], .tup [], .tup [], .tup [], .tup [], .tup [], .tup [], .tup [], .tup [], .tup [], .tup [], .tup [], .tup []], [b0, b1, b2, .box [.arr 2 0 k k, .dat (intsD n.dims), .dat (intsD n.dims), .dat (intD n.write), .dat (intsD n.steps), .dat (intD n.read.kind), .dat (intD n.read.buffer), .dat (intD n.read.base), .dat (intsD n.read.strides), .dat (intD n.read.start), .dat (intD n.read.step), .dat (intD n.read.mod), .dat (intD w), .dat (intD a)]]⟩) rfl ?_
  repeat (first | refine R_seq ?_ | refine R_block ?_ | refine R_skip ?_)
  refine R_region ?_
  (refine OpsE_do rfl ?_; refine E_alloc (cs := [_, _, _, _]) ze36 rfl rfl ?_; refine OpsE_eq (st' := _) (by first | dsimp only [n0, n1, n2, n3, n4, n5, n6, n7, n8, n9, m0, m1, m2, m3, m4, m5, m6, m7, m8, m9, o0, o1, o2, o3, o4, ↓reduceIte] | rfl) ?_)
  refine OpsE_nil ?_
  repeat (first | refine R_seq ?_ | refine R_block ?_ | refine R_skip ?_)
  refine R_region ?_
  iterate 7 ((refine OpsE_do rfl ?_; first | refine E_move rfl ?_ | refine E_nilp rfl rfl ?_ | refine E_nili rfl rfl ?_ | refine E_nilf rfl rfl ?_ | refine E_fieldp fo97_1 rfl rfl ?_ | refine E_fieldi fo97_1 rfl rfl ?_ | refine E_fieldp fo53_3 rfl rfl ?_ | refine E_fieldi fo53_3 rfl rfl ?_ | refine E_loadi (ds := [_, _, _, _, _, _, _]) (d := .agg [_, _, _, _, _, _, _]) ag51 sz51 rfl rfl rfl rfl ?_ | refine E_loadp (ds := [_, _, _, _, _, _, _]) (v := .dat (.agg [_, _, _, _, _, _, _])) ag51 sz51 rfl rfl rfl rfl rfl ?_ | refine E_loadp (ds := [_, _, _, _, _, _, _]) (v := .agg [_, _, _, _, _, _, _]) ag51 sz51 rfl rfl rfl rfl rfl ?_ | refine E_alloc (cs := [_, _, _, _, _, _, _]) ze51 rfl rfl ?_ | refine E_store (vs := [_, _, _, _, _, _, _]) sz51 rfl rfl rfl rfl rfl rfl rfl ?_); refine OpsE_eq (st' := _) (by first | dsimp only [n0, n1, n2, n3, n4, n5, n6, n7, n8, n9, m0, m1, m2, m3, m4, m5, m6, m7, m8, m9, o0, o1, o2, o3, o4, ↓reduceIte] | rfl) ?_)
  refine OpsE_nil ?_
  repeat (first | refine R_seq ?_ | refine R_block ?_ | refine R_skip ?_)
  refine R_region ?_
  iterate 2 ((refine OpsE_do rfl ?_; first | refine E_fieldp fo51_0 rfl rfl ?_ | refine E_fieldi fo51_0 rfl rfl ?_ | refine E_loadi (ds := [_]) ag3 sz3 rfl rfl rfl rfl ?_ | refine E_loadp (ds := [_]) ag3 sz3 rfl rfl rfl rfl rfl ?_); refine OpsE_eq (st' := _) (by first | dsimp only [n0, n1, n2, n3, n4, n5, n6, n7, n8, n9, m0, m1, m2, m3, m4, m5, m6, m7, m8, m9, o0, o1, o2, o3, o4, ↓reduceIte] | rfl) ?_)
  refine OpsE_nil ?_
  repeat (first | refine R_seq ?_ | refine R_block ?_ | refine R_skip ?_)
  refine R_region ?_
  iterate 2 ((refine OpsE_do rfl ?_; first | refine E_int rfl rfl rfl rfl ?_ | refine E_assign rfl rfl ?_); refine OpsE_eq (st' := _) (by first | dsimp only [n0, n1, n2, n3, n4, n5, n6, n7, n8, n9, m0, m1, m2, m3, m4, m5, m6, m7, m8, m9, o0, o1, o2, o3, o4, ↓reduceIte] | rfl) ?_)
  refine OpsE_nil ?_
  repeat (first | refine R_seq ?_ | refine R_block ?_ | refine R_skip ?_)
  refine R_cond rfl (fun h2 => ?_) (fun h2 => ?_)
  · have h2' : n.read.kind = 2 := by simpa using h2
    repeat (first | refine R_seq ?_ | refine R_block ?_ | refine R_skip ?_)
    refine R_draw ?_
    iterate 12 ((refine DrawE_do rfl ?_; first | refine E_move rfl ?_ | refine E_nilp rfl rfl ?_ | refine E_nili rfl rfl ?_ | refine E_nilf rfl rfl ?_ | refine E_fieldp fo97_2 rfl rfl ?_ | refine E_fieldi fo97_2 rfl rfl ?_ | refine E_loadi (ds := [_]) ag3 sz3 rfl rfl rfl rfl ?_ | refine E_loadp (ds := [_]) ag3 sz3 rfl rfl rfl rfl rfl ?_ | refine E_fieldp fo51_1 rfl rfl ?_ | refine E_fieldi fo51_1 rfl rfl ?_ | refine E_fieldp fo97_3 rfl rfl ?_ | refine E_fieldi fo97_3 rfl rfl ?_ | refine E_build (cs := [_, _, _, _]) (cs' := [_, _, _, _]) (v := .dat (.agg [_, _, _, _])) ze36 pl36 rfl rfl rfl rfl rfl rfl ?_ | refine E_build (cs := [_, _, _, _]) (cs' := [_, _, _, _]) (v := .agg [_, _, _, _]) ze36 pl36 rfl rfl rfl rfl rfl rfl ?_ | refine E_store (vs := [_, _, _, _]) sz36 rfl rfl rfl rfl rfl rfl rfl ?_); refine DrawE_eq (st' := _) (by first | dsimp only [n0, n1, n2, n3, n4, n5, n6, n7, n8, n9, m0, m1, m2, m3, m4, m5, m6, m7, m8, m9, o0, o1, o2, o3, o4, ↓reduceIte] | rfl) ?_)
    refine DrawE_nil ⟨by kernel_rfl, ?_⟩
    repeat (first | refine R_seq ?_ | refine R_block ?_ | refine R_skip ?_)
    refine R_ret ?_
    refine ⟨trivial, _, rfl, ?_, ?_⟩
    · rw [eventC, if_pos h2']; rfl
    · rw [eventC, if_pos h2']; rfl
  · have h2' : ¬ n.read.kind = 2 := by simpa using h2
    repeat (first | refine R_seq ?_ | refine R_block ?_ | refine R_skip ?_)
    refine R_region ?_
    iterate 2 ((refine OpsE_do rfl ?_; first | refine E_int rfl rfl rfl rfl ?_ | refine E_assign rfl rfl ?_); refine OpsE_eq (st' := _) (by first | dsimp only [n0, n1, n2, n3, n4, n5, n6, n7, n8, n9, m0, m1, m2, m3, m4, m5, m6, m7, m8, m9, o0, o1, o2, o3, o4, ↓reduceIte] | rfl) ?_)
    refine OpsE_nil ?_
    repeat (first | refine R_seq ?_ | refine R_block ?_ | refine R_skip ?_)
    refine R_cond rfl (fun h3 => ?_) (fun h3 => ?_)
    · have h3' : n.read.kind = 3 := by simpa using h3
      repeat (first | refine R_seq ?_ | refine R_block ?_ | refine R_skip ?_)
      refine R_draw ?_
      iterate 16 ((refine DrawE_do rfl ?_; first | refine E_move rfl ?_ | refine E_nilp rfl rfl ?_ | refine E_nili rfl rfl ?_ | refine E_nilf rfl rfl ?_ | refine E_fieldp fo97_2 rfl rfl ?_ | refine E_fieldi fo97_2 rfl rfl ?_ | refine E_loadi (ds := [_]) ag3 sz3 rfl rfl rfl rfl ?_ | refine E_loadp (ds := [_]) ag3 sz3 rfl rfl rfl rfl rfl ?_ | refine E_fieldp fo51_1 rfl rfl ?_ | refine E_fieldi fo51_1 rfl rfl ?_ | refine E_fieldp fo51_2 rfl rfl ?_ | refine E_fieldi fo51_2 rfl rfl ?_ | refine E_fieldp fo51_5 rfl rfl ?_ | refine E_fieldi fo51_5 rfl rfl ?_ | refine E_fieldp fo97_3 rfl rfl ?_ | refine E_fieldi fo97_3 rfl rfl ?_ | refine E_fieldp fo51_6 rfl rfl ?_ | refine E_fieldi fo51_6 rfl rfl ?_); refine DrawE_eq (st' := _) (by first | dsimp only [n0, n1, n2, n3, n4, n5, n6, n7, n8, n9, m0, m1, m2, m3, m4, m5, m6, m7, m8, m9, o0, o1, o2, o3, o4, ↓reduceIte] | rfl) ?_)
      (refine DrawE_do rfl ?_; refine E_int rfl rfl rfl (rem_ok (hm h3')) ?_; refine DrawE_eq (st' := _) (by first | dsimp only [n0, n1, n2, n3, n4, n5, n6, n7, n8, n9, m0, m1, m2, m3, m4, m5, m6, m7, m8, m9, o0, o1, o2, o3, o4, ↓reduceIte] | rfl) ?_)
      iterate 5 ((refine DrawE_do rfl ?_; first | refine E_fieldp fo51_6 rfl rfl ?_ | refine E_fieldi fo51_6 rfl rfl ?_ | refine E_loadi (ds := [_]) ag3 sz3 rfl rfl rfl rfl ?_ | refine E_loadp (ds := [_]) ag3 sz3 rfl rfl rfl rfl rfl ?_ | refine E_int rfl rfl rfl rfl ?_); refine DrawE_eq (st' := _) (by first | dsimp only [n0, n1, n2, n3, n4, n5, n6, n7, n8, n9, m0, m1, m2, m3, m4, m5, m6, m7, m8, m9, o0, o1, o2, o3, o4, ↓reduceIte] | rfl) ?_)
      (refine DrawE_do rfl ?_; refine E_int rfl rfl rfl (rem_ok (hm h3')) ?_; refine DrawE_eq (st' := _) (by first | dsimp only [n0, n1, n2, n3, n4, n5, n6, n7, n8, n9, m0, m1, m2, m3, m4, m5, m6, m7, m8, m9, o0, o1, o2, o3, o4, ↓reduceIte] | rfl) ?_)
      iterate 4 ((refine DrawE_do rfl ?_; first | refine E_int rfl rfl rfl rfl ?_ | refine E_build (cs := [_, _, _, _]) (cs' := [_, _, _, _]) (v := .dat (.agg [_, _, _, _])) ze36 pl36 rfl rfl rfl rfl rfl rfl ?_ | refine E_build (cs := [_, _, _, _]) (cs' := [_, _, _, _]) (v := .agg [_, _, _, _]) ze36 pl36 rfl rfl rfl rfl rfl rfl ?_ | refine E_store (vs := [_, _, _, _]) sz36 rfl rfl rfl rfl rfl rfl rfl ?_); refine DrawE_eq (st' := _) (by first | dsimp only [n0, n1, n2, n3, n4, n5, n6, n7, n8, n9, m0, m1, m2, m3, m4, m5, m6, m7, m8, m9, o0, o1, o2, o3, o4, ↓reduceIte] | rfl) ?_)
      refine DrawE_nil ⟨by kernel_rfl, ?_⟩
      repeat (first | refine R_seq ?_ | refine R_block ?_ | refine R_skip ?_)
      refine R_ret ?_
      refine ⟨trivial, _, rfl, ?_, ?_⟩
      · rw [eventC, if_neg h2', if_pos h3']; rfl
      · rw [eventC, if_neg h2', if_pos h3']; rfl
    · have h3' : ¬ n.read.kind = 3 := by simpa using h3
      repeat (first | refine R_seq ?_ | refine R_block ?_ | refine R_skip ?_)
      refine R_region ?_
      iterate 6 ((refine OpsE_do rfl ?_; first | refine E_move rfl ?_ | refine E_nilp rfl rfl ?_ | refine E_nili rfl rfl ?_ | refine E_nilf rfl rfl ?_ | refine E_fieldp fo97_2 rfl rfl ?_ | refine E_fieldi fo97_2 rfl rfl ?_ | refine E_loadi (ds := [_]) ag3 sz3 rfl rfl rfl rfl ?_ | refine E_loadp (ds := [_]) ag3 sz3 rfl rfl rfl rfl rfl ?_ | refine E_build (cs := [_, _, _, _]) (cs' := [_, _, _, _]) (v := .dat (.agg [_, _, _, _])) ze36 pl36 rfl rfl rfl rfl rfl rfl ?_ | refine E_build (cs := [_, _, _, _]) (cs' := [_, _, _, _]) (v := .agg [_, _, _, _]) ze36 pl36 rfl rfl rfl rfl rfl rfl ?_ | refine E_store (vs := [_, _, _, _]) sz36 rfl rfl rfl rfl rfl rfl rfl ?_); refine OpsE_eq (st' := _) (by first | dsimp only [n0, n1, n2, n3, n4, n5, n6, n7, n8, n9, m0, m1, m2, m3, m4, m5, m6, m7, m8, m9, o0, o1, o2, o3, o4, ↓reduceIte] | rfl) ?_)
      refine OpsE_nil ?_
      repeat (first | refine R_seq ?_ | refine R_block ?_ | refine R_skip ?_)
      refine R_ret ?_
      refine ⟨trivial, _, rfl, ?_, ?_⟩
      · rw [eventC, if_neg h2', if_neg h3']; rfl
      · rw [eventC, if_neg h2', if_neg h3']; rfl
end Go.Proofs.Try
