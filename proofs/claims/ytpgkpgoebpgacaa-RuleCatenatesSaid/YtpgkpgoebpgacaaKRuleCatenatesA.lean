/-
  Models of functions, their walks, and plain laws.
-/
import Derived.Test.YtpgkpgoebpgacaaProg
import Derived.Test.YtpgkpgoebpgacaaPmSx
import Derived.Test.YtpgkpgoebpgacaaPmMs
import Derived.KernelRfl
namespace Go.Proofs.Try
open Go Go.Pm
set_option linter.unusedVariables false
set_option maxRecDepth 2000
def hintOf : FuncId → Hint
  | 5 => { own := [((3, 0), [(0, 2)])], keep := [(5, [0, 1, 5, 6]), (15, [0, 1, 7, 9, 11])] }
  | 8 => { own := [], keep := [(2, [0, 3])] }
  | 10 => { own := [((13, 5), [(0, 59)])], keep := [] }
  | 11 => { own := [], keep := [(19, [0, 6, 8, 10, 11, 12])] }
  | 14 => { own := [], keep := [(4, [0, 1, 5])] }
  | 17 => { own := [((6, 0), [(0, 3)]), ((6, 1), [(0, 3)]), ((18, 4), [(0, 59)])], keep := [(8, [4, 6, 8, 9, 38, 39, 40])] }
  | 18 => { own := [((6, 1), [(0, 3)]), ((12, 4), [(0, 59)])], keep := [(8, [4, 6, 8, 9, 41, 42, 43])] }
  | 21 => { own := [((4, 4), [(0, 59)])], keep := [] }
  | 22 => { own := [((9, 10), [(0, 59)])], keep := [] }
  | 24 => { own := [], keep := [(3, [0, 4, 5]), (9, [0, 4, 6]), (17, [0, 7, 8])] }
  | 26 => { own := [((3, 1), [(0, 3)])], keep := [] }
  | 28 => { own := [((4, 1), [(0, 3)]), ((4, 3), [(0, 3)])], keep := [(6, [6, 9, 23, 24, 25])] }
  | 31 => { own := [((1, 0), [(0, 3)])], keep := [(3, [0, 1, 2, 7, 8])] }
  | 35 => { own := [((1, 0), [(1000, 3)]), ((9, 3), [(0, 59)])], keep := [(3, [1, 2, 4, 6, 9, 10, 11]), (5, [1, 2, 4, 6, 7, 8, 9, 10, 11])] }
  | 39 => { own := [((2, 0), [(1000, 3)]), ((3, 0), [(1000, 3)])], keep := [] }
  | 53 => { own := [((1, 0), [(0, 3)])], keep := [(3, [0, 1, 5, 6])] }
  | 54 => { own := [((3, 2), [(0, 2)])], keep := [] }
  | 55 => { own := [((1, 2), [(0, 3)])], keep := [(3, [1, 6, 14, 15, 16])] }
  | 57 => { own := [], keep := [(5, [0, 3, 4])] }
  | 68 => { own := [], keep := [(4, [0, 1, 12, 13])] }
  | 71 => { own := [((2, 0), [(1000, 2)]), ((3, 0), [(1000, 2)])], keep := [] }
  | 72 => { own := [], keep := [(8, [7, 8])] }
  | 73 => { own := [], keep := [(2, [0, 1, 7, 8])] }
  | 78 => { own := [((9, 1), [(2000, 3)])], keep := [(3, [0, 3, 9, 10, 11]), (11, [6, 25, 26, 27])] }
  | 80 => { own := [], keep := [(3, [2, 8, 13, 14, 15])] }
  | 85 => { own := [], keep := [(2, [0, 1, 7, 8])] }
  | 89 => { own := [], keep := [(2, [0, 1, 7, 8])] }
  | _ => {}
def env : Env where
  summ := fun _ => none
  hint := hintOf
  pure := fun f => f != 28 && f != 30 && f != 38 && f != 39 && f != 52 && f != 55 && f != 56 && f != 58 && f != 60 && f != 65 && f != 71 && f != 79 && f != 86
  split := fun f => f == 39 || f == 71

end Go.Proofs.Try
namespace Go.Proofs.Try
open Go Go.Pm
theorem ag2 : aggT prog 2 = some false := by kernel_rfl
theorem ag22 : aggT prog 22 = some false := by kernel_rfl
theorem ag27 : aggT prog 27 = some true := by kernel_rfl
theorem ag3 : aggT prog 3 = some false := by kernel_rfl
theorem ag31 : aggT prog 31 = some true := by kernel_rfl
theorem ag36 : aggT prog 36 = some false := by kernel_rfl
theorem ag59 : aggT prog 59 = some false := by kernel_rfl
theorem by3 : bytesOf prog 3 = some 8 := by kernel_rfl
theorem el107 : elemOfSlice prog 107 = some 22 := by kernel_rfl
theorem el22 : elemOfSlice prog 22 = some 3 := by kernel_rfl
theorem el36 : elemOfSlice prog 36 = some 2 := by kernel_rfl
theorem el79 : elemOfSlice prog 79 = some 59 := by kernel_rfl
theorem fo27_0 : fieldOff prog 27 0 = some 0 := by kernel_rfl
theorem fo27_3 : fieldOff prog 27 3 = some 3 := by kernel_rfl
theorem fo27_4 : fieldOff prog 27 4 = some 4 := by kernel_rfl
theorem fo27_5 : fieldOff prog 27 5 = some 5 := by kernel_rfl
theorem fo31_0 : fieldOff prog 31 0 = some 0 := by kernel_rfl
theorem fo31_1 : fieldOff prog 31 1 = some 1 := by kernel_rfl
theorem fo31_2 : fieldOff prog 31 2 = some 2 := by kernel_rfl
theorem fo31_3 : fieldOff prog 31 3 = some 3 := by kernel_rfl
theorem fo31_4 : fieldOff prog 31 4 = some 4 := by kernel_rfl
theorem fo31_5 : fieldOff prog 31 5 = some 5 := by kernel_rfl
theorem fo31_6 : fieldOff prog 31 6 = some 6 := by kernel_rfl
theorem fo40_0 : fieldOff prog 40 0 = some 0 := by kernel_rfl
theorem pl27 : placesL prog 27 = some [(0, 1), (1, 1), (2, 1), (3, 1), (4, 1), (5, 1), (6, 1)] := by kernel_rfl
theorem pl31 : placesL prog 31 = some [(0, 1), (1, 1), (2, 1), (3, 1), (4, 1), (5, 1), (6, 1)] := by kernel_rfl
theorem pl40 : placesL prog 40 = some [(0, 1), (1, 1)] := by kernel_rfl
theorem sz2 : szOf prog 2 = some 1 := by kernel_rfl
theorem sz22 : szOf prog 22 = some 1 := by kernel_rfl
theorem sz27 : szOf prog 27 = some 7 := by kernel_rfl
theorem sz3 : szOf prog 3 = some 1 := by kernel_rfl
theorem sz31 : szOf prog 31 = some 7 := by kernel_rfl
theorem sz36 : szOf prog 36 = some 1 := by kernel_rfl
theorem sz40 : szOf prog 40 = some 2 := by kernel_rfl
theorem sz59 : szOf prog 59 = some 1 := by kernel_rfl
theorem un107 : prog.underlying 107 = some (TypeDesc.slice 22) := by kernel_rfl
theorem un22 : prog.underlying 22 = some (TypeDesc.slice 3) := by kernel_rfl
theorem un3 : prog.underlying 3 = some (TypeDesc.int IntKind.i64) := by kernel_rfl
theorem un36 : prog.underlying 36 = some (TypeDesc.slice 2) := by kernel_rfl
theorem un79 : prog.underlying 79 = some (TypeDesc.slice 59) := by kernel_rfl
theorem ze22 : zeroOf prog 22 = some (Dat.lst []) := by kernel_rfl
theorem ze27 : zeroOf prog 27 = some (Dat.agg [Dat.lst [], Dat.lst [], Dat.lst [], Dat.lst [], Dat.raw (Value.int IntKind.i64 (0)), Dat.raw (Value.int IntKind.i64 (0)), Dat.lst []]) := by kernel_rfl
theorem ze3 : zeroOf prog 3 = some (Dat.raw (Value.int IntKind.i64 (0))) := by kernel_rfl
theorem ze31 : zeroOf prog 31 = some (Dat.agg [Dat.lst [], Dat.lst [], Dat.lst [], Dat.lst [], Dat.raw (Value.int IntKind.i64 (0)), Dat.raw (Value.int IntKind.i64 (0)), Dat.lst []]) := by kernel_rfl
theorem ze40 : zeroOf prog 40 = some (Dat.agg [Dat.lst [], Dat.raw (Value.bool false)]) := by kernel_rfl
theorem zi22 : (zeroOf prog 22).isSome = true := by kernel_rfl
theorem zi3 : (zeroOf prog 3).isSome = true := by kernel_rfl
theorem zi59 : (zeroOf prog 59).isSome = true := by kernel_rfl
theorem zn3 : (zeroOf prog 3).map Dat.num = some 1 := by kernel_rfl
end Go.Proofs.Try
namespace Go.Proofs.Try
open Go Go.Pm
set_option linter.unusedVariables false
set_option linter.unusedSimpArgs false
set_option maxRecDepth 2000
theorem wrap_i64 {n : Int} (h1 : -9223372036854775808 ≤ n) (h2 : n < 9223372036854775808) : IntKind.i64.wrap n = n := by
  simp only [IntKind.wrap, IntKind.bits, IntKind.signed]; simp; split <;> omega
theorem wrap_succ {j : Nat} (h : j < 9223372036854775807) : IntKind.i64.wrap ((j : Int) + 1) = ((j + 1 : Nat) : Int) := by rw [wrap_i64 (by omega) (by omega)]; omega

def intsD (l : List Int) : Dat := .lst (l.map intD)
theorem ints_get {l : List Int} {j : Nat} (h : j < l.length) : (l.map intD)[j]? = some (intD l[j]) := by simp [h]
theorem map_fit {α : Type} {f : α → Dat} {k : Nat} (h : ∀ a, Dat.fits k (f a) = true) (l : List α) : (l.map f).all (Dat.fits k) = true := by
  simp only [List.all_map, List.all_eq_true]; intro x _; exact h x
theorem getD_eq {l : List Int} {j : Nat} (h : j < l.length) : l.getD j 0 = l[j] := by simp [h]
theorem take_next {α : Type} {l : List α} {j : Nat} (h : j < l.length) : l.take (j + 1) = l.take j ++ [l[j]] := List.take_succ_eq_append_getElem h
def zg (n : Nat) : Nat := if n = 0 then 0 else 1
theorem c_Grow (n : Nat) (hn : n ≤ 1000000) : PC prog env 86 [.ms 0 0 0 0 0, .dat (intD (n : Int))] [.mt 3 0 []] (.ms 0 (zg n) 0 0 n) [.mt 3 (zg n) (cellsOf intD (List.replicate n 0))] := by
  refine PC_body (fn := f86) (by kernel_rfl) rfl rfl (by kernel_rfl) rfl ?_
  refine R_eq (st' := ⟨[.ms 0 0 0 0 0, .dat (intD (n : Int)), .tup [], .tup [], .tup [], .tup [], .tup [], .tup [], .tup [], .tup [], .tup [], .tup [], .tup [], .tup [], .tup [], .tup [], .tup [], .tup [], .tup [], .tup [], .tup [], .tup [], .tup [], .tup [], .tup [], .tup [], .tup []], [.mt 3 0 []]⟩) rfl ?_
  repeat (first | refine R_seq ?_ | refine R_block ?_ | refine R_skip ?_)
  refine R_region ?_
  (refine OpsE_do rfl ?_; refine E_assign rfl rfl ?_; refine OpsE_eq (st' := _) (by first | dsimp only [n0, n1, n2, n3, n4, n5, n6, n7, n8, n9, m0, m1, m2, m3, m4, m5, m6, m7, m8, m9, o0, o1, o2, o3, o4, ↓reduceIte] | rfl) ?_)
  refine OpsE_nil ?_
  have h0 : ¬ ((n : Int) < 0) := by omega
  repeat (first | refine R_seq ?_ | refine R_block ?_ | refine R_skip ?_)
  refine R_region ?_
  iterate 2 ((refine OpsE_do rfl ?_; first | refine E_move rfl ?_ | refine E_int rfl rfl rfl rfl ?_); refine OpsE_eq (st' := _) (by first | (simp only [n0, n1, n2, n3, n4, n5, n6, n7, n8, n9, m0, m1, m2, m3, m4, m5, m6, m7, m8, m9, o0, o1, o2, o3, o4, ↓reduceIte, decide_eq_false h0] <;> rfl) | rfl) ?_)
  refine OpsE_nil ?_
  repeat (first | refine R_seq ?_ | refine R_block ?_ | refine R_skip ?_)
  refine R_false rfl ?_
  have w1 : IntKind.i64.wrap ((n : Int) - IntKind.i64.wrap (0 - ((0 : Nat) : Int))) = (n : Int) := by rw [wrap_i64 (n := 0 - ((0 : Nat) : Int)) (by omega) (by omega), wrap_i64 (by omega) (by omega)]; omega
  repeat (first | refine R_seq ?_ | refine R_block ?_ | refine R_skip ?_)
  refine R_region ?_
  iterate 2 ((refine OpsE_do rfl ?_; refine E_move rfl ?_); refine OpsE_eq (st' := _) (by first | dsimp only [n0, n1, n2, n3, n4, n5, n6, n7, n8, n9, m0, m1, m2, m3, m4, m5, m6, m7, m8, m9, o0, o1, o2, o3, o4, ↓reduceIte] | rfl) ?_)
  (refine OpsE_do rfl ?_; refine E_cap un22 rfl rfl (mtOf_at rfl) ?_; refine OpsE_eq (st' := _) (by first | dsimp only [n0, n1, n2, n3, n4, n5, n6, n7, n8, n9, m0, m1, m2, m3, m4, m5, m6, m7, m8, m9, o0, o1, o2, o3, o4, ↓reduceIte] | rfl) ?_)
  iterate 5 ((refine OpsE_do rfl ?_; first | refine E_move rfl ?_ | refine E_len un22 rfl rfl ?_ | refine E_int rfl rfl rfl rfl ?_ | refine E_assign rfl rfl ?_); refine OpsE_eq (st' := _) (by first | dsimp only [n0, n1, n2, n3, n4, n5, n6, n7, n8, n9, m0, m1, m2, m3, m4, m5, m6, m7, m8, m9, o0, o1, o2, o3, o4, ↓reduceIte] | rfl) ?_)
  refine OpsE_nil ?_
  rw [w1]
  by_cases hz : n = 0
  · subst hz
    repeat (first | refine R_seq ?_ | refine R_block ?_ | refine R_skip ?_)
    refine R_region ?_
    iterate 2 ((refine OpsE_do rfl ?_; first | refine E_move rfl ?_ | refine E_int rfl rfl rfl rfl ?_); refine OpsE_eq (st' := _) (by first | dsimp only [n0, n1, n2, n3, n4, n5, n6, n7, n8, n9, m0, m1, m2, m3, m4, m5, m6, m7, m8, m9, o0, o1, o2, o3, o4, ↓reduceIte] | rfl) ?_)
    refine OpsE_nil ?_
    repeat (first | refine R_seq ?_ | refine R_block ?_ | refine R_skip ?_)
    refine R_false rfl ?_
    repeat (first | refine R_seq ?_ | refine R_block ?_ | refine R_skip ?_)
    refine R_region ?_
    iterate 2 ((refine OpsE_do rfl ?_; first | refine E_move rfl ?_ | refine E_assign rfl rfl ?_); refine OpsE_eq (st' := _) (by first | dsimp only [n0, n1, n2, n3, n4, n5, n6, n7, n8, n9, m0, m1, m2, m3, m4, m5, m6, m7, m8, m9, o0, o1, o2, o3, o4, ↓reduceIte] | rfl) ?_)
    refine OpsE_nil ?_
    repeat (first | refine R_seq ?_ | refine R_block ?_ | refine R_skip ?_)
    refine R_ret ?_
    exact ⟨trivial, _, rfl, rfl, rfl⟩
  · have hp : ((n : Int)) > 0 := by omega
    repeat (first | refine R_seq ?_ | refine R_block ?_ | refine R_skip ?_)
    refine R_region ?_
    iterate 2 ((refine OpsE_do rfl ?_; first | refine E_move rfl ?_ | refine E_int rfl rfl rfl rfl ?_); refine OpsE_eq (st' := _) (by first | (simp only [n0, n1, n2, n3, n4, n5, n6, n7, n8, n9, m0, m1, m2, m3, m4, m5, m6, m7, m8, m9, o0, o1, o2, o3, o4, ↓reduceIte, decide_eq_true hp] <;> rfl) | rfl) ?_)
    refine OpsE_nil ?_
    repeat (first | refine R_seq ?_ | refine R_block ?_ | refine R_skip ?_)
    refine R_true rfl ?_
    repeat (first | refine R_seq ?_ | refine R_block ?_ | refine R_skip ?_)
    refine R_region ?_
    iterate 2 ((refine OpsE_do rfl ?_; refine E_move rfl ?_); refine OpsE_eq (st' := _) (by first | dsimp only [n0, n1, n2, n3, n4, n5, n6, n7, n8, n9, m0, m1, m2, m3, m4, m5, m6, m7, m8, m9, o0, o1, o2, o3, o4, ↓reduceIte] | rfl) ?_)
    (refine OpsE_do rfl ?_; refine E_cap un22 rfl rfl (mtOf_at rfl) ?_; refine OpsE_eq (st' := _) (by first | dsimp only [n0, n1, n2, n3, n4, n5, n6, n7, n8, n9, m0, m1, m2, m3, m4, m5, m6, m7, m8, m9, o0, o1, o2, o3, o4, ↓reduceIte] | rfl) ?_)
    (refine OpsE_do rfl ?_; refine E_sliceMs el22 sz3 rfl rfl (cutMs_of (l := 0) (h := 0) rfl rfl (Nat.le_refl _) (Nat.zero_le _) (Or.inl rfl)) ?_; refine OpsE_eq (st' := _) (by first | dsimp only [n0, n1, n2, n3, n4, n5, n6, n7, n8, n9, m0, m1, m2, m3, m4, m5, m6, m7, m8, m9, o0, o1, o2, o3, o4, ↓reduceIte] | rfl) ?_)
    (refine OpsE_do rfl ?_; refine E_move rfl ?_; refine OpsE_eq (st' := _) (by first | dsimp only [n0, n1, n2, n3, n4, n5, n6, n7, n8, n9, m0, m1, m2, m3, m4, m5, m6, m7, m8, m9, o0, o1, o2, o3, o4, ↓reduceIte] | rfl) ?_)
    (refine OpsE_do rfl ?_; refine E_appendZeros (n := n) el22 un3 sz3 by3 ze3 rfl (by decide) rfl rfl rfl (mtOf_at rfl) (by omega) (by simp [room]; omega) ?_; refine OpsE_eq (st' := _) (by first | dsimp only [n0, n1, n2, n3, n4, n5, n6, n7, n8, n9, m0, m1, m2, m3, m4, m5, m6, m7, m8, m9, o0, o1, o2, o3, o4, ↓reduceIte] | rfl) ?_)
    iterate 2 ((refine OpsE_do rfl ?_; first | refine E_move rfl ?_ | refine E_len un22 rfl rfl ?_); refine OpsE_eq (st' := _) (by first | dsimp only [n0, n1, n2, n3, n4, n5, n6, n7, n8, n9, m0, m1, m2, m3, m4, m5, m6, m7, m8, m9, o0, o1, o2, o3, o4, ↓reduceIte] | rfl) ?_)
    (refine OpsE_do rfl ?_; refine E_sliceMs el22 sz3 rfl rfl (cutMs_of (l := 0) (h := 0) rfl rfl (Nat.le_refl _) (Nat.zero_le _) (Or.inl rfl)) ?_; refine OpsE_eq (st' := _) (by first | dsimp only [n0, n1, n2, n3, n4, n5, n6, n7, n8, n9, m0, m1, m2, m3, m4, m5, m6, m7, m8, m9, o0, o1, o2, o3, o4, ↓reduceIte] | rfl) ?_)
    (refine OpsE_do rfl ?_; refine E_assign rfl rfl ?_; refine OpsE_eq (st' := _) (by first | dsimp only [n0, n1, n2, n3, n4, n5, n6, n7, n8, n9, m0, m1, m2, m3, m4, m5, m6, m7, m8, m9, o0, o1, o2, o3, o4, ↓reduceIte] | rfl) ?_)
    refine OpsE_nil ?_
    repeat (first | refine R_seq ?_ | refine R_block ?_ | refine R_skip ?_)
    refine R_region ?_
    iterate 2 ((refine OpsE_do rfl ?_; first | refine E_move rfl ?_ | refine E_assign rfl rfl ?_); refine OpsE_eq (st' := _) (by first | dsimp only [n0, n1, n2, n3, n4, n5, n6, n7, n8, n9, m0, m1, m2, m3, m4, m5, m6, m7, m8, m9, o0, o1, o2, o3, o4, ↓reduceIte] | rfl) ?_)
    refine OpsE_nil ?_
    repeat (first | refine R_seq ?_ | refine R_block ?_ | refine R_skip ?_)
    refine R_ret ?_
    refine ⟨trivial, _, rfl, ?_, ?_⟩
    · simp [zg, hz, tupOf]
    · simp [zg, hz, cellsOf, intD]
def intssD (ls : List (List Int)) : Dat := .lst (ls.map intsD)
theorem flat_next {ls : List (List Int)} {j : Nat} (h : j < ls.length) : (ls.take (j + 1)).flatten = (ls.take j).flatten ++ ls[j] := by
  rw [take_next h, List.flatten_append]; simp
theorem flat_le {ls : List (List Int)} (j : Nat) : (ls.take j).flatten.length ≤ ls.flatten.length := by
  have : ls.flatten = (ls.take j).flatten ++ (ls.drop j).flatten := by rw [← List.flatten_append, List.take_append_drop]
  rw [this, List.length_append]; omega

theorem c_Concat (ls : List (List Int)) (H : List Blk) (hls : ls.length ≤ 1000) (hfl : ls.flatten.length ≤ 1000000) : PC prog env 78 [.dat (intssD ls)] H (.dat (intsD ls.flatten)) H := by
  refine PC_pure (fn := f78) (by kernel_rfl) rfl rfl (by kernel_rfl) rfl rfl ?_ (by simp [PV.lends])
  refine R_eq (st' := ⟨[.dat (intssD ls), .tup [], .tup [], .tup [], .tup [], .tup [], .tup [], .tup [], .tup [], .tup [], .tup [], .tup [], .tup [], .tup [], .tup [], .tup [], .tup [], .tup [], .tup [], .tup [], .tup [], .tup [], .tup [], .tup [], .tup [], .tup [], .tup [], .tup [], .tup [], .tup [], .tup [], .tup [], .tup [], .tup [], .tup [], .tup []], []⟩) rfl ?_
  repeat (first | refine R_seq ?_ | refine R_block ?_ | refine R_skip ?_)
  refine R_region ?_
  (refine OpsE_do rfl ?_; refine E_assign rfl rfl ?_; refine OpsE_eq (st' := _) (by first | dsimp only [n0, n1, n2, n3, n4, n5, n6, n7, n8, n9, m0, m1, m2, m3, m4, m5, m6, m7, m8, m9, o0, o1, o2, o3, o4, ↓reduceIte] | rfl) ?_)
  refine OpsE_nil ?_
  repeat (first | refine R_seq ?_ | refine R_block ?_ | refine R_skip ?_)
  refine R_region ?_
  (refine OpsE_do rfl ?_; refine E_assign rfl rfl ?_; refine OpsE_eq (st' := _) (by first | dsimp only [n0, n1, n2, n3, n4, n5, n6, n7, n8, n9, m0, m1, m2, m3, m4, m5, m6, m7, m8, m9, o0, o1, o2, o3, o4, ↓reduceIte] | rfl) ?_)
  refine OpsE_nil ?_
  repeat (first | refine R_seq ?_ | refine R_block ?_ | refine R_skip ?_)
  refine R_region ?_
  iterate 3 ((refine OpsE_do rfl ?_; first | refine E_move rfl ?_ | refine E_len un107 rfl rfl ?_); refine OpsE_eq (st' := _) (by first | dsimp only [n0, n1, n2, n3, n4, n5, n6, n7, n8, n9, m0, m1, m2, m3, m4, m5, m6, m7, m8, m9, o0, o1, o2, o3, o4, ↓reduceIte] | rfl) ?_)
  refine OpsE_nil ?_
  repeat (first | refine R_seq ?_ | refine R_block ?_ | refine R_skip ?_)
  refine R_loop ?_
  refine RL_ind (fun (j : Nat) => ⟨[.dat (intssD ls), .undef, .undef, intPV ((ls.take j).flatten.length : Int), .undef, .undef, .undef, .undef, .undef, .dat (intssD ls), intPV (ls.length : Int), intPV (j : Int), .undef, .undef, .undef, .undef, .undef, .undef, .undef, .undef, .undef, .undef, .undef, .undef, .undef, .undef, .undef, .undef, .undef, .undef, .undef, .undef, .undef, .undef, .undef, .undef], []⟩)
    (fun j => j ≤ ls.length) (fun j => ls.length - j) (fun j hj => ?_) _ 0 _ (Nat.lt_succ_self _) (Nat.zero_le _) (by simp only [intssD, List.length_map]; rfl)
  repeat (first | refine R_seq ?_ | refine R_block ?_ | refine R_skip ?_)
  refine R_region ?_
  (refine OpsE_do rfl ?_; (first | refine E_int rfl rfl rfl rfl ?_ | refine E_bin rfl rfl rfl rfl ?_); refine OpsE_eq (st' := _) (by first | dsimp only [n0, n1, n2, n3, n4, n5, n6, n7, n8, n9, m0, m1, m2, m3, m4, m5, m6, m7, m8, m9, o0, o1, o2, o3, o4, ↓reduceIte] | rfl) ?_)
  refine OpsE_nil ?_
  repeat (first | refine R_seq ?_ | refine R_block ?_ | refine R_skip ?_)
  refine R_if rfl (fun h => ?_) (fun h => ?_)
  · have hj' : j < ls.length := by simpa using h
    have hf := flat_le (ls := ls) (j + 1)
    rw [flat_next hj', List.length_append] at hf
    repeat (first | refine R_seq ?_ | refine R_block ?_ | refine R_skip ?_)
    refine R_region ?_
    (refine OpsE_do rfl ?_; (first | refine E_index el107 sz22 rfl rfl rfl rfl (map_get _ (by first | assumption | omega)) rfl ?_ | refine E_index0 el107 sz22 rfl rfl rfl rfl (map_get _ (by first | assumption | omega)) ?_ | refine E_indexArr el107 sz22 rfl rfl rfl rfl (map_get _ (by first | assumption | omega)) ?_); refine OpsE_eq (st' := _) (by first | dsimp only [n0, n1, n2, n3, n4, n5, n6, n7, n8, n9, m0, m1, m2, m3, m4, m5, m6, m7, m8, m9, o0, o1, o2, o3, o4, ↓reduceIte] | rfl) ?_)
    iterate 2 ((refine OpsE_do rfl ?_; first | refine E_loadi (ds := [_]) ag22 sz22 rfl rfl rfl rfl ?_ | refine E_loadp (ds := [_]) ag22 sz22 rfl rfl rfl rfl rfl ?_ | refine E_assign rfl rfl ?_); refine OpsE_eq (st' := _) (by first | dsimp only [n0, n1, n2, n3, n4, n5, n6, n7, n8, n9, m0, m1, m2, m3, m4, m5, m6, m7, m8, m9, o0, o1, o2, o3, o4, ↓reduceIte] | rfl) ?_)
    refine OpsE_nil ?_
    have w1 : IntKind.i64.wrap (((ls.take j).flatten.length : Int) + ((ls[j].map intD).length : Int)) = ((ls.take (j + 1)).flatten.length : Int) := by
      rw [flat_next hj', List.length_append, List.length_map, wrap_i64 (by omega) (by omega)]; omega
    have h0 : ¬ (((ls.take (j + 1)).flatten.length : Int) < 0) := by omega
    repeat (first | refine R_seq ?_ | refine R_block ?_ | refine R_skip ?_)
    refine R_region ?_
    iterate 5 ((refine OpsE_do rfl ?_; first | refine E_move rfl ?_ | refine E_len un22 rfl rfl ?_ | refine E_int rfl rfl rfl rfl ?_ | refine E_assign rfl rfl ?_); refine OpsE_eq (st' := _) (by first | (simp only [n0, n1, n2, n3, n4, n5, n6, n7, n8, n9, m0, m1, m2, m3, m4, m5, m6, m7, m8, m9, o0, o1, o2, o3, o4, ↓reduceIte, w1] <;> rfl) | rfl) ?_)
    refine OpsE_nil ?_
    repeat (first | refine R_seq ?_ | refine R_block ?_ | refine R_skip ?_)
    refine R_region ?_
    iterate 2 ((refine OpsE_do rfl ?_; first | refine E_move rfl ?_ | refine E_int rfl rfl rfl rfl ?_); refine OpsE_eq (st' := _) (by first | (simp only [n0, n1, n2, n3, n4, n5, n6, n7, n8, n9, m0, m1, m2, m3, m4, m5, m6, m7, m8, m9, o0, o1, o2, o3, o4, ↓reduceIte, decide_eq_false h0] <;> rfl) | rfl) ?_)
    refine OpsE_nil ?_
    repeat (first | refine R_seq ?_ | refine R_block ?_ | refine R_skip ?_)
    refine R_false rfl ?_
    repeat (first | refine R_seq ?_ | refine R_block ?_ | refine R_skip ?_)
    refine R_region ?_
    iterate 2 ((refine OpsE_do rfl ?_; first | refine E_int rfl rfl rfl rfl ?_ | refine E_move rfl ?_); refine OpsE_eq (st' := _) (by first | dsimp only [n0, n1, n2, n3, n4, n5, n6, n7, n8, n9, m0, m1, m2, m3, m4, m5, m6, m7, m8, m9, o0, o1, o2, o3, o4, ↓reduceIte] | rfl) ?_)
    refine OpsE_nil ?_
    refine ⟨j + 1, ?_, by omega, hj'⟩
    rw [wrap_succ (by omega)]
    rfl
  · have hj' : j = ls.length := by simp at h; omega
    subst hj'
    rw [List.take_length]
    repeat (first | refine R_seq ?_ | refine R_block ?_ | refine R_skip ?_)
    refine R_exit ?_
    repeat (first | refine R_seq ?_ | refine R_block ?_ | refine R_skip ?_)
    refine R_region ?_
    (refine OpsE_do rfl ?_; refine E_move rfl ?_; refine OpsE_eq (st' := _) (by first | dsimp only [n0, n1, n2, n3, n4, n5, n6, n7, n8, n9, m0, m1, m2, m3, m4, m5, m6, m7, m8, m9, o0, o1, o2, o3, o4, ↓reduceIte] | rfl) ?_)
    (refine OpsE_do rfl ?_; refine E_callNil rfl rfl rfl rfl (c_Grow ls.flatten.length hfl) ?_; refine OpsE_eq (st' := _) (by first | dsimp only [n0, n1, n2, n3, n4, n5, n6, n7, n8, n9, m0, m1, m2, m3, m4, m5, m6, m7, m8, m9, o0, o1, o2, o3, o4, ↓reduceIte] | rfl) ?_)
    (refine OpsE_do rfl ?_; refine E_assign rfl rfl ?_; refine OpsE_eq (st' := _) (by first | dsimp only [n0, n1, n2, n3, n4, n5, n6, n7, n8, n9, m0, m1, m2, m3, m4, m5, m6, m7, m8, m9, o0, o1, o2, o3, o4, ↓reduceIte] | rfl) ?_)
    refine OpsE_nil ?_
    repeat (first | refine R_seq ?_ | refine R_block ?_ | refine R_skip ?_)
    refine R_region ?_
    iterate 3 ((refine OpsE_do rfl ?_; first | refine E_move rfl ?_ | refine E_len un107 rfl rfl ?_); refine OpsE_eq (st' := _) (by first | dsimp only [n0, n1, n2, n3, n4, n5, n6, n7, n8, n9, m0, m1, m2, m3, m4, m5, m6, m7, m8, m9, o0, o1, o2, o3, o4, ↓reduceIte] | rfl) ?_)
    refine OpsE_nil ?_
    repeat (first | refine R_seq ?_ | refine R_block ?_ | refine R_skip ?_)
    refine R_loop ?_
    refine RL_h0 (h1 := 1) rfl ?_
    refine RL_ind (fun (j : Nat) => ⟨[.undef, .undef, .undef, .undef, .undef, .undef, .ms 0 (zg ls.flatten.length) 0 (ls.take j).flatten.length ls.flatten.length, .undef, .undef, .undef, .undef, .undef, .undef, .undef, .undef, .undef, .undef, .undef, .undef, .undef, .undef, .undef, .undef, .undef, .undef, .dat (intssD ls), intPV (ls.length : Int), intPV (j : Int), .undef, .undef, .undef, .undef, .undef, .undef, .undef, .undef], [.mt 3 (zg ls.flatten.length) (cellsOf intD ((ls.take j).flatten ++ List.replicate (ls.flatten.length - (ls.take j).flatten.length) 0))]⟩)
      (fun j => j ≤ ls.length) (fun j => ls.length - j) (fun j hj => ?_) _ 0 _ (Nat.lt_succ_self _) (Nat.zero_le _) ?_
    · repeat (first | refine R_seq ?_ | refine R_block ?_ | refine R_skip ?_)
      refine R_region ?_
      (refine OpsE_do rfl ?_; (first | refine E_int rfl rfl rfl rfl ?_ | refine E_bin rfl rfl rfl rfl ?_); refine OpsE_eq (st' := _) (by first | dsimp only [n0, n1, n2, n3, n4, n5, n6, n7, n8, n9, m0, m1, m2, m3, m4, m5, m6, m7, m8, m9, o0, o1, o2, o3, o4, ↓reduceIte] | rfl) ?_)
      refine OpsE_nil ?_
      repeat (first | refine R_seq ?_ | refine R_block ?_ | refine R_skip ?_)
      refine R_if rfl (fun h => ?_) (fun h => ?_)
      · have hj' : j < ls.length := by simpa using h
        have hf := flat_le (ls := ls) (j + 1)
        rw [flat_next hj', List.length_append] at hf
        repeat (first | refine R_seq ?_ | refine R_block ?_ | refine R_skip ?_)
        refine R_region ?_
        (refine OpsE_do rfl ?_; (first | refine E_index el107 sz22 rfl rfl rfl rfl (map_get _ (by first | assumption | omega)) rfl ?_ | refine E_index0 el107 sz22 rfl rfl rfl rfl (map_get _ (by first | assumption | omega)) ?_ | refine E_indexArr el107 sz22 rfl rfl rfl rfl (map_get _ (by first | assumption | omega)) ?_); refine OpsE_eq (st' := _) (by first | dsimp only [n0, n1, n2, n3, n4, n5, n6, n7, n8, n9, m0, m1, m2, m3, m4, m5, m6, m7, m8, m9, o0, o1, o2, o3, o4, ↓reduceIte] | rfl) ?_)
        iterate 2 ((refine OpsE_do rfl ?_; first | refine E_loadi (ds := [_]) ag22 sz22 rfl rfl rfl rfl ?_ | refine E_loadp (ds := [_]) ag22 sz22 rfl rfl rfl rfl rfl ?_ | refine E_assign rfl rfl ?_); refine OpsE_eq (st' := _) (by first | dsimp only [n0, n1, n2, n3, n4, n5, n6, n7, n8, n9, m0, m1, m2, m3, m4, m5, m6, m7, m8, m9, o0, o1, o2, o3, o4, ↓reduceIte] | rfl) ?_)
        refine OpsE_nil ?_
        have ha : appendMs [.mt 3 (zg ls.flatten.length) (cellsOf intD ((ls.take j).flatten ++ List.replicate (ls.flatten.length - (ls.take j).flatten.length) 0))] 3 8 0 (zg ls.flatten.length) 0 (ls.take j).flatten.length ls.flatten.length (cellsOf intD ls[j]) =
            some (.ms 0 (zg ls.flatten.length) 0 (ls.take (j + 1)).flatten.length ls.flatten.length, [.mt 3 (zg ls.flatten.length) (cellsOf intD ((ls.take (j + 1)).flatten ++ List.replicate (ls.flatten.length - (ls.take (j + 1)).flatten.length) 0))]) := by
          rw [flat_next hj']
          generalize (ls.take j).flatten = A at hf ⊢
          generalize ls[j] = B at hf ⊢
          generalize ls.flatten.length = m at hf ⊢
          cases B with
          | nil => simp only [List.append_nil]; exact appendMs_nil
          | cons x B =>
            rw [ms_append_in (H := [.mt 3 (zg m) (cellsOf intD (A ++ List.replicate (m - A.length) 0))]) (t := 0) (len := A.length) (es := x :: B) (f := intD) (l := A ++ List.replicate (m - A.length) 0) (fun _ => rfl) (mtOf_at rfl) (Nat.succ_pos _) (by simp only [List.length_append, List.length_replicate]; omega)]
            have e1 : (A ++ List.replicate (m - A.length) (0 : Int)).take A.length = A := List.take_left' rfl
            have e2 : (A ++ List.replicate (m - A.length) (0 : Int)).drop (A.length + (x :: B).length) = List.replicate (m - (A ++ x :: B).length) 0 := by
              rw [List.drop_append, List.drop_of_length_le (by omega), List.nil_append, List.drop_replicate, List.length_append]
              congr 1; omega
            rw [e1, e2, Nat.max_eq_left (by omega), List.length_append]
            rfl
        repeat (first | refine R_seq ?_ | refine R_block ?_ | refine R_skip ?_)
        refine R_region ?_
        iterate 2 ((refine OpsE_do rfl ?_; refine E_move rfl ?_); refine OpsE_eq (st' := _) (by first | dsimp only [n0, n1, n2, n3, n4, n5, n6, n7, n8, n9, m0, m1, m2, m3, m4, m5, m6, m7, m8, m9, o0, o1, o2, o3, o4, ↓reduceIte] | rfl) ?_)
        (refine OpsE_do rfl ?_; refine E_appendMs el22 sz3 by3 zn3 (by decide) rfl rfl (source_lst (f := intD) (fun _ => rfl)) ha ?_; refine OpsE_eq (st' := _) (by first | dsimp only [n0, n1, n2, n3, n4, n5, n6, n7, n8, n9, m0, m1, m2, m3, m4, m5, m6, m7, m8, m9, o0, o1, o2, o3, o4, ↓reduceIte] | rfl) ?_)
        (refine OpsE_do rfl ?_; refine E_assign rfl rfl ?_; refine OpsE_eq (st' := _) (by first | dsimp only [n0, n1, n2, n3, n4, n5, n6, n7, n8, n9, m0, m1, m2, m3, m4, m5, m6, m7, m8, m9, o0, o1, o2, o3, o4, ↓reduceIte] | rfl) ?_)
        refine OpsE_nil ?_
        repeat (first | refine R_seq ?_ | refine R_block ?_ | refine R_skip ?_)
        refine R_region ?_
        iterate 2 ((refine OpsE_do rfl ?_; first | refine E_int rfl rfl rfl rfl ?_ | refine E_move rfl ?_); refine OpsE_eq (st' := _) (by first | dsimp only [n0, n1, n2, n3, n4, n5, n6, n7, n8, n9, m0, m1, m2, m3, m4, m5, m6, m7, m8, m9, o0, o1, o2, o3, o4, ↓reduceIte] | rfl) ?_)
        refine OpsE_nil ?_
        refine ⟨j + 1, ?_, by omega, hj'⟩
        rw [wrap_succ (by omega)]
        refine (prune_some rfl).trans ?_
        dsimp only [m6, m7, o0, o1]
        rw [purge_mt]
        rfl
      · have hj' : j = ls.length := by simp at h; omega
        subst hj'
        rw [List.take_length, Nat.sub_self, List.replicate_zero, List.append_nil]
        repeat (first | refine R_seq ?_ | refine R_block ?_ | refine R_skip ?_)
        refine R_exit ?_
        repeat (first | refine R_seq ?_ | refine R_block ?_ | refine R_skip ?_)
        refine R_region ?_
        iterate 2 ((refine OpsE_do rfl ?_; first | refine E_move rfl ?_ | refine E_assign rfl rfl ?_); refine OpsE_eq (st' := _) (by first | dsimp only [n0, n1, n2, n3, n4, n5, n6, n7, n8, n9, m0, m1, m2, m3, m4, m5, m6, m7, m8, m9, o0, o1, o2, o3, o4, ↓reduceIte] | rfl) ?_)
        refine OpsE_nil ?_
        repeat (first | refine R_seq ?_ | refine R_block ?_ | refine R_skip ?_)
        refine R_ret ?_
        refine ⟨trivial, _, rfl, ?_⟩
        have r1 := pure_ms (H := [.mt 3 (zg ls.flatten.length) (cellsOf intD ls.flatten)]) (g := zg ls.flatten.length) (t := 0) (cap := ls.flatten.length) (f := intD) (fun _ => rfl) (mtOf_at rfl) (Nat.le_refl _)
        rw [List.take_length] at r1
        show (pureC [.mt 3 (zg ls.flatten.length) (cellsOf intD ls.flatten)] (.ms 0 (zg ls.flatten.length) 0 ls.flatten.length ls.flatten.length)).map PV.dat = _
        rw [r1]
        rfl
    · refine (prune_some rfl).trans ?_
      dsimp only [m6, m7, o0, o1]
      rw [purge_mt]
      simp only [intssD, List.length_map]
      rfl

def m_slices_Concat_int_int (x : List (List Int)) : Option (List Int) := if x.length ≤ 1000 ∧ x.flatten.length ≤ 1000000 then some x.flatten else none
def P_slices_Concat_int_int : List (List Int) → List Int → Prop := fun x r => ∀ H, PC prog env 78 ([.lst ((List.map (fun l => Dat.lst ((List.map intD) l))) x)].map .dat) H (.dat (.lst ((List.map intD) r))) H
theorem w_slices_Concat_int_int : ∀ x r, m_slices_Concat_int_int x = some r → P_slices_Concat_int_int x r := by
  intro x r hm
  unfold m_slices_Concat_int_int at hm
  split at hm
  · rename_i h
    cases hm
    intro H
    exact c_Concat x H h.1 h.2
  · cases hm
end Go.Proofs.Try
namespace Go.Proofs.Try
open Go Go.Pm
set_option linter.unusedVariables false
set_option maxRecDepth 2000
structure T_rule_Rule where
  left : (List Int)
  right : (List Int)
  shape : (List Int)
  starts : (List Int)
  axis : Int
  amount : Int
  perm : (List Int)
def T_rule_Rule.toD (x : T_rule_Rule) : Dat := .agg [(.lst ((List.map intD) x.left)), (.lst ((List.map intD) x.right)), (.lst ((List.map intD) x.shape)), (.lst ((List.map intD) x.starts)), (intD x.axis), (intD x.amount), (.lst ((List.map intD) x.perm))]
theorem T_rule_Rule.fit (x : T_rule_Rule) : Dat.fits 7 x.toD = true := rfl
structure T_ref13_Rule where
  left : (List Int)
  right : (List Int)
  shape : (List Int)
  starts : (List Int)
  axis : Int
  amount : Int
  perm : (List Int)
def T_ref13_Rule.toD (x : T_ref13_Rule) : Dat := .agg [(.lst ((List.map intD) x.left)), (.lst ((List.map intD) x.right)), (.lst ((List.map intD) x.shape)), (.lst ((List.map intD) x.starts)), (intD x.axis), (intD x.amount), (.lst ((List.map intD) x.perm))]
theorem T_ref13_Rule.fit (x : T_ref13_Rule) : Dat.fits 7 x.toD = true := rfl
end Go.Proofs.Try
namespace Go.Proofs.Try
open Go Go.Pm
set_option linter.unusedVariables false
set_option maxRecDepth 2000
def m_law13_awake (x : Unit) : Option Bool := some true
def P_law13_awake : Unit → Bool → Prop := fun x r => ∀ H, PC prog env 7 ([].map .dat) H (boolPV r) H
theorem w_law13_awake : ∀ x r, m_law13_awake x = some r → P_law13_awake x r := by
  intro x r hm
  cases hm
  intro H
  exact PC_of (n := 200) (by kernel_rfl)
end Go.Proofs.Try
namespace Go.Proofs.Try
open Go Go.Pm
set_option linter.unusedVariables false
set_option maxRecDepth 2000
def m_ref01_Product_L1 (x : ((List Int) × Bool × Int)) : Option (Unit ⊕ Bool) :=
  match x with
  | (p0, v201, v202) =>
  if v202 < (p0.length : Int) then
    idx p0 v202 >>= fun v602 =>
    if v602 < 0 then
      some (Sum.inl ())
    else
    if v201 = true then
      m_ref01_Product_L1 (p0, true, (W (v202 + 1)))
    else
    idx p0 v202 >>= fun v603 =>
    m_ref01_Product_L1 (p0, (v603 == 0), (W (v202 + 1)))
  else
  some (Sum.inr v201)
  partial_fixpoint
def P_ref01_Product_L1 : ((List Int) × Bool × Int) → (Unit ⊕ Bool) → Prop := fun x r => match x with
  | (p0, v201, v202) => ∀ st, prune 0 ((firstRegion (codeAt [1, 1, 0, 1, 0, 0] (bodyOf f24))).bind (env.hint 24).keepAt) st = ⟨kp 55 [(0, (.dat (.lst ((List.map intD) p0)))), (4, (boolPV v201)), (5, (intPV v202))], []⟩ →
    RL prog env (env.hint 24) true (codeAt [1, 1, 0, 1, 0, 0] (bodyOf f24)) 0 st (fun e s => match r with | .inl _ => e = .ret ∧ ∃ d, s = ⟨sl d 55 [(2, (intPV 0)), (3, (intPV 6))], []⟩ | .inr (v601) => e = .exit 0 ∧ ∃ d, s = ⟨sl d 55 [(0, (.dat (.lst ((List.map intD) p0)))), (4, (boolPV v601))], []⟩)
theorem w_ref01_Product_L1 : ∀ x r, m_ref01_Product_L1 x = some r → P_ref01_Product_L1 x r := by
  refine m_ref01_Product_L1.partial_correctness _ (fun m_ref01_Product_L1 w_ref01_Product_L1 x r hm => ?_)
  unfold P_ref01_Product_L1
  obtain ⟨p0, v201, v202⟩ := x
  intro st hst
  refine RL_at hst ?_
  clear hst
  refine R_seq ?_
  refine R_seq ?_
  refine R_G ?_
  refine G_run 2 ?_
  refine I_len intD p0 (es := (List.map intD) p0) rfl ?_
  refine G_run 1 ?_
  refine G_end ?_
  refine R_ifp (p := v202 < (p0.length : Int)) (rfl) (fun hc => ?_) (fun hc => ?_)
  · replace hm := pos_inv hc hm
    refine R_skip ?_
    refine R_seq ?_
    refine R_block ?_
    refine R_seq ?_
    refine R_seq ?_
    refine R_G ?_
    refine G_run 2 ?_
    obtain ⟨v602, hx, hm⟩ := bind_inv hm
    refine I_idx 1 intD p0 v202 v602 (es := (List.map intD) p0) (d := (intD v602)) rfl hx rfl rfl ?_
    refine G_run 2 ?_
    refine G_end ?_
    refine R_ifp (p := v602 < 0) (rfl) (fun hc => ?_) (fun hc => ?_)
    · replace hm := pos_inv hc hm
      refine R_seq ?_
      refine R_G ?_
      refine G_run 2 ?_
      refine G_end ?_
      refine R_ret ?_
      obtain rfl := inj1 hm
      exact ⟨rfl, cut_leaf (by kernel_rfl)⟩
    replace hm := neg_inv hc hm
    refine R_skip ?_
    refine R_G ?_
    refine G_run 2 ?_
    refine G_split (p := v201 = true) 21 (bool_dec _) (fun hc => ?_) (fun hc => ?_)
    · replace hm := pos_inv hc hm
      refine G_run 7 ?_
      refine G_end ?_
      refine R_G ?_
      refine G_run 3 ?_
      refine G_end ?_
      exact w_ref01_Product_L1 _ _ hm _ (by kernel_rfl)
    replace hm := neg_inv hc hm
    refine G_run 2 ?_
    obtain ⟨v603, hx, hm⟩ := bind_inv hm
    refine I_idx 1 intD p0 v202 v603 (es := (List.map intD) p0) (d := (intD v603)) rfl hx rfl rfl ?_
    refine G_run 4 ?_
    refine G_end ?_
    refine R_G ?_
    refine G_run 3 ?_
    refine G_end ?_
    exact w_ref01_Product_L1 _ _ hm _ (by kernel_rfl)
  replace hm := neg_inv hc hm
  refine R_exit ?_
  obtain rfl := inj1 hm
  exact ⟨rfl, cut_leaf (by kernel_rfl)⟩
def m_ref01_Product_L2 (x : ((List Int) × Bool × Int)) : Option (Unit ⊕ Unit) :=
  match x with
  | (p0, v601, v804) =>
  if v804 < (p0.length : Int) then
    idx p0 v804 >>= fun v1204 =>
    if v1204 > 65536 then
      some (Sum.inl ())
    else
    m_ref01_Product_L2 (p0, v601, (W (v804 + 1)))
  else
  some (Sum.inr ())
  partial_fixpoint
def P_ref01_Product_L2 : ((List Int) × Bool × Int) → (Unit ⊕ Unit) → Prop := fun x r => match x with
  | (p0, v601, v804) => ∀ st, prune 0 ((firstRegion (codeAt [1, 1, 1, 0, 1, 0, 0] (bodyOf f24))).bind (env.hint 24).keepAt) st = ⟨kp 55 [(0, (.dat (.lst ((List.map intD) p0)))), (4, (boolPV v601)), (6, (intPV v804))], []⟩ →
    RL prog env (env.hint 24) true (codeAt [1, 1, 1, 0, 1, 0, 0] (bodyOf f24)) 0 st (fun e s => match r with | .inl _ => e = .ret ∧ ∃ d, s = ⟨sl d 55 [(2, (intPV 0)), (3, (intPV 7))], []⟩ | .inr (_) => e = .exit 2 ∧ ∃ d, s = ⟨sl d 55 [(0, (.dat (.lst ((List.map intD) p0)))), (4, (boolPV v601))], []⟩)
theorem w_ref01_Product_L2 : ∀ x r, m_ref01_Product_L2 x = some r → P_ref01_Product_L2 x r := by
  refine m_ref01_Product_L2.partial_correctness _ (fun m_ref01_Product_L2 w_ref01_Product_L2 x r hm => ?_)
  unfold P_ref01_Product_L2
  obtain ⟨p0, v601, v804⟩ := x
  intro st hst
  refine RL_at hst ?_
  clear hst
  refine R_seq ?_
  refine R_seq ?_
  refine R_G ?_
  refine G_run 2 ?_
  refine I_len intD p0 (es := (List.map intD) p0) rfl ?_
  refine G_run 1 ?_
  refine G_end ?_
  refine R_ifp (p := v804 < (p0.length : Int)) (rfl) (fun hc => ?_) (fun hc => ?_)
  · replace hm := pos_inv hc hm
    refine R_skip ?_
    refine R_seq ?_
    refine R_block ?_
    refine R_seq ?_
    refine R_G ?_
    refine G_run 2 ?_
    obtain ⟨v1204, hx, hm⟩ := bind_inv hm
    refine I_idx 1 intD p0 v804 v1204 (es := (List.map intD) p0) (d := (intD v1204)) rfl hx rfl rfl ?_
    refine G_run 2 ?_
    refine G_end ?_
    refine R_ifp (p := v1204 > 65536) (rfl) (fun hc => ?_) (fun hc => ?_)
    · replace hm := pos_inv hc hm
      refine R_seq ?_
      refine R_G ?_
      refine G_run 2 ?_
      refine G_end ?_
      refine R_ret ?_
      obtain rfl := inj1 hm
      exact ⟨rfl, cut_leaf (by kernel_rfl)⟩
    replace hm := neg_inv hc hm
    refine R_skip ?_
    refine R_G ?_
    refine G_run 3 ?_
    refine G_end ?_
    exact w_ref01_Product_L2 _ _ hm _ (by kernel_rfl)
  replace hm := neg_inv hc hm
  refine R_exit ?_
  obtain rfl := inj1 hm
  exact ⟨rfl, cut_leaf (by kernel_rfl)⟩
def m_ref01_Product_L3 (x : ((List Int) × Int × Int)) : Option (Unit ⊕ Int) :=
  match x with
  | (p0, v1405, v1406) =>
  if v1406 < (p0.length : Int) then
    idx p0 v1406 >>= fun v1806 =>
    if (W (v1405 * v1806)) > 65536 then
      some (Sum.inl ())
    else
    m_ref01_Product_L3 (p0, (W (v1405 * v1806)), (W (v1406 + 1)))
  else
  some (Sum.inr v1405)
  partial_fixpoint
def P_ref01_Product_L3 : ((List Int) × Int × Int) → (Unit ⊕ Int) → Prop := fun x r => match x with
  | (p0, v1405, v1406) => ∀ st, prune 0 ((firstRegion (codeAt [1, 1, 1, 1, 1, 1, 0, 1, 0, 0] (bodyOf f24))).bind (env.hint 24).keepAt) st = ⟨kp 55 [(0, (.dat (.lst ((List.map intD) p0)))), (7, (intPV v1405)), (8, (intPV v1406))], []⟩ →
    RL prog env (env.hint 24) true (codeAt [1, 1, 1, 1, 1, 1, 0, 1, 0, 0] (bodyOf f24)) 0 st (fun e s => match r with | .inl _ => e = .ret ∧ ∃ d, s = ⟨sl d 55 [(2, (intPV 0)), (3, (intPV 7))], []⟩ | .inr (v1805) => e = .exit 4 ∧ ∃ d, s = ⟨sl d 55 [(7, (intPV v1805))], []⟩)
theorem w_ref01_Product_L3 : ∀ x r, m_ref01_Product_L3 x = some r → P_ref01_Product_L3 x r := by
  refine m_ref01_Product_L3.partial_correctness _ (fun m_ref01_Product_L3 w_ref01_Product_L3 x r hm => ?_)
  unfold P_ref01_Product_L3
  obtain ⟨p0, v1405, v1406⟩ := x
  intro st hst
  refine RL_at hst ?_
  clear hst
  refine R_seq ?_
  refine R_seq ?_
  refine R_G ?_
  refine G_run 2 ?_
  refine I_len intD p0 (es := (List.map intD) p0) rfl ?_
  refine G_run 1 ?_
  refine G_end ?_
  refine R_ifp (p := v1406 < (p0.length : Int)) (rfl) (fun hc => ?_) (fun hc => ?_)
  · replace hm := pos_inv hc hm
    refine R_skip ?_
    refine R_seq ?_
    refine R_block ?_
    refine R_seq ?_
    refine R_G ?_
    refine G_run 3 ?_
    obtain ⟨v1806, hx, hm⟩ := bind_inv hm
    refine I_idx 1 intD p0 v1406 v1806 (es := (List.map intD) p0) (d := (intD v1806)) rfl hx rfl rfl ?_
    refine G_run 3 ?_
    refine G_end ?_
    refine R_seq ?_
    refine R_G ?_
    refine G_run 2 ?_
    refine G_end ?_
    refine R_ifp (p := (W (v1405 * v1806)) > 65536) (rfl) (fun hc => ?_) (fun hc => ?_)
    · replace hm := pos_inv hc hm
      refine R_seq ?_
      refine R_G ?_
      refine G_run 2 ?_
      refine G_end ?_
      refine R_ret ?_
      obtain rfl := inj1 hm
      exact ⟨rfl, cut_leaf (by kernel_rfl)⟩
    replace hm := neg_inv hc hm
    refine R_skip ?_
    refine R_G ?_
    refine G_run 3 ?_
    refine G_end ?_
    exact w_ref01_Product_L3 _ _ hm _ (by kernel_rfl)
  replace hm := neg_inv hc hm
  refine R_exit ?_
  obtain rfl := inj1 hm
  exact ⟨rfl, cut_leaf (by kernel_rfl)⟩
def m_ref01_Product (x : (List Int)) : Option (Int × Int) :=
  match x with
  | p0 =>
  (
  m_ref01_Product_L1 (p0, false, 0) >>= fun (out : Unit ⊕ Bool) =>
  match out with
  | .inl _ =>
    some (0, 6)
  | .inr (v601) =>
    (
    m_ref01_Product_L2 (p0, v601, 0) >>= fun (out : Unit ⊕ Unit) =>
    match out with
    | .inl _ =>
      some (0, 7)
    | .inr (_) =>
      if v601 = true then
        some (0, 0)
      else
      (
      m_ref01_Product_L3 (p0, 1, 0) >>= fun (out : Unit ⊕ Int) =>
      match out with
      | .inl _ =>
        some (0, 7)
      | .inr (v1805) =>
        some (v1805, 0)
      )
    )
  )
def P_ref01_Product : (List Int) → (Int × Int) → Prop := fun x r => match x, r with
  | p0, (r0, r1) => ∀ H, PC prog env 24 ([(.lst ((List.map intD) p0))].map .dat) H (.tup [(intPV r0), (intPV r1)]) H
theorem w_ref01_Product : ∀ x r, m_ref01_Product x = some r → P_ref01_Product x r := by
  intro p0 r hm
  unfold m_ref01_Product at hm
  unfold P_ref01_Product
  obtain ⟨r0, r1⟩ := r
  intro H
  refine PC_sx (ds := [(.lst ((List.map intD) p0))]) (fn := f24) (by kernel_rfl) (by kernel_rfl) rfl ?_ (by kernel_rfl)
  refine R_seq ?_
  refine R_G ?_
  refine G_run 2 ?_
  refine G_end ?_
  refine R_seq ?_
  refine R_G ?_
  refine G_run 1 ?_
  refine G_end ?_
  refine R_seq ?_
  refine R_seq ?_
  refine R_G ?_
  refine G_run 1 ?_
  refine G_end ?_
  refine R_block ?_
  obtain ⟨out, hs, hm⟩ := bind_inv hm
  refine R_loop ?_
  rcases out with _ | v601
  · refine RL_use (w_ref01_Product_L1 _ _ hs) (by kernel_rfl) ?_
    clear hs
    intro e s hp
    obtain ⟨rfl, d, rfl⟩ := hp
    obtain ⟨rfl, rfl⟩ := inj2 hm
    exact ⟨trivial, fin_pure (by kernel_rfl)⟩
  · refine RL_use (w_ref01_Product_L1 _ _ hs) (by kernel_rfl) ?_
    clear hs
    intro e s hp
    obtain ⟨rfl, d, rfl⟩ := hp
    refine R_seq ?_
    refine R_seq ?_
    refine R_G ?_
    refine G_run 1 ?_
    refine G_end ?_
    refine R_block ?_
    obtain ⟨out, hs, hm⟩ := bind_inv hm
    refine R_loop ?_
    rcases out with _ | _
    · refine RL_use (w_ref01_Product_L2 _ _ hs) (by kernel_rfl) ?_
      clear hs
      intro e s hp
      obtain ⟨rfl, d, rfl⟩ := hp
      obtain ⟨rfl, rfl⟩ := inj2 hm
      exact ⟨trivial, fin_pure (by kernel_rfl)⟩
    · refine RL_use (w_ref01_Product_L2 _ _ hs) (by kernel_rfl) ?_
      clear hs
      intro e s hp
      obtain ⟨rfl, d, rfl⟩ := hp
      refine R_seq ?_
      refine R_seq ?_
      refine R_G ?_
      refine G_run 1 ?_
      refine G_end ?_
      refine R_ifp (p := v601 = true) (bool_dec _) (fun hc => ?_) (fun hc => ?_)
      · replace hm := pos_inv hc hm
        refine R_seq ?_
        refine R_G ?_
        refine G_run 2 ?_
        refine G_end ?_
        refine R_ret ?_
        obtain ⟨rfl, rfl⟩ := inj2 hm
        exact ⟨trivial, fin_pure (by kernel_rfl)⟩
      replace hm := neg_inv hc hm
      refine R_skip ?_
      refine R_seq ?_
      refine R_G ?_
      refine G_run 1 ?_
      refine G_end ?_
      refine R_seq ?_
      refine R_seq ?_
      refine R_G ?_
      refine G_run 1 ?_
      refine G_end ?_
      refine R_block ?_
      obtain ⟨out, hs, hm⟩ := bind_inv hm
      refine R_loop ?_
      rcases out with _ | v1805
      · refine RL_use (w_ref01_Product_L3 _ _ hs) (by kernel_rfl) ?_
        clear hs
        intro e s hp
        obtain ⟨rfl, d, rfl⟩ := hp
        obtain ⟨rfl, rfl⟩ := inj2 hm
        exact ⟨trivial, fin_pure (by kernel_rfl)⟩
      · refine RL_use (w_ref01_Product_L3 _ _ hs) (by kernel_rfl) ?_
        clear hs
        intro e s hp
        obtain ⟨rfl, d, rfl⟩ := hp
        refine R_seq ?_
        refine R_G ?_
        refine G_run 3 ?_
        refine G_end ?_
        refine R_ret ?_
        obtain ⟨rfl, rfl⟩ := inj2 hm
        exact ⟨trivial, fin_pure (by kernel_rfl)⟩
end Go.Proofs.Try
namespace Go.Proofs.Try
open Go Go.Pm
set_option linter.unusedVariables false
set_option maxRecDepth 2000
def m_ref02_Check_L1 (x : ((List Int) × Int)) : Option (Unit ⊕ Unit) :=
  match x with
  | (p0, v201) =>
  if v201 < (p0.length : Int) then
    idx p0 v201 >>= fun v601 =>
    if v601 < 0 then
      some (Sum.inl ())
    else
    m_ref02_Check_L1 (p0, (W (v201 + 1)))
  else
  some (Sum.inr ())
  partial_fixpoint
def P_ref02_Check_L1 : ((List Int) × Int) → (Unit ⊕ Unit) → Prop := fun x r => match x with
  | (p0, v201) => ∀ st, prune 0 ((firstRegion (codeAt [1, 0, 1, 0, 0] (bodyOf f8))).bind (env.hint 8).keepAt) st = ⟨kp 29 [(0, (.dat (.lst ((List.map intD) p0)))), (3, (intPV v201))], []⟩ →
    RL prog env (env.hint 8) true (codeAt [1, 0, 1, 0, 0] (bodyOf f8)) 0 st (fun e s => match r with | .inl _ => e = .ret ∧ ∃ d, s = ⟨sl d 29 [(2, (intPV 6))], []⟩ | .inr (_) => e = .exit 0 ∧ ∃ d, s = ⟨sl d 29 [(0, (.dat (.lst ((List.map intD) p0))))], []⟩)
theorem w_ref02_Check_L1 : ∀ x r, m_ref02_Check_L1 x = some r → P_ref02_Check_L1 x r := by
  refine m_ref02_Check_L1.partial_correctness _ (fun m_ref02_Check_L1 w_ref02_Check_L1 x r hm => ?_)
  unfold P_ref02_Check_L1
  obtain ⟨p0, v201⟩ := x
  intro st hst
  refine RL_at hst ?_
  clear hst
  refine R_seq ?_
  refine R_seq ?_
  refine R_G ?_
  refine G_run 2 ?_
  refine I_len intD p0 (es := (List.map intD) p0) rfl ?_
  refine G_run 1 ?_
  refine G_end ?_
  refine R_ifp (p := v201 < (p0.length : Int)) (rfl) (fun hc => ?_) (fun hc => ?_)
  · replace hm := pos_inv hc hm
    refine R_skip ?_
    refine R_seq ?_
    refine R_block ?_
    refine R_seq ?_
    refine R_G ?_
    refine G_run 2 ?_
    obtain ⟨v601, hx, hm⟩ := bind_inv hm
    refine I_idx 1 intD p0 v201 v601 (es := (List.map intD) p0) (d := (intD v601)) rfl hx rfl rfl ?_
    refine G_run 2 ?_
    refine G_end ?_
    refine R_ifp (p := v601 < 0) (rfl) (fun hc => ?_) (fun hc => ?_)
    · replace hm := pos_inv hc hm
      refine R_seq ?_
      refine R_G ?_
      refine G_run 1 ?_
      refine G_end ?_
      refine R_ret ?_
      obtain rfl := inj1 hm
      exact ⟨rfl, cut_leaf (by kernel_rfl)⟩
    replace hm := neg_inv hc hm
    refine R_skip ?_
    refine R_G ?_
    refine G_run 3 ?_
    refine G_end ?_
    exact w_ref02_Check_L1 _ _ hm _ (by kernel_rfl)
  replace hm := neg_inv hc hm
  refine R_exit ?_
  obtain rfl := inj1 hm
  exact ⟨rfl, cut_leaf (by kernel_rfl)⟩
def m_ref02_Check (x : (List Int)) : Option Int :=
  match x with
  | p0 =>
  (
  m_ref02_Check_L1 (p0, 0) >>= fun (out : Unit ⊕ Unit) =>
  match out with
  | .inl _ =>
    some 6
  | .inr (_) =>
    m_ref01_Product p0 >>= fun ((v602, v603) : (Int × Int)) =>
    (if (p0.length : Int) > 16 then
      some true
    else
    some (v603 != 0)
    ) >>= fun (v604 : Bool) =>
    if v604 = true then
      some 7
    else
    some 0
  )
def P_ref02_Check : (List Int) → Int → Prop := fun x r => match x, r with
  | p0, r0 => ∀ H, PC prog env 8 ([(.lst ((List.map intD) p0))].map .dat) H (intPV r0) H
theorem w_ref02_Check : ∀ x r, m_ref02_Check x = some r → P_ref02_Check x r := by
  intro p0 r0 hm
  unfold m_ref02_Check at hm
  unfold P_ref02_Check
  intro H
  refine PC_sx (ds := [(.lst ((List.map intD) p0))]) (fn := f8) (by kernel_rfl) (by kernel_rfl) rfl ?_ (by kernel_rfl)
  refine R_seq ?_
  refine R_G ?_
  refine G_run 1 ?_
  refine G_end ?_
  refine R_seq ?_
  refine R_seq ?_
  refine R_G ?_
  refine G_run 1 ?_
  refine G_end ?_
  refine R_block ?_
  obtain ⟨out, hs, hm⟩ := bind_inv hm
  refine R_loop ?_
  rcases out with _ | _
  · refine RL_use (w_ref02_Check_L1 _ _ hs) (by kernel_rfl) ?_
    clear hs
    intro e s hp
    obtain ⟨rfl, d, rfl⟩ := hp
    obtain rfl := inj1 hm
    exact ⟨trivial, fin_pure (by kernel_rfl)⟩
  · refine RL_use (w_ref02_Check_L1 _ _ hs) (by kernel_rfl) ?_
    clear hs
    intro e s hp
    obtain ⟨rfl, d, rfl⟩ := hp
    refine R_seq ?_
    refine R_G ?_
    refine G_run 1 ?_
    obtain ⟨⟨v602, v603⟩, hx, hm⟩ := bind_inv hm
    have hq := w_ref01_Product _ _ hx []
    refine G_callP hq ?_
    refine G_run 5 ?_
    refine G_end ?_
    refine R_seq ?_
    refine R_seq ?_
    obtain ⟨v604, hs, hm⟩ := bind_inv hm
    refine R_cut (fun d => ⟨sl d 29 [(28, (boolPV v604))], []⟩) ?_ (fun d => ?_)
    · replace hm := hs
      clear hs
      refine R_G ?_
      refine G_run 1 ?_
      refine I_len intD p0 (es := (List.map intD) p0) rfl ?_
      refine G_run 2 ?_
      refine G_split (p := (p0.length : Int) > 16) 25 (rfl) (fun hc => ?_) (fun hc => ?_)
      · replace hm := pos_inv hc hm
        refine G_run 3 ?_
        refine G_end ?_
        obtain rfl := inj1 hm
        exact cut_leaf (by kernel_rfl)
      replace hm := neg_inv hc hm
      refine G_run 3 ?_
      refine G_end ?_
      obtain rfl := inj1 hm
      exact cut_leaf (by kernel_rfl)
    clear hs
    refine R_ifp (p := v604 = true) (bool_dec _) (fun hc => ?_) (fun hc => ?_)
    · replace hm := pos_inv hc hm
      refine R_seq ?_
      refine R_G ?_
      refine G_run 1 ?_
      refine G_end ?_
      refine R_ret ?_
      obtain rfl := inj1 hm
      exact ⟨trivial, fin_pure (by kernel_rfl)⟩
    replace hm := neg_inv hc hm
    refine R_skip ?_
    refine R_seq ?_
    refine R_G ?_
    refine G_run 1 ?_
    refine G_end ?_
    refine R_ret ?_
    obtain rfl := inj1 hm
    exact ⟨trivial, fin_pure (by kernel_rfl)⟩
end Go.Proofs.Try
namespace Go.Proofs.Try
open Go Go.Pm
set_option linter.unusedVariables false
set_option maxRecDepth 2000
def m_law13_axis (x : Int) : Option Bool :=
  match x with
  | p0 =>
  if p0 ≥ (-1) then
    some (decide (p0 ≤ 15))
  else
  some false
def P_law13_axis : Int → Bool → Prop := fun x r => match x, r with
  | p0, r0 => ∀ H, PC prog env 9 ([(intD p0)].map .dat) H (boolPV r0) H
theorem w_law13_axis : ∀ x r, m_law13_axis x = some r → P_law13_axis x r := by
  intro p0 r0 hm
  unfold m_law13_axis at hm
  unfold P_law13_axis
  intro H
  refine PC_sx (ds := [(intD p0)]) (fn := f9) (by kernel_rfl) (by kernel_rfl) rfl ?_ (by kernel_rfl)
  refine R_seq ?_
  refine R_G ?_
  refine G_run 1 ?_
  refine G_end ?_
  refine R_seq ?_
  refine R_G ?_
  refine G_run 3 ?_
  refine G_split (p := p0 ≥ (-1)) 5 (rfl) (fun hc => ?_) (fun hc => ?_)
  · replace hm := pos_inv hc hm
    refine G_run 4 ?_
    refine G_end ?_
    refine R_ret ?_
    obtain rfl := inj1 hm
    exact ⟨trivial, fin_pure (by kernel_rfl)⟩
  replace hm := neg_inv hc hm
  refine G_run 4 ?_
  refine G_end ?_
  refine R_ret ?_
  obtain rfl := inj1 hm
  exact ⟨trivial, fin_pure (by kernel_rfl)⟩
end Go.Proofs.Try
namespace Go.Proofs.Try
open Go Go.Pm
set_option linter.unusedVariables false
set_option maxRecDepth 2000
def m_rule_failed (x : Int) : Option (T_rule_Rule × Int) :=
  match x with
  | p0 =>
  some ((⟨([] : (List Int)), ([] : (List Int)), ([] : (List Int)), ([] : (List Int)), 0, 0, ([] : (List Int))⟩ : T_rule_Rule), p0)
def P_rule_failed : Int → (T_rule_Rule × Int) → Prop := fun x r => match x, r with
  | p0, (r0, r1) => ∀ H, PC prog env 25 ([(intD p0)].map .dat) H (.tup [(.dat (T_rule_Rule.toD r0)), (intPV r1)]) H
theorem w_rule_failed : ∀ x r, m_rule_failed x = some r → P_rule_failed x r := by
  intro p0 r hm
  unfold m_rule_failed at hm
  unfold P_rule_failed
  obtain ⟨r0, r1⟩ := r
  intro H
  refine PC_sx (ds := [(intD p0)]) (fn := f25) (by kernel_rfl) (by kernel_rfl) rfl ?_ (by kernel_rfl)
  refine R_seq ?_
  refine R_G ?_
  refine G_run 2 ?_
  refine G_end ?_
  refine R_seq ?_
  refine R_G ?_
  refine G_run 4 ?_
  refine G_end ?_
  refine R_ret ?_
  obtain ⟨rfl, rfl⟩ := inj2 hm
  exact ⟨trivial, fin_pure (by kernel_rfl)⟩
end Go.Proofs.Try
namespace Go.Proofs.Try
open Go Go.Pm
set_option linter.unusedVariables false
set_option maxRecDepth 2000
def m_slices_Clone_int_int (x : List Int) : Option (List Int) := app 8 [] x
def cgm_slices_Clone_int_int (l : List Int) : Nat := match l with | [] => 0 | _ => 1
def P_slices_Clone_int_int : List Int → List Int → Prop := fun x r => PC prog env 39 [.dat (.lst ((List.map intD) x))] [] (.ms 0 (cgm_slices_Clone_int_int r) 0 r.length r.length) [.mt 3 (cgm_slices_Clone_int_int r) (cellsOf intD r)]
theorem w_slices_Clone_int_int : ∀ x r, m_slices_Clone_int_int x = some r → P_slices_Clone_int_int x r := by
  intro x r hm
  obtain ⟨hroom, hr⟩ := app_some hm
  have hr : r = x := hr
  subst hr
  unfold P_slices_Clone_int_int
  cases r with
  | nil => exact PC_of (n := 20) (by kernel_rfl)
  | cons a l =>
    refine PC_sxB (fn := f39) (by kernel_rfl) (by kernel_rfl) rfl ?_
    refine R_seq ?_
    refine R_G ?_
    refine G_run 1 ?_
    refine G_end ?_
    refine R_seq ?_
    refine R_seq ?_
    refine R_G ?_
    refine G_run 1 ?_
    refine G_semN rfl (by kernel_rfl) (fun _ => E_lstNil (p := .dat (.lst ((List.map intD) (a :: l)))) (b := false) rfl (by kernel_rfl) (by kernel_rfl) (by kernel_rfl)) ?_
    refine G_end ?_
    refine R_false (by kernel_rfl) ?_
    refine R_skip ?_
    refine R_seq ?_
    refine R_G ?_
    refine G_run 2 ?_
    refine G_semH (v := .ms 0 1 0 (a :: l).length (a :: l).length) (fun H => H.set 0 (.mt 3 1 (cellsOf intD (a :: l)))) rfl (by kernel_rfl) (fun _ hk => E_apMs intD (l := []) (es := a :: l) (bytes := 8) (e := 3) (tt := 0) (g := 0) (m := 0) hm (fun _ => rfl) (by kernel_rfl) (by kernel_rfl) (by kernel_rfl) (by kernel_rfl) rfl rfl (by kernel_rfl) rfl (by kernel_rfl) (source_lst (fun _ => rfl)) hk) ?_
    refine G_run 1 ?_
    refine G_end ?_
    refine R_ret ?_
    exact ⟨trivial, fin_body (by kernel_rfl) (by kernel_rfl)⟩
end Go.Proofs.Try
namespace Go.Proofs.Try
open Go Go.Pm
set_option linter.unusedVariables false
set_option maxRecDepth 2000
def m_shape_one (x : Int) : Option Int :=
  match x with
  | p0 =>
  some p0
def P_shape_one : Int → Int → Prop := fun x r => match x, r with
  | p0, v5001 => ∀ H, PC prog env 66 ([(intD p0)].map .dat) H (.fn 79 [(.iptr [(intD v5001)])]) H
theorem w_shape_one : ∀ x r, m_shape_one x = some r → P_shape_one x r := by
  intro p0 v5001 hm
  unfold m_shape_one at hm
  unfold P_shape_one
  intro H
  refine PC_sx (ds := [(intD p0)]) (fn := f66) (by kernel_rfl) (by kernel_rfl) rfl ?_ (by kernel_rfl)
  refine R_seq ?_
  refine R_G ?_
  refine G_run 2 ?_
  refine G_end ?_
  refine R_seq ?_
  refine R_G ?_
  refine G_run 2 ?_
  refine G_end ?_
  refine R_ret ?_
  obtain rfl := inj1 hm
  exact ⟨trivial, fin_pure (by kernel_rfl)⟩
end Go.Proofs.Try
namespace Go.Proofs.Try
open Go Go.Pm
set_option linter.unusedVariables false
set_option maxRecDepth 2000
def m_shape_one_1_b9040 (x : Int) : Option (Unit) :=
  match x with
  | q0 =>
  some ()
def P_shape_one_1_b9040 : Int → Unit → Prop := fun x r => match x with
  | q0 => PC prog env 79 [(.iptr [(intD q0)])] [] (match r with | _ => (.dat (.lst ((List.map intD) ([q0] : List Int))))) (match r with | _ => [])
theorem w_shape_one_1_b9040 : ∀ x r, m_shape_one_1_b9040 x = some r → P_shape_one_1_b9040 x r := by
  intro q0 r hm
  unfold m_shape_one_1_b9040 at hm
  unfold P_shape_one_1_b9040
  refine PC_sxB (fn := f79) (by kernel_rfl) (by kernel_rfl) rfl ?_
  refine R_seq ?_
  refine R_G ?_
  refine G_run 1 ?_
  refine G_end ?_
  refine R_seq ?_
  refine R_G ?_
  refine G_run 3 ?_
  refine G_end ?_
  refine R_ret ?_
  obtain rfl := inj1 hm
  exact ⟨trivial, fin_body (by kernel_rfl) (by kernel_rfl)⟩
end Go.Proofs.Try
namespace Go.Proofs.Try
open Go Go.Pm
set_option linter.unusedVariables false
set_option maxRecDepth 2000
def m_shape_edited_int_b8179 (x : ((List Int) × Int × Int)) : Option (((List Int) × Int)) :=
  match x with
  | (q0, q1, q2) =>
  (if q1 < 0 then
    some true
  else
  if q1 > (q0.length : Int) then
    some true
  else
  some (decide (q1 > q1))
  ) >>= fun (v1 : Bool) =>
  if v1 = true then
    some (([] : List Int), 4)
  else
  sub q0 0 q1 >>= fun v2 =>
  m_shape_one_1_b9040 q2 >>= fun (_ : Unit) =>
  sub q0 q1 (q0.length : Int) >>= fun v3 =>
  m_slices_Concat_int_int ([v2, ([q2] : List Int), v3] : List (List Int)) >>= fun (v4 : (List Int)) =>
  some (v4, 0)
def P_shape_edited_int_b8179 : ((List Int) × Int × Int) → ((List Int) × Int) → Prop := fun x r => match x with
  | (q0, q1, q2) => PC prog env 65 [(.dat (.lst ((List.map intD) q0))), (intPV q1), (intPV q1), (.fn 79 [(.iptr [(intD q2)])])] [] (match r with | (v5001, v5002) => (.tup [(.dat (.lst ((List.map intD) v5001))), (intPV v5002)])) (match r with | (v5001, v5002) => [])
theorem w_shape_edited_int_b8179 : ∀ x r, m_shape_edited_int_b8179 x = some r → P_shape_edited_int_b8179 x r := by
  intro x r hm
  unfold m_shape_edited_int_b8179 at hm
  unfold P_shape_edited_int_b8179
  obtain ⟨q0, q1, q2⟩ := x
  refine PC_sxB (fn := f65) (by kernel_rfl) (by kernel_rfl) rfl ?_
  refine R_seq ?_
  refine R_G ?_
  refine G_run 2 ?_
  refine G_end ?_
  refine R_seq ?_
  refine R_seq ?_
  obtain ⟨v1, hs, hm⟩ := bind_inv hm
  refine R_cut (fun d => ⟨sl d 33 [(0, (.dat (.lst ((List.map intD) q0)))), (1, (intPV q1)), (2, (intPV q1)), (3, (.fn 79 [(.iptr [(intD q2)])])), (22, (boolPV v1))], []⟩) ?_ (fun d => ?_)
  · replace hm := hs
    clear hs
    refine R_G ?_
    refine G_run 3 ?_
    refine G_split (p := q1 < 0) 12 (rfl) (fun hc => ?_) (fun hc => ?_)
    · replace hm := pos_inv hc hm
      refine G_run 10 ?_
      refine G_end ?_
      obtain rfl := inj1 hm
      exact cut_leaf (by kernel_rfl)
    replace hm := neg_inv hc hm
    refine G_run 2 ?_
    refine I_len intD q0 (es := (List.map intD) q0) rfl ?_
    refine G_run 3 ?_
    refine G_split (p := q1 > (q0.length : Int)) 18 (rfl) (fun hc => ?_) (fun hc => ?_)
    · replace hm := pos_inv hc hm
      refine G_run 4 ?_
      refine G_end ?_
      obtain rfl := inj1 hm
      exact cut_leaf (by kernel_rfl)
    replace hm := neg_inv hc hm
    refine G_run 4 ?_
    refine G_end ?_
    obtain rfl := inj1 hm
    exact cut_leaf (by kernel_rfl)
  clear hs
  refine R_ifp (p := v1 = true) (bool_dec _) (fun hc => ?_) (fun hc => ?_)
  · replace hm := pos_inv hc hm
    refine R_seq ?_
    refine R_G ?_
    refine G_run 2 ?_
    refine G_end ?_
    refine R_ret ?_
    obtain rfl := inj1 hm
    exact ⟨trivial, fin_body (by kernel_rfl) (by kernel_rfl)⟩
  replace hm := neg_inv hc hm
  refine R_skip ?_
  refine R_seq ?_
  refine R_GD ?_
  refine G_run 2 ?_
  obtain ⟨v2, hx, hm⟩ := bind_inv hm
  refine I_sub 1 intD q0 v2 0 q1 (es := (List.map intD) q0) (L := (List.map intD)) (a := natI 0) (b := natI q1) (fun _ => rfl) rfl (fun _ => by first | rfl | exact num_of_fit ((fun _ => rfl) _)) hx rfl (Or.inl rfl) ?_
  refine G_run 1 ?_
  obtain ⟨_, hx, hm⟩ := bind_inv hm
  have hq := w_shape_one_1_b9040 _ _ hx
  dsimp only [P_shape_one_1_b9040] at hq
  refine G_callB hq ?_
  refine G_run 2 ?_
  obtain ⟨v3, hx, hm⟩ := bind_inv hm
  refine I_sub 1 intD q0 v3 q1 (q0.length : Int) (es := (List.map intD) q0) (L := (List.map intD)) (a := natI q1) (b := some ((List.map intD) q0).length) (fun _ => rfl) rfl (fun _ => by first | rfl | exact num_of_fit ((fun _ => rfl) _)) hx rfl (Or.inr ⟨rfl, rfl⟩) ?_
  refine G_run 1 ?_
  obtain ⟨v4, hx, hm⟩ := bind_inv hm
  have hq := w_slices_Concat_int_int _ _ hx []
  refine G_callP hq ?_
  refine G_run 2 ?_
  refine G_end ⟨by kernel_rfl, ?_⟩
  refine R_ret ?_
  obtain rfl := inj1 hm
  exact ⟨trivial, fin_body (by kernel_rfl) (by kernel_rfl)⟩
end Go.Proofs.Try
namespace Go.Proofs.Try
open Go Go.Pm
set_option linter.unusedVariables false
set_option maxRecDepth 2000
def m_shape_Insert (x : ((List Int) × Int × Int)) : Option ((List Int) × Int) :=
  match x with
  | (p0, p1, p2) =>
  m_shape_one p2 >>= fun (v1 : Int) =>
  m_shape_edited_int_b8179 (p0, p1, v1) >>= fun ((v2, v3) : ((List Int) × Int)) =>
  some (v2, v3)
def P_shape_Insert : ((List Int) × Int × Int) → ((List Int) × Int) → Prop := fun x r => match x, r with
  | (p0, p1, p2), (r0, r1) => ∀ H, PC prog env 46 ([(.lst ((List.map intD) p0)), (intD p1), (intD p2)].map .dat) H (.tup [(.dat (.lst ((List.map intD) r0))), (intPV r1)]) H
theorem w_shape_Insert : ∀ x r, m_shape_Insert x = some r → P_shape_Insert x r := by
  intro x r hm
  unfold m_shape_Insert at hm
  unfold P_shape_Insert
  obtain ⟨p0, p1, p2⟩ := x
  obtain ⟨r0, r1⟩ := r
  intro H
  refine PC_sx (ds := [(.lst ((List.map intD) p0)), (intD p1), (intD p2)]) (fn := f46) (by kernel_rfl) (by kernel_rfl) rfl ?_ (by kernel_rfl)
  refine R_seq ?_
  refine R_G ?_
  refine G_run 2 ?_
  refine G_end ?_
  refine R_seq ?_
  refine R_G ?_
  refine G_run 4 ?_
  obtain ⟨v1, hx, hm⟩ := bind_inv hm
  have hq := w_shape_one _ _ hx []
  refine G_callP hq ?_
  obtain ⟨⟨v2, v3⟩, hx, hm⟩ := bind_inv hm
  have hq := w_shape_edited_int_b8179 _ _ hx
  dsimp only [P_shape_edited_int_b8179] at hq
  refine G_callB hq ?_
  refine G_run 4 ?_
  refine G_end ?_
  refine R_ret ?_
  obtain ⟨rfl, rfl⟩ := inj2 hm
  exact ⟨trivial, fin_pure (by kernel_rfl)⟩
end Go.Proofs.Try
namespace Go.Proofs.Try
open Go Go.Pm
set_option linter.unusedVariables false
set_option maxRecDepth 2000
def m_shape_edited_int_b9faf (x : ((List Int) × Int × Int × Int)) : Option (((List Int) × Int)) :=
  match x with
  | (q0, q1, q2, q3) =>
  (if q1 < 0 then
    some true
  else
  if q2 > (q0.length : Int) then
    some true
  else
  some (decide (q1 > q2))
  ) >>= fun (v1 : Bool) =>
  if v1 = true then
    some (([] : List Int), 4)
  else
  sub q0 0 q1 >>= fun v2 =>
  m_shape_one_1_b9040 q3 >>= fun (_ : Unit) =>
  sub q0 q2 (q0.length : Int) >>= fun v3 =>
  m_slices_Concat_int_int ([v2, ([q3] : List Int), v3] : List (List Int)) >>= fun (v4 : (List Int)) =>
  some (v4, 0)
def P_shape_edited_int_b9faf : ((List Int) × Int × Int × Int) → ((List Int) × Int) → Prop := fun x r => match x with
  | (q0, q1, q2, q3) => PC prog env 65 [(.dat (.lst ((List.map intD) q0))), (intPV q1), (intPV q2), (.fn 79 [(.iptr [(intD q3)])])] [] (match r with | (v5001, v5002) => (.tup [(.dat (.lst ((List.map intD) v5001))), (intPV v5002)])) (match r with | (v5001, v5002) => [])
theorem w_shape_edited_int_b9faf : ∀ x r, m_shape_edited_int_b9faf x = some r → P_shape_edited_int_b9faf x r := by
  intro x r hm
  unfold m_shape_edited_int_b9faf at hm
  unfold P_shape_edited_int_b9faf
  obtain ⟨q0, q1, q2, q3⟩ := x
  refine PC_sxB (fn := f65) (by kernel_rfl) (by kernel_rfl) rfl ?_
  refine R_seq ?_
  refine R_G ?_
  refine G_run 2 ?_
  refine G_end ?_
  refine R_seq ?_
  refine R_seq ?_
  obtain ⟨v1, hs, hm⟩ := bind_inv hm
  refine R_cut (fun d => ⟨sl d 33 [(0, (.dat (.lst ((List.map intD) q0)))), (1, (intPV q1)), (2, (intPV q2)), (3, (.fn 79 [(.iptr [(intD q3)])])), (22, (boolPV v1))], []⟩) ?_ (fun d => ?_)
  · replace hm := hs
    clear hs
    refine R_G ?_
    refine G_run 3 ?_
    refine G_split (p := q1 < 0) 12 (rfl) (fun hc => ?_) (fun hc => ?_)
    · replace hm := pos_inv hc hm
      refine G_run 10 ?_
      refine G_end ?_
      obtain rfl := inj1 hm
      exact cut_leaf (by kernel_rfl)
    replace hm := neg_inv hc hm
    refine G_run 2 ?_
    refine I_len intD q0 (es := (List.map intD) q0) rfl ?_
    refine G_run 3 ?_
    refine G_split (p := q2 > (q0.length : Int)) 18 (rfl) (fun hc => ?_) (fun hc => ?_)
    · replace hm := pos_inv hc hm
      refine G_run 4 ?_
      refine G_end ?_
      obtain rfl := inj1 hm
      exact cut_leaf (by kernel_rfl)
    replace hm := neg_inv hc hm
    refine G_run 4 ?_
    refine G_end ?_
    obtain rfl := inj1 hm
    exact cut_leaf (by kernel_rfl)
  clear hs
  refine R_ifp (p := v1 = true) (bool_dec _) (fun hc => ?_) (fun hc => ?_)
  · replace hm := pos_inv hc hm
    refine R_seq ?_
    refine R_G ?_
    refine G_run 2 ?_
    refine G_end ?_
    refine R_ret ?_
    obtain rfl := inj1 hm
    exact ⟨trivial, fin_body (by kernel_rfl) (by kernel_rfl)⟩
  replace hm := neg_inv hc hm
  refine R_skip ?_
  refine R_seq ?_
  refine R_GD ?_
  refine G_run 2 ?_
  obtain ⟨v2, hx, hm⟩ := bind_inv hm
  refine I_sub 1 intD q0 v2 0 q1 (es := (List.map intD) q0) (L := (List.map intD)) (a := natI 0) (b := natI q1) (fun _ => rfl) rfl (fun _ => by first | rfl | exact num_of_fit ((fun _ => rfl) _)) hx rfl (Or.inl rfl) ?_
  refine G_run 1 ?_
  obtain ⟨_, hx, hm⟩ := bind_inv hm
  have hq := w_shape_one_1_b9040 _ _ hx
  dsimp only [P_shape_one_1_b9040] at hq
  refine G_callB hq ?_
  refine G_run 2 ?_
  obtain ⟨v3, hx, hm⟩ := bind_inv hm
  refine I_sub 1 intD q0 v3 q2 (q0.length : Int) (es := (List.map intD) q0) (L := (List.map intD)) (a := natI q2) (b := some ((List.map intD) q0).length) (fun _ => rfl) rfl (fun _ => by first | rfl | exact num_of_fit ((fun _ => rfl) _)) hx rfl (Or.inr ⟨rfl, rfl⟩) ?_
  refine G_run 1 ?_
  obtain ⟨v4, hx, hm⟩ := bind_inv hm
  have hq := w_slices_Concat_int_int _ _ hx []
  refine G_callP hq ?_
  refine G_run 2 ?_
  refine G_end ⟨by kernel_rfl, ?_⟩
  refine R_ret ?_
  obtain rfl := inj1 hm
  exact ⟨trivial, fin_body (by kernel_rfl) (by kernel_rfl)⟩
end Go.Proofs.Try
namespace Go.Proofs.Try
open Go Go.Pm
set_option linter.unusedVariables false
set_option maxRecDepth 2000
def m_shape_Replace (x : ((List Int) × Int × Int)) : Option ((List Int) × Int) :=
  match x with
  | (p0, p1, p2) =>
  if p1 ≥ (p0.length : Int) then
    some (([] : (List Int)), 4)
  else
  m_shape_one p2 >>= fun (v1 : Int) =>
  m_shape_edited_int_b9faf (p0, p1, (W (p1 + 1)), v1) >>= fun ((v2, v3) : ((List Int) × Int)) =>
  some (v2, v3)
def P_shape_Replace : ((List Int) × Int × Int) → ((List Int) × Int) → Prop := fun x r => match x, r with
  | (p0, p1, p2), (r0, r1) => ∀ H, PC prog env 47 ([(.lst ((List.map intD) p0)), (intD p1), (intD p2)].map .dat) H (.tup [(.dat (.lst ((List.map intD) r0))), (intPV r1)]) H
theorem w_shape_Replace : ∀ x r, m_shape_Replace x = some r → P_shape_Replace x r := by
  intro x r hm
  unfold m_shape_Replace at hm
  unfold P_shape_Replace
  obtain ⟨p0, p1, p2⟩ := x
  obtain ⟨r0, r1⟩ := r
  intro H
  refine PC_sx (ds := [(.lst ((List.map intD) p0)), (intD p1), (intD p2)]) (fn := f47) (by kernel_rfl) (by kernel_rfl) rfl ?_ (by kernel_rfl)
  refine R_seq ?_
  refine R_G ?_
  refine G_run 2 ?_
  refine G_end ?_
  refine R_seq ?_
  refine R_seq ?_
  refine R_G ?_
  refine G_run 2 ?_
  refine I_len intD p0 (es := (List.map intD) p0) rfl ?_
  refine G_run 1 ?_
  refine G_end ?_
  refine R_ifp (p := p1 ≥ (p0.length : Int)) (rfl) (fun hc => ?_) (fun hc => ?_)
  · replace hm := pos_inv hc hm
    refine R_seq ?_
    refine R_G ?_
    refine G_run 2 ?_
    refine G_end ?_
    refine R_ret ?_
    obtain ⟨rfl, rfl⟩ := inj2 hm
    exact ⟨trivial, fin_pure (by kernel_rfl)⟩
  replace hm := neg_inv hc hm
  refine R_skip ?_
  refine R_seq ?_
  refine R_G ?_
  refine G_run 5 ?_
  obtain ⟨v1, hx, hm⟩ := bind_inv hm
  have hq := w_shape_one _ _ hx []
  refine G_callP hq ?_
  obtain ⟨⟨v2, v3⟩, hx, hm⟩ := bind_inv hm
  have hq := w_shape_edited_int_b9faf _ _ hx
  dsimp only [P_shape_edited_int_b9faf] at hq
  refine G_callB hq ?_
  refine G_run 4 ?_
  refine G_end ?_
  refine R_ret ?_
  obtain ⟨rfl, rfl⟩ := inj2 hm
  exact ⟨trivial, fin_pure (by kernel_rfl)⟩
end Go.Proofs.Try
namespace Go.Proofs.Try
open Go Go.Pm
set_option linter.unusedVariables false
set_option maxRecDepth 2000
def m_rule_widened (x : ((List Int) × (List Int) × Int × Int)) : Option ((List Int) × Int) :=
  match x with
  | (p0, p1, p2, p3) =>
  if (p0.length : Int) = p2 then
    m_slices_Clone_int_int p0 >>= fun v1 =>
    some (v1, 0)
  else
  if (p0.length : Int) = (W (p2 - 1)) then
    m_shape_Insert (p0, p3, 1) >>= fun ((v2, v3) : ((List Int) × Int)) =>
    some (v2, v3)
  else
  if (p0.length : Int) = 0 then
    m_shape_Replace (p1, p3, 1) >>= fun ((v4, v5) : ((List Int) × Int)) =>
    some (v4, v5)
  else
  some (([] : (List Int)), 4)
def P_rule_widened : ((List Int) × (List Int) × Int × Int) → ((List Int) × Int) → Prop := fun x r => match x, r with
  | (p0, p1, p2, p3), (r0, r1) => ∀ H, PC prog env 26 ([(.lst ((List.map intD) p0)), (.lst ((List.map intD) p1)), (intD p2), (intD p3)].map .dat) H (.tup [(.dat (.lst ((List.map intD) r0))), (intPV r1)]) H
theorem w_rule_widened : ∀ x r, m_rule_widened x = some r → P_rule_widened x r := by
  intro x r hm
  unfold m_rule_widened at hm
  unfold P_rule_widened
  obtain ⟨p0, p1, p2, p3⟩ := x
  obtain ⟨r0, r1⟩ := r
  intro H
  refine PC_sx (ds := [(.lst ((List.map intD) p0)), (.lst ((List.map intD) p1)), (intD p2), (intD p3)]) (fn := f26) (by kernel_rfl) (by kernel_rfl) rfl ?_ (by kernel_rfl)
  refine R_seq ?_
  refine R_G ?_
  refine G_run 2 ?_
  refine G_end ?_
  refine R_seq ?_
  refine R_seq ?_
  refine R_G ?_
  refine G_run 1 ?_
  refine I_len intD p0 (es := (List.map intD) p0) rfl ?_
  refine G_end ?_
  refine R_block ?_
  refine R_seq ?_
  refine R_G ?_
  refine G_run 3 ?_
  refine G_end ?_
  refine R_ifp (p := (p0.length : Int) = p2) (eq_dec _ _) (fun hc => ?_) (fun hc => ?_)
  · replace hm := pos_inv hc hm
    refine R_seq ?_
    refine R_G ?_
    refine G_run 1 ?_
    obtain ⟨v1, hx, hm⟩ := bind_inv hm
    have hq := w_slices_Clone_int_int _ _ hx
    dsimp only [P_slices_Clone_int_int] at hq
    have hl9 : mtOf [Blk.mt 3 (cgm_slices_Clone_int_int v1) (cellsOf intD v1)] 0 = some (3, cgm_slices_Clone_int_int v1, cellsOf intD v1) := mtOf_at (by kernel_rfl)
    refine G_semH (v := .ms 0 1 0 v1.length v1.length) (fun H => H ++ [.mt 3 1 (cellsOf intD v1)]) rfl (by kernel_rfl) ?_ ?_
    · intro K hk
      refine E_callOwnN 0 (first := #[]) (cap := #[]) (j := (0, 3)) (ow' := []) (f0 := intD) (l := v1) rfl ?_ ?_ ?_ (ds := [.lst ((List.map intD) p0)]) ?_ hq hl9 ?_ ?_ ?_
      · kernel_rfl
      · kernel_rfl
      · kernel_rfl
      · kernel_rfl
      · exact hk
      · kernel_rfl
      · decide
    refine G_run 2 ?_
    refine G_end ?_
    refine R_ret ?_
    obtain ⟨rfl, rfl⟩ := inj2 hm
    exact ⟨trivial, fin_pureX [(.ms 0 1 0 v1.length v1.length), (intPV 0)] (by kernel_rfl) (po_tup (ps_cons (p1_ms (pc_ms (e := 3) intD v1 rfl (fun _ => rfl) (by kernel_rfl))) (ps_cons (by kernel_rfl) ps_nil)))⟩
  replace hm := neg_inv hc hm
  refine R_seq ?_
  refine R_G ?_
  refine G_run 4 ?_
  refine G_end ?_
  refine R_ifp (p := (p0.length : Int) = (W (p2 - 1))) (eq_dec _ _) (fun hc => ?_) (fun hc => ?_)
  · replace hm := pos_inv hc hm
    refine R_seq ?_
    refine R_G ?_
    refine G_run 2 ?_
    obtain ⟨⟨v2, v3⟩, hx, hm⟩ := bind_inv hm
    have hq := w_shape_Insert _ _ hx []
    refine G_callP hq ?_
    refine G_run 4 ?_
    refine G_end ?_
    refine R_ret ?_
    obtain ⟨rfl, rfl⟩ := inj2 hm
    exact ⟨trivial, fin_pure (by kernel_rfl)⟩
  replace hm := neg_inv hc hm
  refine R_seq ?_
  refine R_G ?_
  refine G_run 2 ?_
  refine G_end ?_
  refine R_ifp (p := (p0.length : Int) = 0) (eq_dec _ _) (fun hc => ?_) (fun hc => ?_)
  · replace hm := pos_inv hc hm
    refine R_seq ?_
    refine R_G ?_
    refine G_run 2 ?_
    obtain ⟨⟨v4, v5⟩, hx, hm⟩ := bind_inv hm
    have hq := w_shape_Replace _ _ hx []
    refine G_callP hq ?_
    refine G_run 4 ?_
    refine G_end ?_
    refine R_ret ?_
    obtain ⟨rfl, rfl⟩ := inj2 hm
    exact ⟨trivial, fin_pure (by kernel_rfl)⟩
  replace hm := neg_inv hc hm
  refine R_skip ?_
  refine R_seq ?_
  refine R_G ?_
  refine G_run 2 ?_
  refine G_end ?_
  refine R_ret ?_
  obtain ⟨rfl, rfl⟩ := inj2 hm
  exact ⟨trivial, fin_pure (by kernel_rfl)⟩
end Go.Proofs.Try
namespace Go.Proofs.Try
open Go Go.Pm
set_option linter.unusedVariables false
set_option maxRecDepth 2000
def m_shape_Remove_1 (x : Unit) : Option (List Int) :=
  match x with
  | _ =>
  some ([] : (List Int))
def P_shape_Remove_1 : Unit → (List Int) → Prop := fun x r => match x, r with
  | _, r0 => ∀ H, PC prog env 67 ([].map .dat) H (.dat (.lst ((List.map intD) r0))) H
theorem w_shape_Remove_1 : ∀ x r, m_shape_Remove_1 x = some r → P_shape_Remove_1 x r := by
  intro x r0 hm
  unfold m_shape_Remove_1 at hm
  unfold P_shape_Remove_1
  intro H
  refine PC_sx (ds := []) (fn := f67) (by kernel_rfl) (by kernel_rfl) rfl ?_ (by kernel_rfl)
  refine R_seq ?_
  refine R_G ?_
  refine G_run 1 ?_
  refine G_end ?_
  refine R_seq ?_
  refine R_G ?_
  refine G_run 1 ?_
  refine G_end ?_
  refine R_ret ?_
  obtain rfl := inj1 hm
  exact ⟨trivial, fin_pure (by kernel_rfl)⟩
end Go.Proofs.Try
namespace Go.Proofs.Try
open Go Go.Pm
set_option linter.unusedVariables false
set_option maxRecDepth 2000
def m_shape_edited_int_b45f6 (x : ((List Int) × Int × Int)) : Option (((List Int) × Int)) :=
  match x with
  | (q0, q1, q2) =>
  (if q1 < 0 then
    some true
  else
  if q2 > (q0.length : Int) then
    some true
  else
  some (decide (q1 > q2))
  ) >>= fun (v1 : Bool) =>
  if v1 = true then
    some (([] : List Int), 4)
  else
  sub q0 0 q1 >>= fun v2 =>
  m_shape_Remove_1 () >>= fun (v3 : (List Int)) =>
  sub q0 q2 (q0.length : Int) >>= fun v4 =>
  m_slices_Concat_int_int ([v2, v3, v4] : List (List Int)) >>= fun (v5 : (List Int)) =>
  some (v5, 0)
def P_shape_edited_int_b45f6 : ((List Int) × Int × Int) → ((List Int) × Int) → Prop := fun x r => match x with
  | (q0, q1, q2) => PC prog env 65 [(.dat (.lst ((List.map intD) q0))), (intPV q1), (intPV q2), (.dat (.raw (.func (.func 67) #[] #[])))] [] (match r with | (v5001, v5002) => (.tup [(.dat (.lst ((List.map intD) v5001))), (intPV v5002)])) (match r with | (v5001, v5002) => [])
theorem w_shape_edited_int_b45f6 : ∀ x r, m_shape_edited_int_b45f6 x = some r → P_shape_edited_int_b45f6 x r := by
  intro x r hm
  unfold m_shape_edited_int_b45f6 at hm
  unfold P_shape_edited_int_b45f6
  obtain ⟨q0, q1, q2⟩ := x
  refine PC_sxB (fn := f65) (by kernel_rfl) (by kernel_rfl) rfl ?_
  refine R_seq ?_
  refine R_G ?_
  refine G_run 2 ?_
  refine G_end ?_
  refine R_seq ?_
  refine R_seq ?_
  obtain ⟨v1, hs, hm⟩ := bind_inv hm
  refine R_cut (fun d => ⟨sl d 33 [(0, (.dat (.lst ((List.map intD) q0)))), (1, (intPV q1)), (2, (intPV q2)), (3, (.dat (.raw (.func (.func 67) #[] #[])))), (22, (boolPV v1))], []⟩) ?_ (fun d => ?_)
  · replace hm := hs
    clear hs
    refine R_G ?_
    refine G_run 3 ?_
    refine G_split (p := q1 < 0) 12 (rfl) (fun hc => ?_) (fun hc => ?_)
    · replace hm := pos_inv hc hm
      refine G_run 10 ?_
      refine G_end ?_
      obtain rfl := inj1 hm
      exact cut_leaf (by kernel_rfl)
    replace hm := neg_inv hc hm
    refine G_run 2 ?_
    refine I_len intD q0 (es := (List.map intD) q0) rfl ?_
    refine G_run 3 ?_
    refine G_split (p := q2 > (q0.length : Int)) 18 (rfl) (fun hc => ?_) (fun hc => ?_)
    · replace hm := pos_inv hc hm
      refine G_run 4 ?_
      refine G_end ?_
      obtain rfl := inj1 hm
      exact cut_leaf (by kernel_rfl)
    replace hm := neg_inv hc hm
    refine G_run 4 ?_
    refine G_end ?_
    obtain rfl := inj1 hm
    exact cut_leaf (by kernel_rfl)
  clear hs
  refine R_ifp (p := v1 = true) (bool_dec _) (fun hc => ?_) (fun hc => ?_)
  · replace hm := pos_inv hc hm
    refine R_seq ?_
    refine R_G ?_
    refine G_run 2 ?_
    refine G_end ?_
    refine R_ret ?_
    obtain rfl := inj1 hm
    exact ⟨trivial, fin_body (by kernel_rfl) (by kernel_rfl)⟩
  replace hm := neg_inv hc hm
  refine R_skip ?_
  refine R_seq ?_
  refine R_GD ?_
  refine G_run 2 ?_
  obtain ⟨v2, hx, hm⟩ := bind_inv hm
  refine I_sub 1 intD q0 v2 0 q1 (es := (List.map intD) q0) (L := (List.map intD)) (a := natI 0) (b := natI q1) (fun _ => rfl) rfl (fun _ => by first | rfl | exact num_of_fit ((fun _ => rfl) _)) hx rfl (Or.inl rfl) ?_
  refine G_run 1 ?_
  obtain ⟨v3, hx, hm⟩ := bind_inv hm
  have hq := w_shape_Remove_1 _ _ hx []
  refine G_callP hq ?_
  refine G_run 2 ?_
  obtain ⟨v4, hx, hm⟩ := bind_inv hm
  refine I_sub 1 intD q0 v4 q2 (q0.length : Int) (es := (List.map intD) q0) (L := (List.map intD)) (a := natI q2) (b := some ((List.map intD) q0).length) (fun _ => rfl) rfl (fun _ => by first | rfl | exact num_of_fit ((fun _ => rfl) _)) hx rfl (Or.inr ⟨rfl, rfl⟩) ?_
  refine G_run 1 ?_
  obtain ⟨v5, hx, hm⟩ := bind_inv hm
  have hq := w_slices_Concat_int_int _ _ hx []
  refine G_callP hq ?_
  refine G_run 2 ?_
  refine G_end ⟨by kernel_rfl, ?_⟩
  refine R_ret ?_
  obtain rfl := inj1 hm
  exact ⟨trivial, fin_body (by kernel_rfl) (by kernel_rfl)⟩
end Go.Proofs.Try
namespace Go.Proofs.Try
open Go Go.Pm
set_option linter.unusedVariables false
set_option maxRecDepth 2000
def m_shape_Remove (x : ((List Int) × Int)) : Option ((List Int) × Int) :=
  match x with
  | (p0, p1) =>
  if p1 ≥ (p0.length : Int) then
    some (([] : (List Int)), 4)
  else
  m_shape_edited_int_b45f6 (p0, p1, (W (p1 + 1))) >>= fun ((v1, v2) : ((List Int) × Int)) =>
  some (v1, v2)
def P_shape_Remove : ((List Int) × Int) → ((List Int) × Int) → Prop := fun x r => match x, r with
  | (p0, p1), (r0, r1) => ∀ H, PC prog env 48 ([(.lst ((List.map intD) p0)), (intD p1)].map .dat) H (.tup [(.dat (.lst ((List.map intD) r0))), (intPV r1)]) H
theorem w_shape_Remove : ∀ x r, m_shape_Remove x = some r → P_shape_Remove x r := by
  intro x r hm
  unfold m_shape_Remove at hm
  unfold P_shape_Remove
  obtain ⟨p0, p1⟩ := x
  obtain ⟨r0, r1⟩ := r
  intro H
  refine PC_sx (ds := [(.lst ((List.map intD) p0)), (intD p1)]) (fn := f48) (by kernel_rfl) (by kernel_rfl) rfl ?_ (by kernel_rfl)
  refine R_seq ?_
  refine R_G ?_
  refine G_run 2 ?_
  refine G_end ?_
  refine R_seq ?_
  refine R_seq ?_
  refine R_G ?_
  refine G_run 2 ?_
  refine I_len intD p0 (es := (List.map intD) p0) rfl ?_
  refine G_run 1 ?_
  refine G_end ?_
  refine R_ifp (p := p1 ≥ (p0.length : Int)) (rfl) (fun hc => ?_) (fun hc => ?_)
  · replace hm := pos_inv hc hm
    refine R_seq ?_
    refine R_G ?_
    refine G_run 2 ?_
    refine G_end ?_
    refine R_ret ?_
    obtain ⟨rfl, rfl⟩ := inj2 hm
    exact ⟨trivial, fin_pure (by kernel_rfl)⟩
  replace hm := neg_inv hc hm
  refine R_skip ?_
  refine R_seq ?_
  refine R_G ?_
  refine G_run 4 ?_
  obtain ⟨⟨v1, v2⟩, hx, hm⟩ := bind_inv hm
  have hq := w_shape_edited_int_b45f6 _ _ hx
  dsimp only [P_shape_edited_int_b45f6] at hq
  refine G_callB hq ?_
  refine G_run 4 ?_
  refine G_end ?_
  refine R_ret ?_
  obtain ⟨rfl, rfl⟩ := inj2 hm
  exact ⟨trivial, fin_pure (by kernel_rfl)⟩
end Go.Proofs.Try
namespace Go.Proofs.Try
open Go Go.Pm
set_option linter.unusedVariables false
set_option maxRecDepth 2000
def m_slices_Equal_int_int_L1 (x : ((List Int) × (List Int) × Int)) : Option (Unit ⊕ Unit) :=
  match x with
  | (p0, p1, v201) =>
  if v201 < (p0.length : Int) then
    idx p0 v201 >>= fun v601 =>
    idx p1 v201 >>= fun v602 =>
    if v601 ≠ v602 then
      some (Sum.inl ())
    else
    m_slices_Equal_int_int_L1 (p0, p1, (W (v201 + 1)))
  else
  some (Sum.inr ())
  partial_fixpoint
def P_slices_Equal_int_int_L1 : ((List Int) × (List Int) × Int) → (Unit ⊕ Unit) → Prop := fun x r => match x with
  | (p0, p1, v201) => ∀ st, prune 0 ((firstRegion (codeAt [1, 1, 0, 1, 0, 0] (bodyOf f68))).bind (env.hint 68).keepAt) st = ⟨kp 26 [(0, (.dat (.lst ((List.map intD) p0)))), (1, (.dat (.lst ((List.map intD) p1)))), (12, (intPV (p0.length : Int))), (13, (intPV v201))], []⟩ →
    RL prog env (env.hint 68) true (codeAt [1, 1, 0, 1, 0, 0] (bodyOf f68)) 0 st (fun e s => match r with | .inl _ => e = .ret ∧ ∃ d, s = ⟨sl d 26 [(4, (boolPV false))], []⟩ | .inr (_) => e = .exit 0 ∧ ∃ d, s = ⟨sl d 26 [], []⟩)
theorem w_slices_Equal_int_int_L1 : ∀ x r, m_slices_Equal_int_int_L1 x = some r → P_slices_Equal_int_int_L1 x r := by
  refine m_slices_Equal_int_int_L1.partial_correctness _ (fun m_slices_Equal_int_int_L1 w_slices_Equal_int_int_L1 x r hm => ?_)
  unfold P_slices_Equal_int_int_L1
  obtain ⟨p0, p1, v201⟩ := x
  intro st hst
  refine RL_at hst ?_
  clear hst
  refine R_seq ?_
  refine R_G ?_
  refine G_run 1 ?_
  refine G_end ?_
  refine R_seq ?_
  refine R_ifp (p := v201 < (p0.length : Int)) (rfl) (fun hc => ?_) (fun hc => ?_)
  · replace hm := pos_inv hc hm
    refine R_skip ?_
    refine R_seq ?_
    refine R_block ?_
    refine R_seq ?_
    refine R_G ?_
    refine G_run 2 ?_
    refine G_end ?_
    refine R_seq ?_
    refine R_GD ?_
    refine G_run 2 ?_
    obtain ⟨v601, hx, hm⟩ := bind_inv hm
    refine I_idx 1 intD p0 v201 v601 (es := (List.map intD) p0) (d := (intD v601)) rfl hx rfl rfl ?_
    refine G_run 3 ?_
    obtain ⟨v602, hx, hm⟩ := bind_inv hm
    refine I_idx 1 intD p1 v201 v602 (es := (List.map intD) p1) (d := (intD v602)) rfl hx rfl rfl ?_
    refine G_run 2 ?_
    refine G_end ⟨by kernel_rfl, ?_⟩
    refine R_ifp (p := v601 ≠ v602) (ne_dec _ _) (fun hc => ?_) (fun hc => ?_)
    · replace hm := pos_inv hc hm
      refine R_seq ?_
      refine R_G ?_
      refine G_run 1 ?_
      refine G_end ?_
      refine R_ret ?_
      obtain rfl := inj1 hm
      exact ⟨rfl, cut_leaf (by kernel_rfl)⟩
    replace hm := neg_inv hc hm
    refine R_skip ?_
    refine R_G ?_
    refine G_run 2 ?_
    refine G_end ?_
    exact w_slices_Equal_int_int_L1 _ _ hm _ (by kernel_rfl)
  replace hm := neg_inv hc hm
  refine R_exit ?_
  obtain rfl := inj1 hm
  exact ⟨rfl, cut_leaf (by kernel_rfl)⟩
def m_slices_Equal_int_int (x : ((List Int) × (List Int))) : Option Bool :=
  match x with
  | (p0, p1) =>
  if (p0.length : Int) ≠ (p1.length : Int) then
    some false
  else
  (
  m_slices_Equal_int_int_L1 (p0, p1, 0) >>= fun (out : Unit ⊕ Unit) =>
  match out with
  | .inl _ =>
    some false
  | .inr (_) =>
    some true
  )
def P_slices_Equal_int_int : ((List Int) × (List Int)) → Bool → Prop := fun x r => match x, r with
  | (p0, p1), r0 => ∀ H, PC prog env 68 ([(.lst ((List.map intD) p0)), (.lst ((List.map intD) p1))].map .dat) H (boolPV r0) H
theorem w_slices_Equal_int_int : ∀ x r, m_slices_Equal_int_int x = some r → P_slices_Equal_int_int x r := by
  intro x r0 hm
  unfold m_slices_Equal_int_int at hm
  unfold P_slices_Equal_int_int
  obtain ⟨p0, p1⟩ := x
  intro H
  refine PC_sx (ds := [(.lst ((List.map intD) p0)), (.lst ((List.map intD) p1))]) (fn := f68) (by kernel_rfl) (by kernel_rfl) rfl ?_ (by kernel_rfl)
  refine R_seq ?_
  refine R_G ?_
  refine G_run 1 ?_
  refine G_end ?_
  refine R_seq ?_
  refine R_seq ?_
  refine R_G ?_
  refine G_run 1 ?_
  refine I_len intD p0 (es := (List.map intD) p0) rfl ?_
  refine G_run 1 ?_
  refine I_len intD p1 (es := (List.map intD) p1) rfl ?_
  refine G_run 1 ?_
  refine G_end ?_
  refine R_ifp (p := (p0.length : Int) ≠ (p1.length : Int)) (ne_dec _ _) (fun hc => ?_) (fun hc => ?_)
  · replace hm := pos_inv hc hm
    refine R_seq ?_
    refine R_G ?_
    refine G_run 1 ?_
    refine G_end ?_
    refine R_ret ?_
    obtain rfl := inj1 hm
    exact ⟨trivial, fin_pure (by kernel_rfl)⟩
  replace hm := neg_inv hc hm
  refine R_skip ?_
  refine R_seq ?_
  refine R_seq ?_
  refine R_G ?_
  refine G_run 1 ?_
  refine I_len intD p0 (es := (List.map intD) p0) rfl ?_
  refine G_run 1 ?_
  refine G_end ?_
  refine R_block ?_
  obtain ⟨out, hs, hm⟩ := bind_inv hm
  refine R_loop ?_
  rcases out with _ | _
  · refine RL_use (w_slices_Equal_int_int_L1 _ _ hs) (by kernel_rfl) ?_
    clear hs
    intro e s hp
    obtain ⟨rfl, d, rfl⟩ := hp
    obtain rfl := inj1 hm
    exact ⟨trivial, fin_pure (by kernel_rfl)⟩
  · refine RL_use (w_slices_Equal_int_int_L1 _ _ hs) (by kernel_rfl) ?_
    clear hs
    intro e s hp
    obtain ⟨rfl, d, rfl⟩ := hp
    refine R_seq ?_
    refine R_G ?_
    refine G_run 1 ?_
    refine G_end ?_
    refine R_ret ?_
    obtain rfl := inj1 hm
    exact ⟨trivial, fin_pure (by kernel_rfl)⟩
end Go.Proofs.Try
namespace Go.Proofs.Try
open Go Go.Pm
set_option linter.unusedVariables false
set_option maxRecDepth 2000
def m_shape_Equal (x : ((List Int) × (List Int))) : Option Bool :=
  match x with
  | (p0, p1) =>
  m_slices_Equal_int_int (p0, p1) >>= fun (v1 : Bool) =>
  some v1
def P_shape_Equal : ((List Int) × (List Int)) → Bool → Prop := fun x r => match x, r with
  | (p0, p1), r0 => ∀ H, PC prog env 49 ([(.lst ((List.map intD) p0)), (.lst ((List.map intD) p1))].map .dat) H (boolPV r0) H
theorem w_shape_Equal : ∀ x r, m_shape_Equal x = some r → P_shape_Equal x r := by
  intro x r0 hm
  unfold m_shape_Equal at hm
  unfold P_shape_Equal
  obtain ⟨p0, p1⟩ := x
  intro H
  refine PC_sx (ds := [(.lst ((List.map intD) p0)), (.lst ((List.map intD) p1))]) (fn := f49) (by kernel_rfl) (by kernel_rfl) rfl ?_ (by kernel_rfl)
  refine R_seq ?_
  refine R_G ?_
  refine G_run 1 ?_
  refine G_end ?_
  refine R_seq ?_
  refine R_G ?_
  refine G_run 2 ?_
  obtain ⟨v1, hx, hm⟩ := bind_inv hm
  have hq := w_slices_Equal_int_int _ _ hx []
  refine G_callP hq ?_
  refine G_run 1 ?_
  refine G_end ?_
  refine R_ret ?_
  obtain rfl := inj1 hm
  exact ⟨trivial, fin_pure (by kernel_rfl)⟩
end Go.Proofs.Try
namespace Go.Proofs.Try
open Go Go.Pm
set_option linter.unusedVariables false
set_option maxRecDepth 2000
def m_size_check_1 (x : Int) : Option Bool :=
  match x with
  | p0 =>
  some (decide (p0 < 0))
def P_size_check_1 : Int → Bool → Prop := fun x r => match x, r with
  | p0, r0 => ∀ H, PC prog env 83 ([(intD p0)].map .dat) H (boolPV r0) H
theorem w_size_check_1 : ∀ x r, m_size_check_1 x = some r → P_size_check_1 x r := by
  intro p0 r0 hm
  unfold m_size_check_1 at hm
  unfold P_size_check_1
  intro H
  refine PC_sx (ds := [(intD p0)]) (fn := f83) (by kernel_rfl) (by kernel_rfl) rfl ?_ (by kernel_rfl)
  refine R_seq ?_
  refine R_G ?_
  refine G_run 1 ?_
  refine G_end ?_
  refine R_seq ?_
  refine R_G ?_
  refine G_run 3 ?_
  refine G_end ?_
  refine R_ret ?_
  obtain rfl := inj1 hm
  exact ⟨trivial, fin_pure (by kernel_rfl)⟩
end Go.Proofs.Try
namespace Go.Proofs.Try
open Go Go.Pm
set_option linter.unusedVariables false
set_option maxRecDepth 2000
def m_slices_IndexFunc_int_int_size_check_1_L1 (x : ((List Int) × Int)) : Option (Int ⊕ Unit) :=
  match x with
  | (p0, v201) =>
  if v201 < (p0.length : Int) then
    idx p0 v201 >>= fun v602 =>
    m_size_check_1 v602 >>= fun (v603 : Bool) =>
    if v603 = true then
      some (Sum.inl v201)
    else
    m_slices_IndexFunc_int_int_size_check_1_L1 (p0, (W (v201 + 1)))
  else
  some (Sum.inr ())
  partial_fixpoint
def P_slices_IndexFunc_int_int_size_check_1_L1 : ((List Int) × Int) → (Int ⊕ Unit) → Prop := fun x r => match x with
  | (p0, v201) => ∀ st, prune 0 ((firstRegion (codeAt [1, 0, 1, 0, 0] (bodyOf f89))).bind (env.hint 89).keepAt) st = ⟨kp 19 [(0, (.dat (.lst ((List.map intD) p0)))), (1, (.dat (.raw (.func (.func 83) #[] #[])))), (7, (intPV (p0.length : Int))), (8, (intPV v201))], []⟩ →
    RL prog env (env.hint 89) true (codeAt [1, 0, 1, 0, 0] (bodyOf f89)) 0 st (fun e s => match r with | .inl v601 => e = .ret ∧ ∃ d, s = ⟨sl d 19 [(4, (intPV v601))], []⟩ | .inr (_) => e = .exit 0 ∧ ∃ d, s = ⟨sl d 19 [], []⟩)
theorem w_slices_IndexFunc_int_int_size_check_1_L1 : ∀ x r, m_slices_IndexFunc_int_int_size_check_1_L1 x = some r → P_slices_IndexFunc_int_int_size_check_1_L1 x r := by
  refine m_slices_IndexFunc_int_int_size_check_1_L1.partial_correctness _ (fun m_slices_IndexFunc_int_int_size_check_1_L1 w_slices_IndexFunc_int_int_size_check_1_L1 x r hm => ?_)
  unfold P_slices_IndexFunc_int_int_size_check_1_L1
  obtain ⟨p0, v201⟩ := x
  intro st hst
  refine RL_at hst ?_
  clear hst
  refine R_seq ?_
  refine R_G ?_
  refine G_run 1 ?_
  refine G_end ?_
  refine R_seq ?_
  refine R_ifp (p := v201 < (p0.length : Int)) (rfl) (fun hc => ?_) (fun hc => ?_)
  · replace hm := pos_inv hc hm
    refine R_skip ?_
    refine R_seq ?_
    refine R_block ?_
    refine R_seq ?_
    refine R_G ?_
    refine G_run 2 ?_
    refine G_end ?_
    refine R_seq ?_
    refine R_G ?_
    refine G_run 3 ?_
    obtain ⟨v602, hx, hm⟩ := bind_inv hm
    refine I_idx 1 intD p0 v201 v602 (es := (List.map intD) p0) (d := (intD v602)) rfl hx rfl rfl ?_
    refine G_run 1 ?_
    obtain ⟨v603, hx, hm⟩ := bind_inv hm
    have hq := w_size_check_1 _ _ hx []
    refine G_callP hq ?_
    refine G_end ?_
    refine R_ifp (p := v603 = true) (bool_dec _) (fun hc => ?_) (fun hc => ?_)
    · replace hm := pos_inv hc hm
      refine R_seq ?_
      refine R_G ?_
      refine G_run 2 ?_
      refine G_end ?_
      refine R_ret ?_
      obtain rfl := inj1 hm
      exact ⟨rfl, cut_leaf (by kernel_rfl)⟩
    replace hm := neg_inv hc hm
    refine R_skip ?_
    refine R_G ?_
    refine G_run 2 ?_
    refine G_end ?_
    exact w_slices_IndexFunc_int_int_size_check_1_L1 _ _ hm _ (by kernel_rfl)
  replace hm := neg_inv hc hm
  refine R_exit ?_
  obtain rfl := inj1 hm
  exact ⟨rfl, cut_leaf (by kernel_rfl)⟩
def m_slices_IndexFunc_int_int_size_check_1 (x : (List Int)) : Option Int :=
  match x with
  | p0 =>
  (
  m_slices_IndexFunc_int_int_size_check_1_L1 (p0, 0) >>= fun (out : Int ⊕ Unit) =>
  match out with
  | .inl v601 =>
    some v601
  | .inr (_) =>
    some (-1)
  )
def P_slices_IndexFunc_int_int_size_check_1 : (List Int) → Int → Prop := fun x r => match x, r with
  | p0, r0 => ∀ H, PC prog env 89 ([(.lst ((List.map intD) p0)), (.raw (.func (.func 83) #[] #[]))].map .dat) H (intPV r0) H
theorem w_slices_IndexFunc_int_int_size_check_1 : ∀ x r, m_slices_IndexFunc_int_int_size_check_1 x = some r → P_slices_IndexFunc_int_int_size_check_1 x r := by
  intro p0 r0 hm
  unfold m_slices_IndexFunc_int_int_size_check_1 at hm
  unfold P_slices_IndexFunc_int_int_size_check_1
  intro H
  refine PC_sx (ds := [(.lst ((List.map intD) p0)), (.raw (.func (.func 83) #[] #[]))]) (fn := f89) (by kernel_rfl) (by kernel_rfl) rfl ?_ (by kernel_rfl)
  refine R_seq ?_
  refine R_G ?_
  refine G_run 1 ?_
  refine G_end ?_
  refine R_seq ?_
  refine R_seq ?_
  refine R_G ?_
  refine G_run 1 ?_
  refine I_len intD p0 (es := (List.map intD) p0) rfl ?_
  refine G_run 1 ?_
  refine G_end ?_
  refine R_block ?_
  obtain ⟨out, hs, hm⟩ := bind_inv hm
  refine R_loop ?_
  rcases out with v601 | _
  · refine RL_use (w_slices_IndexFunc_int_int_size_check_1_L1 _ _ hs) (by kernel_rfl) ?_
    clear hs
    intro e s hp
    obtain ⟨rfl, d, rfl⟩ := hp
    obtain rfl := inj1 hm
    exact ⟨trivial, fin_pure (by kernel_rfl)⟩
  · refine RL_use (w_slices_IndexFunc_int_int_size_check_1_L1 _ _ hs) (by kernel_rfl) ?_
    clear hs
    intro e s hp
    obtain ⟨rfl, d, rfl⟩ := hp
    refine R_seq ?_
    refine R_G ?_
    refine G_run 1 ?_
    refine G_end ?_
    refine R_ret ?_
    obtain rfl := inj1 hm
    exact ⟨trivial, fin_pure (by kernel_rfl)⟩
end Go.Proofs.Try
namespace Go.Proofs.Try
open Go Go.Pm
set_option linter.unusedVariables false
set_option maxRecDepth 2000
def m_slices_ContainsFunc_int_int_size_check_1 (x : (List Int)) : Option Bool :=
  match x with
  | p0 =>
  m_slices_IndexFunc_int_int_size_check_1 p0 >>= fun (v1 : Int) =>
  some (decide (v1 ≥ 0))
def P_slices_ContainsFunc_int_int_size_check_1 : (List Int) → Bool → Prop := fun x r => match x, r with
  | p0, r0 => ∀ H, PC prog env 82 ([(.lst ((List.map intD) p0)), (.raw (.func (.func 83) #[] #[]))].map .dat) H (boolPV r0) H
theorem w_slices_ContainsFunc_int_int_size_check_1 : ∀ x r, m_slices_ContainsFunc_int_int_size_check_1 x = some r → P_slices_ContainsFunc_int_int_size_check_1 x r := by
  intro p0 r0 hm
  unfold m_slices_ContainsFunc_int_int_size_check_1 at hm
  unfold P_slices_ContainsFunc_int_int_size_check_1
  intro H
  refine PC_sx (ds := [(.lst ((List.map intD) p0)), (.raw (.func (.func 83) #[] #[]))]) (fn := f82) (by kernel_rfl) (by kernel_rfl) rfl ?_ (by kernel_rfl)
  refine R_seq ?_
  refine R_G ?_
  refine G_run 1 ?_
  refine G_end ?_
  refine R_seq ?_
  refine R_G ?_
  refine G_run 2 ?_
  obtain ⟨v1, hx, hm⟩ := bind_inv hm
  have hq := w_slices_IndexFunc_int_int_size_check_1 _ _ hx []
  refine G_callP hq ?_
  refine G_run 2 ?_
  refine G_end ?_
  refine R_ret ?_
  obtain rfl := inj1 hm
  exact ⟨trivial, fin_pure (by kernel_rfl)⟩
end Go.Proofs.Try
namespace Go.Proofs.Try
open Go Go.Pm
set_option linter.unusedVariables false
set_option maxRecDepth 2000
def m_size_check_2 (x : Int) : Option Bool :=
  match x with
  | p0 =>
  some (decide (p0 > 65536))
def P_size_check_2 : Int → Bool → Prop := fun x r => match x, r with
  | p0, r0 => ∀ H, PC prog env 84 ([(intD p0)].map .dat) H (boolPV r0) H
theorem w_size_check_2 : ∀ x r, m_size_check_2 x = some r → P_size_check_2 x r := by
  intro p0 r0 hm
  unfold m_size_check_2 at hm
  unfold P_size_check_2
  intro H
  refine PC_sx (ds := [(intD p0)]) (fn := f84) (by kernel_rfl) (by kernel_rfl) rfl ?_ (by kernel_rfl)
  refine R_seq ?_
  refine R_G ?_
  refine G_run 1 ?_
  refine G_end ?_
  refine R_seq ?_
  refine R_G ?_
  refine G_run 3 ?_
  refine G_end ?_
  refine R_ret ?_
  obtain rfl := inj1 hm
  exact ⟨trivial, fin_pure (by kernel_rfl)⟩
end Go.Proofs.Try
namespace Go.Proofs.Try
open Go Go.Pm
set_option linter.unusedVariables false
set_option maxRecDepth 2000
def m_slices_IndexFunc_int_int_size_check_2_L1 (x : ((List Int) × Int)) : Option (Int ⊕ Unit) :=
  match x with
  | (p0, v201) =>
  if v201 < (p0.length : Int) then
    idx p0 v201 >>= fun v602 =>
    m_size_check_2 v602 >>= fun (v603 : Bool) =>
    if v603 = true then
      some (Sum.inl v201)
    else
    m_slices_IndexFunc_int_int_size_check_2_L1 (p0, (W (v201 + 1)))
  else
  some (Sum.inr ())
  partial_fixpoint
def P_slices_IndexFunc_int_int_size_check_2_L1 : ((List Int) × Int) → (Int ⊕ Unit) → Prop := fun x r => match x with
  | (p0, v201) => ∀ st, prune 0 ((firstRegion (codeAt [1, 0, 1, 0, 0] (bodyOf f89))).bind (env.hint 89).keepAt) st = ⟨kp 19 [(0, (.dat (.lst ((List.map intD) p0)))), (1, (.dat (.raw (.func (.func 84) #[] #[])))), (7, (intPV (p0.length : Int))), (8, (intPV v201))], []⟩ →
    RL prog env (env.hint 89) true (codeAt [1, 0, 1, 0, 0] (bodyOf f89)) 0 st (fun e s => match r with | .inl v601 => e = .ret ∧ ∃ d, s = ⟨sl d 19 [(4, (intPV v601))], []⟩ | .inr (_) => e = .exit 0 ∧ ∃ d, s = ⟨sl d 19 [], []⟩)
theorem w_slices_IndexFunc_int_int_size_check_2_L1 : ∀ x r, m_slices_IndexFunc_int_int_size_check_2_L1 x = some r → P_slices_IndexFunc_int_int_size_check_2_L1 x r := by
  refine m_slices_IndexFunc_int_int_size_check_2_L1.partial_correctness _ (fun m_slices_IndexFunc_int_int_size_check_2_L1 w_slices_IndexFunc_int_int_size_check_2_L1 x r hm => ?_)
  unfold P_slices_IndexFunc_int_int_size_check_2_L1
  obtain ⟨p0, v201⟩ := x
  intro st hst
  refine RL_at hst ?_
  clear hst
  refine R_seq ?_
  refine R_G ?_
  refine G_run 1 ?_
  refine G_end ?_
  refine R_seq ?_
  refine R_ifp (p := v201 < (p0.length : Int)) (rfl) (fun hc => ?_) (fun hc => ?_)
  · replace hm := pos_inv hc hm
    refine R_skip ?_
    refine R_seq ?_
    refine R_block ?_
    refine R_seq ?_
    refine R_G ?_
    refine G_run 2 ?_
    refine G_end ?_
    refine R_seq ?_
    refine R_G ?_
    refine G_run 3 ?_
    obtain ⟨v602, hx, hm⟩ := bind_inv hm
    refine I_idx 1 intD p0 v201 v602 (es := (List.map intD) p0) (d := (intD v602)) rfl hx rfl rfl ?_
    refine G_run 1 ?_
    obtain ⟨v603, hx, hm⟩ := bind_inv hm
    have hq := w_size_check_2 _ _ hx []
    refine G_callP hq ?_
    refine G_end ?_
    refine R_ifp (p := v603 = true) (bool_dec _) (fun hc => ?_) (fun hc => ?_)
    · replace hm := pos_inv hc hm
      refine R_seq ?_
      refine R_G ?_
      refine G_run 2 ?_
      refine G_end ?_
      refine R_ret ?_
      obtain rfl := inj1 hm
      exact ⟨rfl, cut_leaf (by kernel_rfl)⟩
    replace hm := neg_inv hc hm
    refine R_skip ?_
    refine R_G ?_
    refine G_run 2 ?_
    refine G_end ?_
    exact w_slices_IndexFunc_int_int_size_check_2_L1 _ _ hm _ (by kernel_rfl)
  replace hm := neg_inv hc hm
  refine R_exit ?_
  obtain rfl := inj1 hm
  exact ⟨rfl, cut_leaf (by kernel_rfl)⟩
def m_slices_IndexFunc_int_int_size_check_2 (x : (List Int)) : Option Int :=
  match x with
  | p0 =>
  (
  m_slices_IndexFunc_int_int_size_check_2_L1 (p0, 0) >>= fun (out : Int ⊕ Unit) =>
  match out with
  | .inl v601 =>
    some v601
  | .inr (_) =>
    some (-1)
  )
def P_slices_IndexFunc_int_int_size_check_2 : (List Int) → Int → Prop := fun x r => match x, r with
  | p0, r0 => ∀ H, PC prog env 89 ([(.lst ((List.map intD) p0)), (.raw (.func (.func 84) #[] #[]))].map .dat) H (intPV r0) H
theorem w_slices_IndexFunc_int_int_size_check_2 : ∀ x r, m_slices_IndexFunc_int_int_size_check_2 x = some r → P_slices_IndexFunc_int_int_size_check_2 x r := by
  intro p0 r0 hm
  unfold m_slices_IndexFunc_int_int_size_check_2 at hm
  unfold P_slices_IndexFunc_int_int_size_check_2
  intro H
  refine PC_sx (ds := [(.lst ((List.map intD) p0)), (.raw (.func (.func 84) #[] #[]))]) (fn := f89) (by kernel_rfl) (by kernel_rfl) rfl ?_ (by kernel_rfl)
  refine R_seq ?_
  refine R_G ?_
  refine G_run 1 ?_
  refine G_end ?_
  refine R_seq ?_
  refine R_seq ?_
  refine R_G ?_
  refine G_run 1 ?_
  refine I_len intD p0 (es := (List.map intD) p0) rfl ?_
  refine G_run 1 ?_
  refine G_end ?_
  refine R_block ?_
  obtain ⟨out, hs, hm⟩ := bind_inv hm
  refine R_loop ?_
  rcases out with v601 | _
  · refine RL_use (w_slices_IndexFunc_int_int_size_check_2_L1 _ _ hs) (by kernel_rfl) ?_
    clear hs
    intro e s hp
    obtain ⟨rfl, d, rfl⟩ := hp
    obtain rfl := inj1 hm
    exact ⟨trivial, fin_pure (by kernel_rfl)⟩
  · refine RL_use (w_slices_IndexFunc_int_int_size_check_2_L1 _ _ hs) (by kernel_rfl) ?_
    clear hs
    intro e s hp
    obtain ⟨rfl, d, rfl⟩ := hp
    refine R_seq ?_
    refine R_G ?_
    refine G_run 1 ?_
    refine G_end ?_
    refine R_ret ?_
    obtain rfl := inj1 hm
    exact ⟨trivial, fin_pure (by kernel_rfl)⟩
end Go.Proofs.Try
namespace Go.Proofs.Try
open Go Go.Pm
set_option linter.unusedVariables false
set_option maxRecDepth 2000
def m_slices_ContainsFunc_int_int_size_check_2 (x : (List Int)) : Option Bool :=
  match x with
  | p0 =>
  m_slices_IndexFunc_int_int_size_check_2 p0 >>= fun (v1 : Int) =>
  some (decide (v1 ≥ 0))
def P_slices_ContainsFunc_int_int_size_check_2 : (List Int) → Bool → Prop := fun x r => match x, r with
  | p0, r0 => ∀ H, PC prog env 82 ([(.lst ((List.map intD) p0)), (.raw (.func (.func 84) #[] #[]))].map .dat) H (boolPV r0) H
theorem w_slices_ContainsFunc_int_int_size_check_2 : ∀ x r, m_slices_ContainsFunc_int_int_size_check_2 x = some r → P_slices_ContainsFunc_int_int_size_check_2 x r := by
  intro p0 r0 hm
  unfold m_slices_ContainsFunc_int_int_size_check_2 at hm
  unfold P_slices_ContainsFunc_int_int_size_check_2
  intro H
  refine PC_sx (ds := [(.lst ((List.map intD) p0)), (.raw (.func (.func 84) #[] #[]))]) (fn := f82) (by kernel_rfl) (by kernel_rfl) rfl ?_ (by kernel_rfl)
  refine R_seq ?_
  refine R_G ?_
  refine G_run 1 ?_
  refine G_end ?_
  refine R_seq ?_
  refine R_G ?_
  refine G_run 2 ?_
  obtain ⟨v1, hx, hm⟩ := bind_inv hm
  have hq := w_slices_IndexFunc_int_int_size_check_2 _ _ hx []
  refine G_callP hq ?_
  refine G_run 2 ?_
  refine G_end ?_
  refine R_ret ?_
  obtain rfl := inj1 hm
  exact ⟨trivial, fin_pure (by kernel_rfl)⟩
end Go.Proofs.Try
namespace Go.Proofs.Try
open Go Go.Pm
set_option linter.unusedVariables false
set_option maxRecDepth 2000
def m_size_check (x : (List Int)) : Option Int :=
  match x with
  | p0 =>
  m_slices_ContainsFunc_int_int_size_check_1 p0 >>= fun (v1 : Bool) =>
  if v1 = true then
    some 6
  else
  m_slices_ContainsFunc_int_int_size_check_2 p0 >>= fun (v2 : Bool) =>
  if v2 = true then
    some 7
  else
  some 0
def P_size_check : (List Int) → Int → Prop := fun x r => match x, r with
  | p0, r0 => ∀ H, PC prog env 74 ([(.lst ((List.map intD) p0))].map .dat) H (intPV r0) H
theorem w_size_check : ∀ x r, m_size_check x = some r → P_size_check x r := by
  intro p0 r0 hm
  unfold m_size_check at hm
  unfold P_size_check
  intro H
  refine PC_sx (ds := [(.lst ((List.map intD) p0))]) (fn := f74) (by kernel_rfl) (by kernel_rfl) rfl ?_ (by kernel_rfl)
  refine R_seq ?_
  refine R_G ?_
  refine G_run 1 ?_
  refine G_end ?_
  refine R_seq ?_
  refine R_block ?_
  refine R_seq ?_
  refine R_G ?_
  refine G_run 1 ?_
  obtain ⟨v1, hx, hm⟩ := bind_inv hm
  have hq := w_slices_ContainsFunc_int_int_size_check_1 _ _ hx []
  refine G_callP hq ?_
  refine G_run 1 ?_
  refine G_end ?_
  refine R_ifp (p := v1 = true) (bool_dec _) (fun hc => ?_) (fun hc => ?_)
  · replace hm := pos_inv hc hm
    refine R_seq ?_
    refine R_G ?_
    refine G_run 1 ?_
    refine G_end ?_
    refine R_ret ?_
    obtain rfl := inj1 hm
    exact ⟨trivial, fin_pure (by kernel_rfl)⟩
  replace hm := neg_inv hc hm
  refine R_seq ?_
  refine R_G ?_
  refine G_run 1 ?_
  obtain ⟨v2, hx, hm⟩ := bind_inv hm
  have hq := w_slices_ContainsFunc_int_int_size_check_2 _ _ hx []
  refine G_callP hq ?_
  refine G_run 1 ?_
  refine G_end ?_
  refine R_ifp (p := v2 = true) (bool_dec _) (fun hc => ?_) (fun hc => ?_)
  · replace hm := pos_inv hc hm
    refine R_seq ?_
    refine R_G ?_
    refine G_run 1 ?_
    refine G_end ?_
    refine R_ret ?_
    obtain rfl := inj1 hm
    exact ⟨trivial, fin_pure (by kernel_rfl)⟩
  replace hm := neg_inv hc hm
  refine R_skip ?_
  refine R_seq ?_
  refine R_G ?_
  refine G_run 1 ?_
  refine G_end ?_
  refine R_ret ?_
  obtain rfl := inj1 hm
  exact ⟨trivial, fin_pure (by kernel_rfl)⟩
end Go.Proofs.Try
namespace Go.Proofs.Try
open Go Go.Pm
set_option linter.unusedVariables false
set_option maxRecDepth 2000
def m_size_Sum_1 (x : (Int × Int)) : Option (Int × Bool) :=
  match x with
  | (p0, p1) =>
  some ((W (p0 + p1)), (decide ((W (p0 + p1)) ≤ 65536)))
def P_size_Sum_1 : (Int × Int) → (Int × Bool) → Prop := fun x r => match x, r with
  | (p0, p1), (r0, r1) => ∀ H, PC prog env 70 ([(intD p0), (intD p1)].map .dat) H (.tup [(intPV r0), (boolPV r1)]) H
theorem w_size_Sum_1 : ∀ x r, m_size_Sum_1 x = some r → P_size_Sum_1 x r := by
  intro x r hm
  unfold m_size_Sum_1 at hm
  unfold P_size_Sum_1
  obtain ⟨p0, p1⟩ := x
  obtain ⟨r0, r1⟩ := r
  intro H
  refine PC_sx (ds := [(intD p0), (intD p1)]) (fn := f70) (by kernel_rfl) (by kernel_rfl) rfl ?_ (by kernel_rfl)
  refine R_seq ?_
  refine R_G ?_
  refine G_run 2 ?_
  refine G_end ?_
  refine R_seq ?_
  refine R_G ?_
  refine G_run 9 ?_
  refine G_end ?_
  refine R_ret ?_
  obtain ⟨rfl, rfl⟩ := inj2 hm
  exact ⟨trivial, fin_pure (by kernel_rfl)⟩
end Go.Proofs.Try
namespace Go.Proofs.Try
open Go Go.Pm
set_option linter.unusedVariables false
set_option maxRecDepth 2000
def m_size_fold_int_size_Sum_1_L1 (x : ((List Int) × Int × Int)) : Option (Int ⊕ Int) :=
  match x with
  | (p0, v201, v202) =>
  if v202 < (p0.length : Int) then
    idx p0 v202 >>= fun v603 =>
    m_size_Sum_1 (v201, v603) >>= fun ((v604, v605) : (Int × Bool)) =>
    if v605 = false then
      some (Sum.inl v604)
    else
    m_size_fold_int_size_Sum_1_L1 (p0, v604, (W (v202 + 1)))
  else
  some (Sum.inr v201)
  partial_fixpoint
def P_size_fold_int_size_Sum_1_L1 : ((List Int) × Int × Int) → (Int ⊕ Int) → Prop := fun x r => match x with
  | (p0, v201, v202) => ∀ st, prune 0 ((firstRegion (codeAt [1, 1, 0, 1, 0, 0] (bodyOf f80))).bind (env.hint 80).keepAt) st = ⟨kp 31 [(2, (.dat (.raw (.func (.func 70) #[] #[])))), (8, (intPV v201)), (13, (.dat (.lst ((List.map intD) p0)))), (14, (intPV (p0.length : Int))), (15, (intPV v202))], []⟩ →
    RL prog env (env.hint 80) true (codeAt [1, 1, 0, 1, 0, 0] (bodyOf f80)) 0 st (fun e s => match r with | .inl v601 => e = .ret ∧ ∃ d, s = ⟨sl d 31 [(6, (intPV v601)), (7, (boolPV false))], []⟩ | .inr (v602) => e = .exit 0 ∧ ∃ d, s = ⟨sl d 31 [(8, (intPV v602))], []⟩)
theorem w_size_fold_int_size_Sum_1_L1 : ∀ x r, m_size_fold_int_size_Sum_1_L1 x = some r → P_size_fold_int_size_Sum_1_L1 x r := by
  refine m_size_fold_int_size_Sum_1_L1.partial_correctness _ (fun m_size_fold_int_size_Sum_1_L1 w_size_fold_int_size_Sum_1_L1 x r hm => ?_)
  unfold P_size_fold_int_size_Sum_1_L1
  obtain ⟨p0, v201, v202⟩ := x
  intro st hst
  refine RL_at hst ?_
  clear hst
  refine R_seq ?_
  refine R_G ?_
  refine G_run 1 ?_
  refine G_end ?_
  refine R_seq ?_
  refine R_ifp (p := v202 < (p0.length : Int)) (rfl) (fun hc => ?_) (fun hc => ?_)
  · replace hm := pos_inv hc hm
    refine R_skip ?_
    refine R_seq ?_
    refine R_block ?_
    refine R_seq ?_
    refine R_G ?_
    obtain ⟨v603, hx, hm⟩ := bind_inv hm
    refine I_idx 1 intD p0 v202 v603 (es := (List.map intD) p0) (d := (intD v603)) rfl hx rfl rfl ?_
    refine G_run 2 ?_
    refine G_end ?_
    refine R_seq ?_
    refine R_G ?_
    refine G_run 3 ?_
    obtain ⟨⟨v604, v605⟩, hx, hm⟩ := bind_inv hm
    have hq := w_size_Sum_1 _ _ hx []
    refine G_callP hq ?_
    refine G_run 5 ?_
    refine G_end ?_
    refine R_seq ?_
    refine R_G ?_
    refine G_run 2 ?_
    refine G_end ?_
    refine R_ifp (p := v605 = false) (not_dec _) (fun hc => ?_) (fun hc => ?_)
    · replace hm := pos_inv hc hm
      refine R_seq ?_
      refine R_G ?_
      refine G_run 3 ?_
      refine G_end ?_
      refine R_ret ?_
      obtain rfl := inj1 hm
      exact ⟨rfl, cut_leaf (by kernel_rfl)⟩
    replace hm := neg_inv hc hm
    refine R_skip ?_
    refine R_G ?_
    refine G_run 2 ?_
    refine G_end ?_
    exact w_size_fold_int_size_Sum_1_L1 _ _ hm _ (by kernel_rfl)
  replace hm := neg_inv hc hm
  refine R_exit ?_
  obtain rfl := inj1 hm
  exact ⟨rfl, cut_leaf (by kernel_rfl)⟩
def m_size_fold_int_size_Sum_1 (x : ((List Int) × Int)) : Option (Int × Bool) :=
  match x with
  | (p0, p1) =>
  (
  m_size_fold_int_size_Sum_1_L1 (p0, p1, 0) >>= fun (out : Int ⊕ Int) =>
  match out with
  | .inl v601 =>
    some (v601, false)
  | .inr (v602) =>
    some (v602, true)
  )
def P_size_fold_int_size_Sum_1 : ((List Int) × Int) → (Int × Bool) → Prop := fun x r => match x, r with
  | (p0, p1), (r0, r1) => ∀ H, PC prog env 80 ([(.lst ((List.map intD) p0)), (intD p1), (.raw (.func (.func 70) #[] #[]))].map .dat) H (.tup [(intPV r0), (boolPV r1)]) H
theorem w_size_fold_int_size_Sum_1 : ∀ x r, m_size_fold_int_size_Sum_1 x = some r → P_size_fold_int_size_Sum_1 x r := by
  intro x r hm
  unfold m_size_fold_int_size_Sum_1 at hm
  unfold P_size_fold_int_size_Sum_1
  obtain ⟨p0, p1⟩ := x
  obtain ⟨r0, r1⟩ := r
  intro H
  refine PC_sx (ds := [(.lst ((List.map intD) p0)), (intD p1), (.raw (.func (.func 70) #[] #[]))]) (fn := f80) (by kernel_rfl) (by kernel_rfl) rfl ?_ (by kernel_rfl)
  refine R_seq ?_
  refine R_G ?_
  refine G_run 2 ?_
  refine G_end ?_
  refine R_seq ?_
  refine R_G ?_
  refine G_run 3 ?_
  refine G_end ?_
  refine R_seq ?_
  refine R_seq ?_
  refine R_G ?_
  refine G_run 1 ?_
  refine I_len intD p0 (es := (List.map intD) p0) rfl ?_
  refine G_run 1 ?_
  refine G_end ?_
  refine R_block ?_
  obtain ⟨out, hs, hm⟩ := bind_inv hm
  refine R_loop ?_
  rcases out with v601 | v602
  · refine RL_use (w_size_fold_int_size_Sum_1_L1 _ _ hs) (by kernel_rfl) ?_
    clear hs
    intro e s hp
    obtain ⟨rfl, d, rfl⟩ := hp
    obtain ⟨rfl, rfl⟩ := inj2 hm
    exact ⟨trivial, fin_pure (by kernel_rfl)⟩
  · refine RL_use (w_size_fold_int_size_Sum_1_L1 _ _ hs) (by kernel_rfl) ?_
    clear hs
    intro e s hp
    obtain ⟨rfl, d, rfl⟩ := hp
    refine R_seq ?_
    refine R_G ?_
    refine G_run 3 ?_
    refine G_end ?_
    refine R_ret ?_
    obtain ⟨rfl, rfl⟩ := inj2 hm
    exact ⟨trivial, fin_pure (by kernel_rfl)⟩
end Go.Proofs.Try
namespace Go.Proofs.Try
open Go Go.Pm
set_option linter.unusedVariables false
set_option maxRecDepth 2000
def m_size_combined_size_Sum_1 (x : ((List Int) × Int)) : Option (Int × Int) :=
  match x with
  | (p0, p1) =>
  m_size_check p0 >>= fun (v1 : Int) =>
  if v1 ≠ 0 then
    some (0, v1)
  else
  m_size_fold_int_size_Sum_1 (p0, p1) >>= fun ((v2, v3) : (Int × Bool)) =>
  if v3 = false then
    some (0, 7)
  else
  some (v2, 0)
def P_size_combined_size_Sum_1 : ((List Int) × Int) → (Int × Int) → Prop := fun x r => match x, r with
  | (p0, p1), (r0, r1) => ∀ H, PC prog env 69 ([(.lst ((List.map intD) p0)), (intD p1), (.raw (.func (.func 70) #[] #[]))].map .dat) H (.tup [(intPV r0), (intPV r1)]) H
theorem w_size_combined_size_Sum_1 : ∀ x r, m_size_combined_size_Sum_1 x = some r → P_size_combined_size_Sum_1 x r := by
  intro x r hm
  unfold m_size_combined_size_Sum_1 at hm
  unfold P_size_combined_size_Sum_1
  obtain ⟨p0, p1⟩ := x
  obtain ⟨r0, r1⟩ := r
  intro H
  refine PC_sx (ds := [(.lst ((List.map intD) p0)), (intD p1), (.raw (.func (.func 70) #[] #[]))]) (fn := f69) (by kernel_rfl) (by kernel_rfl) rfl ?_ (by kernel_rfl)
  refine R_seq ?_
  refine R_G ?_
  refine G_run 2 ?_
  refine G_end ?_
  refine R_seq ?_
  refine R_seq ?_
  refine R_G ?_
  refine G_run 1 ?_
  obtain ⟨v1, hx, hm⟩ := bind_inv hm
  have hq := w_size_check _ _ hx []
  refine G_callP hq ?_
  refine G_run 1 ?_
  refine G_end ?_
  refine R_seq ?_
  refine R_G ?_
  refine G_run 2 ?_
  refine G_end ?_
  refine R_ifp (p := v1 ≠ 0) (ne_dec _ _) (fun hc => ?_) (fun hc => ?_)
  · replace hm := pos_inv hc hm
    refine R_seq ?_
    refine R_G ?_
    refine G_run 3 ?_
    refine G_end ?_
    refine R_ret ?_
    obtain ⟨rfl, rfl⟩ := inj2 hm
    exact ⟨trivial, fin_pure (by kernel_rfl)⟩
  replace hm := neg_inv hc hm
  refine R_skip ?_
  refine R_seq ?_
  refine R_G ?_
  refine G_run 3 ?_
  obtain ⟨⟨v2, v3⟩, hx, hm⟩ := bind_inv hm
  have hq := w_size_fold_int_size_Sum_1 _ _ hx []
  refine G_callP hq ?_
  refine G_run 5 ?_
  refine G_end ?_
  refine R_seq ?_
  refine R_seq ?_
  refine R_G ?_
  refine G_run 2 ?_
  refine G_end ?_
  refine R_ifp (p := v3 = false) (not_dec _) (fun hc => ?_) (fun hc => ?_)
  · replace hm := pos_inv hc hm
    refine R_seq ?_
    refine R_G ?_
    refine G_run 2 ?_
    refine G_end ?_
    refine R_ret ?_
    obtain ⟨rfl, rfl⟩ := inj2 hm
    exact ⟨trivial, fin_pure (by kernel_rfl)⟩
  replace hm := neg_inv hc hm
  refine R_skip ?_
  refine R_seq ?_
  refine R_G ?_
  refine G_run 3 ?_
  refine G_end ?_
  refine R_ret ?_
  obtain ⟨rfl, rfl⟩ := inj2 hm
  exact ⟨trivial, fin_pure (by kernel_rfl)⟩
end Go.Proofs.Try
namespace Go.Proofs.Try
open Go Go.Pm
set_option linter.unusedVariables false
set_option maxRecDepth 2000
def m_size_Sum (x : (List Int)) : Option (Int × Int) :=
  match x with
  | p0 =>
  m_size_combined_size_Sum_1 (p0, 0) >>= fun ((v1, v2) : (Int × Int)) =>
  some (v1, v2)
def P_size_Sum : (List Int) → (Int × Int) → Prop := fun x r => match x, r with
  | p0, (r0, r1) => ∀ H, PC prog env 50 ([(.lst ((List.map intD) p0))].map .dat) H (.tup [(intPV r0), (intPV r1)]) H
theorem w_size_Sum : ∀ x r, m_size_Sum x = some r → P_size_Sum x r := by
  intro p0 r hm
  unfold m_size_Sum at hm
  unfold P_size_Sum
  obtain ⟨r0, r1⟩ := r
  intro H
  refine PC_sx (ds := [(.lst ((List.map intD) p0))]) (fn := f50) (by kernel_rfl) (by kernel_rfl) rfl ?_ (by kernel_rfl)
  refine R_seq ?_
  refine R_G ?_
  refine G_run 2 ?_
  refine G_end ?_
  refine R_seq ?_
  refine R_G ?_
  refine G_run 1 ?_
  obtain ⟨⟨v1, v2⟩, hx, hm⟩ := bind_inv hm
  have hq := w_size_combined_size_Sum_1 _ _ hx []
  refine G_callP hq ?_
  refine G_run 4 ?_
  refine G_end ?_
  refine R_ret ?_
  obtain ⟨rfl, rfl⟩ := inj2 hm
  exact ⟨trivial, fin_pure (by kernel_rfl)⟩
end Go.Proofs.Try
namespace Go.Proofs.Try
open Go Go.Pm
set_option linter.unusedVariables false
set_option maxRecDepth 2000
def m_rule_joined (x : ((List Int) × (List Int) × Int)) : Option ((List Int) × Int) :=
  match x with
  | (p0, p1, p2) =>
  m_shape_Remove (p0, p2) >>= fun ((v1, v2) : ((List Int) × Int)) =>
  m_shape_Remove (p1, p2) >>= fun ((v3, v4) : ((List Int) × Int)) =>
  m_shape_Equal (v1, v3) >>= fun (v5 : Bool) =>
  if v5 = false then
    some (([] : (List Int)), 5)
  else
  idx p0 p2 >>= fun v6 =>
  idx p1 p2 >>= fun v7 =>
  m_size_Sum ([v6, v7] : List Int) >>= fun ((v8, v9) : (Int × Int)) =>
  if v9 ≠ 0 then
    some (([] : (List Int)), v9)
  else
  m_shape_Replace (p0, p2, v8) >>= fun ((v10, v11) : ((List Int) × Int)) =>
  some (v10, v11)
def P_rule_joined : ((List Int) × (List Int) × Int) → ((List Int) × Int) → Prop := fun x r => match x, r with
  | (p0, p1, p2), (r0, r1) => ∀ H, PC prog env 27 ([(.lst ((List.map intD) p0)), (.lst ((List.map intD) p1)), (intD p2)].map .dat) H (.tup [(.dat (.lst ((List.map intD) r0))), (intPV r1)]) H
theorem w_rule_joined : ∀ x r, m_rule_joined x = some r → P_rule_joined x r := by
  intro x r hm
  unfold m_rule_joined at hm
  unfold P_rule_joined
  obtain ⟨p0, p1, p2⟩ := x
  obtain ⟨r0, r1⟩ := r
  intro H
  refine PC_sx (ds := [(.lst ((List.map intD) p0)), (.lst ((List.map intD) p1)), (intD p2)]) (fn := f27) (by kernel_rfl) (by kernel_rfl) rfl ?_ (by kernel_rfl)
  refine R_seq ?_
  refine R_G ?_
  refine G_run 2 ?_
  refine G_end ?_
  refine R_seq ?_
  refine R_G ?_
  refine G_run 2 ?_
  obtain ⟨⟨v1, v2⟩, hx, hm⟩ := bind_inv hm
  have hq := w_shape_Remove _ _ hx []
  refine G_callP hq ?_
  refine G_run 5 ?_
  refine G_end ?_
  refine R_seq ?_
  refine R_G ?_
  refine G_run 2 ?_
  obtain ⟨⟨v3, v4⟩, hx, hm⟩ := bind_inv hm
  have hq := w_shape_Remove _ _ hx []
  refine G_callP hq ?_
  refine G_run 5 ?_
  refine G_end ?_
  refine R_seq ?_
  refine R_seq ?_
  refine R_G ?_
  refine G_run 2 ?_
  obtain ⟨v5, hx, hm⟩ := bind_inv hm
  have hq := w_shape_Equal _ _ hx []
  refine G_callP hq ?_
  refine G_run 1 ?_
  refine G_end ?_
  refine R_ifp (p := v5 = false) (not_dec _) (fun hc => ?_) (fun hc => ?_)
  · replace hm := pos_inv hc hm
    refine R_seq ?_
    refine R_G ?_
    refine G_run 2 ?_
    refine G_end ?_
    refine R_ret ?_
    obtain ⟨rfl, rfl⟩ := inj2 hm
    exact ⟨trivial, fin_pure (by kernel_rfl)⟩
  replace hm := neg_inv hc hm
  refine R_skip ?_
  refine R_seq ?_
  refine R_GD ?_
  refine G_run 2 ?_
  obtain ⟨v6, hx, hm⟩ := bind_inv hm
  refine I_idx 1 intD p0 p2 v6 (es := (List.map intD) p0) (d := (intD v6)) rfl hx rfl rfl ?_
  refine G_run 3 ?_
  obtain ⟨v7, hx, hm⟩ := bind_inv hm
  refine I_idx 1 intD p1 p2 v7 (es := (List.map intD) p1) (d := (intD v7)) rfl hx rfl rfl ?_
  refine G_run 2 ?_
  obtain ⟨⟨v8, v9⟩, hx, hm⟩ := bind_inv hm
  have hq := w_size_Sum _ _ hx []
  refine G_callP hq ?_
  refine G_run 5 ?_
  refine G_end ⟨by kernel_rfl, ?_⟩
  refine R_seq ?_
  refine R_seq ?_
  refine R_G ?_
  refine G_run 2 ?_
  refine G_end ?_
  refine R_ifp (p := v9 ≠ 0) (ne_dec _ _) (fun hc => ?_) (fun hc => ?_)
  · replace hm := pos_inv hc hm
    refine R_seq ?_
    refine R_G ?_
    refine G_run 3 ?_
    refine G_end ?_
    refine R_ret ?_
    obtain ⟨rfl, rfl⟩ := inj2 hm
    exact ⟨trivial, fin_pure (by kernel_rfl)⟩
  replace hm := neg_inv hc hm
  refine R_skip ?_
  refine R_seq ?_
  refine R_G ?_
  refine G_run 3 ?_
  obtain ⟨⟨v10, v11⟩, hx, hm⟩ := bind_inv hm
  have hq := w_shape_Replace _ _ hx []
  refine G_callP hq ?_
  refine G_run 4 ?_
  refine G_end ?_
  refine R_ret ?_
  obtain ⟨rfl, rfl⟩ := inj2 hm
  exact ⟨trivial, fin_pure (by kernel_rfl)⟩
end Go.Proofs.Try
namespace Go.Proofs.Try
open Go Go.Pm
set_option linter.unusedVariables false
set_option maxRecDepth 2000
def m_rule_along (x : (Int × Int)) : Option (Int × Int) :=
  match x with
  | (p0, p1) =>
  some (p0, p1)
def P_rule_along : (Int × Int) → (Int × Int) → Prop := fun x r => match x, r with
  | (p0, p1), (v5001, v5002) => ∀ H, PC prog env 29 ([(intD p0), (intD p1)].map .dat) H (.fn 52 [(.iptr [(intD v5001)]), (.iptr [(intD v5002)])]) H
theorem w_rule_along : ∀ x r, m_rule_along x = some r → P_rule_along x r := by
  intro x r hm
  unfold m_rule_along at hm
  unfold P_rule_along
  obtain ⟨p0, p1⟩ := x
  obtain ⟨v5001, v5002⟩ := r
  intro H
  refine PC_sx (ds := [(intD p0), (intD p1)]) (fn := f29) (by kernel_rfl) (by kernel_rfl) rfl ?_ (by kernel_rfl)
  refine R_seq ?_
  refine R_G ?_
  refine G_run 3 ?_
  refine G_end ?_
  refine R_seq ?_
  refine R_G ?_
  refine G_run 2 ?_
  refine G_end ?_
  refine R_ret ?_
  obtain ⟨rfl, rfl⟩ := inj2 hm
  exact ⟨trivial, fin_pure (by kernel_rfl)⟩
end Go.Proofs.Try
namespace Go.Proofs.Try
open Go Go.Pm
set_option linter.unusedVariables false
set_option maxRecDepth 2000
def m_slices_Index_int_int_L1 (x : ((List Int) × Int × Int)) : Option (Int ⊕ Unit) :=
  match x with
  | (p0, p1, v201) =>
  if v201 < (p0.length : Int) then
    idx p0 v201 >>= fun v602 =>
    if p1 = v602 then
      some (Sum.inl v201)
    else
    m_slices_Index_int_int_L1 (p0, p1, (W (v201 + 1)))
  else
  some (Sum.inr ())
  partial_fixpoint
def P_slices_Index_int_int_L1 : ((List Int) × Int × Int) → (Int ⊕ Unit) → Prop := fun x r => match x with
  | (p0, p1, v201) => ∀ st, prune 0 ((firstRegion (codeAt [1, 0, 1, 0, 0] (bodyOf f85))).bind (env.hint 85).keepAt) st = ⟨kp 19 [(0, (.dat (.lst ((List.map intD) p0)))), (1, (intPV p1)), (7, (intPV (p0.length : Int))), (8, (intPV v201))], []⟩ →
    RL prog env (env.hint 85) true (codeAt [1, 0, 1, 0, 0] (bodyOf f85)) 0 st (fun e s => match r with | .inl v601 => e = .ret ∧ ∃ d, s = ⟨sl d 19 [(4, (intPV v601))], []⟩ | .inr (_) => e = .exit 0 ∧ ∃ d, s = ⟨sl d 19 [], []⟩)
theorem w_slices_Index_int_int_L1 : ∀ x r, m_slices_Index_int_int_L1 x = some r → P_slices_Index_int_int_L1 x r := by
  refine m_slices_Index_int_int_L1.partial_correctness _ (fun m_slices_Index_int_int_L1 w_slices_Index_int_int_L1 x r hm => ?_)
  unfold P_slices_Index_int_int_L1
  obtain ⟨p0, p1, v201⟩ := x
  intro st hst
  refine RL_at hst ?_
  clear hst
  refine R_seq ?_
  refine R_G ?_
  refine G_run 1 ?_
  refine G_end ?_
  refine R_seq ?_
  refine R_ifp (p := v201 < (p0.length : Int)) (rfl) (fun hc => ?_) (fun hc => ?_)
  · replace hm := pos_inv hc hm
    refine R_skip ?_
    refine R_seq ?_
    refine R_block ?_
    refine R_seq ?_
    refine R_G ?_
    refine G_run 2 ?_
    refine G_end ?_
    refine R_seq ?_
    refine R_G ?_
    refine G_run 3 ?_
    obtain ⟨v602, hx, hm⟩ := bind_inv hm
    refine I_idx 1 intD p0 v201 v602 (es := (List.map intD) p0) (d := (intD v602)) rfl hx rfl rfl ?_
    refine G_run 2 ?_
    refine G_end ?_
    refine R_ifp (p := p1 = v602) (eq_dec _ _) (fun hc => ?_) (fun hc => ?_)
    · replace hm := pos_inv hc hm
      refine R_seq ?_
      refine R_G ?_
      refine G_run 2 ?_
      refine G_end ?_
      refine R_ret ?_
      obtain rfl := inj1 hm
      exact ⟨rfl, cut_leaf (by kernel_rfl)⟩
    replace hm := neg_inv hc hm
    refine R_skip ?_
    refine R_G ?_
    refine G_run 2 ?_
    refine G_end ?_
    exact w_slices_Index_int_int_L1 _ _ hm _ (by kernel_rfl)
  replace hm := neg_inv hc hm
  refine R_exit ?_
  obtain rfl := inj1 hm
  exact ⟨rfl, cut_leaf (by kernel_rfl)⟩
def m_slices_Index_int_int (x : ((List Int) × Int)) : Option Int :=
  match x with
  | (p0, p1) =>
  (
  m_slices_Index_int_int_L1 (p0, p1, 0) >>= fun (out : Int ⊕ Unit) =>
  match out with
  | .inl v601 =>
    some v601
  | .inr (_) =>
    some (-1)
  )
def P_slices_Index_int_int : ((List Int) × Int) → Int → Prop := fun x r => match x, r with
  | (p0, p1), r0 => ∀ H, PC prog env 85 ([(.lst ((List.map intD) p0)), (intD p1)].map .dat) H (intPV r0) H
theorem w_slices_Index_int_int : ∀ x r, m_slices_Index_int_int x = some r → P_slices_Index_int_int x r := by
  intro x r0 hm
  unfold m_slices_Index_int_int at hm
  unfold P_slices_Index_int_int
  obtain ⟨p0, p1⟩ := x
  intro H
  refine PC_sx (ds := [(.lst ((List.map intD) p0)), (intD p1)]) (fn := f85) (by kernel_rfl) (by kernel_rfl) rfl ?_ (by kernel_rfl)
  refine R_seq ?_
  refine R_G ?_
  refine G_run 1 ?_
  refine G_end ?_
  refine R_seq ?_
  refine R_seq ?_
  refine R_G ?_
  refine G_run 1 ?_
  refine I_len intD p0 (es := (List.map intD) p0) rfl ?_
  refine G_run 1 ?_
  refine G_end ?_
  refine R_block ?_
  obtain ⟨out, hs, hm⟩ := bind_inv hm
  refine R_loop ?_
  rcases out with v601 | _
  · refine RL_use (w_slices_Index_int_int_L1 _ _ hs) (by kernel_rfl) ?_
    clear hs
    intro e s hp
    obtain ⟨rfl, d, rfl⟩ := hp
    obtain rfl := inj1 hm
    exact ⟨trivial, fin_pure (by kernel_rfl)⟩
  · refine RL_use (w_slices_Index_int_int_L1 _ _ hs) (by kernel_rfl) ?_
    clear hs
    intro e s hp
    obtain ⟨rfl, d, rfl⟩ := hp
    refine R_seq ?_
    refine R_G ?_
    refine G_run 1 ?_
    refine G_end ?_
    refine R_ret ?_
    obtain rfl := inj1 hm
    exact ⟨trivial, fin_pure (by kernel_rfl)⟩
end Go.Proofs.Try
namespace Go.Proofs.Try
open Go Go.Pm
set_option linter.unusedVariables false
set_option maxRecDepth 2000
def m_slices_Contains_int_int (x : ((List Int) × Int)) : Option Bool :=
  match x with
  | (p0, p1) =>
  m_slices_Index_int_int (p0, p1) >>= fun (v1 : Int) =>
  some (decide (v1 ≥ 0))
def P_slices_Contains_int_int : ((List Int) × Int) → Bool → Prop := fun x r => match x, r with
  | (p0, p1), r0 => ∀ H, PC prog env 75 ([(.lst ((List.map intD) p0)), (intD p1)].map .dat) H (boolPV r0) H
theorem w_slices_Contains_int_int : ∀ x r, m_slices_Contains_int_int x = some r → P_slices_Contains_int_int x r := by
  intro x r0 hm
  unfold m_slices_Contains_int_int at hm
  unfold P_slices_Contains_int_int
  obtain ⟨p0, p1⟩ := x
  intro H
  refine PC_sx (ds := [(.lst ((List.map intD) p0)), (intD p1)]) (fn := f75) (by kernel_rfl) (by kernel_rfl) rfl ?_ (by kernel_rfl)
  refine R_seq ?_
  refine R_G ?_
  refine G_run 1 ?_
  refine G_end ?_
  refine R_seq ?_
  refine R_G ?_
  refine G_run 2 ?_
  obtain ⟨v1, hx, hm⟩ := bind_inv hm
  have hq := w_slices_Index_int_int _ _ hx []
  refine G_callP hq ?_
  refine G_run 2 ?_
  refine G_end ?_
  refine R_ret ?_
  obtain rfl := inj1 hm
  exact ⟨trivial, fin_pure (by kernel_rfl)⟩
end Go.Proofs.Try
namespace Go.Proofs.Try
open Go Go.Pm
set_option linter.unusedVariables false
set_option maxRecDepth 2000
def m_size_Mul (x : (Int × Int × Int)) : Option (Int × Bool) :=
  match x with
  | (p0, p1, p2) =>
  (if p0 < 0 then
    some true
  else
  if p1 < 0 then
    some true
  else
  if p0 > p2 then
    some true
  else
  if p1 > p2 then
    some true
  else
  if p1 > 0 then
    quoM p2 p1 >>= fun v2 =>
    some (decide (p0 > v2))
  else
  some false
  ) >>= fun (v1 : Bool) =>
  if v1 = true then
    some (0, false)
  else
  some ((W (p0 * p1)), true)
def P_size_Mul : (Int × Int × Int) → (Int × Bool) → Prop := fun x r => match x, r with
  | (p0, p1, p2), (r0, r1) => ∀ H, PC prog env 77 ([(intD p0), (intD p1), (intD p2)].map .dat) H (.tup [(intPV r0), (boolPV r1)]) H
theorem w_size_Mul : ∀ x r, m_size_Mul x = some r → P_size_Mul x r := by
  intro x r hm
  unfold m_size_Mul at hm
  unfold P_size_Mul
  obtain ⟨p0, p1, p2⟩ := x
  obtain ⟨r0, r1⟩ := r
  intro H
  refine PC_sx (ds := [(intD p0), (intD p1), (intD p2)]) (fn := f77) (by kernel_rfl) (by kernel_rfl) rfl ?_ (by kernel_rfl)
  refine R_seq ?_
  refine R_G ?_
  refine G_run 2 ?_
  refine G_end ?_
  refine R_seq ?_
  refine R_seq ?_
  obtain ⟨v1, hs, hm⟩ := bind_inv hm
  refine R_cut (fun d => ⟨sl d 38 [(0, (intPV p0)), (1, (intPV p1)), (34, (boolPV v1))], []⟩) ?_ (fun d => ?_)
  · replace hm := hs
    clear hs
    refine R_G ?_
    refine G_run 3 ?_
    refine G_split (p := p0 < 0) 10 (rfl) (fun hc => ?_) (fun hc => ?_)
    · replace hm := pos_inv hc hm
      refine G_run 24 ?_
      refine G_end ?_
      obtain rfl := inj1 hm
      exact cut_leaf (by kernel_rfl)
    replace hm := neg_inv hc hm
    refine G_run 4 ?_
    refine G_split (p := p1 < 0) 14 (rfl) (fun hc => ?_) (fun hc => ?_)
    · replace hm := pos_inv hc hm
      refine G_run 20 ?_
      refine G_end ?_
      obtain rfl := inj1 hm
      exact cut_leaf (by kernel_rfl)
    replace hm := neg_inv hc hm
    refine G_run 5 ?_
    refine G_split (p := p0 > p2) 19 (rfl) (fun hc => ?_) (fun hc => ?_)
    · replace hm := pos_inv hc hm
      refine G_run 15 ?_
      refine G_end ?_
      obtain rfl := inj1 hm
      exact cut_leaf (by kernel_rfl)
    replace hm := neg_inv hc hm
    refine G_run 5 ?_
    refine G_split (p := p1 > p2) 24 (rfl) (fun hc => ?_) (fun hc => ?_)
    · replace hm := pos_inv hc hm
      refine G_run 10 ?_
      refine G_end ?_
      obtain rfl := inj1 hm
      exact cut_leaf (by kernel_rfl)
    replace hm := neg_inv hc hm
    refine G_run 3 ?_
    refine G_split (p := p1 > 0) 27 (rfl) (fun hc => ?_) (fun hc => ?_)
    · replace hm := pos_inv hc hm
      refine G_run 3 ?_
      obtain ⟨v2, hx, hm⟩ := bind_inv hm
      refine G_semN rfl (by kernel_rfl) (fun _ => E_quo (a := p2) (b := p1) hx rfl (by kernel_rfl) (by kernel_rfl)) ?_
      refine G_run 3 ?_
      refine G_end ?_
      obtain rfl := inj1 hm
      exact cut_leaf (by kernel_rfl)
    replace hm := neg_inv hc hm
    refine G_run 7 ?_
    refine G_end ?_
    obtain rfl := inj1 hm
    exact cut_leaf (by kernel_rfl)
  clear hs
  refine R_ifp (p := v1 = true) (bool_dec _) (fun hc => ?_) (fun hc => ?_)
  · replace hm := pos_inv hc hm
    refine R_seq ?_
    refine R_G ?_
    refine G_run 2 ?_
    refine G_end ?_
    refine R_ret ?_
    obtain ⟨rfl, rfl⟩ := inj2 hm
    exact ⟨trivial, fin_pure (by kernel_rfl)⟩
  replace hm := neg_inv hc hm
  refine R_skip ?_
  refine R_seq ?_
  refine R_G ?_
  refine G_run 5 ?_
  refine G_end ?_
  refine R_ret ?_
  obtain ⟨rfl, rfl⟩ := inj2 hm
  exact ⟨trivial, fin_pure (by kernel_rfl)⟩
end Go.Proofs.Try
namespace Go.Proofs.Try
open Go Go.Pm
set_option linter.unusedVariables false
set_option maxRecDepth 2000
def m_size_Product_1 (x : (Int × Int)) : Option (Int × Bool) :=
  match x with
  | (p0, p1) =>
  m_size_Mul (p0, p1, 65536) >>= fun ((v1, v2) : (Int × Bool)) =>
  some (v1, v2)
def P_size_Product_1 : (Int × Int) → (Int × Bool) → Prop := fun x r => match x, r with
  | (p0, p1), (r0, r1) => ∀ H, PC prog env 76 ([(intD p0), (intD p1)].map .dat) H (.tup [(intPV r0), (boolPV r1)]) H
theorem w_size_Product_1 : ∀ x r, m_size_Product_1 x = some r → P_size_Product_1 x r := by
  intro x r hm
  unfold m_size_Product_1 at hm
  unfold P_size_Product_1
  obtain ⟨p0, p1⟩ := x
  obtain ⟨r0, r1⟩ := r
  intro H
  refine PC_sx (ds := [(intD p0), (intD p1)]) (fn := f76) (by kernel_rfl) (by kernel_rfl) rfl ?_ (by kernel_rfl)
  refine R_seq ?_
  refine R_G ?_
  refine G_run 2 ?_
  refine G_end ?_
  refine R_seq ?_
  refine R_G ?_
  refine G_run 2 ?_
  obtain ⟨⟨v1, v2⟩, hx, hm⟩ := bind_inv hm
  have hq := w_size_Mul _ _ hx []
  refine G_callP hq ?_
  refine G_run 4 ?_
  refine G_end ?_
  refine R_ret ?_
  obtain ⟨rfl, rfl⟩ := inj2 hm
  exact ⟨trivial, fin_pure (by kernel_rfl)⟩
end Go.Proofs.Try
namespace Go.Proofs.Try
open Go Go.Pm
set_option linter.unusedVariables false
set_option maxRecDepth 2000
def m_size_fold_int_size_Product_1_L1 (x : ((List Int) × Int × Int)) : Option (Int ⊕ Int) :=
  match x with
  | (p0, v201, v202) =>
  if v202 < (p0.length : Int) then
    idx p0 v202 >>= fun v603 =>
    m_size_Product_1 (v201, v603) >>= fun ((v604, v605) : (Int × Bool)) =>
    if v605 = false then
      some (Sum.inl v604)
    else
    m_size_fold_int_size_Product_1_L1 (p0, v604, (W (v202 + 1)))
  else
  some (Sum.inr v201)
  partial_fixpoint
def P_size_fold_int_size_Product_1_L1 : ((List Int) × Int × Int) → (Int ⊕ Int) → Prop := fun x r => match x with
  | (p0, v201, v202) => ∀ st, prune 0 ((firstRegion (codeAt [1, 1, 0, 1, 0, 0] (bodyOf f80))).bind (env.hint 80).keepAt) st = ⟨kp 31 [(2, (.dat (.raw (.func (.func 76) #[] #[])))), (8, (intPV v201)), (13, (.dat (.lst ((List.map intD) p0)))), (14, (intPV (p0.length : Int))), (15, (intPV v202))], []⟩ →
    RL prog env (env.hint 80) true (codeAt [1, 1, 0, 1, 0, 0] (bodyOf f80)) 0 st (fun e s => match r with | .inl v601 => e = .ret ∧ ∃ d, s = ⟨sl d 31 [(6, (intPV v601)), (7, (boolPV false))], []⟩ | .inr (v602) => e = .exit 0 ∧ ∃ d, s = ⟨sl d 31 [(8, (intPV v602))], []⟩)
theorem w_size_fold_int_size_Product_1_L1 : ∀ x r, m_size_fold_int_size_Product_1_L1 x = some r → P_size_fold_int_size_Product_1_L1 x r := by
  refine m_size_fold_int_size_Product_1_L1.partial_correctness _ (fun m_size_fold_int_size_Product_1_L1 w_size_fold_int_size_Product_1_L1 x r hm => ?_)
  unfold P_size_fold_int_size_Product_1_L1
  obtain ⟨p0, v201, v202⟩ := x
  intro st hst
  refine RL_at hst ?_
  clear hst
  refine R_seq ?_
  refine R_G ?_
  refine G_run 1 ?_
  refine G_end ?_
  refine R_seq ?_
  refine R_ifp (p := v202 < (p0.length : Int)) (rfl) (fun hc => ?_) (fun hc => ?_)
  · replace hm := pos_inv hc hm
    refine R_skip ?_
    refine R_seq ?_
    refine R_block ?_
    refine R_seq ?_
    refine R_G ?_
    obtain ⟨v603, hx, hm⟩ := bind_inv hm
    refine I_idx 1 intD p0 v202 v603 (es := (List.map intD) p0) (d := (intD v603)) rfl hx rfl rfl ?_
    refine G_run 2 ?_
    refine G_end ?_
    refine R_seq ?_
    refine R_G ?_
    refine G_run 3 ?_
    obtain ⟨⟨v604, v605⟩, hx, hm⟩ := bind_inv hm
    have hq := w_size_Product_1 _ _ hx []
    refine G_callP hq ?_
    refine G_run 5 ?_
    refine G_end ?_
    refine R_seq ?_
    refine R_G ?_
    refine G_run 2 ?_
    refine G_end ?_
    refine R_ifp (p := v605 = false) (not_dec _) (fun hc => ?_) (fun hc => ?_)
    · replace hm := pos_inv hc hm
      refine R_seq ?_
      refine R_G ?_
      refine G_run 3 ?_
      refine G_end ?_
      refine R_ret ?_
      obtain rfl := inj1 hm
      exact ⟨rfl, cut_leaf (by kernel_rfl)⟩
    replace hm := neg_inv hc hm
    refine R_skip ?_
    refine R_G ?_
    refine G_run 2 ?_
    refine G_end ?_
    exact w_size_fold_int_size_Product_1_L1 _ _ hm _ (by kernel_rfl)
  replace hm := neg_inv hc hm
  refine R_exit ?_
  obtain rfl := inj1 hm
  exact ⟨rfl, cut_leaf (by kernel_rfl)⟩
def m_size_fold_int_size_Product_1 (x : ((List Int) × Int)) : Option (Int × Bool) :=
  match x with
  | (p0, p1) =>
  (
  m_size_fold_int_size_Product_1_L1 (p0, p1, 0) >>= fun (out : Int ⊕ Int) =>
  match out with
  | .inl v601 =>
    some (v601, false)
  | .inr (v602) =>
    some (v602, true)
  )
def P_size_fold_int_size_Product_1 : ((List Int) × Int) → (Int × Bool) → Prop := fun x r => match x, r with
  | (p0, p1), (r0, r1) => ∀ H, PC prog env 80 ([(.lst ((List.map intD) p0)), (intD p1), (.raw (.func (.func 76) #[] #[]))].map .dat) H (.tup [(intPV r0), (boolPV r1)]) H
theorem w_size_fold_int_size_Product_1 : ∀ x r, m_size_fold_int_size_Product_1 x = some r → P_size_fold_int_size_Product_1 x r := by
  intro x r hm
  unfold m_size_fold_int_size_Product_1 at hm
  unfold P_size_fold_int_size_Product_1
  obtain ⟨p0, p1⟩ := x
  obtain ⟨r0, r1⟩ := r
  intro H
  refine PC_sx (ds := [(.lst ((List.map intD) p0)), (intD p1), (.raw (.func (.func 76) #[] #[]))]) (fn := f80) (by kernel_rfl) (by kernel_rfl) rfl ?_ (by kernel_rfl)
  refine R_seq ?_
  refine R_G ?_
  refine G_run 2 ?_
  refine G_end ?_
  refine R_seq ?_
  refine R_G ?_
  refine G_run 3 ?_
  refine G_end ?_
  refine R_seq ?_
  refine R_seq ?_
  refine R_G ?_
  refine G_run 1 ?_
  refine I_len intD p0 (es := (List.map intD) p0) rfl ?_
  refine G_run 1 ?_
  refine G_end ?_
  refine R_block ?_
  obtain ⟨out, hs, hm⟩ := bind_inv hm
  refine R_loop ?_
  rcases out with v601 | v602
  · refine RL_use (w_size_fold_int_size_Product_1_L1 _ _ hs) (by kernel_rfl) ?_
    clear hs
    intro e s hp
    obtain ⟨rfl, d, rfl⟩ := hp
    obtain ⟨rfl, rfl⟩ := inj2 hm
    exact ⟨trivial, fin_pure (by kernel_rfl)⟩
  · refine RL_use (w_size_fold_int_size_Product_1_L1 _ _ hs) (by kernel_rfl) ?_
    clear hs
    intro e s hp
    obtain ⟨rfl, d, rfl⟩ := hp
    refine R_seq ?_
    refine R_G ?_
    refine G_run 3 ?_
    refine G_end ?_
    refine R_ret ?_
    obtain ⟨rfl, rfl⟩ := inj2 hm
    exact ⟨trivial, fin_pure (by kernel_rfl)⟩
end Go.Proofs.Try
namespace Go.Proofs.Try
open Go Go.Pm
set_option linter.unusedVariables false
set_option maxRecDepth 2000
def m_size_combined_size_Product_1 (x : ((List Int) × Int)) : Option (Int × Int) :=
  match x with
  | (p0, p1) =>
  m_size_check p0 >>= fun (v1 : Int) =>
  if v1 ≠ 0 then
    some (0, v1)
  else
  m_size_fold_int_size_Product_1 (p0, p1) >>= fun ((v2, v3) : (Int × Bool)) =>
  if v3 = false then
    some (0, 7)
  else
  some (v2, 0)
def P_size_combined_size_Product_1 : ((List Int) × Int) → (Int × Int) → Prop := fun x r => match x, r with
  | (p0, p1), (r0, r1) => ∀ H, PC prog env 69 ([(.lst ((List.map intD) p0)), (intD p1), (.raw (.func (.func 76) #[] #[]))].map .dat) H (.tup [(intPV r0), (intPV r1)]) H
theorem w_size_combined_size_Product_1 : ∀ x r, m_size_combined_size_Product_1 x = some r → P_size_combined_size_Product_1 x r := by
  intro x r hm
  unfold m_size_combined_size_Product_1 at hm
  unfold P_size_combined_size_Product_1
  obtain ⟨p0, p1⟩ := x
  obtain ⟨r0, r1⟩ := r
  intro H
  refine PC_sx (ds := [(.lst ((List.map intD) p0)), (intD p1), (.raw (.func (.func 76) #[] #[]))]) (fn := f69) (by kernel_rfl) (by kernel_rfl) rfl ?_ (by kernel_rfl)
  refine R_seq ?_
  refine R_G ?_
  refine G_run 2 ?_
  refine G_end ?_
  refine R_seq ?_
  refine R_seq ?_
  refine R_G ?_
  refine G_run 1 ?_
  obtain ⟨v1, hx, hm⟩ := bind_inv hm
  have hq := w_size_check _ _ hx []
  refine G_callP hq ?_
  refine G_run 1 ?_
  refine G_end ?_
  refine R_seq ?_
  refine R_G ?_
  refine G_run 2 ?_
  refine G_end ?_
  refine R_ifp (p := v1 ≠ 0) (ne_dec _ _) (fun hc => ?_) (fun hc => ?_)
  · replace hm := pos_inv hc hm
    refine R_seq ?_
    refine R_G ?_
    refine G_run 3 ?_
    refine G_end ?_
    refine R_ret ?_
    obtain ⟨rfl, rfl⟩ := inj2 hm
    exact ⟨trivial, fin_pure (by kernel_rfl)⟩
  replace hm := neg_inv hc hm
  refine R_skip ?_
  refine R_seq ?_
  refine R_G ?_
  refine G_run 3 ?_
  obtain ⟨⟨v2, v3⟩, hx, hm⟩ := bind_inv hm
  have hq := w_size_fold_int_size_Product_1 _ _ hx []
  refine G_callP hq ?_
  refine G_run 5 ?_
  refine G_end ?_
  refine R_seq ?_
  refine R_seq ?_
  refine R_G ?_
  refine G_run 2 ?_
  refine G_end ?_
  refine R_ifp (p := v3 = false) (not_dec _) (fun hc => ?_) (fun hc => ?_)
  · replace hm := pos_inv hc hm
    refine R_seq ?_
    refine R_G ?_
    refine G_run 2 ?_
    refine G_end ?_
    refine R_ret ?_
    obtain ⟨rfl, rfl⟩ := inj2 hm
    exact ⟨trivial, fin_pure (by kernel_rfl)⟩
  replace hm := neg_inv hc hm
  refine R_skip ?_
  refine R_seq ?_
  refine R_G ?_
  refine G_run 3 ?_
  refine G_end ?_
  refine R_ret ?_
  obtain ⟨rfl, rfl⟩ := inj2 hm
  exact ⟨trivial, fin_pure (by kernel_rfl)⟩
end Go.Proofs.Try
namespace Go.Proofs.Try
open Go Go.Pm
set_option linter.unusedVariables false
set_option maxRecDepth 2000
def m_size_Product (x : (List Int)) : Option (Int × Int) :=
  match x with
  | p0 =>
  m_size_check p0 >>= fun (v1 : Int) =>
  (if v1 = 0 then
    m_slices_Contains_int_int (p0, 0) >>= fun (v3 : Bool) =>
    some v3
  else
  some false
  ) >>= fun (v2 : Bool) =>
  if v2 = true then
    some (0, 0)
  else
  m_size_combined_size_Product_1 (p0, 1) >>= fun ((v4, v5) : (Int × Int)) =>
  some (v4, v5)
def P_size_Product : (List Int) → (Int × Int) → Prop := fun x r => match x, r with
  | p0, (r0, r1) => ∀ H, PC prog env 64 ([(.lst ((List.map intD) p0))].map .dat) H (.tup [(intPV r0), (intPV r1)]) H
theorem w_size_Product : ∀ x r, m_size_Product x = some r → P_size_Product x r := by
  intro p0 r hm
  unfold m_size_Product at hm
  unfold P_size_Product
  obtain ⟨r0, r1⟩ := r
  intro H
  refine PC_sx (ds := [(.lst ((List.map intD) p0))]) (fn := f64) (by kernel_rfl) (by kernel_rfl) rfl ?_ (by kernel_rfl)
  refine R_seq ?_
  refine R_G ?_
  refine G_run 2 ?_
  refine G_end ?_
  refine R_seq ?_
  refine R_seq ?_
  refine R_G ?_
  refine G_run 1 ?_
  obtain ⟨v1, hx, hm⟩ := bind_inv hm
  have hq := w_size_check _ _ hx []
  refine G_callP hq ?_
  refine G_run 1 ?_
  refine G_end ?_
  refine R_seq ?_
  obtain ⟨v2, hs, hm⟩ := bind_inv hm
  refine R_cut (fun d => ⟨sl d 17 [(0, (.dat (.lst ((List.map intD) p0)))), (12, (boolPV v2))], []⟩) ?_ (fun d => ?_)
  · replace hm := hs
    clear hs
    refine R_G ?_
    refine G_run 3 ?_
    refine G_split (p := v1 = 0) 9 (eq_dec _ _) (fun hc => ?_) (fun hc => ?_)
    · replace hm := pos_inv hc hm
      refine G_run 1 ?_
      obtain ⟨v3, hx, hm⟩ := bind_inv hm
      have hq := w_slices_Contains_int_int _ _ hx []
      refine G_callP hq ?_
      refine G_run 1 ?_
      refine G_end ?_
      obtain rfl := inj1 hm
      exact cut_leaf (by kernel_rfl)
    replace hm := neg_inv hc hm
    refine G_run 3 ?_
    refine G_end ?_
    obtain rfl := inj1 hm
    exact cut_leaf (by kernel_rfl)
  clear hs
  refine R_ifp (p := v2 = true) (bool_dec _) (fun hc => ?_) (fun hc => ?_)
  · replace hm := pos_inv hc hm
    refine R_seq ?_
    refine R_G ?_
    refine G_run 2 ?_
    refine G_end ?_
    refine R_ret ?_
    obtain ⟨rfl, rfl⟩ := inj2 hm
    exact ⟨trivial, fin_pure (by kernel_rfl)⟩
  replace hm := neg_inv hc hm
  refine R_skip ?_
  refine R_seq ?_
  refine R_G ?_
  refine G_run 1 ?_
  obtain ⟨⟨v4, v5⟩, hx, hm⟩ := bind_inv hm
  have hq := w_size_combined_size_Product_1 _ _ hx []
  refine G_callP hq ?_
  refine G_run 4 ?_
  refine G_end ?_
  refine R_ret ?_
  obtain ⟨rfl, rfl⟩ := inj2 hm
  exact ⟨trivial, fin_pure (by kernel_rfl)⟩
end Go.Proofs.Try
namespace Go.Proofs.Try
open Go Go.Pm
set_option linter.unusedVariables false
set_option maxRecDepth 2000
def m_shape_Check (x : (List Int)) : Option Int :=
  match x with
  | p0 =>
  m_size_Product p0 >>= fun ((v1, v2) : (Int × Int)) =>
  (if v2 ≠ 6 then
    some (decide ((p0.length : Int) > 16))
  else
  some false
  ) >>= fun (v3 : Bool) =>
  if v3 = true then
    some 7
  else
  some v2
def P_shape_Check : (List Int) → Int → Prop := fun x r => match x, r with
  | p0, r0 => ∀ H, PC prog env 51 ([(.lst ((List.map intD) p0))].map .dat) H (intPV r0) H
theorem w_shape_Check : ∀ x r, m_shape_Check x = some r → P_shape_Check x r := by
  intro p0 r0 hm
  unfold m_shape_Check at hm
  unfold P_shape_Check
  intro H
  refine PC_sx (ds := [(.lst ((List.map intD) p0))]) (fn := f51) (by kernel_rfl) (by kernel_rfl) rfl ?_ (by kernel_rfl)
  refine R_seq ?_
  refine R_G ?_
  refine G_run 1 ?_
  refine G_end ?_
  refine R_seq ?_
  refine R_G ?_
  refine G_run 1 ?_
  obtain ⟨⟨v1, v2⟩, hx, hm⟩ := bind_inv hm
  have hq := w_size_Product _ _ hx []
  refine G_callP hq ?_
  refine G_run 5 ?_
  refine G_end ?_
  refine R_seq ?_
  refine R_seq ?_
  obtain ⟨v3, hs, hm⟩ := bind_inv hm
  refine R_cut (fun d => ⟨sl d 18 [(4, (intPV v2)), (16, (boolPV v3))], []⟩) ?_ (fun d => ?_)
  · replace hm := hs
    clear hs
    refine R_G ?_
    refine G_run 3 ?_
    refine G_split (p := v2 ≠ 6) 12 (ne_dec _ _) (fun hc => ?_) (fun hc => ?_)
    · replace hm := pos_inv hc hm
      refine G_run 1 ?_
      refine I_len intD p0 (es := (List.map intD) p0) rfl ?_
      refine G_run 2 ?_
      refine G_end ?_
      obtain rfl := inj1 hm
      exact cut_leaf (by kernel_rfl)
    replace hm := neg_inv hc hm
    refine G_run 4 ?_
    refine G_end ?_
    obtain rfl := inj1 hm
    exact cut_leaf (by kernel_rfl)
  clear hs
  refine R_ifp (p := v3 = true) (bool_dec _) (fun hc => ?_) (fun hc => ?_)
  · replace hm := pos_inv hc hm
    refine R_seq ?_
    refine R_G ?_
    refine G_run 1 ?_
    refine G_end ?_
    refine R_ret ?_
    obtain rfl := inj1 hm
    exact ⟨trivial, fin_pure (by kernel_rfl)⟩
  replace hm := neg_inv hc hm
  refine R_skip ?_
  refine R_seq ?_
  refine R_G ?_
  refine G_run 2 ?_
  refine G_end ?_
  refine R_ret ?_
  obtain rfl := inj1 hm
  exact ⟨trivial, fin_pure (by kernel_rfl)⟩
end Go.Proofs.Try
namespace Go.Proofs.Try
open Go Go.Pm
set_option linter.unusedVariables false
set_option maxRecDepth 2000
def m_rule_along_1_b2055 (x : (Int × Int × (List Int) × (List Int) × (List Int))) : Option (Unit) :=
  match x with
  | (q0, q1, q2, q3, q4) =>
  some ()
def P_rule_along_1_b2055 : (Int × Int × (List Int) × (List Int) × (List Int)) → Unit → Prop := fun x r => match x with
  | (q0, q1, q2, q3, q4) => PC prog env 52 [(.ptr 6 0), (.iptr [(intD q0)]), (.iptr [(intD q1)])] [(.box [(.dat (.lst ((List.map intD) []))), (.dat (.lst ((List.map intD) []))), (.dat (.lst ((List.map intD) []))), (.dat (.lst ((List.map intD) []))), (intPV 0), (intPV 0), (.dat (.lst ((List.map intD) [])))]), (.box [(.dat (.lst ((List.map intD) q2)))]), (.box [(.fn 52 [(.iptr [(intD q0)]), (.iptr [(intD q1)])]), (.fn 30 [(.ptr 1 0)])]), (.box [(.dat (.lst ((List.map intD) []))), (.dat (.lst ((List.map intD) []))), (.dat (.lst ((List.map intD) []))), (.dat (.lst ((List.map intD) []))), (intPV 0), (intPV 0), (.dat (.lst ((List.map intD) [])))]), (.mt 3 1 (cellsOf intD q3)), (.mt 3 1 (cellsOf intD q4)), (.box [(.dat (.lst ((List.map intD) []))), (.ms 4 1 0 q3.length q3.length), (.ms 5 1 0 q4.length q4.length), (.dat (.lst ((List.map intD) []))), (intPV (-1)), (intPV 0), (.dat (.lst ((List.map intD) [])))])] (match r with | _ => (.tup [])) (match r with | _ => [(.box [(.dat (.lst ((List.map intD) []))), (.dat (.lst ((List.map intD) []))), (.dat (.lst ((List.map intD) []))), (.dat (.lst ((List.map intD) []))), (intPV 0), (intPV 0), (.dat (.lst ((List.map intD) [])))]), (.box [(.dat (.lst ((List.map intD) q2)))]), (.box [(.fn 52 [(.iptr [(intD q0)]), (.iptr [(intD q1)])]), (.fn 30 [(.ptr 1 0)])]), (.box [(.dat (.lst ((List.map intD) []))), (.dat (.lst ((List.map intD) []))), (.dat (.lst ((List.map intD) []))), (.dat (.lst ((List.map intD) []))), (intPV 0), (intPV 0), (.dat (.lst ((List.map intD) [])))]), (.mt 3 1 (cellsOf intD q3)), (.mt 3 1 (cellsOf intD q4)), (.box [(.dat (.lst ((List.map intD) []))), (.ms 4 1 0 q3.length q3.length), (.ms 5 1 0 q4.length q4.length), (.dat (.lst ((List.map intD) []))), (intPV q0), (intPV q1), (.dat (.lst ((List.map intD) [])))])])
theorem w_rule_along_1_b2055 : ∀ x r, m_rule_along_1_b2055 x = some r → P_rule_along_1_b2055 x r := by
  intro x r hm
  unfold m_rule_along_1_b2055 at hm
  unfold P_rule_along_1_b2055
  obtain ⟨q0, q1, q2, q3, q4⟩ := x
  refine PC_sxB (fn := f52) (by kernel_rfl) (by kernel_rfl) rfl ?_
  refine R_GD ?_
  refine G_run 10 ?_
  refine G_end ⟨by kernel_rfl, ?_⟩
  obtain rfl := inj1 hm
  exact ⟨trivial, fin_body (by kernel_rfl) (by kernel_rfl)⟩
end Go.Proofs.Try
namespace Go.Proofs.Try
open Go Go.Pm
set_option linter.unusedVariables false
set_option maxRecDepth 2000
def m_rule_Catenate_1_b2332 (x : ((List Int) × Int × Int × (List Int) × (List Int))) : Option (Unit) :=
  match x with
  | (q0, q1, q2, q3, q4) =>
  some ()
def P_rule_Catenate_1_b2332 : ((List Int) × Int × Int × (List Int) × (List Int)) → Unit → Prop := fun x r => match x with
  | (q0, q1, q2, q3, q4) => PC prog env 30 [(.ptr 6 0), (.ptr 1 0)] [(.box [(.dat (.lst ((List.map intD) []))), (.dat (.lst ((List.map intD) []))), (.dat (.lst ((List.map intD) []))), (.dat (.lst ((List.map intD) []))), (intPV 0), (intPV 0), (.dat (.lst ((List.map intD) [])))]), (.box [(.dat (.lst ((List.map intD) q0)))]), (.box [(.fn 52 [(.iptr [(intD q1)]), (.iptr [(intD q2)])]), (.fn 30 [(.ptr 1 0)])]), (.box [(.dat (.lst ((List.map intD) []))), (.dat (.lst ((List.map intD) []))), (.dat (.lst ((List.map intD) []))), (.dat (.lst ((List.map intD) []))), (intPV 0), (intPV 0), (.dat (.lst ((List.map intD) [])))]), (.mt 3 1 (cellsOf intD q3)), (.mt 3 1 (cellsOf intD q4)), (.box [(.dat (.lst ((List.map intD) []))), (.ms 4 1 0 q3.length q3.length), (.ms 5 1 0 q4.length q4.length), (.dat (.lst ((List.map intD) []))), (intPV q1), (intPV q2), (.dat (.lst ((List.map intD) [])))])] (match r with | _ => (.tup [])) (match r with | _ => [(.box [(.dat (.lst ((List.map intD) []))), (.dat (.lst ((List.map intD) []))), (.dat (.lst ((List.map intD) []))), (.dat (.lst ((List.map intD) []))), (intPV 0), (intPV 0), (.dat (.lst ((List.map intD) [])))]), (.box [(.dat (.lst ((List.map intD) q0)))]), (.box [(.fn 52 [(.iptr [(intD q1)]), (.iptr [(intD q2)])]), (.fn 30 [(.ptr 1 0)])]), (.box [(.dat (.lst ((List.map intD) []))), (.dat (.lst ((List.map intD) []))), (.dat (.lst ((List.map intD) []))), (.dat (.lst ((List.map intD) []))), (intPV 0), (intPV 0), (.dat (.lst ((List.map intD) [])))]), (.mt 3 1 (cellsOf intD q3)), (.mt 3 1 (cellsOf intD q4)), (.box [(.dat (.lst ((List.map intD) q0))), (.ms 4 1 0 q3.length q3.length), (.ms 5 1 0 q4.length q4.length), (.dat (.lst ((List.map intD) []))), (intPV q1), (intPV q2), (.dat (.lst ((List.map intD) [])))])])
theorem w_rule_Catenate_1_b2332 : ∀ x r, m_rule_Catenate_1_b2332 x = some r → P_rule_Catenate_1_b2332 x r := by
  intro x r hm
  unfold m_rule_Catenate_1_b2332 at hm
  unfold P_rule_Catenate_1_b2332
  obtain ⟨q0, q1, q2, q3, q4⟩ := x
  refine PC_sxB (fn := f30) (by kernel_rfl) (by kernel_rfl) rfl ?_
  refine R_G ?_
  refine G_run 5 ?_
  refine G_end ?_
  obtain rfl := inj1 hm
  exact ⟨trivial, fin_body (by kernel_rfl) (by kernel_rfl)⟩
end Go.Proofs.Try
namespace Go.Proofs.Try
open Go Go.Pm
set_option linter.unusedVariables false
set_option maxRecDepth 2000
def m_rule_made_b82b3 (x : ((List Int) × (List Int) × (List Int) × Int × Int)) : Option (Int ⊕ ((List Int) × (List Int))) :=
  match x with
  | (q0, q1, q2, q3, q4) =>
  m_shape_Check q1 >>= fun (v1 : Int) =>
  if v1 ≠ 0 then
    some (Sum.inl v1)
  else
  m_slices_Clone_int_int q0 >>= fun v2 =>
  m_slices_Clone_int_int q1 >>= fun v3 =>
  m_rule_along_1_b2055 (q3, q4, q2, v2, v3) >>= fun (_ : Unit) =>
  m_rule_Catenate_1_b2332 (q2, q3, q4, v2, v3) >>= fun (_ : Unit) =>
  some (Sum.inr (v2, v3))
def P_rule_made_b82b3 : ((List Int) × (List Int) × (List Int) × Int × Int) → (Int ⊕ ((List Int) × (List Int))) → Prop := fun x r => match x with
  | (q0, q1, q2, q3, q4) => PC prog env 28 [(.dat (.lst ((List.map intD) q0))), (.dat (.lst ((List.map intD) q1))), (.arr 2 0 2 2)] [(.box [(.dat (.lst ((List.map intD) []))), (.dat (.lst ((List.map intD) []))), (.dat (.lst ((List.map intD) []))), (.dat (.lst ((List.map intD) []))), (intPV 0), (intPV 0), (.dat (.lst ((List.map intD) [])))]), (.box [(.dat (.lst ((List.map intD) q2)))]), (.box [(.fn 52 [(.iptr [(intD q3)]), (.iptr [(intD q4)])]), (.fn 30 [(.ptr 1 0)])])] (match r with | .inl v5001 => (.tup [(.dat (.agg [(.lst ((List.map intD) [])), (.lst ((List.map intD) [])), (.lst ((List.map intD) [])), (.lst ((List.map intD) [])), (intD 0), (intD 0), (.lst ((List.map intD) []))])), (intPV v5001)]) | .inr ((v5002, v5003)) => (.tup [(.agg [(.dat (.lst ((List.map intD) q2))), (.ms 4 1 0 v5002.length v5002.length), (.ms 5 1 0 v5003.length v5003.length), (.dat (.lst ((List.map intD) []))), (intPV q3), (intPV q4), (.dat (.lst ((List.map intD) [])))]), (intPV 0)])) (match r with | .inl v5001 => [(.box [(.dat (.lst ((List.map intD) []))), (.dat (.lst ((List.map intD) []))), (.dat (.lst ((List.map intD) []))), (.dat (.lst ((List.map intD) []))), (intPV 0), (intPV 0), (.dat (.lst ((List.map intD) [])))]), (.box [(.dat (.lst ((List.map intD) q2)))]), (.box [(.fn 52 [(.iptr [(intD q3)]), (.iptr [(intD q4)])]), (.fn 30 [(.ptr 1 0)])]), (.box [(.dat (.lst ((List.map intD) []))), (.dat (.lst ((List.map intD) []))), (.dat (.lst ((List.map intD) []))), (.dat (.lst ((List.map intD) []))), (intPV 0), (intPV 0), (.dat (.lst ((List.map intD) [])))])] | .inr ((v5002, v5003)) => [(.box [(.dat (.lst ((List.map intD) []))), (.dat (.lst ((List.map intD) []))), (.dat (.lst ((List.map intD) []))), (.dat (.lst ((List.map intD) []))), (intPV 0), (intPV 0), (.dat (.lst ((List.map intD) [])))]), (.box [(.dat (.lst ((List.map intD) q2)))]), (.box [(.fn 52 [(.iptr [(intD q3)]), (.iptr [(intD q4)])]), (.fn 30 [(.ptr 1 0)])]), (.box [(.dat (.lst ((List.map intD) q2))), (.ms 4 1 0 v5002.length v5002.length), (.ms 5 1 0 v5003.length v5003.length), (.dat (.lst ((List.map intD) []))), (intPV q3), (intPV q4), (.dat (.lst ((List.map intD) [])))]), (.mt 3 1 (cellsOf intD v5002)), (.mt 3 1 (cellsOf intD v5003)), (.box [(.dat (.lst ((List.map intD) q2))), (.ms 4 1 0 v5002.length v5002.length), (.ms 5 1 0 v5003.length v5003.length), (.dat (.lst ((List.map intD) []))), (intPV q3), (intPV q4), (.dat (.lst ((List.map intD) [])))])])
theorem w_rule_made_b82b3 : ∀ x r, m_rule_made_b82b3 x = some r → P_rule_made_b82b3 x r := by
  intro x r hm
  unfold m_rule_made_b82b3 at hm
  unfold P_rule_made_b82b3
  obtain ⟨q0, q1, q2, q3, q4⟩ := x
  refine PC_sxB (fn := f28) (by kernel_rfl) (by kernel_rfl) rfl ?_
  refine R_seq ?_
  refine R_G ?_
  refine G_run 2 ?_
  refine G_end ?_
  refine R_seq ?_
  refine R_seq ?_
  refine R_G ?_
  refine G_run 1 ?_
  obtain ⟨v1, hx, hm⟩ := bind_inv hm
  have hq := w_shape_Check _ _ hx []
  refine G_callP hq ?_
  refine G_run 1 ?_
  refine G_end ?_
  refine R_seq ?_
  refine R_G ?_
  refine G_run 2 ?_
  refine G_end ?_
  refine R_ifp (p := v1 ≠ 0) (ne_dec _ _) (fun hc => ?_) (fun hc => ?_)
  · replace hm := pos_inv hc hm
    refine R_seq ?_
    refine R_G ?_
    refine G_run 4 ?_
    refine G_end ?_
    refine R_ret ?_
    obtain rfl := inj1 hm
    exact ⟨trivial, fin_body (by kernel_rfl) (by kernel_rfl)⟩
  replace hm := neg_inv hc hm
  refine R_skip ?_
  refine R_seq ?_
  refine R_G ?_
  refine G_run 1 ?_
  obtain ⟨v2, hx, hm⟩ := bind_inv hm
  have hq := w_slices_Clone_int_int _ _ hx
  dsimp only [P_slices_Clone_int_int] at hq
  have hl9 : mtOf [Blk.mt 3 (cgm_slices_Clone_int_int v2) (cellsOf intD v2)] 0 = some (3, cgm_slices_Clone_int_int v2, cellsOf intD v2) := mtOf_at (by kernel_rfl)
  refine G_semH (v := .ms 4 1 0 v2.length v2.length) (fun H => H ++ [.mt 3 1 (cellsOf intD v2)]) rfl (by kernel_rfl) ?_ ?_
  · intro K hk
    refine E_callOwnN 4 (first := #[]) (cap := #[]) (j := (0, 3)) (ow' := []) (f0 := intD) (l := v2) rfl ?_ ?_ ?_ (ds := [.lst ((List.map intD) q0)]) ?_ hq hl9 ?_ ?_ ?_
    · kernel_rfl
    · kernel_rfl
    · kernel_rfl
    · kernel_rfl
    · exact hk
    · kernel_rfl
    · decide
  refine G_run 1 ?_
  obtain ⟨v3, hx, hm⟩ := bind_inv hm
  have hq := w_slices_Clone_int_int _ _ hx
  dsimp only [P_slices_Clone_int_int] at hq
  have hl9 : mtOf [Blk.mt 3 (cgm_slices_Clone_int_int v3) (cellsOf intD v3)] 0 = some (3, cgm_slices_Clone_int_int v3, cellsOf intD v3) := mtOf_at (by kernel_rfl)
  refine G_semH (v := .ms 5 1 0 v3.length v3.length) (fun H => H ++ [.mt 3 1 (cellsOf intD v3)]) rfl (by kernel_rfl) ?_ ?_
  · intro K hk
    refine E_callOwnN 5 (first := #[]) (cap := #[]) (j := (0, 3)) (ow' := []) (f0 := intD) (l := v3) rfl ?_ ?_ ?_ (ds := [.lst ((List.map intD) q1)]) ?_ hq hl9 ?_ ?_ ?_
    · kernel_rfl
    · kernel_rfl
    · kernel_rfl
    · kernel_rfl
    · exact hk
    · kernel_rfl
    · decide
  refine G_run 3 ?_
  refine G_end ?_
  refine R_seq ?_
  refine R_seq ?_
  refine R_G ?_
  refine G_run 1 ?_
  refine G_run 1 ?_
  refine G_run 1 ?_
  refine G_end ?_
  refine R_block ?_
  refine R_loop ?_
  refine RL_at (st' := ⟨kp 33 [(6, (.ptr 3 0)), (9, (.ptr 6 0)), (23, (.arr 2 0 2 2)), (24, (intPV 2)), (25, (intPV 0))], [(.box [(.dat (.lst ((List.map intD) []))), (.dat (.lst ((List.map intD) []))), (.dat (.lst ((List.map intD) []))), (.dat (.lst ((List.map intD) []))), (intPV 0), (intPV 0), (.dat (.lst ((List.map intD) [])))]), (.box [(.dat (.lst ((List.map intD) q2)))]), (.box [(.fn 52 [(.iptr [(intD q3)]), (.iptr [(intD q4)])]), (.fn 30 [(.ptr 1 0)])]), (.box [(.dat (.lst ((List.map intD) []))), (.dat (.lst ((List.map intD) []))), (.dat (.lst ((List.map intD) []))), (.dat (.lst ((List.map intD) []))), (intPV 0), (intPV 0), (.dat (.lst ((List.map intD) [])))]), (.mt 3 1 (cellsOf intD v2)), (.mt 3 1 (cellsOf intD v3)), (.box [(.dat (.lst ((List.map intD) []))), (.ms 4 1 0 v2.length v2.length), (.ms 5 1 0 v3.length v3.length), (.dat (.lst ((List.map intD) []))), (intPV (-1)), (intPV 0), (.dat (.lst ((List.map intD) [])))])]⟩) (prune_of2 [(.box [(.dat (.lst ((List.map intD) []))), (.dat (.lst ((List.map intD) []))), (.dat (.lst ((List.map intD) []))), (.dat (.lst ((List.map intD) []))), (intPV 0), (intPV 0), (.dat (.lst ((List.map intD) [])))]), (.box [(.dat (.lst ((List.map intD) q2)))]), (.box [(.fn 52 [(.iptr [(intD q3)]), (.iptr [(intD q4)])]), (.fn 30 [(.ptr 1 0)])]), (.box [(.dat (.lst ((List.map intD) []))), (.dat (.lst ((List.map intD) []))), (.dat (.lst ((List.map intD) []))), (.dat (.lst ((List.map intD) []))), (intPV 0), (intPV 0), (.dat (.lst ((List.map intD) [])))]), (.mt 3 1 (cellsOf intD v2)), (.mt 3 1 (cellsOf intD v3)), (.box [(.dat (.lst ((List.map intD) []))), (.ms 4 1 0 v2.length v2.length), (.ms 5 1 0 v3.length v3.length), (.dat (.lst ((List.map intD) []))), (intPV (-1)), (intPV 0), (.dat (.lst ((List.map intD) [])))])] (fun _ => (pg_cons (by kernel_rfl) (pg_cons (by kernel_rfl) (pg_cons (by kernel_rfl) (pg_cons (by kernel_rfl) (pg_cons (purge_mt intD _ _ _ _ _) (pg_cons (purge_mt intD _ _ _ _ _) (pg_cons (by kernel_rfl) pg_nil)))))))) rfl) ?_
  refine R_seq ?_
  refine R_G ?_
  refine G_run 1 ?_
  refine G_end ?_
  refine R_seq ?_
  refine R_true (by kernel_rfl) ?_
  refine R_skip ?_
  refine R_seq ?_
  refine R_block ?_
  refine R_seq ?_
  refine R_G ?_
  refine G_run 1 ?_
  refine G_run 2 ?_
  refine G_end ?_
  refine R_G ?_
  refine G_run 1 ?_
  obtain ⟨_, hx, hm⟩ := bind_inv hm
  have hq := w_rule_along_1_b2055 _ _ hx
  dsimp only [P_rule_along_1_b2055] at hq
  refine G_callB hq ?_
  refine G_end ?_
  refine R_G ?_
  refine G_run 2 ?_
  refine G_end ?_
  refine RL_at (st' := ⟨kp 33 [(6, (.ptr 3 0)), (9, (.ptr 6 0)), (23, (.arr 2 0 2 2)), (24, (intPV 2)), (25, (intPV 1))], [(.box [(.dat (.lst ((List.map intD) []))), (.dat (.lst ((List.map intD) []))), (.dat (.lst ((List.map intD) []))), (.dat (.lst ((List.map intD) []))), (intPV 0), (intPV 0), (.dat (.lst ((List.map intD) [])))]), (.box [(.dat (.lst ((List.map intD) q2)))]), (.box [(.fn 52 [(.iptr [(intD q3)]), (.iptr [(intD q4)])]), (.fn 30 [(.ptr 1 0)])]), (.box [(.dat (.lst ((List.map intD) []))), (.dat (.lst ((List.map intD) []))), (.dat (.lst ((List.map intD) []))), (.dat (.lst ((List.map intD) []))), (intPV 0), (intPV 0), (.dat (.lst ((List.map intD) [])))]), (.mt 3 1 (cellsOf intD v2)), (.mt 3 1 (cellsOf intD v3)), (.box [(.dat (.lst ((List.map intD) []))), (.ms 4 1 0 v2.length v2.length), (.ms 5 1 0 v3.length v3.length), (.dat (.lst ((List.map intD) []))), (intPV q3), (intPV q4), (.dat (.lst ((List.map intD) [])))])]⟩) (prune_of2 [(.box [(.dat (.lst ((List.map intD) []))), (.dat (.lst ((List.map intD) []))), (.dat (.lst ((List.map intD) []))), (.dat (.lst ((List.map intD) []))), (intPV 0), (intPV 0), (.dat (.lst ((List.map intD) [])))]), (.box [(.dat (.lst ((List.map intD) q2)))]), (.box [(.fn 52 [(.iptr [(intD q3)]), (.iptr [(intD q4)])]), (.fn 30 [(.ptr 1 0)])]), (.box [(.dat (.lst ((List.map intD) []))), (.dat (.lst ((List.map intD) []))), (.dat (.lst ((List.map intD) []))), (.dat (.lst ((List.map intD) []))), (intPV 0), (intPV 0), (.dat (.lst ((List.map intD) [])))]), (.mt 3 1 (cellsOf intD v2)), (.mt 3 1 (cellsOf intD v3)), (.box [(.dat (.lst ((List.map intD) []))), (.ms 4 1 0 v2.length v2.length), (.ms 5 1 0 v3.length v3.length), (.dat (.lst ((List.map intD) []))), (intPV q3), (intPV q4), (.dat (.lst ((List.map intD) [])))])] (fun _ => (pg_cons (by kernel_rfl) (pg_cons (by kernel_rfl) (pg_cons (by kernel_rfl) (pg_cons (by kernel_rfl) (pg_cons (purge_mt intD _ _ _ _ _) (pg_cons (purge_mt intD _ _ _ _ _) (pg_cons (by kernel_rfl) pg_nil)))))))) rfl) ?_
  refine R_seq ?_
  refine R_G ?_
  refine G_run 1 ?_
  refine G_end ?_
  refine R_seq ?_
  refine R_true (by kernel_rfl) ?_
  refine R_skip ?_
  refine R_seq ?_
  refine R_block ?_
  refine R_seq ?_
  refine R_G ?_
  refine G_run 1 ?_
  refine G_run 2 ?_
  refine G_end ?_
  refine R_G ?_
  refine G_run 1 ?_
  obtain ⟨_, hx, hm⟩ := bind_inv hm
  have hq := w_rule_Catenate_1_b2332 _ _ hx
  dsimp only [P_rule_Catenate_1_b2332] at hq
  refine G_callB hq ?_
  refine G_end ?_
  refine R_G ?_
  refine G_run 2 ?_
  refine G_end ?_
  refine RL_at (st' := ⟨kp 33 [(6, (.ptr 3 0)), (9, (.ptr 6 0)), (23, (.arr 2 0 2 2)), (24, (intPV 2)), (25, (intPV 2))], [(.box [(.dat (.lst ((List.map intD) []))), (.dat (.lst ((List.map intD) []))), (.dat (.lst ((List.map intD) []))), (.dat (.lst ((List.map intD) []))), (intPV 0), (intPV 0), (.dat (.lst ((List.map intD) [])))]), (.box [(.dat (.lst ((List.map intD) q2)))]), (.box [(.fn 52 [(.iptr [(intD q3)]), (.iptr [(intD q4)])]), (.fn 30 [(.ptr 1 0)])]), (.box [(.dat (.lst ((List.map intD) []))), (.dat (.lst ((List.map intD) []))), (.dat (.lst ((List.map intD) []))), (.dat (.lst ((List.map intD) []))), (intPV 0), (intPV 0), (.dat (.lst ((List.map intD) [])))]), (.mt 3 1 (cellsOf intD v2)), (.mt 3 1 (cellsOf intD v3)), (.box [(.dat (.lst ((List.map intD) q2))), (.ms 4 1 0 v2.length v2.length), (.ms 5 1 0 v3.length v3.length), (.dat (.lst ((List.map intD) []))), (intPV q3), (intPV q4), (.dat (.lst ((List.map intD) [])))])]⟩) (prune_of2 [(.box [(.dat (.lst ((List.map intD) []))), (.dat (.lst ((List.map intD) []))), (.dat (.lst ((List.map intD) []))), (.dat (.lst ((List.map intD) []))), (intPV 0), (intPV 0), (.dat (.lst ((List.map intD) [])))]), (.box [(.dat (.lst ((List.map intD) q2)))]), (.box [(.fn 52 [(.iptr [(intD q3)]), (.iptr [(intD q4)])]), (.fn 30 [(.ptr 1 0)])]), (.box [(.dat (.lst ((List.map intD) []))), (.dat (.lst ((List.map intD) []))), (.dat (.lst ((List.map intD) []))), (.dat (.lst ((List.map intD) []))), (intPV 0), (intPV 0), (.dat (.lst ((List.map intD) [])))]), (.mt 3 1 (cellsOf intD v2)), (.mt 3 1 (cellsOf intD v3)), (.box [(.dat (.lst ((List.map intD) q2))), (.ms 4 1 0 v2.length v2.length), (.ms 5 1 0 v3.length v3.length), (.dat (.lst ((List.map intD) []))), (intPV q3), (intPV q4), (.dat (.lst ((List.map intD) [])))])] (fun _ => (pg_cons (by kernel_rfl) (pg_cons (by kernel_rfl) (pg_cons (by kernel_rfl) (pg_cons (by kernel_rfl) (pg_cons (purge_mt intD _ _ _ _ _) (pg_cons (purge_mt intD _ _ _ _ _) (pg_cons (by kernel_rfl) pg_nil)))))))) rfl) ?_
  refine R_seq ?_
  refine R_G ?_
  refine G_run 1 ?_
  refine G_end ?_
  refine R_seq ?_
  refine R_false (by kernel_rfl) ?_
  refine R_exit ?_
  refine R_seq ?_
  refine R_G ?_
  refine G_run 3 ?_
  refine G_end ?_
  refine R_ret ?_
  obtain rfl := inj1 hm
  exact ⟨trivial, fin_body (by kernel_rfl) (by kernel_rfl)⟩
end Go.Proofs.Try
namespace Go.Proofs.Try
open Go Go.Pm
set_option linter.unusedVariables false
set_option maxRecDepth 2000
def m_rule_Catenate (x : (Int × (List Int) × (List Int))) : Option (T_rule_Rule × Int) :=
  match x with
  | (p0, p1, p2) =>
  (if p0 = (-1) then
    some (W ((max (max (p1.length : Int) (p2.length : Int)) 1) - 1))
  else
  some p0
  ) >>= fun (v1 : Int) =>
  if v1 ≥ (max (max (p1.length : Int) (p2.length : Int)) 1) then
    m_rule_failed 4 >>= fun ((v2, v3) : (T_rule_Rule × Int)) =>
    some (v2, v3)
  else
  m_rule_widened (p1, p2, (max (max (p1.length : Int) (p2.length : Int)) 1), v1) >>= fun ((v4, v5) : ((List Int) × Int)) =>
  m_rule_widened (p2, p1, (max (max (p1.length : Int) (p2.length : Int)) 1), v1) >>= fun ((v6, v7) : ((List Int) × Int)) =>
  (if v5 ≠ 0 then
    some true
  else
  some (v7 != 0)
  ) >>= fun (v8 : Bool) =>
  if v8 = true then
    m_rule_failed 4 >>= fun ((v9, v10) : (T_rule_Rule × Int)) =>
    some (v9, v10)
  else
  m_rule_joined (v4, v6, v1) >>= fun ((v11, v12) : ((List Int) × Int)) =>
  if v12 ≠ 0 then
    m_rule_failed v12 >>= fun ((v13, v14) : (T_rule_Rule × Int)) =>
    some (v13, v14)
  else
  m_rule_along (v1, 0) >>= fun ((v15, v16) : (Int × Int)) =>
  (
  m_rule_made_b82b3 (v6, v11, v4, v15, v16) >>= fun (out : Int ⊕ ((List Int) × (List Int))) =>
  match out with
  | .inl v17 =>
    some ((⟨([] : (List Int)), ([] : (List Int)), ([] : (List Int)), ([] : (List Int)), 0, 0, ([] : (List Int))⟩ : T_rule_Rule), v17)
  | .inr ((v18, v19)) =>
    some ((⟨v4, v18, v19, ([] : (List Int)), v15, v16, ([] : (List Int))⟩ : T_rule_Rule), 0)
  )
def P_rule_Catenate : (Int × (List Int) × (List Int)) → (T_rule_Rule × Int) → Prop := fun x r => match x, r with
  | (p0, p1, p2), (r0, r1) => ∀ H, PC prog env 10 ([(intD p0), (.lst ((List.map intD) p1)), (.lst ((List.map intD) p2))].map .dat) H (.tup [(.dat (T_rule_Rule.toD r0)), (intPV r1)]) H
theorem w_rule_Catenate : ∀ x r, m_rule_Catenate x = some r → P_rule_Catenate x r := by
  intro x r hm
  unfold m_rule_Catenate at hm
  unfold P_rule_Catenate
  obtain ⟨p0, p1, p2⟩ := x
  obtain ⟨r0, r1⟩ := r
  intro H
  refine PC_sx (ds := [(intD p0), (.lst ((List.map intD) p1)), (.lst ((List.map intD) p2))]) (fn := f10) (by kernel_rfl) (by kernel_rfl) rfl ?_ (by kernel_rfl)
  refine R_seq ?_
  refine R_G ?_
  refine G_run 2 ?_
  refine G_end ?_
  refine R_seq ?_
  refine R_G ?_
  refine G_run 1 ?_
  refine I_len intD p1 (es := (List.map intD) p1) rfl ?_
  refine G_run 1 ?_
  refine I_len intD p2 (es := (List.map intD) p2) rfl ?_
  refine G_semN rfl (by kernel_rfl) (fun _ => E_max3 (k := .i64) (m := (p1.length : Int)) (n := (p2.length : Int)) (q := 1) rfl (by kernel_rfl) (by kernel_rfl) (by kernel_rfl)) ?_
  refine G_run 1 ?_
  refine G_end ?_
  refine R_seq ?_
  refine R_seq ?_
  refine R_G ?_
  refine G_run 2 ?_
  refine G_end ?_
  obtain ⟨v1, hs, hm⟩ := bind_inv hm
  refine R_cut (fun d => ⟨sl d 76 [(0, (intPV v1)), (1, (.dat (.lst ((List.map intD) p1)))), (2, (.dat (.lst ((List.map intD) p2)))), (6, (.ptr 0 0)), (8, (intPV (max (max (p1.length : Int) (p2.length : Int)) 1)))], [(.box [(.dat (.lst ((List.map intD) []))), (.dat (.lst ((List.map intD) []))), (.dat (.lst ((List.map intD) []))), (.dat (.lst ((List.map intD) []))), (intPV 0), (intPV 0), (.dat (.lst ((List.map intD) [])))])]⟩) ?_ (fun d => ?_)
  · replace hm := hs
    clear hs
    refine R_ifp (p := p0 = (-1)) (eq_dec _ _) (fun hc => ?_) (fun hc => ?_)
    · replace hm := pos_inv hc hm
      refine R_G ?_
      refine G_run 3 ?_
      refine G_end ?_
      obtain rfl := inj1 hm
      exact cut_leaf (by kernel_rfl)
    replace hm := neg_inv hc hm
    refine R_skip ?_
    obtain rfl := inj1 hm
    exact cut_leaf (by kernel_rfl)
  clear hs
  refine R_seq ?_
  refine R_seq ?_
  refine R_G ?_
  refine G_run 3 ?_
  refine G_end ?_
  refine R_ifp (p := v1 ≥ (max (max (p1.length : Int) (p2.length : Int)) 1)) (rfl) (fun hc => ?_) (fun hc => ?_)
  · replace hm := pos_inv hc hm
    refine R_seq ?_
    refine R_G ?_
    obtain ⟨⟨v2, v3⟩, hx, hm⟩ := bind_inv hm
    have hq := w_rule_failed _ _ hx []
    refine G_callP hq ?_
    refine G_run 4 ?_
    refine G_end ?_
    refine R_ret ?_
    obtain ⟨rfl, rfl⟩ := inj2 hm
    exact ⟨trivial, fin_pure (by kernel_rfl)⟩
  replace hm := neg_inv hc hm
  refine R_skip ?_
  refine R_seq ?_
  refine R_G ?_
  refine G_run 4 ?_
  obtain ⟨⟨v4, v5⟩, hx, hm⟩ := bind_inv hm
  have hq := w_rule_widened _ _ hx []
  refine G_callP hq ?_
  refine G_run 6 ?_
  refine G_end ?_
  refine R_seq ?_
  refine R_G ?_
  refine G_run 4 ?_
  obtain ⟨⟨v6, v7⟩, hx, hm⟩ := bind_inv hm
  have hq := w_rule_widened _ _ hx []
  refine G_callP hq ?_
  refine G_run 5 ?_
  refine G_end ?_
  refine R_seq ?_
  refine R_seq ?_
  obtain ⟨v8, hs, hm⟩ := bind_inv hm
  refine R_cut (fun d => ⟨sl d 76 [(0, (intPV v1)), (6, (.ptr 0 0)), (9, (.ptr 1 0)), (11, (.dat (.lst ((List.map intD) v6)))), (50, (boolPV v8))], [(.box [(.dat (.lst ((List.map intD) []))), (.dat (.lst ((List.map intD) []))), (.dat (.lst ((List.map intD) []))), (.dat (.lst ((List.map intD) []))), (intPV 0), (intPV 0), (.dat (.lst ((List.map intD) [])))]), (.box [(.dat (.lst ((List.map intD) v4)))])]⟩) ?_ (fun d => ?_)
  · replace hm := hs
    clear hs
    refine R_G ?_
    refine G_run 3 ?_
    refine G_split (p := v5 ≠ 0) 47 (ne_dec _ _) (fun hc => ?_) (fun hc => ?_)
    · replace hm := pos_inv hc hm
      refine G_run 3 ?_
      refine G_end ?_
      obtain rfl := inj1 hm
      exact cut_leaf (by kernel_rfl)
    replace hm := neg_inv hc hm
    refine G_run 3 ?_
    refine G_end ?_
    obtain rfl := inj1 hm
    exact cut_leaf (by kernel_rfl)
  clear hs
  refine R_ifp (p := v8 = true) (bool_dec _) (fun hc => ?_) (fun hc => ?_)
  · replace hm := pos_inv hc hm
    refine R_seq ?_
    refine R_G ?_
    obtain ⟨⟨v9, v10⟩, hx, hm⟩ := bind_inv hm
    have hq := w_rule_failed _ _ hx []
    refine G_callP hq ?_
    refine G_run 4 ?_
    refine G_end ?_
    refine R_ret ?_
    obtain ⟨rfl, rfl⟩ := inj2 hm
    exact ⟨trivial, fin_pure (by kernel_rfl)⟩
  replace hm := neg_inv hc hm
  refine R_skip ?_
  refine R_seq ?_
  refine R_G ?_
  refine G_run 3 ?_
  obtain ⟨⟨v11, v12⟩, hx, hm⟩ := bind_inv hm
  have hq := w_rule_joined _ _ hx []
  refine G_callP hq ?_
  refine G_run 5 ?_
  refine G_end ?_
  refine R_seq ?_
  refine R_seq ?_
  refine R_G ?_
  refine G_run 2 ?_
  refine G_end ?_
  refine R_ifp (p := v12 ≠ 0) (ne_dec _ _) (fun hc => ?_) (fun hc => ?_)
  · replace hm := pos_inv hc hm
    refine R_seq ?_
    refine R_G ?_
    refine G_run 1 ?_
    obtain ⟨⟨v13, v14⟩, hx, hm⟩ := bind_inv hm
    have hq := w_rule_failed _ _ hx []
    refine G_callP hq ?_
    refine G_run 4 ?_
    refine G_end ?_
    refine R_ret ?_
    obtain ⟨rfl, rfl⟩ := inj2 hm
    exact ⟨trivial, fin_pure (by kernel_rfl)⟩
  replace hm := neg_inv hc hm
  refine R_skip ?_
  refine R_seq ?_
  refine R_G ?_
  refine G_run 3 ?_
  obtain ⟨⟨v15, v16⟩, hx, hm⟩ := bind_inv hm
  have hq := w_rule_along _ _ hx []
  refine G_callP hq ?_
  refine G_run 2 ?_
  obtain ⟨out, hx, hm⟩ := bind_inv hm
  rcases out with v17 | ⟨v18, v19⟩
  · have hq := w_rule_made_b82b3 _ _ hx
    dsimp only [P_rule_made_b82b3] at hq
    refine G_callB hq ?_
    refine G_run 4 ?_
    refine G_end ?_
    refine R_ret ?_
    obtain ⟨rfl, rfl⟩ := inj2 hm
    exact ⟨trivial, fin_pure (by kernel_rfl)⟩
  · have hq := w_rule_made_b82b3 _ _ hx
    dsimp only [P_rule_made_b82b3] at hq
    refine G_callB hq ?_
    refine G_run 4 ?_
    refine G_end ?_
    refine R_ret ?_
    obtain ⟨rfl, rfl⟩ := inj2 hm
    exact ⟨trivial, fin_pureX [(.agg [(.dat (.lst ((List.map intD) v4))), (.ms 4 1 0 v18.length v18.length), (.ms 5 1 0 v19.length v19.length), (.dat (.lst ((List.map intD) []))), (intPV v15), (intPV v16), (.dat (.lst ((List.map intD) [])))]), (intPV 0)] (by kernel_rfl) (po_tup (ps_cons (p1_agg (pc_cons (by kernel_rfl) (pc_cons (pc_ms (e := 3) intD v18 rfl (fun _ => rfl) (by kernel_rfl)) (pc_cons (pc_ms (e := 3) intD v19 rfl (fun _ => rfl) (by kernel_rfl)) (pc_cons (by kernel_rfl) (pc_cons (by kernel_rfl) (pc_cons (by kernel_rfl) (pc_cons (by kernel_rfl) pc_nil)))))))) (ps_cons (by kernel_rfl) ps_nil)))⟩
end Go.Proofs.Try
namespace Go.Proofs.Try
open Go Go.Pm
set_option linter.unusedVariables false
set_option maxRecDepth 2000
def m_ref02_Insert_L1 (x : ((List Int) × Int × Int × (List Int) × Int)) : Option ((List Int)) :=
  match x with
  | (p0, p1, p2, v201, v202) =>
  if v202 ≤ (p0.length : Int) then
    (if v202 = p1 then
      app 8 v201 ([p2] : List Int) >>= fun v603 =>
      some v603
    else
    some v201
    ) >>= fun (v602 : (List Int)) =>
    if v202 < (p0.length : Int) then
      idx p0 v202 >>= fun v604 =>
      app 8 v602 ([v604] : List Int) >>= fun v605 =>
      m_ref02_Insert_L1 (p0, p1, p2, v605, (W (v202 + 1)))
    else
    m_ref02_Insert_L1 (p0, p1, p2, v602, (W (v202 + 1)))
  else
  some v201
  partial_fixpoint
def P_ref02_Insert_L1 : ((List Int) × Int × Int × (List Int) × Int) → (List Int) → Prop := fun x r => match x with
  | (p0, p1, p2, v201, v202) => ∀ st, prune 1 ((firstRegion (codeAt [1, 1, 0, 1, 0, 0] (bodyOf f31))).bind (env.hint 31).keepAt) st = ⟨kp 34 [(0, (.dat (.lst ((List.map intD) p0)))), (1, (intPV p1)), (2, (intPV p2)), (7, (.vec 0 ((List.map intD) v201))), (8, (intPV v202))], [(.tok 3 v201.length)]⟩ →
    RL prog env (env.hint 31) true (codeAt [1, 1, 0, 1, 0, 0] (bodyOf f31)) 1 st (fun e s => match r with | v601 => e = .exit 0 ∧ ∃ d, s = ⟨sl d 34 [(7, (.vec 0 ((List.map intD) v601)))], [(.tok 3 v601.length)]⟩)
theorem w_ref02_Insert_L1 : ∀ x r, m_ref02_Insert_L1 x = some r → P_ref02_Insert_L1 x r := by
  refine m_ref02_Insert_L1.partial_correctness _ (fun m_ref02_Insert_L1 w_ref02_Insert_L1 x r hm => ?_)
  unfold P_ref02_Insert_L1
  obtain ⟨p0, p1, p2, v201, v202⟩ := x
  intro st hst
  refine RL_at hst ?_
  clear hst
  refine R_seq ?_
  refine R_seq ?_
  refine R_G ?_
  refine G_run 2 ?_
  refine I_len intD p0 (es := (List.map intD) p0) rfl ?_
  refine G_run 1 ?_
  refine G_end ?_
  refine R_ifp (p := v202 ≤ (p0.length : Int)) (rfl) (fun hc => ?_) (fun hc => ?_)
  · replace hm := pos_inv hc hm
    refine R_skip ?_
    refine R_seq ?_
    refine R_block ?_
    refine R_seq ?_
    refine R_seq ?_
    refine R_G ?_
    refine G_run 3 ?_
    refine G_end ?_
    obtain ⟨v602, hs, hm⟩ := bind_inv hm
    refine R_cut (fun d => ⟨sl d 34 [(0, (.dat (.lst ((List.map intD) p0)))), (1, (intPV p1)), (2, (intPV p2)), (7, (.vec 0 ((List.map intD) v602))), (8, (intPV v202))], [(.tok 3 v602.length)]⟩) ?_ (fun d => ?_)
    · replace hm := hs
      clear hs
      refine R_ifp (p := v202 = p1) (eq_dec _ _) (fun hc => ?_) (fun hc => ?_)
      · replace hm := pos_inv hc hm
        refine R_G ?_
        refine G_run 3 ?_
        obtain ⟨v603, hx, hm⟩ := bind_inv hm
        refine I_app 3 1 8 0 intD v201 ([p2] : List Int) v603 (xs := (List.map intD) v201) (es := (List.map intD) ([p2] : List Int)) (L := (List.map intD)) (fun _ => rfl) rfl rfl (fun _ => rfl) hx ?_
        refine G_run 1 ?_
        refine G_end ?_
        obtain rfl := inj1 hm
        exact cut_leaf (by kernel_rfl)
      replace hm := neg_inv hc hm
      refine R_skip ?_
      obtain rfl := inj1 hm
      exact cut_leaf (by kernel_rfl)
    clear hs
    refine R_seq ?_
    refine R_G ?_
    refine G_run 2 ?_
    refine I_len intD p0 (es := (List.map intD) p0) rfl ?_
    refine G_run 1 ?_
    refine G_end ?_
    refine R_ifp (p := v202 < (p0.length : Int)) (rfl) (fun hc => ?_) (fun hc => ?_)
    · replace hm := pos_inv hc hm
      refine R_G ?_
      refine G_run 3 ?_
      obtain ⟨v604, hx, hm⟩ := bind_inv hm
      refine I_idx 1 intD p0 v202 v604 (es := (List.map intD) p0) (d := (intD v604)) rfl hx rfl rfl ?_
      refine G_run 2 ?_
      obtain ⟨v605, hx, hm⟩ := bind_inv hm
      refine I_app 3 1 8 0 intD v602 ([v604] : List Int) v605 (xs := (List.map intD) v602) (es := (List.map intD) ([v604] : List Int)) (L := (List.map intD)) (fun _ => rfl) rfl rfl (fun _ => rfl) hx ?_
      refine G_run 1 ?_
      refine G_end ?_
      refine R_G ?_
      refine G_run 3 ?_
      refine G_end ?_
      exact w_ref02_Insert_L1 _ _ hm _ (by kernel_rfl)
    replace hm := neg_inv hc hm
    refine R_skip ?_
    refine R_G ?_
    refine G_run 3 ?_
    refine G_end ?_
    exact w_ref02_Insert_L1 _ _ hm _ (by kernel_rfl)
  replace hm := neg_inv hc hm
  refine R_exit ?_
  obtain rfl := inj1 hm
  exact ⟨rfl, cut_leaf (by kernel_rfl)⟩
def m_ref02_Insert (x : ((List Int) × Int × Int)) : Option (List Int) :=
  match x with
  | (p0, p1, p2) =>
  m_ref02_Insert_L1 (p0, p1, p2, ([] : List Int), 0) >>= fun (v601 : (List Int)) =>
  some v601
def P_ref02_Insert : ((List Int) × Int × Int) → (List Int) → Prop := fun x r => match x, r with
  | (p0, p1, p2), r0 => ∀ H, PC prog env 31 ([(.lst ((List.map intD) p0)), (intD p1), (intD p2)].map .dat) H (.dat (.lst ((List.map intD) r0))) H
theorem w_ref02_Insert : ∀ x r, m_ref02_Insert x = some r → P_ref02_Insert x r := by
  intro x r0 hm
  unfold m_ref02_Insert at hm
  unfold P_ref02_Insert
  obtain ⟨p0, p1, p2⟩ := x
  intro H
  refine PC_sx (ds := [(.lst ((List.map intD) p0)), (intD p1), (intD p2)]) (fn := f31) (by kernel_rfl) (by kernel_rfl) rfl ?_ (by kernel_rfl)
  refine R_seq ?_
  refine R_G ?_
  refine G_run 1 ?_
  refine G_end ?_
  refine R_seq ?_
  refine R_G ?_
  refine G_run 1 ?_
  refine G_end ?_
  refine R_seq ?_
  refine R_seq ?_
  refine R_G ?_
  refine G_run 1 ?_
  refine G_end ?_
  refine R_block ?_
  obtain ⟨v601, hs, hm⟩ := bind_inv hm
  refine R_loop ?_
  refine RL_use (w_ref02_Insert_L1 _ _ hs) (by kernel_rfl) ?_
  clear hs
  intro e s hp
  obtain ⟨rfl, d, rfl⟩ := hp
  refine R_seq ?_
  refine R_G ?_
  refine G_run 2 ?_
  refine G_end ?_
  refine R_ret ?_
  obtain rfl := inj1 hm
  exact ⟨trivial, fin_pure (by kernel_rfl)⟩
end Go.Proofs.Try
namespace Go.Proofs.Try
open Go Go.Pm
set_option linter.unusedVariables false
set_option maxRecDepth 2000
def m_ref02_Remove_L1 (x : ((List Int) × Int × (List Int) × Int)) : Option ((List Int)) :=
  match x with
  | (p0, p1, v201, v202) =>
  if v202 < (p0.length : Int) then
    if v202 ≠ p1 then
      idx p0 v202 >>= fun v602 =>
      app 8 v201 ([v602] : List Int) >>= fun v603 =>
      m_ref02_Remove_L1 (p0, p1, v603, (W (v202 + 1)))
    else
    m_ref02_Remove_L1 (p0, p1, v201, (W (v202 + 1)))
  else
  some v201
  partial_fixpoint
def P_ref02_Remove_L1 : ((List Int) × Int × (List Int) × Int) → (List Int) → Prop := fun x r => match x with
  | (p0, p1, v201, v202) => ∀ st, prune 1 ((firstRegion (codeAt [1, 1, 0, 1, 0, 0] (bodyOf f53))).bind (env.hint 53).keepAt) st = ⟨kp 24 [(0, (.dat (.lst ((List.map intD) p0)))), (1, (intPV p1)), (5, (.vec 0 ((List.map intD) v201))), (6, (intPV v202))], [(.tok 3 v201.length)]⟩ →
    RL prog env (env.hint 53) true (codeAt [1, 1, 0, 1, 0, 0] (bodyOf f53)) 1 st (fun e s => match r with | v601 => e = .exit 0 ∧ ∃ d, s = ⟨sl d 24 [(5, (.vec 0 ((List.map intD) v601)))], [(.tok 3 v601.length)]⟩)
theorem w_ref02_Remove_L1 : ∀ x r, m_ref02_Remove_L1 x = some r → P_ref02_Remove_L1 x r := by
  refine m_ref02_Remove_L1.partial_correctness _ (fun m_ref02_Remove_L1 w_ref02_Remove_L1 x r hm => ?_)
  unfold P_ref02_Remove_L1
  obtain ⟨p0, p1, v201, v202⟩ := x
  intro st hst
  refine RL_at hst ?_
  clear hst
  refine R_seq ?_
  refine R_seq ?_
  refine R_G ?_
  refine G_run 2 ?_
  refine I_len intD p0 (es := (List.map intD) p0) rfl ?_
  refine G_run 1 ?_
  refine G_end ?_
  refine R_ifp (p := v202 < (p0.length : Int)) (rfl) (fun hc => ?_) (fun hc => ?_)
  · replace hm := pos_inv hc hm
    refine R_skip ?_
    refine R_seq ?_
    refine R_block ?_
    refine R_seq ?_
    refine R_G ?_
    refine G_run 3 ?_
    refine G_end ?_
    refine R_ifp (p := v202 ≠ p1) (ne_dec _ _) (fun hc => ?_) (fun hc => ?_)
    · replace hm := pos_inv hc hm
      refine R_G ?_
      refine G_run 3 ?_
      obtain ⟨v602, hx, hm⟩ := bind_inv hm
      refine I_idx 1 intD p0 v202 v602 (es := (List.map intD) p0) (d := (intD v602)) rfl hx rfl rfl ?_
      refine G_run 2 ?_
      obtain ⟨v603, hx, hm⟩ := bind_inv hm
      refine I_app 3 1 8 0 intD v201 ([v602] : List Int) v603 (xs := (List.map intD) v201) (es := (List.map intD) ([v602] : List Int)) (L := (List.map intD)) (fun _ => rfl) rfl rfl (fun _ => rfl) hx ?_
      refine G_run 1 ?_
      refine G_end ?_
      refine R_G ?_
      refine G_run 3 ?_
      refine G_end ?_
      exact w_ref02_Remove_L1 _ _ hm _ (by kernel_rfl)
    replace hm := neg_inv hc hm
    refine R_skip ?_
    refine R_G ?_
    refine G_run 3 ?_
    refine G_end ?_
    exact w_ref02_Remove_L1 _ _ hm _ (by kernel_rfl)
  replace hm := neg_inv hc hm
  refine R_exit ?_
  obtain rfl := inj1 hm
  exact ⟨rfl, cut_leaf (by kernel_rfl)⟩
def m_ref02_Remove (x : ((List Int) × Int)) : Option (List Int) :=
  match x with
  | (p0, p1) =>
  m_ref02_Remove_L1 (p0, p1, ([] : List Int), 0) >>= fun (v601 : (List Int)) =>
  some v601
def P_ref02_Remove : ((List Int) × Int) → (List Int) → Prop := fun x r => match x, r with
  | (p0, p1), r0 => ∀ H, PC prog env 53 ([(.lst ((List.map intD) p0)), (intD p1)].map .dat) H (.dat (.lst ((List.map intD) r0))) H
theorem w_ref02_Remove : ∀ x r, m_ref02_Remove x = some r → P_ref02_Remove x r := by
  intro x r0 hm
  unfold m_ref02_Remove at hm
  unfold P_ref02_Remove
  obtain ⟨p0, p1⟩ := x
  intro H
  refine PC_sx (ds := [(.lst ((List.map intD) p0)), (intD p1)]) (fn := f53) (by kernel_rfl) (by kernel_rfl) rfl ?_ (by kernel_rfl)
  refine R_seq ?_
  refine R_G ?_
  refine G_run 1 ?_
  refine G_end ?_
  refine R_seq ?_
  refine R_G ?_
  refine G_run 1 ?_
  refine G_end ?_
  refine R_seq ?_
  refine R_seq ?_
  refine R_G ?_
  refine G_run 1 ?_
  refine G_end ?_
  refine R_block ?_
  obtain ⟨v601, hs, hm⟩ := bind_inv hm
  refine R_loop ?_
  refine RL_use (w_ref02_Remove_L1 _ _ hs) (by kernel_rfl) ?_
  clear hs
  intro e s hp
  obtain ⟨rfl, d, rfl⟩ := hp
  refine R_seq ?_
  refine R_G ?_
  refine G_run 2 ?_
  refine G_end ?_
  refine R_ret ?_
  obtain rfl := inj1 hm
  exact ⟨trivial, fin_pure (by kernel_rfl)⟩
end Go.Proofs.Try
namespace Go.Proofs.Try
open Go Go.Pm
set_option linter.unusedVariables false
set_option maxRecDepth 2000
def m_ref13_put (x : ((List Int) × Int × Int)) : Option (List Int) :=
  match x with
  | (p0, p1, p2) =>
  m_ref02_Remove (p0, p1) >>= fun (v1 : (List Int)) =>
  m_ref02_Insert (v1, p1, p2) >>= fun (v2 : (List Int)) =>
  some v2
def P_ref13_put : ((List Int) × Int × Int) → (List Int) → Prop := fun x r => match x, r with
  | (p0, p1, p2), r0 => ∀ H, PC prog env 32 ([(.lst ((List.map intD) p0)), (intD p1), (intD p2)].map .dat) H (.dat (.lst ((List.map intD) r0))) H
theorem w_ref13_put : ∀ x r, m_ref13_put x = some r → P_ref13_put x r := by
  intro x r0 hm
  unfold m_ref13_put at hm
  unfold P_ref13_put
  obtain ⟨p0, p1, p2⟩ := x
  intro H
  refine PC_sx (ds := [(.lst ((List.map intD) p0)), (intD p1), (intD p2)]) (fn := f32) (by kernel_rfl) (by kernel_rfl) rfl ?_ (by kernel_rfl)
  refine R_seq ?_
  refine R_G ?_
  refine G_run 1 ?_
  refine G_end ?_
  refine R_seq ?_
  refine R_G ?_
  refine G_run 2 ?_
  obtain ⟨v1, hx, hm⟩ := bind_inv hm
  have hq := w_ref02_Remove _ _ hx []
  refine G_callP hq ?_
  refine G_run 2 ?_
  obtain ⟨v2, hx, hm⟩ := bind_inv hm
  have hq := w_ref02_Insert _ _ hx []
  refine G_callP hq ?_
  refine G_run 1 ?_
  refine G_end ?_
  refine R_ret ?_
  obtain rfl := inj1 hm
  exact ⟨trivial, fin_pure (by kernel_rfl)⟩
end Go.Proofs.Try
namespace Go.Proofs.Try
open Go Go.Pm
set_option linter.unusedVariables false
set_option maxRecDepth 2000
def m_ref13_Catenate_L1 (x : ((List Int) × (List Int) × Int × (List Int) × (List Int) × Int)) : Option (Unit ⊕ Unit) :=
  match x with
  | (p1, p2, v1, v7, v9, v211) =>
  if v211 < (max (max (p1.length : Int) (p2.length : Int)) 1) then
    (if v211 ≠ v1 then
      idx v7 v211 >>= fun v612 =>
      idx v9 v211 >>= fun v613 =>
      some (v612 != v613)
    else
    some false
    ) >>= fun (v611 : Bool) =>
    if v611 = true then
      some (Sum.inl ())
    else
    m_ref13_Catenate_L1 (p1, p2, v1, v7, v9, (W (v211 + 1)))
  else
  some (Sum.inr ())
  partial_fixpoint
def P_ref13_Catenate_L1 : ((List Int) × (List Int) × Int × (List Int) × (List Int) × Int) → (Unit ⊕ Unit) → Prop := fun x r => match x with
  | (p1, p2, v1, v7, v9, v211) => ∀ st, prune 1 ((firstRegion (codeAt [1, 1, 1, 1, 1, 1, 1, 1, 1, 1, 1, 0, 1, 0, 0] (bodyOf f11))).bind (env.hint 11).keepAt) st = ⟨kp 114 [(0, (intPV v1)), (6, (.ptr 0 0)), (8, (intPV (max (max (p1.length : Int) (p2.length : Int)) 1))), (10, (.dat (.lst ((List.map intD) v7)))), (11, (.dat (.lst ((List.map intD) v9)))), (12, (intPV v211))], [(.box [(.dat (.lst ((List.map intD) []))), (.dat (.lst ((List.map intD) []))), (.dat (.lst ((List.map intD) []))), (.dat (.lst ((List.map intD) []))), (intPV 0), (intPV 0), (.dat (.lst ((List.map intD) [])))])]⟩ →
    RL prog env (env.hint 11) true (codeAt [1, 1, 1, 1, 1, 1, 1, 1, 1, 1, 1, 0, 1, 0, 0] (bodyOf f11)) 1 st (fun e s => match r with | .inl _ => e = .ret ∧ ∃ d, s = ⟨sl d 114 [(6, (.ptr 0 0)), (7, (intPV 5))], [(.box [(.dat (.lst ((List.map intD) []))), (.dat (.lst ((List.map intD) []))), (.dat (.lst ((List.map intD) []))), (.dat (.lst ((List.map intD) []))), (intPV 0), (intPV 0), (.dat (.lst ((List.map intD) [])))])]⟩ | .inr (_) => e = .exit 0 ∧ ∃ d, s = ⟨sl d 114 [(0, (intPV v1)), (6, (.ptr 0 0)), (10, (.dat (.lst ((List.map intD) v7)))), (11, (.dat (.lst ((List.map intD) v9))))], [(.box [(.dat (.lst ((List.map intD) []))), (.dat (.lst ((List.map intD) []))), (.dat (.lst ((List.map intD) []))), (.dat (.lst ((List.map intD) []))), (intPV 0), (intPV 0), (.dat (.lst ((List.map intD) [])))])]⟩)
theorem w_ref13_Catenate_L1 : ∀ x r, m_ref13_Catenate_L1 x = some r → P_ref13_Catenate_L1 x r := by
  refine m_ref13_Catenate_L1.partial_correctness _ (fun m_ref13_Catenate_L1 w_ref13_Catenate_L1 x r hm => ?_)
  unfold P_ref13_Catenate_L1
  obtain ⟨p1, p2, v1, v7, v9, v211⟩ := x
  intro st hst
  refine RL_at hst ?_
  clear hst
  refine R_seq ?_
  refine R_seq ?_
  refine R_G ?_
  refine G_run 3 ?_
  refine G_end ?_
  refine R_ifp (p := v211 < (max (max (p1.length : Int) (p2.length : Int)) 1)) (rfl) (fun hc => ?_) (fun hc => ?_)
  · replace hm := pos_inv hc hm
    refine R_skip ?_
    refine R_seq ?_
    refine R_block ?_
    refine R_seq ?_
    obtain ⟨v611, hs, hm⟩ := bind_inv hm
    refine R_cut (fun d => ⟨sl d 114 [(0, (intPV v1)), (6, (.ptr 0 0)), (8, (intPV (max (max (p1.length : Int) (p2.length : Int)) 1))), (10, (.dat (.lst ((List.map intD) v7)))), (11, (.dat (.lst ((List.map intD) v9)))), (12, (intPV v211)), (91, (boolPV v611))], [(.box [(.dat (.lst ((List.map intD) []))), (.dat (.lst ((List.map intD) []))), (.dat (.lst ((List.map intD) []))), (.dat (.lst ((List.map intD) []))), (intPV 0), (intPV 0), (.dat (.lst ((List.map intD) [])))])]⟩) ?_ (fun d => ?_)
    · replace hm := hs
      clear hs
      refine R_GD ?_
      refine G_run 4 ?_
      refine G_split (p := v211 ≠ v1) 81 (ne_dec _ _) (fun hc => ?_) (fun hc => ?_)
      · replace hm := pos_inv hc hm
        refine G_run 2 ?_
        obtain ⟨v612, hx, hm⟩ := bind_inv hm
        refine I_idx 1 intD v7 v211 v612 (es := (List.map intD) v7) (d := (intD v612)) rfl hx rfl rfl ?_
        refine G_run 3 ?_
        obtain ⟨v613, hx, hm⟩ := bind_inv hm
        refine I_idx 1 intD v9 v211 v613 (es := (List.map intD) v9) (d := (intD v613)) rfl hx rfl rfl ?_
        refine G_run 3 ?_
        refine G_end ⟨by kernel_rfl, ?_⟩
        obtain rfl := inj1 hm
        exact cut_leaf (by kernel_rfl)
      replace hm := neg_inv hc hm
      refine G_run 10 ?_
      refine G_end ⟨by kernel_rfl, ?_⟩
      obtain rfl := inj1 hm
      exact cut_leaf (by kernel_rfl)
    clear hs
    refine R_ifp (p := v611 = true) (bool_dec _) (fun hc => ?_) (fun hc => ?_)
    · replace hm := pos_inv hc hm
      refine R_seq ?_
      refine R_G ?_
      refine G_run 3 ?_
      refine G_end ?_
      refine R_ret ?_
      obtain rfl := inj1 hm
      exact ⟨rfl, cut_leaf (by kernel_rfl)⟩
    replace hm := neg_inv hc hm
    refine R_skip ?_
    refine R_G ?_
    refine G_run 3 ?_
    refine G_end ?_
    exact w_ref13_Catenate_L1 _ _ hm _ (by kernel_rfl)
  replace hm := neg_inv hc hm
  refine R_exit ?_
  obtain rfl := inj1 hm
  exact ⟨rfl, cut_leaf (by kernel_rfl)⟩
def m_ref13_Catenate (x : (Int × (List Int) × (List Int))) : Option (T_ref13_Rule × Int) :=
  match x with
  | (p0, p1, p2) =>
  if p0 ≥ (max (max (p1.length : Int) (p2.length : Int)) 1) then
    some ((⟨([] : (List Int)), ([] : (List Int)), ([] : (List Int)), ([] : (List Int)), 0, 0, ([] : (List Int))⟩ : T_ref13_Rule), 4)
  else
  (if p0 < 0 then
    some (W ((max (max (p1.length : Int) (p2.length : Int)) 1) - 1))
  else
  some p0
  ) >>= fun (v1 : Int) =>
  (if (if (p2.length : Int) < (p1.length : Int) then (p2.length : Int) else (p1.length : Int)) < (W ((max (max (p1.length : Int) (p2.length : Int)) 1) - 1)) then
    some (decide ((if (p2.length : Int) < (p1.length : Int) then (p2.length : Int) else (p1.length : Int)) > 0))
  else
  some false
  ) >>= fun (v2 : Bool) =>
  if v2 = true then
    some ((⟨([] : (List Int)), ([] : (List Int)), ([] : (List Int)), ([] : (List Int)), 0, 0, ([] : (List Int))⟩ : T_ref13_Rule), 4)
  else
  (if (p1.length : Int) = (W ((max (max (p1.length : Int) (p2.length : Int)) 1) - 1)) then
    m_ref02_Insert (p1, v1, 1) >>= fun (v4 : (List Int)) =>
    some v4
  else
  some p1
  ) >>= fun (v3 : (List Int)) =>
  (if (p2.length : Int) = (W ((max (max (p1.length : Int) (p2.length : Int)) 1) - 1)) then
    m_ref02_Insert (p2, v1, 1) >>= fun (v6 : (List Int)) =>
    some v6
  else
  some p2
  ) >>= fun (v5 : (List Int)) =>
  (if (v3.length : Int) < (max (max (p1.length : Int) (p2.length : Int)) 1) then
    m_ref13_put (v5, v1, 1) >>= fun (v8 : (List Int)) =>
    some v8
  else
  some v3
  ) >>= fun (v7 : (List Int)) =>
  (if (v5.length : Int) < (max (max (p1.length : Int) (p2.length : Int)) 1) then
    m_ref13_put (v7, v1, 1) >>= fun (v10 : (List Int)) =>
    some v10
  else
  some v5
  ) >>= fun (v9 : (List Int)) =>
  (
  m_ref13_Catenate_L1 (p1, p2, v1, v7, v9, 0) >>= fun (out : Unit ⊕ Unit) =>
  match out with
  | .inl _ =>
    some ((⟨([] : (List Int)), ([] : (List Int)), ([] : (List Int)), ([] : (List Int)), 0, 0, ([] : (List Int))⟩ : T_ref13_Rule), 5)
  | .inr (_) =>
    idx v7 v1 >>= fun v614 =>
    idx v9 v1 >>= fun v615 =>
    m_ref13_put (v7, v1, (W (v614 + v615))) >>= fun (v616 : (List Int)) =>
    m_ref02_Check v616 >>= fun (v617 : Int) =>
    if v617 ≠ 0 then
      some ((⟨([] : (List Int)), ([] : (List Int)), ([] : (List Int)), ([] : (List Int)), 0, 0, ([] : (List Int))⟩ : T_ref13_Rule), 7)
    else
    some ((⟨v7, v9, v616, ([] : (List Int)), v1, 0, ([] : (List Int))⟩ : T_ref13_Rule), 0)
  )
def P_ref13_Catenate : (Int × (List Int) × (List Int)) → (T_ref13_Rule × Int) → Prop := fun x r => match x, r with
  | (p0, p1, p2), (r0, r1) => ∀ H, PC prog env 11 ([(intD p0), (.lst ((List.map intD) p1)), (.lst ((List.map intD) p2))].map .dat) H (.tup [(.dat (T_ref13_Rule.toD r0)), (intPV r1)]) H
theorem w_ref13_Catenate : ∀ x r, m_ref13_Catenate x = some r → P_ref13_Catenate x r := by
  intro x r hm
  unfold m_ref13_Catenate at hm
  unfold P_ref13_Catenate
  obtain ⟨p0, p1, p2⟩ := x
  obtain ⟨r0, r1⟩ := r
  intro H
  refine PC_sx (ds := [(intD p0), (.lst ((List.map intD) p1)), (.lst ((List.map intD) p2))]) (fn := f11) (by kernel_rfl) (by kernel_rfl) rfl ?_ (by kernel_rfl)
  refine R_seq ?_
  refine R_G ?_
  refine G_run 2 ?_
  refine G_end ?_
  refine R_seq ?_
  refine R_G ?_
  refine G_run 1 ?_
  refine I_len intD p1 (es := (List.map intD) p1) rfl ?_
  refine G_run 1 ?_
  refine I_len intD p2 (es := (List.map intD) p2) rfl ?_
  refine G_semN rfl (by kernel_rfl) (fun _ => E_max3 (k := .i64) (m := (p1.length : Int)) (n := (p2.length : Int)) (q := 1) rfl (by kernel_rfl) (by kernel_rfl) (by kernel_rfl)) ?_
  refine G_run 1 ?_
  refine G_end ?_
  refine R_seq ?_
  refine R_seq ?_
  refine R_G ?_
  refine G_run 3 ?_
  refine G_end ?_
  refine R_ifp (p := p0 ≥ (max (max (p1.length : Int) (p2.length : Int)) 1)) (rfl) (fun hc => ?_) (fun hc => ?_)
  · replace hm := pos_inv hc hm
    refine R_seq ?_
    refine R_G ?_
    refine G_run 3 ?_
    refine G_end ?_
    refine R_ret ?_
    obtain ⟨rfl, rfl⟩ := inj2 hm
    exact ⟨trivial, fin_pure (by kernel_rfl)⟩
  replace hm := neg_inv hc hm
  refine R_skip ?_
  refine R_seq ?_
  refine R_seq ?_
  refine R_G ?_
  refine G_run 2 ?_
  refine G_end ?_
  obtain ⟨v1, hs, hm⟩ := bind_inv hm
  refine R_cut (fun d => ⟨sl d 114 [(0, (intPV v1)), (1, (.dat (.lst ((List.map intD) p1)))), (2, (.dat (.lst ((List.map intD) p2)))), (6, (.ptr 0 0)), (8, (intPV (max (max (p1.length : Int) (p2.length : Int)) 1)))], [(.box [(.dat (.lst ((List.map intD) []))), (.dat (.lst ((List.map intD) []))), (.dat (.lst ((List.map intD) []))), (.dat (.lst ((List.map intD) []))), (intPV 0), (intPV 0), (.dat (.lst ((List.map intD) [])))])]⟩) ?_ (fun d => ?_)
  · replace hm := hs
    clear hs
    refine R_ifp (p := p0 < 0) (rfl) (fun hc => ?_) (fun hc => ?_)
    · replace hm := pos_inv hc hm
      refine R_G ?_
      refine G_run 3 ?_
      refine G_end ?_
      obtain rfl := inj1 hm
      exact cut_leaf (by kernel_rfl)
    replace hm := neg_inv hc hm
    refine R_skip ?_
    obtain rfl := inj1 hm
    exact cut_leaf (by kernel_rfl)
  clear hs
  refine R_seq ?_
  refine R_G ?_
  refine G_run 1 ?_
  refine I_len intD p1 (es := (List.map intD) p1) rfl ?_
  refine G_run 1 ?_
  refine I_len intD p2 (es := (List.map intD) p2) rfl ?_
  refine G_semN rfl (by kernel_rfl) (fun _ => E_min (k := .i64) (m := (p1.length : Int)) (n := (p2.length : Int)) rfl (by kernel_rfl) (by kernel_rfl)) ?_
  refine G_run 1 ?_
  refine G_end ?_
  refine R_seq ?_
  refine R_seq ?_
  obtain ⟨v2, hs, hm⟩ := bind_inv hm
  refine R_cut (fun d => ⟨sl d 114 [(0, (intPV v1)), (1, (.dat (.lst ((List.map intD) p1)))), (2, (.dat (.lst ((List.map intD) p2)))), (6, (.ptr 0 0)), (8, (intPV (max (max (p1.length : Int) (p2.length : Int)) 1))), (39, (boolPV v2))], [(.box [(.dat (.lst ((List.map intD) []))), (.dat (.lst ((List.map intD) []))), (.dat (.lst ((List.map intD) []))), (.dat (.lst ((List.map intD) []))), (intPV 0), (intPV 0), (.dat (.lst ((List.map intD) [])))])]⟩) ?_ (fun d => ?_)
  · replace hm := hs
    clear hs
    refine R_G ?_
    refine G_run 5 ?_
    refine G_split (p := (if (p2.length : Int) < (p1.length : Int) then (p2.length : Int) else (p1.length : Int)) < (W ((max (max (p1.length : Int) (p2.length : Int)) 1) - 1))) 36 (rfl) (fun hc => ?_) (fun hc => ?_)
    · replace hm := pos_inv hc hm
      refine G_run 3 ?_
      refine G_end ?_
      obtain rfl := inj1 hm
      exact cut_leaf (by kernel_rfl)
    replace hm := neg_inv hc hm
    refine G_run 3 ?_
    refine G_end ?_
    obtain rfl := inj1 hm
    exact cut_leaf (by kernel_rfl)
  clear hs
  refine R_ifp (p := v2 = true) (bool_dec _) (fun hc => ?_) (fun hc => ?_)
  · replace hm := pos_inv hc hm
    refine R_seq ?_
    refine R_G ?_
    refine G_run 3 ?_
    refine G_end ?_
    refine R_ret ?_
    obtain ⟨rfl, rfl⟩ := inj2 hm
    exact ⟨trivial, fin_pure (by kernel_rfl)⟩
  replace hm := neg_inv hc hm
  refine R_skip ?_
  refine R_seq ?_
  refine R_G ?_
  refine G_run 4 ?_
  refine G_end ?_
  refine R_seq ?_
  refine R_seq ?_
  refine R_G ?_
  refine G_run 1 ?_
  refine I_len intD p1 (es := (List.map intD) p1) rfl ?_
  refine G_run 3 ?_
  refine G_end ?_
  obtain ⟨v3, hs, hm⟩ := bind_inv hm
  refine R_cut (fun d => ⟨sl d 114 [(0, (intPV v1)), (2, (.dat (.lst ((List.map intD) p2)))), (6, (.ptr 0 0)), (8, (intPV (max (max (p1.length : Int) (p2.length : Int)) 1))), (10, (.dat (.lst ((List.map intD) v3)))), (11, (.dat (.lst ((List.map intD) p2))))], [(.box [(.dat (.lst ((List.map intD) []))), (.dat (.lst ((List.map intD) []))), (.dat (.lst ((List.map intD) []))), (.dat (.lst ((List.map intD) []))), (intPV 0), (intPV 0), (.dat (.lst ((List.map intD) [])))])]⟩) ?_ (fun d => ?_)
  · replace hm := hs
    clear hs
    refine R_ifp (p := (p1.length : Int) = (W ((max (max (p1.length : Int) (p2.length : Int)) 1) - 1))) (eq_dec _ _) (fun hc => ?_) (fun hc => ?_)
    · replace hm := pos_inv hc hm
      refine R_G ?_
      refine G_run 2 ?_
      obtain ⟨v4, hx, hm⟩ := bind_inv hm
      have hq := w_ref02_Insert _ _ hx []
      refine G_callP hq ?_
      refine G_run 1 ?_
      refine G_end ?_
      obtain rfl := inj1 hm
      exact cut_leaf (by kernel_rfl)
    replace hm := neg_inv hc hm
    refine R_skip ?_
    obtain rfl := inj1 hm
    exact cut_leaf (by kernel_rfl)
  clear hs
  refine R_seq ?_
  refine R_seq ?_
  refine R_G ?_
  refine G_run 1 ?_
  refine I_len intD p2 (es := (List.map intD) p2) rfl ?_
  refine G_run 3 ?_
  refine G_end ?_
  obtain ⟨v5, hs, hm⟩ := bind_inv hm
  refine R_cut (fun d => ⟨sl d 114 [(0, (intPV v1)), (6, (.ptr 0 0)), (8, (intPV (max (max (p1.length : Int) (p2.length : Int)) 1))), (10, (.dat (.lst ((List.map intD) v3)))), (11, (.dat (.lst ((List.map intD) v5))))], [(.box [(.dat (.lst ((List.map intD) []))), (.dat (.lst ((List.map intD) []))), (.dat (.lst ((List.map intD) []))), (.dat (.lst ((List.map intD) []))), (intPV 0), (intPV 0), (.dat (.lst ((List.map intD) [])))])]⟩) ?_ (fun d => ?_)
  · replace hm := hs
    clear hs
    refine R_ifp (p := (p2.length : Int) = (W ((max (max (p1.length : Int) (p2.length : Int)) 1) - 1))) (eq_dec _ _) (fun hc => ?_) (fun hc => ?_)
    · replace hm := pos_inv hc hm
      refine R_G ?_
      refine G_run 2 ?_
      obtain ⟨v6, hx, hm⟩ := bind_inv hm
      have hq := w_ref02_Insert _ _ hx []
      refine G_callP hq ?_
      refine G_run 1 ?_
      refine G_end ?_
      obtain rfl := inj1 hm
      exact cut_leaf (by kernel_rfl)
    replace hm := neg_inv hc hm
    refine R_skip ?_
    obtain rfl := inj1 hm
    exact cut_leaf (by kernel_rfl)
  clear hs
  refine R_seq ?_
  refine R_seq ?_
  refine R_G ?_
  refine G_run 1 ?_
  refine I_len intD v3 (es := (List.map intD) v3) rfl ?_
  refine G_run 2 ?_
  refine G_end ?_
  obtain ⟨v7, hs, hm⟩ := bind_inv hm
  refine R_cut (fun d => ⟨sl d 114 [(0, (intPV v1)), (6, (.ptr 0 0)), (8, (intPV (max (max (p1.length : Int) (p2.length : Int)) 1))), (10, (.dat (.lst ((List.map intD) v7)))), (11, (.dat (.lst ((List.map intD) v5))))], [(.box [(.dat (.lst ((List.map intD) []))), (.dat (.lst ((List.map intD) []))), (.dat (.lst ((List.map intD) []))), (.dat (.lst ((List.map intD) []))), (intPV 0), (intPV 0), (.dat (.lst ((List.map intD) [])))])]⟩) ?_ (fun d => ?_)
  · replace hm := hs
    clear hs
    refine R_ifp (p := (v3.length : Int) < (max (max (p1.length : Int) (p2.length : Int)) 1)) (rfl) (fun hc => ?_) (fun hc => ?_)
    · replace hm := pos_inv hc hm
      refine R_G ?_
      refine G_run 2 ?_
      obtain ⟨v8, hx, hm⟩ := bind_inv hm
      have hq := w_ref13_put _ _ hx []
      refine G_callP hq ?_
      refine G_run 1 ?_
      refine G_end ?_
      obtain rfl := inj1 hm
      exact cut_leaf (by kernel_rfl)
    replace hm := neg_inv hc hm
    refine R_skip ?_
    obtain rfl := inj1 hm
    exact cut_leaf (by kernel_rfl)
  clear hs
  refine R_seq ?_
  refine R_seq ?_
  refine R_G ?_
  refine G_run 1 ?_
  refine I_len intD v5 (es := (List.map intD) v5) rfl ?_
  refine G_run 2 ?_
  refine G_end ?_
  obtain ⟨v9, hs, hm⟩ := bind_inv hm
  refine R_cut (fun d => ⟨sl d 114 [(0, (intPV v1)), (6, (.ptr 0 0)), (8, (intPV (max (max (p1.length : Int) (p2.length : Int)) 1))), (10, (.dat (.lst ((List.map intD) v7)))), (11, (.dat (.lst ((List.map intD) v9))))], [(.box [(.dat (.lst ((List.map intD) []))), (.dat (.lst ((List.map intD) []))), (.dat (.lst ((List.map intD) []))), (.dat (.lst ((List.map intD) []))), (intPV 0), (intPV 0), (.dat (.lst ((List.map intD) [])))])]⟩) ?_ (fun d => ?_)
  · replace hm := hs
    clear hs
    refine R_ifp (p := (v5.length : Int) < (max (max (p1.length : Int) (p2.length : Int)) 1)) (rfl) (fun hc => ?_) (fun hc => ?_)
    · replace hm := pos_inv hc hm
      refine R_G ?_
      refine G_run 2 ?_
      obtain ⟨v10, hx, hm⟩ := bind_inv hm
      have hq := w_ref13_put _ _ hx []
      refine G_callP hq ?_
      refine G_run 1 ?_
      refine G_end ?_
      obtain rfl := inj1 hm
      exact cut_leaf (by kernel_rfl)
    replace hm := neg_inv hc hm
    refine R_skip ?_
    obtain rfl := inj1 hm
    exact cut_leaf (by kernel_rfl)
  clear hs
  refine R_seq ?_
  refine R_seq ?_
  refine R_G ?_
  refine G_run 1 ?_
  refine G_end ?_
  refine R_block ?_
  obtain ⟨out, hs, hm⟩ := bind_inv hm
  refine R_loop ?_
  rcases out with _ | _
  · refine RL_use (w_ref13_Catenate_L1 _ _ hs) (by kernel_rfl) ?_
    clear hs
    intro e s hp
    obtain ⟨rfl, d, rfl⟩ := hp
    obtain ⟨rfl, rfl⟩ := inj2 hm
    exact ⟨trivial, fin_pure (by kernel_rfl)⟩
  · refine RL_use (w_ref13_Catenate_L1 _ _ hs) (by kernel_rfl) ?_
    clear hs
    intro e s hp
    obtain ⟨rfl, d, rfl⟩ := hp
    refine R_seq ?_
    refine R_GD ?_
    refine G_run 4 ?_
    obtain ⟨v614, hx, hm⟩ := bind_inv hm
    refine I_idx 1 intD v7 v1 v614 (es := (List.map intD) v7) (d := (intD v614)) rfl hx rfl rfl ?_
    refine G_run 3 ?_
    obtain ⟨v615, hx, hm⟩ := bind_inv hm
    refine I_idx 1 intD v9 v1 v615 (es := (List.map intD) v9) (d := (intD v615)) rfl hx rfl rfl ?_
    refine G_run 2 ?_
    obtain ⟨v616, hx, hm⟩ := bind_inv hm
    have hq := w_ref13_put _ _ hx []
    refine G_callP hq ?_
    refine G_run 1 ?_
    refine G_end ⟨by kernel_rfl, ?_⟩
    refine R_seq ?_
    refine R_seq ?_
    refine R_G ?_
    refine G_run 1 ?_
    obtain ⟨v617, hx, hm⟩ := bind_inv hm
    have hq := w_ref02_Check _ _ hx []
    refine G_callP hq ?_
    refine G_run 1 ?_
    refine G_end ?_
    refine R_ifp (p := v617 ≠ 0) (ne_dec _ _) (fun hc => ?_) (fun hc => ?_)
    · replace hm := pos_inv hc hm
      refine R_seq ?_
      refine R_G ?_
      refine G_run 3 ?_
      refine G_end ?_
      refine R_ret ?_
      obtain ⟨rfl, rfl⟩ := inj2 hm
      exact ⟨trivial, fin_pure (by kernel_rfl)⟩
    replace hm := neg_inv hc hm
    refine R_skip ?_
    refine R_seq ?_
    refine R_G ?_
    refine G_run 7 ?_
    refine G_end ?_
    refine R_ret ?_
    obtain ⟨rfl, rfl⟩ := inj2 hm
    exact ⟨trivial, fin_pure (by kernel_rfl)⟩
end Go.Proofs.Try
namespace Go.Proofs.Try
open Go Go.Pm
set_option linter.unusedVariables false
set_option maxRecDepth 2000
def m_ref02_Equal_L1 (x : ((List Int) × (List Int) × Int)) : Option (Unit ⊕ Unit) :=
  match x with
  | (p0, p1, v201) =>
  if v201 < (p0.length : Int) then
    idx p0 v201 >>= fun v601 =>
    idx p1 v201 >>= fun v602 =>
    if v601 ≠ v602 then
      some (Sum.inl ())
    else
    m_ref02_Equal_L1 (p0, p1, (W (v201 + 1)))
  else
  some (Sum.inr ())
  partial_fixpoint
def P_ref02_Equal_L1 : ((List Int) × (List Int) × Int) → (Unit ⊕ Unit) → Prop := fun x r => match x with
  | (p0, p1, v201) => ∀ st, prune 0 ((firstRegion (codeAt [1, 1, 0, 1, 0, 0] (bodyOf f14))).bind (env.hint 14).keepAt) st = ⟨kp 26 [(0, (.dat (.lst ((List.map intD) p0)))), (1, (.dat (.lst ((List.map intD) p1)))), (5, (intPV v201))], []⟩ →
    RL prog env (env.hint 14) true (codeAt [1, 1, 0, 1, 0, 0] (bodyOf f14)) 0 st (fun e s => match r with | .inl _ => e = .ret ∧ ∃ d, s = ⟨sl d 26 [(4, (boolPV false))], []⟩ | .inr (_) => e = .exit 0 ∧ ∃ d, s = ⟨sl d 26 [], []⟩)
theorem w_ref02_Equal_L1 : ∀ x r, m_ref02_Equal_L1 x = some r → P_ref02_Equal_L1 x r := by
  refine m_ref02_Equal_L1.partial_correctness _ (fun m_ref02_Equal_L1 w_ref02_Equal_L1 x r hm => ?_)
  unfold P_ref02_Equal_L1
  obtain ⟨p0, p1, v201⟩ := x
  intro st hst
  refine RL_at hst ?_
  clear hst
  refine R_seq ?_
  refine R_seq ?_
  refine R_G ?_
  refine G_run 2 ?_
  refine I_len intD p0 (es := (List.map intD) p0) rfl ?_
  refine G_run 1 ?_
  refine G_end ?_
  refine R_ifp (p := v201 < (p0.length : Int)) (rfl) (fun hc => ?_) (fun hc => ?_)
  · replace hm := pos_inv hc hm
    refine R_skip ?_
    refine R_seq ?_
    refine R_block ?_
    refine R_seq ?_
    refine R_GD ?_
    refine G_run 2 ?_
    obtain ⟨v601, hx, hm⟩ := bind_inv hm
    refine I_idx 1 intD p0 v201 v601 (es := (List.map intD) p0) (d := (intD v601)) rfl hx rfl rfl ?_
    refine G_run 3 ?_
    obtain ⟨v602, hx, hm⟩ := bind_inv hm
    refine I_idx 1 intD p1 v201 v602 (es := (List.map intD) p1) (d := (intD v602)) rfl hx rfl rfl ?_
    refine G_run 2 ?_
    refine G_end ⟨by kernel_rfl, ?_⟩
    refine R_ifp (p := v601 ≠ v602) (ne_dec _ _) (fun hc => ?_) (fun hc => ?_)
    · replace hm := pos_inv hc hm
      refine R_seq ?_
      refine R_G ?_
      refine G_run 1 ?_
      refine G_end ?_
      refine R_ret ?_
      obtain rfl := inj1 hm
      exact ⟨rfl, cut_leaf (by kernel_rfl)⟩
    replace hm := neg_inv hc hm
    refine R_skip ?_
    refine R_G ?_
    refine G_run 3 ?_
    refine G_end ?_
    exact w_ref02_Equal_L1 _ _ hm _ (by kernel_rfl)
  replace hm := neg_inv hc hm
  refine R_exit ?_
  obtain rfl := inj1 hm
  exact ⟨rfl, cut_leaf (by kernel_rfl)⟩
def m_ref02_Equal (x : ((List Int) × (List Int))) : Option Bool :=
  match x with
  | (p0, p1) =>
  if (p0.length : Int) ≠ (p1.length : Int) then
    some false
  else
  (
  m_ref02_Equal_L1 (p0, p1, 0) >>= fun (out : Unit ⊕ Unit) =>
  match out with
  | .inl _ =>
    some false
  | .inr (_) =>
    some true
  )
def P_ref02_Equal : ((List Int) × (List Int)) → Bool → Prop := fun x r => match x, r with
  | (p0, p1), r0 => ∀ H, PC prog env 14 ([(.lst ((List.map intD) p0)), (.lst ((List.map intD) p1))].map .dat) H (boolPV r0) H
theorem w_ref02_Equal : ∀ x r, m_ref02_Equal x = some r → P_ref02_Equal x r := by
  intro x r0 hm
  unfold m_ref02_Equal at hm
  unfold P_ref02_Equal
  obtain ⟨p0, p1⟩ := x
  intro H
  refine PC_sx (ds := [(.lst ((List.map intD) p0)), (.lst ((List.map intD) p1))]) (fn := f14) (by kernel_rfl) (by kernel_rfl) rfl ?_ (by kernel_rfl)
  refine R_seq ?_
  refine R_G ?_
  refine G_run 1 ?_
  refine G_end ?_
  refine R_seq ?_
  refine R_seq ?_
  refine R_G ?_
  refine G_run 1 ?_
  refine I_len intD p0 (es := (List.map intD) p0) rfl ?_
  refine G_run 1 ?_
  refine I_len intD p1 (es := (List.map intD) p1) rfl ?_
  refine G_run 1 ?_
  refine G_end ?_
  refine R_ifp (p := (p0.length : Int) ≠ (p1.length : Int)) (ne_dec _ _) (fun hc => ?_) (fun hc => ?_)
  · replace hm := pos_inv hc hm
    refine R_seq ?_
    refine R_G ?_
    refine G_run 1 ?_
    refine G_end ?_
    refine R_ret ?_
    obtain rfl := inj1 hm
    exact ⟨trivial, fin_pure (by kernel_rfl)⟩
  replace hm := neg_inv hc hm
  refine R_skip ?_
  refine R_seq ?_
  refine R_seq ?_
  refine R_G ?_
  refine G_run 1 ?_
  refine G_end ?_
  refine R_block ?_
  obtain ⟨out, hs, hm⟩ := bind_inv hm
  refine R_loop ?_
  rcases out with _ | _
  · refine RL_use (w_ref02_Equal_L1 _ _ hs) (by kernel_rfl) ?_
    clear hs
    intro e s hp
    obtain ⟨rfl, d, rfl⟩ := hp
    obtain rfl := inj1 hm
    exact ⟨trivial, fin_pure (by kernel_rfl)⟩
  · refine RL_use (w_ref02_Equal_L1 _ _ hs) (by kernel_rfl) ?_
    clear hs
    intro e s hp
    obtain ⟨rfl, d, rfl⟩ := hp
    refine R_seq ?_
    refine R_G ?_
    refine G_run 1 ?_
    refine G_end ?_
    refine R_ret ?_
    obtain rfl := inj1 hm
    exact ⟨trivial, fin_pure (by kernel_rfl)⟩
end Go.Proofs.Try
namespace Go.Proofs.Try
open Go Go.Pm
set_option linter.unusedVariables false
set_option maxRecDepth 2000
def m_ref13_Same (x : (T_ref13_Rule × T_ref13_Rule)) : Option Bool :=
  match x with
  | (p0, p1) =>
  m_ref02_Equal (p0.left, p1.left) >>= fun (v1 : Bool) =>
  if v1 = true then
    m_ref02_Equal (p0.right, p1.right) >>= fun (v2 : Bool) =>
    if v2 = true then
      m_ref02_Equal (p0.shape, p1.shape) >>= fun (v3 : Bool) =>
      if v3 = true then
        m_ref02_Equal (p0.starts, p1.starts) >>= fun (v4 : Bool) =>
        if v4 = true then
          if p0.axis = p1.axis then
            if p0.amount = p1.amount then
              m_ref02_Equal (p0.perm, p1.perm) >>= fun (v5 : Bool) =>
              some v5
            else
            some false
          else
          some false
        else
        some false
      else
      some false
    else
    some false
  else
  some false
def P_ref13_Same : (T_ref13_Rule × T_ref13_Rule) → Bool → Prop := fun x r => match x, r with
  | (p0, p1), r0 => ∀ H, PC prog env 33 ([(T_ref13_Rule.toD p0), (T_ref13_Rule.toD p1)].map .dat) H (boolPV r0) H
theorem w_ref13_Same : ∀ x r, m_ref13_Same x = some r → P_ref13_Same x r := by
  intro x r0 hm
  unfold m_ref13_Same at hm
  unfold P_ref13_Same
  obtain ⟨p0, p1⟩ := x
  intro H
  refine PC_sx (ds := [(T_ref13_Rule.toD p0), (T_ref13_Rule.toD p1)]) (fn := f33) (by kernel_rfl) (by kernel_rfl) rfl ?_ (by kernel_rfl)
  refine R_seq ?_
  refine R_G ?_
  refine G_run 3 ?_
  refine G_end ?_
  refine R_seq ?_
  refine R_G ?_
  refine G_run 4 ?_
  obtain ⟨v1, hx, hm⟩ := bind_inv hm
  have hq := w_ref02_Equal _ _ hx []
  refine G_callP hq ?_
  refine G_run 1 ?_
  refine G_split (p := v1 = true) 10 (bool_dec _) (fun hc => ?_) (fun hc => ?_)
  · replace hm := pos_inv hc hm
    refine G_run 4 ?_
    obtain ⟨v2, hx, hm⟩ := bind_inv hm
    have hq := w_ref02_Equal _ _ hx []
    refine G_callP hq ?_
    refine G_run 2 ?_
    refine G_split (p := v2 = true) 17 (bool_dec _) (fun hc => ?_) (fun hc => ?_)
    · replace hm := pos_inv hc hm
      refine G_run 4 ?_
      obtain ⟨v3, hx, hm⟩ := bind_inv hm
      have hq := w_ref02_Equal _ _ hx []
      refine G_callP hq ?_
      refine G_run 2 ?_
      refine G_split (p := v3 = true) 24 (bool_dec _) (fun hc => ?_) (fun hc => ?_)
      · replace hm := pos_inv hc hm
        refine G_run 4 ?_
        obtain ⟨v4, hx, hm⟩ := bind_inv hm
        have hq := w_ref02_Equal _ _ hx []
        refine G_callP hq ?_
        refine G_run 2 ?_
        refine G_split (p := v4 = true) 31 (bool_dec _) (fun hc => ?_) (fun hc => ?_)
        · replace hm := pos_inv hc hm
          refine G_run 7 ?_
          refine G_split (p := p0.axis = p1.axis) 38 (eq_dec _ _) (fun hc => ?_) (fun hc => ?_)
          · replace hm := pos_inv hc hm
            refine G_run 7 ?_
            refine G_split (p := p0.amount = p1.amount) 45 (eq_dec _ _) (fun hc => ?_) (fun hc => ?_)
            · replace hm := pos_inv hc hm
              refine G_run 4 ?_
              obtain ⟨v5, hx, hm⟩ := bind_inv hm
              have hq := w_ref02_Equal _ _ hx []
              refine G_callP hq ?_
              refine G_run 2 ?_
              refine G_end ?_
              refine R_ret ?_
              obtain rfl := inj1 hm
              exact ⟨trivial, fin_pure (by kernel_rfl)⟩
            replace hm := neg_inv hc hm
            refine G_run 7 ?_
            refine G_end ?_
            refine R_ret ?_
            obtain rfl := inj1 hm
            exact ⟨trivial, fin_pure (by kernel_rfl)⟩
          replace hm := neg_inv hc hm
          refine G_run 14 ?_
          refine G_end ?_
          refine R_ret ?_
          obtain rfl := inj1 hm
          exact ⟨trivial, fin_pure (by kernel_rfl)⟩
        replace hm := neg_inv hc hm
        refine G_run 21 ?_
        refine G_end ?_
        refine R_ret ?_
        obtain rfl := inj1 hm
        exact ⟨trivial, fin_pure (by kernel_rfl)⟩
      replace hm := neg_inv hc hm
      refine G_run 28 ?_
      refine G_end ?_
      refine R_ret ?_
      obtain rfl := inj1 hm
      exact ⟨trivial, fin_pure (by kernel_rfl)⟩
    replace hm := neg_inv hc hm
    refine G_run 35 ?_
    refine G_end ?_
    refine R_ret ?_
    obtain rfl := inj1 hm
    exact ⟨trivial, fin_pure (by kernel_rfl)⟩
  replace hm := neg_inv hc hm
  refine G_run 42 ?_
  refine G_end ?_
  refine R_ret ?_
  obtain rfl := inj1 hm
  exact ⟨trivial, fin_pure (by kernel_rfl)⟩
end Go.Proofs.Try
namespace Go.Proofs.Try
open Go Go.Pm
set_option linter.unusedVariables false
set_option maxRecDepth 2000
def m_law13_same (x : (T_rule_Rule × Int × T_ref13_Rule × Int)) : Option Bool :=
  match x with
  | (p0, p1, p2, p3) =>
  if p1 = p3 then
    m_ref13_Same ((⟨p0.left, p0.right, p0.shape, p0.starts, p0.axis, p0.amount, p0.perm⟩ : T_ref13_Rule), p2) >>= fun (v1 : Bool) =>
    if v1 = true then
      if p3 = 0 then
        some true
      else
      some (p0.axis == 0)
    else
    some false
  else
  some false
def P_law13_same : (T_rule_Rule × Int × T_ref13_Rule × Int) → Bool → Prop := fun x r => match x, r with
  | (p0, p1, p2, p3), r0 => ∀ H, PC prog env 12 ([(T_rule_Rule.toD p0), (intD p1), (T_ref13_Rule.toD p2), (intD p3)].map .dat) H (boolPV r0) H
theorem w_law13_same : ∀ x r, m_law13_same x = some r → P_law13_same x r := by
  intro x r0 hm
  unfold m_law13_same at hm
  unfold P_law13_same
  obtain ⟨p0, p1, p2, p3⟩ := x
  intro H
  refine PC_sx (ds := [(T_rule_Rule.toD p0), (intD p1), (T_ref13_Rule.toD p2), (intD p3)]) (fn := f12) (by kernel_rfl) (by kernel_rfl) rfl ?_ (by kernel_rfl)
  refine R_seq ?_
  refine R_G ?_
  refine G_run 3 ?_
  refine G_end ?_
  refine R_seq ?_
  refine R_G ?_
  refine G_run 4 ?_
  refine G_split (p := p1 = p3) 12 (eq_dec _ _) (fun hc => ?_) (fun hc => ?_)
  · replace hm := pos_inv hc hm
    refine G_run 2 ?_
    obtain ⟨v1, hx, hm⟩ := bind_inv hm
    have hq := w_ref13_Same _ _ hx []
    refine G_callP hq ?_
    refine G_run 2 ?_
    refine G_split (p := v1 = true) 17 (bool_dec _) (fun hc => ?_) (fun hc => ?_)
    · replace hm := pos_inv hc hm
      refine G_run 3 ?_
      refine G_split (p := p3 = 0) 20 (eq_dec _ _) (fun hc => ?_) (fun hc => ?_)
      · replace hm := pos_inv hc hm
        refine G_run 6 ?_
        refine G_end ?_
        refine R_ret ?_
        obtain rfl := inj1 hm
        exact ⟨trivial, fin_pure (by kernel_rfl)⟩
      replace hm := neg_inv hc hm
      refine G_run 6 ?_
      refine G_end ?_
      refine R_ret ?_
      obtain rfl := inj1 hm
      exact ⟨trivial, fin_pure (by kernel_rfl)⟩
    replace hm := neg_inv hc hm
    refine G_run 9 ?_
    refine G_end ?_
    refine R_ret ?_
    obtain rfl := inj1 hm
    exact ⟨trivial, fin_pure (by kernel_rfl)⟩
  replace hm := neg_inv hc hm
  refine G_run 14 ?_
  refine G_end ?_
  refine R_ret ?_
  obtain rfl := inj1 hm
  exact ⟨trivial, fin_pure (by kernel_rfl)⟩
end Go.Proofs.Try
namespace Go.Proofs.Try
open Go Go.Pm
set_option linter.unusedVariables false
set_option maxRecDepth 2000
def m_ref02_Cells (x : (List Int)) : Option Int :=
  match x with
  | p0 =>
  m_ref02_Check p0 >>= fun (v1 : Int) =>
  if v1 ≠ 0 then
    some 0
  else
  m_ref01_Product p0 >>= fun ((v2, v3) : (Int × Int)) =>
  some v2
def P_ref02_Cells : (List Int) → Int → Prop := fun x r => match x, r with
  | p0, r0 => ∀ H, PC prog env 13 ([(.lst ((List.map intD) p0))].map .dat) H (intPV r0) H
theorem w_ref02_Cells : ∀ x r, m_ref02_Cells x = some r → P_ref02_Cells x r := by
  intro p0 r0 hm
  unfold m_ref02_Cells at hm
  unfold P_ref02_Cells
  intro H
  refine PC_sx (ds := [(.lst ((List.map intD) p0))]) (fn := f13) (by kernel_rfl) (by kernel_rfl) rfl ?_ (by kernel_rfl)
  refine R_seq ?_
  refine R_G ?_
  refine G_run 1 ?_
  refine G_end ?_
  refine R_seq ?_
  refine R_seq ?_
  refine R_G ?_
  refine G_run 1 ?_
  obtain ⟨v1, hx, hm⟩ := bind_inv hm
  have hq := w_ref02_Check _ _ hx []
  refine G_callP hq ?_
  refine G_run 1 ?_
  refine G_end ?_
  refine R_ifp (p := v1 ≠ 0) (ne_dec _ _) (fun hc => ?_) (fun hc => ?_)
  · replace hm := pos_inv hc hm
    refine R_seq ?_
    refine R_G ?_
    refine G_run 1 ?_
    refine G_end ?_
    refine R_ret ?_
    obtain rfl := inj1 hm
    exact ⟨trivial, fin_pure (by kernel_rfl)⟩
  replace hm := neg_inv hc hm
  refine R_skip ?_
  refine R_seq ?_
  refine R_G ?_
  refine G_run 1 ?_
  obtain ⟨⟨v2, v3⟩, hx, hm⟩ := bind_inv hm
  have hq := w_ref01_Product _ _ hx []
  refine G_callP hq ?_
  refine G_run 5 ?_
  refine G_end ?_
  refine R_seq ?_
  refine R_G ?_
  refine G_run 2 ?_
  refine G_end ?_
  refine R_ret ?_
  obtain rfl := inj1 hm
  exact ⟨trivial, fin_pure (by kernel_rfl)⟩
end Go.Proofs.Try
namespace Go.Proofs.Try
open Go Go.Pm
set_option linter.unusedVariables false
set_option maxRecDepth 2000
def m_law13_RuleCatenates (x : (Int × (List Int) × (List Int))) : Option Bool :=
  match x with
  | (p0, p1, p2) =>
  (m_law13_awake () >>= fun (v2 : Bool) =>
  if v2 = false then
    some true
  else
  m_ref02_Check p1 >>= fun (v3 : Int) =>
  if v3 ≠ 0 then
    some true
  else
  m_ref02_Check p2 >>= fun (v4 : Int) =>
  if v4 ≠ 0 then
    some true
  else
  m_law13_axis p0 >>= fun (v5 : Bool) =>
  some (!v5)
  ) >>= fun (v1 : Bool) =>
  if v1 = true then
    m_law13_awake () >>= fun (v6 : Bool) =>
    some v6
  else
  m_rule_Catenate (p0, p1, p2) >>= fun ((v7, v8) : (T_rule_Rule × Int)) =>
  m_ref13_Catenate (p0, p1, p2) >>= fun ((v9, v10) : (T_ref13_Rule × Int)) =>
  m_law13_same ((⟨v7.left, v7.right, v7.shape, v7.starts, v7.axis, v7.amount, v7.perm⟩ : T_rule_Rule), v8, v9, v10) >>= fun (v11 : Bool) =>
  if v11 = false then
    some false
  else
  if v10 ≠ 0 then
    some true
  else
  m_ref02_Cells v7.shape >>= fun (v12 : Int) =>
  m_ref02_Cells v7.left >>= fun (v13 : Int) =>
  m_ref02_Cells v7.right >>= fun (v14 : Int) =>
  some (v12 == (W (v13 + v14)))
def P_law13_RuleCatenates : (Int × (List Int) × (List Int)) → Bool → Prop := fun x r => match x, r with
  | (p0, p1, p2), r0 => ∀ H, PC prog env 3 ([(intD p0), (.lst ((List.map intD) p1)), (.lst ((List.map intD) p2))].map .dat) H (boolPV r0) H
theorem w_law13_RuleCatenates : ∀ x r, m_law13_RuleCatenates x = some r → P_law13_RuleCatenates x r := by
  intro x r0 hm
  unfold m_law13_RuleCatenates at hm
  unfold P_law13_RuleCatenates
  obtain ⟨p0, p1, p2⟩ := x
  intro H
  refine PC_sx (ds := [(intD p0), (.lst ((List.map intD) p1)), (.lst ((List.map intD) p2))]) (fn := f3) (by kernel_rfl) (by kernel_rfl) rfl ?_ (by kernel_rfl)
  refine R_seq ?_
  refine R_G ?_
  refine G_run 1 ?_
  refine G_end ?_
  refine R_seq ?_
  refine R_seq ?_
  obtain ⟨v1, hs, hm⟩ := bind_inv hm
  refine R_cut (fun d => ⟨sl d 64 [(0, (intPV p0)), (1, (.dat (.lst ((List.map intD) p1)))), (2, (.dat (.lst ((List.map intD) p2)))), (27, (boolPV v1))], []⟩) ?_ (fun d => ?_)
  · replace hm := hs
    clear hs
    refine R_G ?_
    obtain ⟨v2, hx, hm⟩ := bind_inv hm
    have hq := w_law13_awake _ _ hx []
    refine G_callP hq ?_
    refine G_run 2 ?_
    refine G_split (p := v2 = false) 13 (not_dec _) (fun hc => ?_) (fun hc => ?_)
    · replace hm := pos_inv hc hm
      refine G_run 14 ?_
      refine G_end ?_
      obtain rfl := inj1 hm
      exact cut_leaf (by kernel_rfl)
    replace hm := neg_inv hc hm
    refine G_run 1 ?_
    obtain ⟨v3, hx, hm⟩ := bind_inv hm
    have hq := w_ref02_Check _ _ hx []
    refine G_callP hq ?_
    refine G_run 3 ?_
    refine G_split (p := v3 ≠ 0) 18 (ne_dec _ _) (fun hc => ?_) (fun hc => ?_)
    · replace hm := pos_inv hc hm
      refine G_run 9 ?_
      refine G_end ?_
      obtain rfl := inj1 hm
      exact cut_leaf (by kernel_rfl)
    replace hm := neg_inv hc hm
    refine G_run 1 ?_
    obtain ⟨v4, hx, hm⟩ := bind_inv hm
    have hq := w_ref02_Check _ _ hx []
    refine G_callP hq ?_
    refine G_run 3 ?_
    refine G_split (p := v4 ≠ 0) 23 (ne_dec _ _) (fun hc => ?_) (fun hc => ?_)
    · replace hm := pos_inv hc hm
      refine G_run 4 ?_
      refine G_end ?_
      obtain rfl := inj1 hm
      exact cut_leaf (by kernel_rfl)
    replace hm := neg_inv hc hm
    refine G_run 1 ?_
    obtain ⟨v5, hx, hm⟩ := bind_inv hm
    have hq := w_law13_axis _ _ hx []
    refine G_callP hq ?_
    refine G_run 2 ?_
    refine G_end ?_
    obtain rfl := inj1 hm
    exact cut_leaf (by kernel_rfl)
  clear hs
  refine R_ifp (p := v1 = true) (bool_dec _) (fun hc => ?_) (fun hc => ?_)
  · replace hm := pos_inv hc hm
    refine R_seq ?_
    refine R_G ?_
    obtain ⟨v6, hx, hm⟩ := bind_inv hm
    have hq := w_law13_awake _ _ hx []
    refine G_callP hq ?_
    refine G_run 1 ?_
    refine G_end ?_
    refine R_ret ?_
    obtain rfl := inj1 hm
    exact ⟨trivial, fin_pure (by kernel_rfl)⟩
  replace hm := neg_inv hc hm
  refine R_skip ?_
  refine R_seq ?_
  refine R_G ?_
  refine G_run 3 ?_
  obtain ⟨⟨v7, v8⟩, hx, hm⟩ := bind_inv hm
  have hq := w_rule_Catenate _ _ hx []
  refine G_callP hq ?_
  refine G_run 6 ?_
  refine G_end ?_
  refine R_seq ?_
  refine R_G ?_
  refine G_run 3 ?_
  obtain ⟨⟨v9, v10⟩, hx, hm⟩ := bind_inv hm
  have hq := w_ref13_Catenate _ _ hx []
  refine G_callP hq ?_
  refine G_run 6 ?_
  refine G_end ?_
  refine R_seq ?_
  refine R_seq ?_
  refine R_G ?_
  refine G_run 4 ?_
  obtain ⟨v11, hx, hm⟩ := bind_inv hm
  have hq := w_law13_same _ _ hx []
  refine G_callP hq ?_
  refine G_run 1 ?_
  refine G_end ?_
  refine R_ifp (p := v11 = false) (not_dec _) (fun hc => ?_) (fun hc => ?_)
  · replace hm := pos_inv hc hm
    refine R_seq ?_
    refine R_G ?_
    refine G_run 1 ?_
    refine G_end ?_
    refine R_ret ?_
    obtain rfl := inj1 hm
    exact ⟨trivial, fin_pure (by kernel_rfl)⟩
  replace hm := neg_inv hc hm
  refine R_skip ?_
  refine R_seq ?_
  refine R_GD ?_
  refine G_run 3 ?_
  refine G_split (p := v10 ≠ 0) 51 (ne_dec _ _) (fun hc => ?_) (fun hc => ?_)
  · replace hm := pos_inv hc hm
    refine G_run 13 ?_
    refine G_end ⟨by kernel_rfl, ?_⟩
    refine R_ret ?_
    obtain rfl := inj1 hm
    exact ⟨trivial, fin_pure (by kernel_rfl)⟩
  replace hm := neg_inv hc hm
  refine G_run 2 ?_
  obtain ⟨v12, hx, hm⟩ := bind_inv hm
  have hq := w_ref02_Cells _ _ hx []
  refine G_callP hq ?_
  refine G_run 2 ?_
  obtain ⟨v13, hx, hm⟩ := bind_inv hm
  have hq := w_ref02_Cells _ _ hx []
  refine G_callP hq ?_
  refine G_run 2 ?_
  obtain ⟨v14, hx, hm⟩ := bind_inv hm
  have hq := w_ref02_Cells _ _ hx []
  refine G_callP hq ?_
  refine G_run 4 ?_
  refine G_end ⟨by kernel_rfl, ?_⟩
  refine R_ret ?_
  obtain rfl := inj1 hm
  exact ⟨trivial, fin_pure (by kernel_rfl)⟩
end Go.Proofs.Try
namespace Go.Proofs.Try
open Go Go.Pm
set_option linter.unusedVariables false
set_option linter.unusedSimpArgs false
set_option maxRecDepth 2000
/-- lists that a machine can hold -/
def Sm (n : Nat) : Prop := n ≤ 9223372036854775807
theorem idx_ok {α : Type} {l : List α} {j : Nat} (h : j < l.length) : idx l (j : Int) = some l[j] := by simp [idx, h]
theorem app_ok {α : Type} {b : Nat} {l es : List α} (h : (l.length + es.length) * b ≤ room) : app b l es = some (l ++ es) := if_pos h
theorem W_ok {n : Int} (h1 : -9223372036854775808 ≤ n) (h2 : n < 9223372036854775808) : W n = n := wrap_i64 h1 h2
theorem W_succ {j : Nat} (h : j < 9223372036854775807) : W ((j : Int) + 1) = ((j + 1 : Nat) : Int) := wrap_succ h
/-! a loop over a list: what lies behind, what lies ahead -/
section
variable {α : Type} {p s : List α} {x : α}
theorem mid_lt : ((p.length : Int) < ((p ++ x :: s).length : Int)) := by simp; omega
theorem end_lt : ¬ ((p.length : Int) < ((p ++ ([] : List α)).length : Int)) := by simp
theorem mid_idx : idx (p ++ x :: s) (p.length : Int) = some x := by simp [idx]
theorem mid_app : p ++ x :: s = (p ++ [x]) ++ s := by simp
theorem mid_W (hs : Sm (p ++ x :: s).length) : W ((p.length : Int) + 1) = ((p ++ [x]).length : Int) := by
  unfold Sm at hs
  rw [W_ok (by omega) (by simp at hs; omega)]; simp
end
theorem bind_ok {α β : Type} (a : α) (f : α → Option β) : (some a >>= f) = f a := rfl

theorem Equal_L1 : ∀ (s t p q : List Int), s.length = t.length → p.length = q.length → Sm (p ++ s).length → m_ref02_Equal_L1 (p ++ s, q ++ t, (p.length : Int)) = some (if s = t then .inr () else .inl ())
  | [], [], p, q, _, _, hs => by
    rw [m_ref02_Equal_L1]; simp only [end_lt, if_false, if_true]
  | x :: s, y :: t, p, q, h1, h2, hs => by
    rw [m_ref02_Equal_L1]
    have ih := Equal_L1 s t (p ++ [x]) (q ++ [y]) (by simpa using h1) (by simp [h2]) (by rw [← mid_app]; exact hs)
    rw [← mid_app, ← mid_app] at ih
    simp only [mid_lt, if_true, mid_idx, bind_ok, mid_W hs, ih]
    rw [h2, mid_idx]
    by_cases he : x = y <;> simp [he, bind_ok]
  | [], _ :: _, _, _, h, _, _ => by cases h
  | _ :: _, [], _, _, h, _, _ => by cases h
theorem Equal_ok (a b : List Int) (hs : Sm a.length) : m_ref02_Equal (a, b) = some (decide (a = b)) := by
  simp only [m_ref02_Equal]
  by_cases h : a.length = b.length
  · have e := Equal_L1 a b [] [] h rfl hs
    have e2 : ¬ ((a.length : Int) ≠ (b.length : Int)) := by omega
    simp only [e2, if_false]
    have e3 : m_ref02_Equal_L1 (a, b, 0) = _ := e
    rw [e3]
    by_cases hab : a = b
    · subst hab; simp
    · rw [if_neg hab, decide_eq_false hab]; rfl
  · have e2 : ((a.length : Int) ≠ (b.length : Int)) := by omega
    have e3 : a ≠ b := fun e => h (by rw [e])
    rw [if_pos e2, decide_eq_false e3]

/-- the product, exactly -/
def prodI (l : List Int) : Int := l.foldl (· * ·) 1
def negB (l : List Int) : Bool := l.any fun d => decide (d < 0)
def bigB (l : List Int) : Bool := l.any fun d => decide (d > 65536)
def prodR (l : List Int) : Int × Int := if negB l then (0, 6) else if bigB l then (0, 7) else if prodI l > 65536 then (0, 7) else (prodI l, 0)
def checkR (l : List Int) : Int := if negB l then 6 else if l.length > 16 ∨ bigB l = true ∨ prodI l > 65536 then 7 else 0
def cellsR (l : List Int) : Int := if checkR l = 0 then prodI l else 0
theorem foldl_mul : ∀ (l : List Int) (x : Int), l.foldl (· * ·) x = x * l.foldl (· * ·) 1
  | [], x => by simp
  | d :: l, x => by rw [List.foldl_cons, foldl_mul l (x * d), List.foldl_cons, foldl_mul l (1 * d), Int.one_mul, Int.mul_assoc]
theorem prodI_cons (d : Int) (l : List Int) : prodI (d :: l) = d * prodI l := by rw [prodI, List.foldl_cons, foldl_mul, Int.one_mul]; rfl
theorem prodI_nil : prodI [] = 1 := rfl
theorem prodI_append (a b : List Int) : prodI (a ++ b) = prodI a * prodI b := by rw [prodI, prodI, prodI, List.foldl_append, foldl_mul]
theorem prodI_pos : ∀ {l : List Int}, (∀ d ∈ l, 1 ≤ d) → 1 ≤ prodI l
  | [], _ => by simp [prodI]
  | d :: l, h => by
    have h1 := prodI_pos (l := l) (fun x hx => h x (List.mem_cons_of_mem _ hx))
    have h2 := h d (List.mem_cons_self ..)
    rw [prodI_cons]
    have := Int.mul_le_mul h2 h1 (by omega) (by omega)
    omega
theorem prodI_zero {l : List Int} (h : (0 : Int) ∈ l) : prodI l = 0 := by
  obtain ⟨s, t, rfl⟩ := List.append_of_mem h
  rw [prodI_append, prodI_cons]; simp
theorem negB_cons (d : Int) (l : List Int) : negB (d :: l) = (decide (d < 0) || negB l) := rfl
theorem bigB_cons (d : Int) (l : List Int) : bigB (d :: l) = (decide (d > 65536) || bigB l) := rfl

theorem Prod_L1 : ∀ (s p : List Int) (z : Bool), Sm (p ++ s).length → m_ref01_Product_L1 (p ++ s, z, (p.length : Int)) = some (if negB s then .inl () else .inr (z || s.any (· == 0)))
  | [], p, z, hs => by
    rw [m_ref01_Product_L1]; simp only [end_lt, if_false]; simp [negB]
  | x :: s, p, z, hs => by
    rw [m_ref01_Product_L1]
    have ih := fun z => Prod_L1 s (p ++ [x]) z (by rw [← mid_app]; exact hs)
    rw [← mid_app] at ih
    simp only [mid_lt, if_true, mid_idx, bind_ok, mid_W hs, ih, negB_cons]
    by_cases hn : x < 0
    · simp [hn]
    · cases z <;> by_cases hz : x = 0 <;> simp [hn, hz]
theorem Prod_L2 : ∀ (s p : List Int) (z : Bool), Sm (p ++ s).length → m_ref01_Product_L2 (p ++ s, z, (p.length : Int)) = some (if bigB s then .inl () else .inr ())
  | [], p, z, hs => by
    rw [m_ref01_Product_L2]; simp only [end_lt, if_false]; simp [bigB]
  | x :: s, p, z, hs => by
    rw [m_ref01_Product_L2]
    have ih := Prod_L2 s (p ++ [x]) z (by rw [← mid_app]; exact hs)
    rw [← mid_app] at ih
    simp only [mid_lt, if_true, mid_idx, bind_ok, mid_W hs, ih, bigB_cons]
    by_cases hn : x > 65536 <;> simp [hn]
theorem Prod_L3 : ∀ (s p : List Int) (m : Int), Sm (p ++ s).length → (∀ d ∈ s, 1 ≤ d ∧ d ≤ 65536) → 1 ≤ m → m ≤ 65536 → m_ref01_Product_L3 (p ++ s, m, (p.length : Int)) = some (if m * prodI s > 65536 then .inl () else .inr (m * prodI s))
  | [], p, m, hs, hd, h1, h2 => by
    rw [m_ref01_Product_L3]; simp only [end_lt, if_false, prodI_nil, Int.mul_one]
    rw [if_neg (by omega)]
  | x :: s, p, m, hs, hd, h1, h2 => by
    rw [m_ref01_Product_L3]
    have hx := hd x (List.mem_cons_self ..)
    have b1 := Int.mul_le_mul h2 hx.2 (by omega) (by omega)
    have b2 := Int.mul_le_mul h1 hx.1 (by omega) (by omega)
    have hw : W (m * x) = m * x := W_ok (by omega) (by omega)
    have hds : ∀ d ∈ s, 1 ≤ d ∧ d ≤ 65536 := fun d h => hd d (List.mem_cons_of_mem _ h)
    simp only [mid_lt, if_true, mid_idx, bind_ok, mid_W hs, hw, prodI_cons]
    rw [← Int.mul_assoc]
    by_cases hn : m * x > 65536
    · have hp := prodI_pos (l := s) (fun d h => (hds d h).1)
      have : m * x * 1 ≤ m * x * prodI s := Int.mul_le_mul_of_nonneg_left hp (by omega)
      rw [if_pos hn, if_pos (by omega)]
    · have ih := Prod_L3 s (p ++ [x]) (m * x) (by rw [← mid_app]; exact hs) hds (by omega) (by omega)
      rw [← mid_app] at ih
      rw [if_neg hn, ih]
theorem neg_all {l : List Int} (h : negB l = false) : ∀ d ∈ l, 0 ≤ d := fun d hd => by
  have := List.any_eq_false.1 h d hd
  simp at this; omega
theorem big_all {l : List Int} (h : bigB l = false) : ∀ d ∈ l, d ≤ 65536 := fun d hd => by
  have := List.any_eq_false.1 h d hd
  simp at this; omega
theorem Product_ok (l : List Int) (hs : Sm l.length) : m_ref01_Product l = some (prodR l) := by
  have e1 : m_ref01_Product_L1 (l, false, 0) = _ := Prod_L1 l [] false hs
  have e2 : ∀ z, m_ref01_Product_L2 (l, z, 0) = _ := fun z => Prod_L2 l [] z hs
  simp only [m_ref01_Product, e1, bind_ok, prodR]
  by_cases hn : negB l = true
  · simp [hn]
  · have hn' : negB l = false := by simpa using hn
    simp only [hn', Bool.false_eq_true, if_false, Bool.false_or, e2, bind_ok]
    by_cases hb : bigB l = true
    · simp [hb]
    · have hb' : bigB l = false := by simpa using hb
      simp only [hb', Bool.false_eq_true, if_false]
      by_cases hz : (l.any (· == 0)) = true
      · have : prodI l = 0 := prodI_zero (by simpa using hz)
        simp [hz, this]
      · have hz' : l.any (· == 0) = false := (Bool.not_eq_true _).mp hz
        have e3 : m_ref01_Product_L3 (l, 1, 0) = _ := Prod_L3 l [] 1 hs (fun d hd => by
          have h1 := neg_all hn' d hd
          have h2 := big_all hb' d hd
          have h3 : d ≠ 0 := fun e => by have := List.any_eq_false.1 hz' d hd; simp [e] at this
          omega) (by omega) (by omega)
        simp only [hz', Bool.false_eq_true, if_false, e3, bind_ok, Int.one_mul]
        by_cases hp : prodI l > 65536 <;> simp [hp]
theorem Check_L1 : ∀ (s p : List Int), Sm (p ++ s).length → m_ref02_Check_L1 (p ++ s, (p.length : Int)) = some (if negB s then .inl () else .inr ())
  | [], p, hs => by
    rw [m_ref02_Check_L1]; simp only [end_lt, if_false]; simp [negB]
  | x :: s, p, hs => by
    rw [m_ref02_Check_L1]
    have ih := Check_L1 s (p ++ [x]) (by rw [← mid_app]; exact hs)
    rw [← mid_app] at ih
    simp only [mid_lt, if_true, mid_idx, bind_ok, mid_W hs, ih, negB_cons]
    by_cases hn : x < 0 <;> simp [hn]
theorem Check_ok (l : List Int) (hs : Sm l.length) : m_ref02_Check l = some (checkR l) := by
  have e1 : m_ref02_Check_L1 (l, 0) = _ := Check_L1 l [] hs
  simp only [m_ref02_Check, e1, bind_ok, checkR, Product_ok l hs]
  by_cases hn : negB l = true
  · simp [hn]
  · simp only [hn, if_false, prodR, Bool.false_eq_true]
    by_cases hl : l.length > 16
    · have : (l.length : Int) > 16 := by omega
      simp [hl, this, bind_ok]
    · have : ¬ (l.length : Int) > 16 := by omega
      by_cases hb : bigB l = true
      · simp [hl, this, hb, bind_ok]
      · by_cases hp : prodI l > 65536 <;> simp [hl, this, hb, hp, bind_ok]
theorem Cells_ok (l : List Int) (hs : Sm l.length) : m_ref02_Cells l = some (cellsR l) := by
  simp only [m_ref02_Cells, Check_ok l hs, bind_ok, Product_ok l hs, cellsR]
  by_cases hc : checkR l = 0
  · have : (prodR l).1 = prodI l := by
      unfold checkR at hc
      unfold prodR
      by_cases hn : negB l = true
      · simp [hn] at hc
      · by_cases hb : bigB l = true
        · simp [hn, hb] at hc
        · by_cases hp : prodI l > 65536
          · simp [hn, hb, hp] at hc
          · simp [hn, hb, hp]
    simp [hc, this]
  · simp [hc]
end Go.Proofs.Try
namespace Go.Proofs.Try
open Go Go.Pm
set_option linter.unusedVariables false
set_option linter.unusedSimpArgs false
set_option maxRecDepth 2000
theorem sEqual_L1 : ∀ (s t p q : List Int), s.length = t.length → p.length = q.length → Sm (p ++ s).length → m_slices_Equal_int_int_L1 (p ++ s, q ++ t, (p.length : Int)) = some (if s = t then .inr () else .inl ())
  | [], [], p, q, _, _, hs => by
    rw [m_slices_Equal_int_int_L1]; simp only [end_lt, if_false, if_true]
  | x :: s, y :: t, p, q, h1, h2, hs => by
    rw [m_slices_Equal_int_int_L1]
    have ih := sEqual_L1 s t (p ++ [x]) (q ++ [y]) (by simpa using h1) (by simp [h2]) (by rw [← mid_app]; exact hs)
    rw [← mid_app, ← mid_app] at ih
    simp only [mid_lt, if_true, mid_idx, bind_ok, mid_W hs, ih]
    rw [h2, mid_idx]
    by_cases he : x = y <;> simp [he, bind_ok]
  | [], _ :: _, _, _, h, _, _ => by cases h
  | _ :: _, [], _, _, h, _, _ => by cases h
theorem sEqual_ok (a b : List Int) (hs : Sm a.length) : m_slices_Equal_int_int (a, b) = some (decide (a = b)) := by
  simp only [m_slices_Equal_int_int]
  by_cases h : a.length = b.length
  · have e := sEqual_L1 a b [] [] h rfl hs
    have e2 : ¬ ((a.length : Int) ≠ (b.length : Int)) := by omega
    simp only [e2, if_false]
    have e3 : m_slices_Equal_int_int_L1 (a, b, 0) = _ := e
    rw [e3]
    by_cases hab : a = b
    · rw [if_pos hab, decide_eq_true hab]; rfl
    · rw [if_neg hab, decide_eq_false hab]; rfl
  · have e2 : ((a.length : Int) ≠ (b.length : Int)) := by omega
    have e3 : a ≠ b := fun e => h (by rw [e])
    rw [if_pos e2, decide_eq_false e3]
theorem shapeEqual_ok (a b : List Int) (hs : Sm a.length) : m_shape_Equal (a, b) = some (decide (a = b)) := by
  simp only [m_shape_Equal, sEqual_ok a b hs, bind_ok]

theorem Cont1_L1 : ∀ (s p : List Int), Sm (p ++ s).length → ∃ r, m_slices_IndexFunc_int_int_size_check_1_L1 (p ++ s, (p.length : Int)) = some r ∧ (negB s = true → ∃ j : Nat, r = .inl (j : Int)) ∧ (negB s = false → r = .inr ())
  | [], p, hs => by
    rw [m_slices_IndexFunc_int_int_size_check_1_L1]; simp only [end_lt, if_false]; exact ⟨_, rfl, fun h => (by cases h), fun _ => rfl⟩
  | x :: s, p, hs => by
    rw [m_slices_IndexFunc_int_int_size_check_1_L1]
    obtain ⟨r, h1, h2, h3⟩ := Cont1_L1 s (p ++ [x]) (by rw [← mid_app]; exact hs)
    rw [← mid_app] at h1
    simp only [mid_lt, if_true, mid_idx, bind_ok, mid_W hs, m_size_check_1, negB_cons]
    by_cases hn : x < 0
    · simp only [hn, decide_true, if_true]; exact ⟨_, rfl, fun _ => ⟨_, rfl⟩, fun h => by simp at h⟩
    · simp only [hn, decide_false, Bool.false_eq_true, if_false, Bool.false_or]; exact ⟨r, h1, h2, h3⟩
theorem Cont1_ok (l : List Int) (hs : Sm l.length) : m_slices_ContainsFunc_int_int_size_check_1 l = some (negB l) := by
  obtain ⟨r, h1, h2, h3⟩ := Cont1_L1 l [] hs
  have e : m_slices_IndexFunc_int_int_size_check_1_L1 (l, 0) = some r := h1
  simp only [m_slices_ContainsFunc_int_int_size_check_1, m_slices_IndexFunc_int_int_size_check_1, e, bind_ok]
  cases hn : negB l
  · rw [h3 hn]; rfl
  · obtain ⟨j, rfl⟩ := h2 hn; simp [bind_ok]
theorem Cont2_L1 : ∀ (s p : List Int), Sm (p ++ s).length → ∃ r, m_slices_IndexFunc_int_int_size_check_2_L1 (p ++ s, (p.length : Int)) = some r ∧ (bigB s = true → ∃ j : Nat, r = .inl (j : Int)) ∧ (bigB s = false → r = .inr ())
  | [], p, hs => by
    rw [m_slices_IndexFunc_int_int_size_check_2_L1]; simp only [end_lt, if_false]; exact ⟨_, rfl, fun h => (by cases h), fun _ => rfl⟩
  | x :: s, p, hs => by
    rw [m_slices_IndexFunc_int_int_size_check_2_L1]
    obtain ⟨r, h1, h2, h3⟩ := Cont2_L1 s (p ++ [x]) (by rw [← mid_app]; exact hs)
    rw [← mid_app] at h1
    simp only [mid_lt, if_true, mid_idx, bind_ok, mid_W hs, m_size_check_2, bigB_cons]
    by_cases hn : x > 65536
    · simp only [hn, decide_true, if_true]; exact ⟨_, rfl, fun _ => ⟨_, rfl⟩, fun h => by simp at h⟩
    · simp only [hn, decide_false, Bool.false_eq_true, if_false, Bool.false_or]; exact ⟨r, h1, h2, h3⟩
theorem Cont2_ok (l : List Int) (hs : Sm l.length) : m_slices_ContainsFunc_int_int_size_check_2 l = some (bigB l) := by
  obtain ⟨r, h1, h2, h3⟩ := Cont2_L1 l [] hs
  have e : m_slices_IndexFunc_int_int_size_check_2_L1 (l, 0) = some r := h1
  simp only [m_slices_ContainsFunc_int_int_size_check_2, m_slices_IndexFunc_int_int_size_check_2, e, bind_ok]
  cases hn : bigB l
  · rw [h3 hn]; rfl
  · obtain ⟨j, rfl⟩ := h2 hn; simp [bind_ok]
def errR (l : List Int) : Int := if negB l then 6 else if bigB l then 7 else 0
theorem sizecheck_ok (l : List Int) (hs : Sm l.length) : m_size_check l = some (errR l) := by
  simp only [m_size_check, Cont1_ok l hs, Cont2_ok l hs, bind_ok, errR]
  by_cases h1 : negB l = true
  · simp [h1]
  · by_cases h2 : bigB l = true <;> simp [h1, h2]
theorem Index_L1 (v : Int) : ∀ (s p : List Int), Sm (p ++ s).length → ∃ r, m_slices_Index_int_int_L1 (p ++ s, v, (p.length : Int)) = some r ∧ (s.any (v == ·) = true → ∃ j : Nat, r = .inl (j : Int)) ∧ (s.any (v == ·) = false → r = .inr ())
  | [], p, hs => by
    rw [m_slices_Index_int_int_L1]; simp only [end_lt, if_false]; exact ⟨_, rfl, fun h => (by cases h), fun _ => rfl⟩
  | x :: s, p, hs => by
    rw [m_slices_Index_int_int_L1]
    obtain ⟨r, h1, h2, h3⟩ := Index_L1 v s (p ++ [x]) (by rw [← mid_app]; exact hs)
    rw [← mid_app] at h1
    simp only [mid_lt, if_true, mid_idx, bind_ok, mid_W hs]
    by_cases hn : v = x
    · rw [if_pos hn]; exact ⟨_, rfl, fun _ => ⟨_, rfl⟩, fun h => by simp [hn] at h⟩
    · rw [if_neg hn]; exact ⟨r, h1, fun h => h2 (by simpa [hn] using h), fun h => h3 (by simpa [hn] using h)⟩
theorem Contains_ok (l : List Int) (v : Int) (hs : Sm l.length) : m_slices_Contains_int_int (l, v) = some (l.any (v == ·)) := by
  obtain ⟨r, h1, h2, h3⟩ := Index_L1 v l [] hs
  have e : m_slices_Index_int_int_L1 (l, v, 0) = some r := h1
  simp only [m_slices_Contains_int_int, m_slices_Index_int_int, e, bind_ok]
  cases hn : l.any (v == ·)
  · rw [h3 hn]; rfl
  · obtain ⟨j, rfl⟩ := h2 hn; simp [bind_ok]
theorem Mul_ok {a b : Int} (ha : 1 ≤ a ∧ a ≤ 65536) (hb : 1 ≤ b ∧ b ≤ 65536) : m_size_Mul (a, b, 65536) = some (if a * b > 65536 then (0, false) else (a * b, true)) := by
  have m1 := Int.mul_le_mul ha.2 hb.2 (by omega) (by omega)
  have m2 := Int.mul_le_mul ha.1 hb.1 (by omega) (by omega)
  have hq0 : (65536 : Int).tdiv b = 65536 / b := Int.tdiv_eq_ediv_of_nonneg (by omega)
  have hq1 : (65536 : Int) / b ≤ 65536 := Int.ediv_le_self _ (by omega)
  have hq2 : 0 ≤ (65536 : Int) / b := Int.ediv_nonneg (by omega) (by omega)
  have hq : quoM 65536 b = some (65536 / b) := by
    rw [quoM, if_neg (by omega), hq0, W_ok (by omega) (by omega)]
  have hlt : (a > 65536 / b) = (a * b > 65536) := by
    have := Int.ediv_lt_iff_lt_mul (a := 65536) (b := a) (c := b) (by omega)
    simp only [gt_iff_lt, eq_iff_iff]
    exact this
  simp only [m_size_Mul, show ¬ a < 0 by omega, show ¬ b < 0 by omega, show ¬ a > 65536 by omega, show ¬ b > 65536 by omega, show b > 0 by omega, if_false, if_true, hq, bind_ok, hlt]
  by_cases h : a * b > 65536
  · simp [h]
  · simp only [h, decide_false, Bool.false_eq_true, if_false]; rw [W_ok (by omega) (by omega)]
theorem foldP_L1 : ∀ (s p : List Int) (m : Int), Sm (p ++ s).length → (∀ d ∈ s, 1 ≤ d ∧ d ≤ 65536) → 1 ≤ m → m ≤ 65536 →
    ∃ r, m_size_fold_int_size_Product_1_L1 (p ++ s, m, (p.length : Int)) = some r ∧ (m * prodI s > 65536 → ∃ v, r = .inl v) ∧ (¬ m * prodI s > 65536 → r = .inr (m * prodI s))
  | [], p, m, hs, hd, h1, h2 => by
    rw [m_size_fold_int_size_Product_1_L1]; simp only [end_lt, if_false, prodI_nil, Int.mul_one]
    exact ⟨_, rfl, fun h => (by omega), fun _ => rfl⟩
  | x :: s, p, m, hs, hd, h1, h2 => by
    rw [m_size_fold_int_size_Product_1_L1]
    have hx := hd x (List.mem_cons_self ..)
    have hds : ∀ d ∈ s, 1 ≤ d ∧ d ≤ 65536 := fun d h => hd d (List.mem_cons_of_mem _ h)
    have b2 := Int.mul_le_mul h1 hx.1 (by omega) (by omega)
    simp only [mid_lt, if_true, mid_idx, bind_ok, mid_W hs, m_size_Product_1, Mul_ok ⟨h1, h2⟩ hx, prodI_cons]
    rw [← Int.mul_assoc]
    by_cases hn : m * x > 65536
    · have hp := prodI_pos (l := s) (fun d h => (hds d h).1)
      have : m * x * 1 ≤ m * x * prodI s := Int.mul_le_mul_of_nonneg_left hp (by omega)
      simp only [hn, if_true, bind_ok]
      exact ⟨_, rfl, fun _ => ⟨_, rfl⟩, fun h => absurd h (by omega)⟩
    · obtain ⟨r, e1, e2, e3⟩ := foldP_L1 s (p ++ [x]) (m * x) (by rw [← mid_app]; exact hs) hds (by omega) (by omega)
      rw [← mid_app] at e1
      simp only [hn, if_false, bind_ok, Bool.true_eq_false]
      exact ⟨r, e1, e2, e3⟩
theorem sProduct_ok (l : List Int) (hs : Sm l.length) : m_size_Product l = some (prodR l) := by
  simp only [m_size_Product, sizecheck_ok l hs, bind_ok, m_size_combined_size_Product_1, prodR, errR]
  by_cases hn : negB l = true
  · simp [hn, bind_ok]
  · have hn' : negB l = false := (Bool.not_eq_true _).mp hn
    by_cases hb : bigB l = true
    · simp [hn, hb, bind_ok]
    · have hb' : bigB l = false := (Bool.not_eq_true _).mp hb
      simp only [hn', hb', Bool.false_eq_true, if_false, if_true, Contains_ok l 0 hs, bind_ok]
      by_cases hz : l.any ((0 : Int) == ·) = true
      · have h0 : (0 : Int) ∈ l := by
          obtain ⟨x, hx, he⟩ := List.any_eq_true.1 hz
          have : (0 : Int) = x := by simpa using he
          rw [this]; exact hx
        have := prodI_zero h0
        simp [hz, this, bind_ok]
      · have hall : ∀ d ∈ l, 1 ≤ d ∧ d ≤ 65536 := fun d hd => by
          have h1 := neg_all hn' d hd
          have h2 := big_all hb' d hd
          have h3 : d ≠ 0 := fun e => hz (List.any_eq_true.2 ⟨d, hd, by simp [e]⟩)
          omega
        obtain ⟨r, e1, e2, e3⟩ := foldP_L1 l [] 1 hs hall (by omega) (by omega)
        have e4 : m_size_fold_int_size_Product_1_L1 (l, 1, 0) = some r := e1
        rw [Int.one_mul] at e2 e3
        simp only [hz, if_false, bind_ok, m_size_fold_int_size_Product_1, e4, ne_eq, not_true]
        by_cases hp : prodI l > 65536
        · obtain ⟨v, rfl⟩ := e2 hp; simp [hp, bind_ok]
        · rw [e3 hp]; simp [hp, bind_ok]
theorem shapeCheck_ok (l : List Int) (hs : Sm l.length) : m_shape_Check l = some (checkR l) := by
  simp only [m_shape_Check, sProduct_ok l hs, bind_ok, prodR, checkR]
  by_cases hn : negB l = true
  · simp [hn, bind_ok]
  · by_cases hl : l.length > 16
    · have h16 : (l.length : Int) > 16 := by omega
      by_cases hb : bigB l = true
      · simp [hn, hb, hl, h16, bind_ok]
      · by_cases hp : prodI l > 65536 <;> simp [hn, hb, hp, hl, h16, bind_ok]
    · have h16 : ¬ (l.length : Int) > 16 := by omega
      by_cases hb : bigB l = true
      · simp [hn, hb, hl, h16, bind_ok]
      · by_cases hp : prodI l > 65536 <;> simp [hn, hb, hp, hl, h16, bind_ok]
/-! sums of two dimensions -/
theorem Sum2_ok {a b : Int} (ha : 0 ≤ a ∧ a ≤ 65536) (hb : 0 ≤ b ∧ b ≤ 65536) : m_size_Sum [a, b] = some (if a + b > 65536 then (0, 7) else (a + b, 0)) := by
  have hs : Sm [a, b].length := by unfold Sm; simp
  have he : errR [a, b] = 0 := by
    have h1 : negB [a, b] = false := by simp [negB]; omega
    have h2 : bigB [a, b] = false := by simp [bigB]; omega
    simp [errR, h1, h2]
  have w0 : W (0 + a) = a := by rw [W_ok (by omega) (by omega)]; omega
  have w1 : W (a + b) = a + b := W_ok (by omega) (by omega)
  have i0 : idx [a, b] 0 = some a := rfl
  have i1 : idx [a, b] 1 = some b := rfl
  have c0 : W (0 + 1) = 1 := W_ok (by omega) (by omega)
  have c1 : W (1 + 1) = 2 := W_ok (by omega) (by omega)
  have hf : m_size_fold_int_size_Sum_1_L1 ([a, b], 0, 0) = some (if a + b > 65536 then .inl (a + b) else .inr (a + b)) := by
    rw [m_size_fold_int_size_Sum_1_L1]
    simp only [List.length_cons, List.length_nil, i0, bind_ok, m_size_Sum_1, w0, show a ≤ 65536 from ha.2, decide_true, Bool.true_eq_false, if_false, c0]
    rw [if_pos (by omega), m_size_fold_int_size_Sum_1_L1]
    simp only [List.length_cons, List.length_nil, i1, bind_ok, m_size_Sum_1, w1, c1]
    rw [if_pos (by omega)]
    by_cases h : a + b > 65536
    · have h' : ¬ a + b ≤ 65536 := by omega
      simp [h, h']
    · have h' : a + b ≤ 65536 := by omega
      simp only [h', decide_true, Bool.true_eq_false, if_false]
      rw [m_size_fold_int_size_Sum_1_L1]
      simp [h]
  simp only [m_size_Sum, m_size_combined_size_Sum_1, sizecheck_ok _ hs, he, bind_ok, m_size_fold_int_size_Sum_1, hf]
  by_cases h : a + b > 65536 <;> simp [h, bind_ok]
end Go.Proofs.Try
namespace Go.Proofs.Try
open Go Go.Pm
set_option linter.unusedVariables false
set_option linter.unusedSimpArgs false
set_option maxRecDepth 2000
def remL (l : List Int) (k : Nat) : List Int := l.take k ++ l.drop (k + 1)
def insL (l : List Int) (k : Nat) (v : Int) : List Int := l.take k ++ v :: l.drop k
def repL (l : List Int) (k : Nat) (v : Int) : List Int := l.take k ++ v :: l.drop (k + 1)
theorem sub_lo {l : List Int} {k : Nat} (h : k ≤ l.length) : sub l 0 (k : Int) = some (l.take k) := by
  rw [sub, if_pos ⟨by omega, by omega, by omega⟩]; simp
theorem sub_hi {l : List Int} {k : Nat} (h : k ≤ l.length) : sub l (k : Int) (l.length : Int) = some (l.drop k) := by
  rw [sub, if_pos ⟨by omega, by omega, by omega⟩]; simp
theorem Concat_ok (ls : List (List Int)) (h1 : ls.length ≤ 1000) (h2 : ls.flatten.length ≤ 1000000) : m_slices_Concat_int_int ls = some ls.flatten := if_pos ⟨h1, h2⟩
theorem W_nat {k : Nat} (h : k ≤ 1000000) : W ((k : Int) + 1) = ((k + 1 : Nat) : Int) := W_succ (by omega)
theorem Insert_ok (l : List Int) (k : Nat) (v : Int) (hk : k ≤ l.length) (hl : l.length ≤ 1000) : m_shape_Insert (l, (k : Int), v) = some (insL l k v, 0) := by
  have c := Concat_ok [l.take k, [v], l.drop k] (by simp) (by simp; omega)
  simp only [m_shape_Insert, m_shape_one, m_shape_edited_int_b8179, bind_ok, sub_lo hk, sub_hi hk, m_shape_one_1_b9040, c]
  rw [if_neg (show ¬ ((k : Int) < 0) by omega), if_neg (show ¬ ((k : Int) > (l.length : Int)) by omega)]
  simp [bind_ok, insL]
theorem Replace_ok (l : List Int) (k : Nat) (v : Int) (hk : k < l.length) (hl : l.length ≤ 1000) : m_shape_Replace (l, (k : Int), v) = some (repL l k v, 0) := by
  have c := Concat_ok [l.take k, [v], l.drop (k + 1)] (by simp) (by simp; omega)
  simp only [m_shape_Replace, m_shape_one, W_nat (show k ≤ 1000000 by omega), m_shape_edited_int_b9faf, bind_ok, sub_lo (show k ≤ l.length by omega), sub_hi (show k + 1 ≤ l.length by omega), m_shape_one_1_b9040, c]
  rw [if_neg (show ¬ ((k : Int) ≥ (l.length : Int)) by omega), if_neg (show ¬ ((k : Int) < 0) by omega), if_neg (show ¬ (((k + 1 : Nat) : Int) > (l.length : Int)) by omega)]
  have : ¬ ((k : Int) > ((k + 1 : Nat) : Int)) := by omega
  simp only [this, decide_false, bind_ok, Bool.false_eq_true, if_false]
  simp [repL]
theorem Remove_ok (l : List Int) (k : Nat) (hk : k < l.length) (hl : l.length ≤ 1000) : m_shape_Remove (l, (k : Int)) = some (remL l k, 0) := by
  have c := Concat_ok [l.take k, [], l.drop (k + 1)] (by simp) (by simp; omega)
  simp only [m_shape_Remove, W_nat (show k ≤ 1000000 by omega), m_shape_edited_int_b45f6, bind_ok, sub_lo (show k ≤ l.length by omega), sub_hi (show k + 1 ≤ l.length by omega), m_shape_Remove_1, c]
  rw [if_neg (show ¬ ((k : Int) ≥ (l.length : Int)) by omega), if_neg (show ¬ ((k : Int) < 0) by omega), if_neg (show ¬ (((k + 1 : Nat) : Int) > (l.length : Int)) by omega)]
  have : ¬ ((k : Int) > ((k + 1 : Nat) : Int)) := by omega
  simp only [this, decide_false, bind_ok, Bool.false_eq_true, if_false]
  simp [remL]
theorem Clone_ok (l : List Int) (hl : l.length ≤ 1000) : m_slices_Clone_int_int l = some l := by
  rw [m_slices_Clone_int_int, app_ok (by simp [room]; omega)]; rfl

/-! the reference's -/
theorem app1 {l : List Int} {v : Int} (hl : l.length ≤ 100000) : app 8 l [v] = some (l ++ [v]) := app_ok (by simp [room]; omega)
def insA (p : List Int) (k : Nat) (v : Int) : List Int := if k < p.length then insL p k v else p
theorem insL_len (p : List Int) (k : Nat) (v : Int) : (insL p k v).length = p.length + 1 := by simp [insL]; omega
theorem insA_len (p : List Int) (k : Nat) (v : Int) : (insA p k v).length ≤ p.length + 1 := by
  unfold insA; split
  · rw [insL_len]; omega
  · omega
theorem insL_snoc {p : List Int} {k : Nat} {v x : Int} (h : k < p.length) : insL (p ++ [x]) k v = insL p k v ++ [x] := by
  simp only [insL]
  rw [List.take_append_of_le_length (by omega), List.drop_append_of_le_length (by omega)]
  simp
theorem insL_end {p : List Int} {v x : Int} : insL (p ++ [x]) p.length v = p ++ [v] ++ [x] := by
  simp [insL]
theorem rInsert_L1 (k : Nat) (v : Int) : ∀ (s p : List Int), (p ++ s).length ≤ 1000 → m_ref02_Insert_L1 (p ++ s, (k : Int), v, insA p k v, (p.length : Int)) = some (if k ≤ (p ++ s).length then insL (p ++ s) k v else p ++ s)
  | [], p, hs => by
    rw [m_ref02_Insert_L1]
    rw [List.append_nil] at hs ⊢
    have hl := insA_len p k v
    have w : W ((p.length : Int) + 1) = ((p.length + 1 : Nat) : Int) := W_nat (by omega)
    simp only [show (p.length : Int) ≤ (p.length : Int) from Int.le_refl _, if_true, show ¬ ((p.length : Int) < (p.length : Int)) by omega, if_false, w]
    have stop : ∀ a, m_ref02_Insert_L1 (p, (k : Int), v, a, ((p.length + 1 : Nat) : Int)) = some a := fun a => by
      rw [m_ref02_Insert_L1]; simp only [show ¬ (((p.length + 1 : Nat) : Int) ≤ (p.length : Int)) by omega, if_false]
    by_cases hk : k = p.length
    · subst hk
      simp only [if_true, app1 (show (insA p p.length v).length ≤ 100000 by omega), bind_ok, stop, Nat.le_refl]
      simp [insA, insL]
    · rw [if_neg (show ¬ ((p.length : Int) = (k : Int)) by omega)]
      simp only [bind_ok, stop, insA]
      by_cases h : k < p.length
      · rw [if_pos h, if_pos (by omega)]
      · rw [if_neg h, if_neg (by omega)]
  | x :: s, p, hs => by
    rw [m_ref02_Insert_L1]
    have hl := insA_len p k v
    have hp : p.length ≤ 1000 := by simp at hs; omega
    have ih := rInsert_L1 k v s (p ++ [x]) (by rw [← mid_app]; exact hs)
    rw [← mid_app] at ih
    have w : W ((p.length : Int) + 1) = ((p ++ [x]).length : Int) := by rw [W_nat (by omega)]; simp
    have hle : (p.length : Int) ≤ ((p ++ x :: s).length : Int) := by simp; omega
    simp only [hle, if_true, mid_lt, mid_idx, bind_ok, w]
    by_cases hk : k = p.length
    · subst hk
      have e1 : insA p p.length v = p := by simp [insA]
      have e2 : insA (p ++ [x]) p.length v = p ++ [v] ++ [x] := by rw [insA, if_pos (by simp), insL_end]
      rw [e2] at ih
      simp only [if_true, e1, app1 (show p.length ≤ 100000 by omega), bind_ok, app1 (show (p ++ [v]).length ≤ 100000 by simp; omega)]
      exact ih
    · rw [if_neg (show ¬ ((p.length : Int) = (k : Int)) by omega)]
      have e2 : insA (p ++ [x]) k v = insA p k v ++ [x] := by
        by_cases h : k < p.length
        · rw [insA, if_pos (by simp; omega), insA, if_pos h, insL_snoc h]
        · rw [insA, if_neg (by simp; omega), insA, if_neg h]
      rw [e2] at ih
      simp only [bind_ok, app1 (show (insA p k v).length ≤ 100000 by omega)]
      exact ih
theorem rInsert_ok (l : List Int) (k : Nat) (v : Int) (hk : k ≤ l.length) (hl : l.length ≤ 1000) : m_ref02_Insert (l, (k : Int), v) = some (insL l k v) := by
  have e : m_ref02_Insert_L1 (l, (k : Int), v, [], 0) = _ := rInsert_L1 k v l [] hl
  rw [List.nil_append, if_pos hk] at e
  simp only [m_ref02_Insert, e, bind_ok]
def remA (p : List Int) (k : Nat) : List Int := if k < p.length then remL p k else p
theorem remA_len (p : List Int) (k : Nat) : (remA p k).length ≤ p.length := by
  unfold remA remL; split
  · simp; omega
  · omega
theorem rRemove_L1 (k : Nat) : ∀ (s p : List Int), (p ++ s).length ≤ 1000 → m_ref02_Remove_L1 (p ++ s, (k : Int), remA p k, (p.length : Int)) = some (remA (p ++ s) k)
  | [], p, hs => by
    rw [m_ref02_Remove_L1]; simp only [List.append_nil]; rw [if_neg (by omega)]
  | x :: s, p, hs => by
    rw [m_ref02_Remove_L1]
    have hl := remA_len p k
    have hp : p.length ≤ 1000 := by simp at hs; omega
    have ih := rRemove_L1 k s (p ++ [x]) (by rw [← mid_app]; exact hs)
    rw [← mid_app] at ih
    have w : W ((p.length : Int) + 1) = ((p ++ [x]).length : Int) := by rw [W_nat (by omega)]; simp
    simp only [mid_lt, if_true, mid_idx, bind_ok, w]
    by_cases hk : k = p.length
    · subst hk
      rw [if_neg (by simp)]
      have e : remA (p ++ [x]) p.length = remA p p.length := by simp [remA, remL]
      rw [e] at ih
      exact ih
    · rw [if_pos (show (p.length : Int) ≠ (k : Int) by omega)]
      have e : remA (p ++ [x]) k = remA p k ++ [x] := by
        by_cases h : k < p.length
        · rw [remA, if_pos (by simp; omega), remA, if_pos h, remL, remL, List.take_append_of_le_length (by omega), List.drop_append_of_le_length (by omega)]; simp
        · rw [remA, if_neg (by simp; omega), remA, if_neg h]
      rw [e] at ih
      simp only [app1 (show (remA p k).length ≤ 100000 by omega), bind_ok]
      exact ih
theorem rRemove_ok (l : List Int) (k : Nat) (hk : k < l.length) (hl : l.length ≤ 1000) : m_ref02_Remove (l, (k : Int)) = some (remL l k) := by
  have e : m_ref02_Remove_L1 (l, (k : Int), [], 0) = _ := rRemove_L1 k l [] hl
  rw [List.nil_append, remA, if_pos hk] at e
  simp only [m_ref02_Remove, e, bind_ok]
theorem remL_len {l : List Int} {k : Nat} (hk : k < l.length) : (remL l k).length + 1 = l.length := by simp [remL]; omega
theorem ins_rem {l : List Int} {k : Nat} {v : Int} (hk : k < l.length) : insL (remL l k) k v = repL l k v := by
  simp only [insL, remL, repL]
  rw [List.take_append_of_le_length (by simp; omega), List.drop_append_of_le_length (by simp; omega)]
  simp [List.take_take]
theorem put_ok (l : List Int) (k : Nat) (v : Int) (hk : k < l.length) (hl : l.length ≤ 1000) : m_ref13_put (l, (k : Int), v) = some (repL l k v) := by
  have := remL_len hk
  simp only [m_ref13_put, rRemove_ok l k hk hl, bind_ok, rInsert_ok (remL l k) k v (by omega) (by omega), ins_rem hk]
end Go.Proofs.Try
namespace Go.Proofs.Try
open Go Go.Pm
set_option linter.unusedVariables false
set_option linter.unusedSimpArgs false
set_option maxRecDepth 2000
theorem checkR_zero {l : List Int} : checkR l = 0 ↔ (∀ d ∈ l, 0 ≤ d ∧ d ≤ 65536) ∧ l.length ≤ 16 ∧ prodI l ≤ 65536 := by
  unfold checkR
  constructor
  · intro h
    cases hn : negB l
    · rw [hn, if_neg (by decide)] at h
      split at h
      · cases h
      · rename_i h2
        have hb : bigB l = false := by
          cases hb : bigB l
          · rfl
          · exact absurd (Or.inr (Or.inl hb)) h2
        exact ⟨fun d hd => ⟨neg_all hn d hd, big_all hb d hd⟩, by have := fun h => h2 (Or.inl h); omega, by have := fun h => h2 (Or.inr (Or.inr h)); omega⟩
    · rw [hn] at h; cases h
  · rintro ⟨h1, h2, h3⟩
    have hn : negB l = false := List.any_eq_false.2 fun d hd => by have := h1 d hd; simp; omega
    have hb : bigB l = false := List.any_eq_false.2 fun d hd => by have := h1 d hd; simp; omega
    rw [hn, hb, if_neg (by decide), if_neg]
    rintro (h | h | h)
    · omega
    · cases h
    · omega
theorem prod_rep (l : List Int) (i : Nat) (x : Int) : prodI (repL l i x) = x * prodI (remL l i) := by
  rw [repL, remL, prodI_append, prodI_cons, prodI_append, Int.mul_left_comm]
theorem rep_self {l : List Int} {i : Nat} (hi : i < l.length) : repL l i l[i] = l := by
  rw [repL, ← List.drop_eq_getElem_cons hi, List.take_append_drop]
theorem rep_mem {l : List Int} {i : Nat} {x d : Int} : d ∈ repL l i x ↔ d = x ∨ d ∈ remL l i := by
  simp only [repL, remL, List.mem_append, List.mem_cons]
  constructor
  · rintro (h | h | h)
    · exact .inr (.inl h)
    · exact .inl h
    · exact .inr (.inr h)
  · rintro (h | h | h)
    · exact .inr (.inl h)
    · exact .inl h
    · exact .inr (.inr h)
theorem rep_len {l : List Int} {i : Nat} {x : Int} (hi : i < l.length) : (repL l i x).length = l.length := by simp [repL]; omega
theorem rem_mem {l : List Int} {i : Nat} {d : Int} (h : d ∈ remL l i) : d ∈ l := by
  simp only [remL, List.mem_append] at h
  rcases h with h | h
  · exact List.mem_of_mem_take h
  · exact List.mem_of_mem_drop h
theorem prodI_nonneg : ∀ {l : List Int}, (∀ d ∈ l, 0 ≤ d) → 0 ≤ prodI l
  | [], _ => by simp [prodI]
  | d :: l, h => by
    rw [prodI_cons]
    exact Int.mul_nonneg (h d (List.mem_cons_self ..)) (prodI_nonneg fun x hx => h x (List.mem_cons_of_mem _ hx))
/-- a part of a right shape is right -/
theorem part_right {l : List Int} {i : Nat} {x y : Int} (hi : i < l.length) (h : checkR (repL l i y) = 0) (h0 : 0 ≤ x) (hx : x ≤ y) : checkR (repL l i x) = 0 := by
  obtain ⟨h1, h2, h3⟩ := checkR_zero.1 h
  have hr : ∀ d ∈ remL l i, 0 ≤ d ∧ d ≤ 65536 := fun d hd => h1 d (rep_mem.2 (.inr hd))
  have hy := h1 y (rep_mem.2 (.inl rfl))
  refine checkR_zero.2 ⟨fun d hd => ?_, ?_, ?_⟩
  · rcases rep_mem.1 hd with rfl | hd
    · omega
    · exact hr d hd
  · rw [rep_len hi] at h2 ⊢; exact h2
  · rw [prod_rep] at h3 ⊢
    have := Int.mul_le_mul_of_nonneg_right hx (prodI_nonneg fun d hd => (hr d hd).1)
    omega
theorem rep_other {a b : List Int} {i : Nat} (ha : i < a.length) (hb : i < b.length) (hrem : remL a i = remL b i) (x : Int) : repL a i x = repL b i x := by
  have e1 : a.take i = b.take i := by
    have := congrArg (List.take i) hrem
    simpa [remL, List.take_append_of_le_length, Nat.le_of_lt ha, Nat.le_of_lt hb, List.length_take, List.take_take] using this
  have e2 : a.drop (i + 1) = b.drop (i + 1) := by
    have h3 : a.take i ++ a.drop (i + 1) = b.take i ++ b.drop (i + 1) := hrem
    rw [e1] at h3
    exact List.append_cancel_left h3
  rw [repL, repL, e1, e2]
theorem cells_cat {a b : List Int} {i : Nat} {s : Int} (ha : i < a.length) (hb : i < b.length) (hrem : remL a i = remL b i) (h0 : 0 ≤ a[i]) (h1 : 0 ≤ b[i]) (hs : s = a[i] + b[i]) (h : checkR (repL a i s) = 0) :
    cellsR (repL a i s) = cellsR a + cellsR b ∧ 0 ≤ cellsR a ∧ 0 ≤ cellsR b ∧ cellsR a + cellsR b ≤ 65536 := by
  have ra : checkR (repL a i a[i]) = 0 := part_right ha h h0 (by omega)
  have rb' : checkR (repL a i b[i]) = 0 := part_right ha h h1 (by omega)
  have e : repL a i b[i] = b := by rw [rep_other ha hb hrem]; exact rep_self hb
  rw [rep_self ha] at ra
  rw [e] at rb'
  have p0 := (checkR_zero.1 h).2.2
  have p1 := prod_rep a i a[i]
  have p2 := prod_rep b i b[i]
  rw [rep_self ha] at p1
  rw [rep_self hb] at p2
  have q1 := prodI_nonneg fun d hd => ((checkR_zero.1 ra).1 d hd).1
  have q2 := prodI_nonneg fun d hd => ((checkR_zero.1 rb').1 d hd).1
  rw [cellsR, cellsR, cellsR, if_pos h, if_pos ra, if_pos rb']
  have e3 : prodI (repL a i s) = prodI a + prodI b := by rw [prod_rep, p1, p2, hrem, hs, Int.add_mul]
  exact ⟨e3, q1, q2, by omega⟩

/-! ### catenations -/
def zeroRule : T_rule_Rule := ⟨[], [], [], [], 0, 0, []⟩
def zeroRef : T_ref13_Rule := ⟨[], [], [], [], 0, 0, []⟩
def sumAt (X Y : List Int) (k : Nat) : Int := X.getD k 0 + Y.getD k 0
def tailE (X Y : List Int) (k : Nat) : Int := if remL X k ≠ remL Y k then 5 else if checkR (repL X k (sumAt X Y k)) ≠ 0 then 7 else 0
def Dims (X : List Int) : Prop := ∀ d ∈ X, 0 ≤ d ∧ d ≤ 65536
theorem getD_in {X : List Int} {k : Nat} (h : Dims X) (hk : k < X.length) : 0 ≤ X.getD k 0 ∧ X.getD k 0 ≤ 65536 := by
  rw [List.getD_eq_getElem?_getD, List.getElem?_eq_getElem hk]; exact h _ (List.getElem_mem hk)
theorem idx_getD {X : List Int} {k : Nat} (hk : k < X.length) : idx X (k : Int) = some (X.getD k 0) := by
  rw [idx_ok hk, List.getD_eq_getElem?_getD, List.getElem?_eq_getElem hk]; rfl
theorem Sm_of {l : List Int} (h : l.length ≤ 1000) : Sm l.length := by unfold Sm; omega
theorem big_rep {X : List Int} {k : Nat} {n : Int} (hX : Dims X) (h0 : 0 ≤ n) (hn : n > 65536) : checkR (repL X k n) ≠ 0 := fun h => by
  have := (checkR_zero.1 h).1 n (rep_mem.2 (.inl rfl)); omega
theorem check_rep {X : List Int} {k : Nat} {n : Int} (hX : Dims X) (h0 : 0 ≤ n) (h : checkR (repL X k n) ≠ 0) : checkR (repL X k n) = 7 := by
  have hn : negB (repL X k n) = false := List.any_eq_false.2 fun d hd => by
    have : 0 ≤ d := by
      rcases rep_mem.1 hd with rfl | h
      · exact h0
      · exact (hX d (rem_mem h)).1
    simp; omega
  unfold checkR at h ⊢
  rw [hn] at h ⊢
  simp only [Bool.false_eq_true, if_false] at h ⊢
  split
  · rfl
  · rename_i h2; rw [if_neg h2] at h; exact absurd rfl h
theorem failed_ok (e : Int) : m_rule_failed e = some (zeroRule, e) := rfl

theorem prog_tail {p0 : Int} {a b X Y : List Int} {k R : Nat} (hR : (max (max (a.length : Int) (b.length : Int)) 1) = (R : Int)) (hk : k < R) (hR16 : R ≤ 16) (hax : (if p0 = -1 then some (W ((R : Int) - 1)) else some p0) = some (k : Int))
    (hX : m_rule_widened (a, b, (R : Int), (k : Int)) = some (X, 0)) (hY : m_rule_widened (b, a, (R : Int), (k : Int)) = some (Y, 0)) (lX : X.length = R) (lY : Y.length = R) (dX : Dims X) (dY : Dims Y) :
    m_rule_Catenate (p0, a, b) = some (if tailE X Y k = 0 then ⟨X, Y, repL X k (sumAt X Y k), [], k, 0, []⟩ else zeroRule, tailE X Y k) := by
  have hkX : k < X.length := by omega
  have hkY : k < Y.length := by omega
  have gX := getD_in dX hkX
  have gY := getD_in dY hkY
  have eX : m_shape_Remove (X, (k : Int)) = _ := Remove_ok X k hkX (by omega)
  have eY : m_shape_Remove (Y, (k : Int)) = _ := Remove_ok Y k hkY (by omega)
  have rX := remL_len hkX
  have e0 : ∀ n : Int, m_shape_Replace (X, (k : Int), n) = some (repL X k n, 0) := fun n => Replace_ok X k n hkX (by omega)
  simp only [m_rule_Catenate, hR, hax, bind_ok, hX, hY]
  rw [if_neg (show ¬ ((k : Int) ≥ (R : Int)) by omega)]
  simp only [ne_eq, not_true, if_false, bind_ok, Int.reduceBNe, Bool.false_eq_true, m_rule_joined, eX, eY, shapeEqual_ok _ _ (Sm_of (show (remL X k).length ≤ 1000 by omega)), idx_getD hkX, idx_getD hkY, Sum2_ok gX gY, e0]
  unfold tailE
  by_cases h1 : remL X k = remL Y k
  · rw [decide_eq_true h1]
    simp only [Bool.true_eq_false, if_false, h1, not_true]
    by_cases h2 : X.getD k 0 + Y.getD k 0 > 65536
    · have h3 : checkR (repL X k (sumAt X Y k)) ≠ 0 := big_rep dX (by unfold sumAt; omega) h2
      simp only [h2, if_true, bind_ok, h3, not_false_eq_true, ne_eq, if_pos (show ¬ ((7 : Int) = 0) by omega), failed_ok]
      simp
    · simp only [h2, if_false, bind_ok, ne_eq, not_true, m_rule_along, m_rule_made_b82b3, Clone_ok Y (show Y.length ≤ 1000 by omega), m_rule_along_1_b2055, m_rule_Catenate_1_b2332]
      have e5 : (repL X k (X.getD k 0 + Y.getD k 0)).length ≤ 1000 := by rw [rep_len hkX]; omega
      rw [shapeCheck_ok _ (Sm_of e5), Clone_ok _ e5]
      show _ = some (if (if checkR (repL X k (sumAt X Y k)) ≠ 0 then (7 : Int) else 0) = 0 then _ else _, _)
      have e6 : X.getD k 0 + Y.getD k 0 = sumAt X Y k := rfl
      rw [e6]
      by_cases h4 : checkR (repL X k (sumAt X Y k)) = 0
      · simp [h4, bind_ok]
      · have h7 := check_rep dX (by unfold sumAt; omega) h4
        simp [h7, bind_ok, zeroRule]
  · rw [decide_eq_false h1]
    simp [h1, bind_ok, failed_ok]
end Go.Proofs.Try
namespace Go.Proofs.Try
open Go Go.Pm
set_option linter.unusedVariables false
set_option linter.unusedSimpArgs false
set_option maxRecDepth 2000
/-- equal but at a place -/
def eqOff : List Int → List Int → Int → Bool
  | x :: s, y :: t, i => (decide (i = 0) || x == y) && eqOff s t (i - 1)
  | _, _, _ => true
theorem eqOff_neg : ∀ (s t : List Int) (i : Int), s.length = t.length → i < 0 → (eqOff s t i = true ↔ s = t)
  | [], [], _, _, _ => by simp [eqOff]
  | x :: s, y :: t, i, h, hi => by
    have := eqOff_neg s t (i - 1) (by simpa using h) (by omega)
    simp only [eqOff, Bool.and_eq_true, this, show ¬ i = 0 by omega, decide_false, Bool.false_or, beq_iff_eq, List.cons.injEq]
  | [], _ :: _, _, h, _ => by cases h
  | _ :: _, [], _, h, _ => by cases h
theorem eqOff_rem : ∀ (s t : List Int) (k : Nat), s.length = t.length → (eqOff s t (k : Int) = true ↔ remL s k = remL t k)
  | [], [], _, _ => by simp [eqOff]
  | x :: s, y :: t, 0, h => by
    have := eqOff_neg s t (-1) (by simpa using h) (by omega)
    simp only [eqOff, Int.natCast_zero, Int.ofNat_zero, decide_true, Bool.true_or, Bool.true_and, remL, List.take_zero, List.nil_append, List.drop_succ_cons, List.drop_zero]
    exact this
  | x :: s, y :: t, k + 1, h => by
    have := eqOff_rem s t k (by simpa using h)
    have e : ((k + 1 : Nat) : Int) - 1 = (k : Int) := by omega
    simp only [eqOff, e, Bool.and_eq_true, this, show ¬ ((k + 1 : Nat) : Int) = 0 by omega, decide_false, Bool.false_or, beq_iff_eq, remL, List.take_succ_cons, List.drop_succ_cons, List.cons_append, List.cons.injEq]
  | [], _ :: _, _, h => by cases h
  | _ :: _, [], _, h => by cases h
theorem Cat_L1 (a b : List Int) (k : Int) : ∀ (s t p q : List Int), s.length = t.length → p.length = q.length → (p ++ s).length ≤ 1000 → (max (max (a.length : Int) (b.length : Int)) 1) = ((p ++ s).length : Int) →
    m_ref13_Catenate_L1 (a, b, k, p ++ s, q ++ t, (p.length : Int)) = some (if eqOff s t (k - p.length) then .inr () else .inl ())
  | [], [], p, q, _, _, hs, hR => by
    rw [m_ref13_Catenate_L1]; simp only [hR, end_lt, if_false, eqOff, if_true]
  | x :: s, y :: t, p, q, h1, h2, hs, hR => by
    rw [m_ref13_Catenate_L1]
    have ih := Cat_L1 a b k s t (p ++ [x]) (q ++ [y]) (by simpa using h1) (by simp [h2]) (by rw [← mid_app]; exact hs) (by rw [← mid_app]; exact hR)
    rw [← mid_app, ← mid_app] at ih
    have e1 : k - ((p ++ [x]).length : Int) = k - p.length - 1 := by simp; omega
    rw [e1] at ih
    simp only [hR, mid_lt, if_true, mid_idx, bind_ok, mid_W (Sm_of hs), ih, eqOff]
    rw [h2, mid_idx]
    by_cases hk : k = q.length
    · have : ¬ ((q.length : Int) ≠ k) := by omega
      have e3 : k - (q.length : Int) = 0 := by omega
      simp only [this, if_false, bind_ok, e3, decide_true, Bool.true_or, Bool.true_and, Bool.false_eq_true]
    · have t2 : ((q.length : Int) = k) = False := by simp only [eq_iff_iff, iff_false]; omega
      have e3 : ¬ k - (q.length : Int) = 0 := by omega
      simp only [t2, ne_eq, not_false_eq_true, if_true, bind_ok, e3, decide_false, Bool.false_or]
      by_cases he : x = y
      · simp [he]
      · simp [he]
  | [], _ :: _, _, _, h, _, _, _ => by cases h
  | _ :: _, [], _, _, h, _, _, _ => by cases h

theorem ref_tail {p0 : Int} {a b X Y : List Int} {k R : Nat} (hR : (max (max (a.length : Int) (b.length : Int)) 1) = (R : Int)) (hk : k < R) (hR16 : R ≤ 16) (hp : ¬ p0 ≥ (R : Int)) (hax : (if p0 < 0 then some (W ((R : Int) - 1)) else some p0) = some (k : Int))
    (hlow : ¬ ((if (b.length : Int) < (a.length : Int) then (b.length : Int) else (a.length : Int)) < (R : Int) - 1 ∧ (if (b.length : Int) < (a.length : Int) then (b.length : Int) else (a.length : Int)) > 0))
    {x y : List Int} (hx : (if (a.length : Int) = (R : Int) - 1 then m_ref02_Insert (a, (k : Int), 1) >>= fun (v4 : (List Int)) => some v4 else some a) = some x) (hy : (if (b.length : Int) = (R : Int) - 1 then m_ref02_Insert (b, (k : Int), 1) >>= fun (v4 : (List Int)) => some v4 else some b) = some y)
    (hX : (if (x.length : Int) < (R : Int) then m_ref13_put (y, (k : Int), 1) >>= fun (v8 : (List Int)) => some v8 else some x) = some X) (hY : (if (y.length : Int) < (R : Int) then m_ref13_put (X, (k : Int), 1) >>= fun (v8 : (List Int)) => some v8 else some y) = some Y)
    (lX : X.length = R) (lY : Y.length = R) (dX : Dims X) (dY : Dims Y) :
    m_ref13_Catenate (p0, a, b) = some (if tailE X Y k = 0 then ⟨X, Y, repL X k (sumAt X Y k), [], k, 0, []⟩ else zeroRef, tailE X Y k) := by
  have hkX : k < X.length := by omega
  have hkY : k < Y.length := by omega
  have gX := getD_in dX hkX
  have gY := getD_in dY hkY
  have wR : W ((R : Int) - 1) = (R : Int) - 1 := W_ok (by omega) (by omega)
  rw [wR] at hax
  have hlow' : (if (if (b.length : Int) < (a.length : Int) then (b.length : Int) else (a.length : Int)) < (R : Int) - 1 then some (decide ((if (b.length : Int) < (a.length : Int) then (b.length : Int) else (a.length : Int)) > 0)) else some false) = some false := by
    by_cases h : (if (b.length : Int) < (a.length : Int) then (b.length : Int) else (a.length : Int)) < (R : Int) - 1
    · rw [if_pos h, decide_eq_false (fun h2 => hlow ⟨h, h2⟩)]
    · rw [if_neg h]
  have hl := Cat_L1 a b (k : Int) X Y [] [] (by omega) rfl (by simp; omega) (by rw [hR]; simp; omega)
  have hl' : m_ref13_Catenate_L1 (a, b, (k : Int), X, Y, 0) = some (if eqOff X Y (k : Int) then .inr () else .inl ()) := by
    have : (k : Int) - (([] : List Int).length : Int) = k := by simp
    rw [this] at hl
    exact hl
  have hput : m_ref13_put (X, (k : Int), sumAt X Y k) = _ := put_ok X k (sumAt X Y k) hkX (by omega)
  have wS : W (X.getD k 0 + Y.getD k 0) = sumAt X Y k := W_ok (by omega) (by omega)
  have e5 : (repL X k (sumAt X Y k)).length ≤ 1000 := by rw [rep_len hkX]; omega
  simp only [m_ref13_Catenate, hR, hp, if_false, wR, hax, hlow', bind_ok, Bool.false_eq_true, hx, hy, hX, hY, hl', idx_getD hkX, idx_getD hkY, wS, hput, Check_ok _ (Sm_of e5)]
  unfold tailE
  by_cases h1 : remL X k = remL Y k
  · have h2 : eqOff X Y (k : Int) = true := (eqOff_rem X Y k (by omega)).2 h1
    simp only [h2, if_true, h1, ne_eq, not_true, if_false]
    by_cases h4 : checkR (repL X k (sumAt X Y k)) = 0
    · simp [h4, bind_ok]
    · simp [h4, bind_ok, zeroRef]
  · have h2 : ¬ eqOff X Y (k : Int) = true := fun h => h1 ((eqOff_rem X Y k (by omega)).1 h)
    simp [h2, h1, bind_ok, zeroRef]
end Go.Proofs.Try
namespace Go.Proofs.Try
open Go Go.Pm
set_option linter.unusedVariables false
set_option linter.unusedSimpArgs false
set_option maxRecDepth 2000
theorem ins_mem {l : List Int} {i : Nat} {x d : Int} (h : d ∈ insL l i x) : d = x ∨ d ∈ l := by
  simp only [insL, List.mem_append, List.mem_cons] at h
  rcases h with h | h | h
  · exact .inr (List.mem_of_mem_take h)
  · exact .inl h
  · exact .inr (List.mem_of_mem_drop h)
def widR (a b : List Int) (R k : Nat) : List Int := if a.length = R then a else if a.length + 1 = R then insL a k 1 else repL b k 1
theorem widR_dims {a b : List Int} {R k : Nat} (ha : Dims a) (hb : Dims b) : Dims (widR a b R k) := by
  intro d hd
  unfold widR at hd
  split at hd
  · exact ha d hd
  · split at hd
    · rcases ins_mem hd with rfl | h
      · omega
      · exact ha d h
    · rcases rep_mem.1 hd with rfl | h
      · omega
      · exact hb d (rem_mem h)
theorem widR_len {a b : List Int} {R k : Nat} (hk : k < R) (h : a.length = R ∨ a.length + 1 = R ∨ b.length = R) : (widR a b R k).length = R := by
  unfold widR
  split
  · assumption
  · split
    · rw [insL_len]; assumption
    · rw [rep_len (by omega)]; omega
theorem wid_ok {a b : List Int} {R k : Nat} (hk : k < R) (hR : R ≤ 16) (h : a.length = R ∨ a.length + 1 = R ∨ (a.length = 0 ∧ b.length = R)) : m_rule_widened (a, b, (R : Int), (k : Int)) = some (widR a b R k, 0) := by
  have wR : W ((R : Int) - 1) = (R : Int) - 1 := W_ok (by omega) (by omega)
  simp only [m_rule_widened, wR, widR]
  by_cases h1 : a.length = R
  · rw [if_pos (by omega), if_pos h1, Clone_ok a (by omega)]; rfl
  · rw [if_neg (by omega), if_neg h1]
    by_cases h2 : a.length + 1 = R
    · rw [if_pos (by omega), if_pos h2, Insert_ok a k 1 (by omega) (by omega)]; rfl
    · rw [if_neg (by omega), if_neg h2, if_pos (by omega), Replace_ok b k 1 (by omega) (by omega)]; rfl
theorem wid_bad {a b : List Int} {R k : Nat} (hR : R ≤ 16) (h1 : a.length ≠ R) (h2 : a.length + 1 ≠ R) (h3 : a.length ≠ 0) : m_rule_widened (a, b, (R : Int), (k : Int)) = some ([], 4) := by
  by_cases hz : R = 0
  · subst hz
    have wR : W (((0 : Nat) : Int) - 1) = -1 := W_ok (by omega) (by omega)
    simp only [m_rule_widened, wR]
    rw [if_neg (by omega), if_neg (by omega), if_neg (by omega)]
  · have wR : W ((R : Int) - 1) = (R : Int) - 1 := W_ok (by omega) (by omega)
    simp only [m_rule_widened, wR]
    rw [if_neg (by omega), if_neg (by omega), if_neg (by omega)]

/-- one answer for both -/
def SameCat (p0 : Int) (a b : List Int) : Prop := ∃ (X Y s : List Int) (k e : Int), m_rule_Catenate (p0, a, b) = some (if e = 0 then ⟨X, Y, s, [], k, 0, []⟩ else zeroRule, e) ∧ m_ref13_Catenate (p0, a, b) = some (if e = 0 then ⟨X, Y, s, [], k, 0, []⟩ else zeroRef, e) ∧
  X.length ≤ 16 ∧ Y.length ≤ 16 ∧ s.length ≤ 16 ∧ (e = 0 → cellsR s = cellsR X + cellsR Y ∧ 0 ≤ cellsR X ∧ 0 ≤ cellsR Y ∧ cellsR X + cellsR Y ≤ 65536)
theorem cat_same {p0 : Int} {a b : List Int} (hp : -1 ≤ p0) (la : a.length ≤ 16) (lb : b.length ≤ 16) (da : Dims a) (db : Dims b) : SameCat p0 a b := by
  obtain ⟨R, hRdef⟩ : ∃ R, R = max (max a.length b.length) 1 := ⟨_, rfl⟩
  have hR : (max (max (a.length : Int) (b.length : Int)) 1) = (R : Int) := by omega
  have hR16 : R ≤ 16 := by omega
  have wR : W ((R : Int) - 1) = (R : Int) - 1 := W_ok (by omega) (by omega)
  by_cases hbig : p0 ≥ (R : Int)
  · refine ⟨[], [], [], 0, 4, ?_, ?_, by simp, by simp, by simp, fun h => (by omega)⟩
    · simp only [m_rule_Catenate, hR, show ¬ p0 = -1 by omega, if_false, bind_ok, hbig, if_true, failed_ok]; rfl
    · simp only [m_ref13_Catenate, hR, hbig, if_true]; rfl
  obtain ⟨k, hk⟩ : ∃ k : Nat, (k : Int) = if p0 = -1 then (R : Int) - 1 else p0 := by
    by_cases h : p0 = -1
    · exact ⟨R - 1, by rw [if_pos h]; omega⟩
    · exact ⟨p0.toNat, by rw [if_neg h]; omega⟩
  have hkR : k < R := by by_cases h : p0 = -1 <;> simp [h] at hk <;> omega
  have hax1 : (if p0 = -1 then some (W ((R : Int) - 1)) else some p0) = some (k : Int) := by
    rw [wR, hk]; by_cases h : p0 = -1 <;> simp [h]
  have hax2 : (if p0 < 0 then some (W ((R : Int) - 1)) else some p0) = some (k : Int) := by
    rw [wR, hk]
    by_cases h : p0 = -1
    · rw [if_pos (by omega), if_pos h]
    · rw [if_neg (by omega), if_neg h]
  by_cases hbad : (a.length ≠ R ∧ a.length + 1 ≠ R ∧ a.length ≠ 0) ∨ (b.length ≠ R ∧ b.length + 1 ≠ R ∧ b.length ≠ 0)
  · refine ⟨[], [], [], 0, 4, ?_, ?_, by simp, by simp, by simp, fun h => (by omega)⟩
    · simp only [m_rule_Catenate, hR, hax1, bind_ok]
      rw [if_neg (show ¬ ((k : Int) ≥ (R : Int)) by omega)]
      rcases hbad with ⟨h1, h2, h3⟩ | ⟨h1, h2, h3⟩
      · have hb : b.length = R := by omega
        rw [wid_bad hR16 h1 h2 h3, wid_ok hkR hR16 (.inl hb)]; rfl
      · have ha : a.length = R := by omega
        rw [wid_bad hR16 h1 h2 h3, wid_ok hkR hR16 (.inl ha)]; rfl
    · have hax3 := hax2
      rw [wR] at hax3
      simp only [m_ref13_Catenate, hR, hbig, if_false, hax3, bind_ok, wR]
      rw [if_pos (by split <;> omega), decide_eq_true (by split <;> omega)]; rfl
  · have hA : a.length = R ∨ a.length + 1 = R ∨ (a.length = 0 ∧ b.length = R) := by omega
    have hB : b.length = R ∨ b.length + 1 = R ∨ (b.length = 0 ∧ a.length = R) := by omega
    have hX := wid_ok hkR hR16 hA
    have hY := wid_ok hkR hR16 hB
    have lX : (widR a b R k).length = R := widR_len hkR (by omega)
    have lY : (widR b a R k).length = R := widR_len hkR (by omega)
    have dX : Dims (widR a b R k) := widR_dims da db
    have dY : Dims (widR b a R k) := widR_dims db da
    have hprog := prog_tail hR hkR hR16 hax1 hX hY lX lY dX dY
    have hI : ∀ c : List Int, (if (c.length : Int) = (R : Int) - 1 then m_ref02_Insert (c, (k : Int), 1) >>= fun (v4 : (List Int)) => some v4 else some c) = some (if c.length + 1 = R then insL c k 1 else c) := fun c => by
      by_cases h : c.length + 1 = R
      · rw [if_pos (by omega), if_pos h, rInsert_ok c k 1 (by omega) (by omega)]; rfl
      · rw [if_neg (by omega), if_neg h]
    have href := ref_tail (X := widR a b R k) (Y := widR b a R k) hR hkR hR16 hbig hax2 (by split <;> omega) (hI a) (hI b) (by
        unfold widR
        by_cases h1 : a.length = R
        · rw [if_pos h1, if_neg (show ¬ (a.length + 1 = R) by omega), if_neg (by omega)]
        · rw [if_neg h1]
          by_cases h2 : a.length + 1 = R
          · rw [if_pos h2, if_neg (by rw [insL_len]; omega), if_pos h2]
          · rw [if_neg h2, if_pos (by omega), if_neg (show ¬ (b.length + 1 = R) by omega), put_ok b k 1 (by omega) (by omega), if_neg h2]; rfl) (by
        unfold widR
        by_cases h1 : b.length = R
        · rw [if_neg (show ¬ (b.length + 1 = R) by omega), if_neg (by omega), if_pos h1]
        · rw [if_neg h1]
          by_cases h2 : b.length + 1 = R
          · rw [if_pos h2, if_neg (by rw [insL_len]; omega), if_pos h2]
          · have ha : a.length = R := by omega
            rw [if_neg h2, if_pos (by omega), if_pos ha, put_ok a k 1 (by omega) (by omega), if_neg h2]; rfl) lX lY dX dY
    have hkX : k < (widR a b R k).length := by omega
    have hkY : k < (widR b a R k).length := by omega
    refine ⟨_, _, _, _, _, hprog, href, by omega, by omega, by rw [rep_len hkX]; omega, fun he => ?_⟩
    unfold tailE at he
    by_cases hr : remL (widR a b R k) k = remL (widR b a R k) k
    · rw [if_neg (fun h => h hr)] at he
      have hc : checkR (repL (widR a b R k) k (sumAt (widR a b R k) (widR b a R k) k)) = 0 := by
        by_cases hc : checkR (repL (widR a b R k) k (sumAt (widR a b R k) (widR b a R k) k)) = 0
        · exact hc
        · rw [if_pos hc] at he; omega
      refine cells_cat hkX hkY hr (dX _ (List.getElem_mem hkX)).1 (dY _ (List.getElem_mem hkY)).1 ?_ hc
      rw [sumAt, List.getD_eq_getElem?_getD, List.getD_eq_getElem?_getD, List.getElem?_eq_getElem hkX, List.getElem?_eq_getElem hkY]; rfl
    · rw [if_pos hr] at he; omega

theorem rSame_self (l r s t p : List Int) (x y : Int) (h1 : l.length ≤ 1000) (h2 : r.length ≤ 1000) (h3 : s.length ≤ 1000) (h4 : t.length ≤ 1000) (h5 : p.length ≤ 1000) : m_ref13_Same (⟨l, r, s, t, x, y, p⟩, ⟨l, r, s, t, x, y, p⟩) = some true := by
  simp only [m_ref13_Same, Equal_ok _ _ (Sm_of h1), Equal_ok _ _ (Sm_of h2), Equal_ok _ _ (Sm_of h3), Equal_ok _ _ (Sm_of h4), Equal_ok _ _ (Sm_of h5), decide_true, bind_ok, if_true]
theorem RuleCatenates_ok (p0 : Int) (a b : List Int) (ha : Sm a.length) (hb : Sm b.length) : m_law13_RuleCatenates (p0, a, b) = some true := by
  simp only [m_law13_RuleCatenates, m_law13_awake, bind_ok, Check_ok a ha, Check_ok b hb, Bool.true_eq_false, if_false]
  by_cases c1 : checkR a = 0
  · by_cases c2 : checkR b = 0
    · have ea := checkR_zero.1 c1
      have eb := checkR_zero.1 c2
      rw [if_neg (fun h => h c1), if_neg (fun h => h c2)]
      by_cases hx : p0 ≥ -1
      · by_cases hx2 : p0 ≤ 15
        · have hax : m_law13_axis p0 = some true := by simp only [m_law13_axis, if_pos hx, decide_eq_true hx2]
          simp only [hax, bind_ok, Bool.not_true, Bool.false_eq_true, if_false]
          obtain ⟨X, Y, s, k, e, h1, h2, l1, l2, l3, h3⟩ := cat_same hx ea.2.1 eb.2.1 ea.1 eb.1
          rw [h1, h2]
          simp only [bind_ok, m_law13_same]
          by_cases he : e = 0
          · subst he
            obtain ⟨q1, q2, q3, q4⟩ := h3 rfl
            have w : W (cellsR X + cellsR Y) = cellsR X + cellsR Y := W_ok (by omega) (by omega)
            simp only [if_true, rSame_self X Y s [] [] k 0 (by omega) (by omega) (by omega) (by simp) (by simp), bind_ok, Bool.true_eq_false, if_false, ne_eq, not_true, Cells_ok _ (Sm_of (show s.length ≤ 1000 by omega)), Cells_ok _ (Sm_of (show X.length ≤ 1000 by omega)), Cells_ok _ (Sm_of (show Y.length ≤ 1000 by omega)), w, q1, beq_self_eq_true]
          · simp only [he, if_false, if_true, zeroRule, zeroRef, rSame_self [] [] [] [] [] 0 0 (by simp) (by simp) (by simp) (by simp) (by simp), bind_ok, beq_self_eq_true, Bool.true_eq_false, ne_eq, not_false_eq_true]
        · have hax : m_law13_axis p0 = some false := by simp only [m_law13_axis, if_pos hx, decide_eq_false hx2]
          simp only [hax, bind_ok, Bool.not_false, if_true]
      · have hax : m_law13_axis p0 = some false := by simp only [m_law13_axis, if_neg hx]
        simp only [hax, bind_ok, Bool.not_false, if_true]
    · rw [if_neg (fun h => h c1), if_pos c2]; rfl
  · rw [if_pos c1]; rfl
end Go.Proofs.Try
