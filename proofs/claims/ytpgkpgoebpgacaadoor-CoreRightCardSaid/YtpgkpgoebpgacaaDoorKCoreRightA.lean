/-
  Models of functions, their walks, and plain laws.
-/
import Derived.Test.YtpgkpgoebpgacaaDoorPmSx
import Derived.Test.YtpgkpgoebpgacaaDoorProg
import Derived.Test.YtpgkpgoebpgacaaDoorPmMs
import Derived.KernelRfl
namespace Go.Proofs.Tryd
open Go Go.Pm
set_option linter.unusedVariables false
set_option linter.unusedSimpArgs false
set_option maxRecDepth 2000
/-- lists that a machine can hold -/
def Sm (n : Nat) : Prop := n ≤ 9223372036854775807
theorem Sm_of {n m : Nat} (h : n ≤ m) (hm : m ≤ 9223372036854775807 := by decide) : Sm n := Nat.le_trans h hm
theorem idx_ok {α : Type} {l : List α} {j : Nat} (h : j < l.length) : idx l (j : Int) = some l[j] := by simp [idx, h]
theorem app_ok {α : Type} {b : Nat} {l es : List α} (h : (l.length + es.length) * b ≤ room) : app b l es = some (l ++ es) := if_pos h
theorem W_ok {n : Int} (h1 : -9223372036854775808 ≤ n) (h2 : n < 9223372036854775808) : W n = n := by
  simp only [W, IntKind.wrap, IntKind.bits, IntKind.signed]; simp; split <;> omega
theorem W_succ {j : Nat} (h : j < 9223372036854775807) : W ((j : Int) + 1) = ((j + 1 : Nat) : Int) := by rw [W_ok (by omega) (by omega)]; omega
/-! a loop over a list: what lies behind, what lies ahead -/
section
variable {α : Type} {p s : List α} {x : α}
theorem mid_lt : ((p.length : Int) < ((p ++ x :: s).length : Int)) := by simp; omega
theorem end_lt : ¬ ((p.length : Int) < ((p ++ ([] : List α)).length : Int)) := by simp
theorem mid_idx : idx (p ++ x :: s) (p.length : Int) = some x := by simp [idx]
theorem mid_app : p ++ x :: s = (p ++ [x]) ++ s := by simp
theorem mid_W (hs : Sm (p ++ x :: s).length) : W ((p.length : Int) + 1) = ((p ++ [x]).length : Int) := by
  unfold Sm at hs
  rw [W_ok (by omega) (by simp at hs; omega)]; simp
end
theorem bind_ok {α β : Type} (a : α) (f : α → Option β) : (some a >>= f) = f a := rfl
end Go.Proofs.Tryd
namespace Go.Proofs.Tryd
open Go Go.Pm
set_option linter.unusedVariables false
set_option maxRecDepth 2000
def hintOf : FuncId → Hint
  | 4 => { own := [((3, 0), [(0, 3)])], keep := [] }
  | 6 => { own := [], keep := [(7, [2, 5, 6, 7, 8])] }
  | 10 => { own := [((1, 14), [(7, 32)]), ((1, 15), [(7, 32)])], keep := [(3, [1, 2, 3, 4])] }
  | 12 => { own := [], keep := [(3, [3, 7, 8, 9])] }
  | 13 => { own := [], keep := [(3, [1, 3, 4])] }
  | 15 => { own := [((3, 7), [(0, 3)])], keep := [] }
  | 16 => { own := [((3, 0), [(1000, 3)]), ((18, 0), [(0, 3)])], keep := [(8, [2, 7, 8, 9]), (20, [1, 2, 7, 8, 10])] }
  | 17 => { own := [], keep := [(4, [0, 1, 5])] }
  | 18 => { own := [], keep := [(4, [0, 1, 5])] }
  | 20 => { own := [], keep := [(4, [2, 3, 5])] }
  | 21 => { own := [((5, 0), [(0, 22)]), ((12, 1), [(0, 3)])], keep := [(3, [0, 3, 4]), (7, [0, 3, 4, 5, 6]), (10, [0, 3, 4, 5, 6, 7])] }
  | 23 => { own := [], keep := [(5, [0, 1, 5, 6])] }
  | 24 => { own := [], keep := [(5, [1, 2, 5])] }
  | 26 => { own := [], keep := [(3, [1, 3, 4])] }
  | 27 => { own := [], keep := [(4, [1, 2, 5])] }
  | 28 => { own := [], keep := [(4, [1, 2, 5])] }
  | 29 => { own := [], keep := [(4, [0, 12, 13, 14])] }
  | 30 => { own := [((2, 0), [(1000, 3)]), ((3, 0), [(1000, 3)])], keep := [] }
  | 31 => { own := [], keep := [(3, [0, 1, 5, 6])] }
  | 33 => { own := [], keep := [(4, [0, 1, 12, 13])] }
  | 34 => { own := [], keep := [(4, [1, 2, 15, 16, 17])] }
  | 35 => { own := [], keep := [(2, [0, 3])] }
  | 36 => { own := [], keep := [(3, [0, 4, 5]), (9, [0, 4, 6]), (17, [0, 7, 8])] }
  | 40 => { own := [], keep := [(15, [2, 6])] }
  | 41 => { own := [], keep := [(5, [0, 1, 5, 6])] }
  | 44 => { own := [], keep := [(2, [0, 1, 7, 8])] }
  | 46 => { own := [], keep := [(5, [1, 3, 4]), (10, [1, 3, 5]), (14, [1, 3, 5, 6, 7])] }
  | 47 => { own := [], keep := [(6, [1, 3, 4, 5])] }
  | 57 => { own := [], keep := [(2, [0, 1, 7, 8])] }
  | 58 => { own := [], keep := [(3, [2, 8, 13, 14, 15])] }
  | 59 => { own := [], keep := [(2, [0, 1, 7, 8])] }
  | 79 => { own := [], keep := [(2, [1, 2, 10, 11, 12])] }
  | 84 => { own := [], keep := [(5, [1, 3, 23, 24, 25])] }
  | 85 => { own := [((1, 0), [(0, 3)])], keep := [(3, [1, 7, 11, 12, 13])] }
  | 92 => { own := [], keep := [(8, [7, 8])] }
  | 100 => { own := [], keep := [(3, [1, 5, 13, 14, 15])] }
  | 105 => { own := [], keep := [(8, [0, 3, 4, 18, 19])] }
  | 106 => { own := [], keep := [(3, [0, 1, 5, 11, 12])] }
  | 107 => { own := [((9, 1), [(2000, 3)])], keep := [(3, [0, 3, 9, 10, 11]), (11, [6, 25, 26, 27])] }
  | _ => {}
def env : Env where
  summ := fun _ => none
  hint := hintOf
  pure := fun f => f != 30 && f != 38 && f != 39 && f != 44 && f != 77 && f != 79 && f != 81 && f != 83 && f != 85 && f != 86 && f != 88 && f != 92 && f != 101 && f != 108 && f != 109
  split := fun f => f == 30

end Go.Proofs.Tryd
namespace Go.Proofs.Tryd
open Go Go.Pm
theorem ag22 : aggT prog 22 = some false := by kernel_rfl
theorem by3 : bytesOf prog 3 = some 8 := by kernel_rfl
theorem el22 : elemOfSlice prog 22 = some 3 := by kernel_rfl
theorem el26 : elemOfSlice prog 26 = some 22 := by kernel_rfl
theorem sz22 : szOf prog 22 = some 1 := by kernel_rfl
theorem sz3 : szOf prog 3 = some 1 := by kernel_rfl
theorem un22 : prog.underlying 22 = some (TypeDesc.slice 3) := by kernel_rfl
theorem un26 : prog.underlying 26 = some (TypeDesc.slice 22) := by kernel_rfl
theorem un3 : prog.underlying 3 = some (TypeDesc.int IntKind.i64) := by kernel_rfl
theorem ze3 : zeroOf prog 3 = some (Dat.raw (Value.int IntKind.i64 (0))) := by kernel_rfl
theorem zn3 : (zeroOf prog 3).map Dat.num = some 1 := by kernel_rfl
end Go.Proofs.Tryd
namespace Go.Proofs.Tryd
open Go Go.Pm
set_option linter.unusedVariables false
set_option linter.unusedSimpArgs false
set_option maxRecDepth 2000
theorem wrap_i64 {n : Int} (h1 : -9223372036854775808 ≤ n) (h2 : n < 9223372036854775808) : IntKind.i64.wrap n = n := by
  simp only [IntKind.wrap, IntKind.bits, IntKind.signed]; simp; split <;> omega
theorem wrap_succ {j : Nat} (h : j < 9223372036854775807) : IntKind.i64.wrap ((j : Int) + 1) = ((j + 1 : Nat) : Int) := by rw [wrap_i64 (by omega) (by omega)]; omega

def intsD (l : List Int) : Dat := .lst (l.map intD)
theorem ints_get {l : List Int} {j : Nat} (h : j < l.length) : (l.map intD)[j]? = some (intD l[j]) := by simp [h]
theorem map_fit {α : Type} {f : α → Dat} {k : Nat} (h : ∀ a, Dat.fits k (f a) = true) (l : List α) : (l.map f).all (Dat.fits k) = true := by
  simp only [List.all_map, List.all_eq_true]; intro x _; exact h x
theorem getD_eq {l : List Int} {j : Nat} (h : j < l.length) : l.getD j 0 = l[j] := by simp [h]
theorem take_next {α : Type} {l : List α} {j : Nat} (h : j < l.length) : l.take (j + 1) = l.take j ++ [l[j]] := List.take_succ_eq_append_getElem h
def zg (n : Nat) : Nat := if n = 0 then 0 else 1
theorem c_Grow (n : Nat) (hn : n ≤ 1000000) : PC prog env 109 [.ms 0 0 0 0 0, .dat (intD (n : Int))] [.mt 3 0 []] (.ms 0 (zg n) 0 0 n) [.mt 3 (zg n) (cellsOf intD (List.replicate n 0))] := by
  refine PC_body (fn := f109) (by kernel_rfl) rfl rfl (by kernel_rfl) rfl ?_
  refine R_eq (st' := ⟨[.ms 0 0 0 0 0, .dat (intD (n : Int)), .tup [], .tup [], .tup [], .tup [], .tup [], .tup [], .tup [], .tup [], .tup [], .tup [], .tup [], .tup [], .tup [], .tup [], .tup [], .tup [], .tup [], .tup [], .tup [], .tup [], .tup [], .tup [], .tup [], .tup [], .tup []], [.mt 3 0 []]⟩) rfl ?_
  repeat (first | refine R_seq ?_ | refine R_block ?_ | refine R_skip ?_)
  refine R_region ?_
  (refine OpsE_do rfl ?_; refine E_assign rfl rfl ?_; refine OpsE_eq (st' := _) (by first | dsimp only [n0, n1, n2, n3, n4, n5, n6, n7, n8, n9, m0, m1, m2, m3, m4, m5, m6, m7, m8, m9, o0, o1, o2, o3, o4, ↓reduceIte] | rfl) ?_)
  refine OpsE_nil ?_
  have h0 : ¬ ((n : Int) < 0) := by omega
  repeat (first | refine R_seq ?_ | refine R_block ?_ | refine R_skip ?_)
  refine R_region ?_
  iterate 2 ((refine OpsE_do rfl ?_; first | refine E_move rfl ?_ | refine E_int rfl rfl rfl rfl ?_); refine OpsE_eq (st' := _) (by first | (simp only [n0, n1, n2, n3, n4, n5, n6, n7, n8, n9, m0, m1, m2, m3, m4, m5, m6, m7, m8, m9, o0, o1, o2, o3, o4, ↓reduceIte, decide_eq_false h0] <;> rfl) | rfl) ?_)
  refine OpsE_nil ?_
  repeat (first | refine R_seq ?_ | refine R_block ?_ | refine R_skip ?_)
  refine R_false rfl ?_
  have w1 : IntKind.i64.wrap ((n : Int) - IntKind.i64.wrap (0 - ((0 : Nat) : Int))) = (n : Int) := by rw [wrap_i64 (n := 0 - ((0 : Nat) : Int)) (by omega) (by omega), wrap_i64 (by omega) (by omega)]; omega
  repeat (first | refine R_seq ?_ | refine R_block ?_ | refine R_skip ?_)
  refine R_region ?_
  iterate 2 ((refine OpsE_do rfl ?_; refine E_move rfl ?_); refine OpsE_eq (st' := _) (by first | dsimp only [n0, n1, n2, n3, n4, n5, n6, n7, n8, n9, m0, m1, m2, m3, m4, m5, m6, m7, m8, m9, o0, o1, o2, o3, o4, ↓reduceIte] | rfl) ?_)
  (refine OpsE_do rfl ?_; refine E_cap un22 rfl rfl (mtOf_at rfl) ?_; refine OpsE_eq (st' := _) (by first | dsimp only [n0, n1, n2, n3, n4, n5, n6, n7, n8, n9, m0, m1, m2, m3, m4, m5, m6, m7, m8, m9, o0, o1, o2, o3, o4, ↓reduceIte] | rfl) ?_)
  iterate 5 ((refine OpsE_do rfl ?_; first | refine E_move rfl ?_ | refine E_len un22 rfl rfl ?_ | refine E_int rfl rfl rfl rfl ?_ | refine E_assign rfl rfl ?_); refine OpsE_eq (st' := _) (by first | dsimp only [n0, n1, n2, n3, n4, n5, n6, n7, n8, n9, m0, m1, m2, m3, m4, m5, m6, m7, m8, m9, o0, o1, o2, o3, o4, ↓reduceIte] | rfl) ?_)
  refine OpsE_nil ?_
  rw [w1]
  by_cases hz : n = 0
  · subst hz
    repeat (first | refine R_seq ?_ | refine R_block ?_ | refine R_skip ?_)
    refine R_region ?_
    iterate 2 ((refine OpsE_do rfl ?_; first | refine E_move rfl ?_ | refine E_int rfl rfl rfl rfl ?_); refine OpsE_eq (st' := _) (by first | dsimp only [n0, n1, n2, n3, n4, n5, n6, n7, n8, n9, m0, m1, m2, m3, m4, m5, m6, m7, m8, m9, o0, o1, o2, o3, o4, ↓reduceIte] | rfl) ?_)
    refine OpsE_nil ?_
    repeat (first | refine R_seq ?_ | refine R_block ?_ | refine R_skip ?_)
    refine R_false rfl ?_
    repeat (first | refine R_seq ?_ | refine R_block ?_ | refine R_skip ?_)
    refine R_region ?_
    iterate 2 ((refine OpsE_do rfl ?_; first | refine E_move rfl ?_ | refine E_assign rfl rfl ?_); refine OpsE_eq (st' := _) (by first | dsimp only [n0, n1, n2, n3, n4, n5, n6, n7, n8, n9, m0, m1, m2, m3, m4, m5, m6, m7, m8, m9, o0, o1, o2, o3, o4, ↓reduceIte] | rfl) ?_)
    refine OpsE_nil ?_
    repeat (first | refine R_seq ?_ | refine R_block ?_ | refine R_skip ?_)
    refine R_ret ?_
    exact ⟨trivial, _, rfl, rfl, rfl⟩
  · have hp : ((n : Int)) > 0 := by omega
    repeat (first | refine R_seq ?_ | refine R_block ?_ | refine R_skip ?_)
    refine R_region ?_
    iterate 2 ((refine OpsE_do rfl ?_; first | refine E_move rfl ?_ | refine E_int rfl rfl rfl rfl ?_); refine OpsE_eq (st' := _) (by first | (simp only [n0, n1, n2, n3, n4, n5, n6, n7, n8, n9, m0, m1, m2, m3, m4, m5, m6, m7, m8, m9, o0, o1, o2, o3, o4, ↓reduceIte, decide_eq_true hp] <;> rfl) | rfl) ?_)
    refine OpsE_nil ?_
    repeat (first | refine R_seq ?_ | refine R_block ?_ | refine R_skip ?_)
    refine R_true rfl ?_
    repeat (first | refine R_seq ?_ | refine R_block ?_ | refine R_skip ?_)
    refine R_region ?_
    iterate 2 ((refine OpsE_do rfl ?_; refine E_move rfl ?_); refine OpsE_eq (st' := _) (by first | dsimp only [n0, n1, n2, n3, n4, n5, n6, n7, n8, n9, m0, m1, m2, m3, m4, m5, m6, m7, m8, m9, o0, o1, o2, o3, o4, ↓reduceIte] | rfl) ?_)
    (refine OpsE_do rfl ?_; refine E_cap un22 rfl rfl (mtOf_at rfl) ?_; refine OpsE_eq (st' := _) (by first | dsimp only [n0, n1, n2, n3, n4, n5, n6, n7, n8, n9, m0, m1, m2, m3, m4, m5, m6, m7, m8, m9, o0, o1, o2, o3, o4, ↓reduceIte] | rfl) ?_)
    (refine OpsE_do rfl ?_; refine E_sliceMs el22 sz3 rfl rfl (cutMs_of (l := 0) (h := 0) rfl rfl (Nat.le_refl _) (Nat.zero_le _) (Or.inl rfl)) ?_; refine OpsE_eq (st' := _) (by first | dsimp only [n0, n1, n2, n3, n4, n5, n6, n7, n8, n9, m0, m1, m2, m3, m4, m5, m6, m7, m8, m9, o0, o1, o2, o3, o4, ↓reduceIte] | rfl) ?_)
    (refine OpsE_do rfl ?_; refine E_move rfl ?_; refine OpsE_eq (st' := _) (by first | dsimp only [n0, n1, n2, n3, n4, n5, n6, n7, n8, n9, m0, m1, m2, m3, m4, m5, m6, m7, m8, m9, o0, o1, o2, o3, o4, ↓reduceIte] | rfl) ?_)
    (refine OpsE_do rfl ?_; refine E_appendZeros (n := n) el22 un3 sz3 by3 ze3 rfl (by decide) rfl rfl rfl (mtOf_at rfl) (by omega) (by simp [room]; omega) ?_; refine OpsE_eq (st' := _) (by first | dsimp only [n0, n1, n2, n3, n4, n5, n6, n7, n8, n9, m0, m1, m2, m3, m4, m5, m6, m7, m8, m9, o0, o1, o2, o3, o4, ↓reduceIte] | rfl) ?_)
    iterate 2 ((refine OpsE_do rfl ?_; first | refine E_move rfl ?_ | refine E_len un22 rfl rfl ?_); refine OpsE_eq (st' := _) (by first | dsimp only [n0, n1, n2, n3, n4, n5, n6, n7, n8, n9, m0, m1, m2, m3, m4, m5, m6, m7, m8, m9, o0, o1, o2, o3, o4, ↓reduceIte] | rfl) ?_)
    (refine OpsE_do rfl ?_; refine E_sliceMs el22 sz3 rfl rfl (cutMs_of (l := 0) (h := 0) rfl rfl (Nat.le_refl _) (Nat.zero_le _) (Or.inl rfl)) ?_; refine OpsE_eq (st' := _) (by first | dsimp only [n0, n1, n2, n3, n4, n5, n6, n7, n8, n9, m0, m1, m2, m3, m4, m5, m6, m7, m8, m9, o0, o1, o2, o3, o4, ↓reduceIte] | rfl) ?_)
    (refine OpsE_do rfl ?_; refine E_assign rfl rfl ?_; refine OpsE_eq (st' := _) (by first | dsimp only [n0, n1, n2, n3, n4, n5, n6, n7, n8, n9, m0, m1, m2, m3, m4, m5, m6, m7, m8, m9, o0, o1, o2, o3, o4, ↓reduceIte] | rfl) ?_)
    refine OpsE_nil ?_
    repeat (first | refine R_seq ?_ | refine R_block ?_ | refine R_skip ?_)
    refine R_region ?_
    iterate 2 ((refine OpsE_do rfl ?_; first | refine E_move rfl ?_ | refine E_assign rfl rfl ?_); refine OpsE_eq (st' := _) (by first | dsimp only [n0, n1, n2, n3, n4, n5, n6, n7, n8, n9, m0, m1, m2, m3, m4, m5, m6, m7, m8, m9, o0, o1, o2, o3, o4, ↓reduceIte] | rfl) ?_)
    refine OpsE_nil ?_
    repeat (first | refine R_seq ?_ | refine R_block ?_ | refine R_skip ?_)
    refine R_ret ?_
    refine ⟨trivial, _, rfl, ?_, ?_⟩
    · simp [zg, hz, tupOf]
    · simp [zg, hz, cellsOf, intD]
def intssD (ls : List (List Int)) : Dat := .lst (ls.map intsD)
theorem flat_next {ls : List (List Int)} {j : Nat} (h : j < ls.length) : (ls.take (j + 1)).flatten = (ls.take j).flatten ++ ls[j] := by
  rw [take_next h, List.flatten_append]; simp
theorem flat_le {ls : List (List Int)} (j : Nat) : (ls.take j).flatten.length ≤ ls.flatten.length := by
  have : ls.flatten = (ls.take j).flatten ++ (ls.drop j).flatten := by rw [← List.flatten_append, List.take_append_drop]
  rw [this, List.length_append]; omega

theorem c_Concat (ls : List (List Int)) (H : List Blk) (hls : ls.length ≤ 1000) (hfl : ls.flatten.length ≤ 1000000) : PC prog env 107 [.dat (intssD ls)] H (.dat (intsD ls.flatten)) H := by
  refine PC_pure (fn := f107) (by kernel_rfl) rfl rfl (by kernel_rfl) rfl rfl ?_ (by simp [PV.lends])
  refine R_eq (st' := ⟨[.dat (intssD ls), .tup [], .tup [], .tup [], .tup [], .tup [], .tup [], .tup [], .tup [], .tup [], .tup [], .tup [], .tup [], .tup [], .tup [], .tup [], .tup [], .tup [], .tup [], .tup [], .tup [], .tup [], .tup [], .tup [], .tup [], .tup [], .tup [], .tup [], .tup [], .tup [], .tup [], .tup [], .tup [], .tup [], .tup [], .tup []], []⟩) rfl ?_
  repeat (first | refine R_seq ?_ | refine R_block ?_ | refine R_skip ?_)
  refine R_region ?_
  (refine OpsE_do rfl ?_; refine E_assign rfl rfl ?_; refine OpsE_eq (st' := _) (by first | dsimp only [n0, n1, n2, n3, n4, n5, n6, n7, n8, n9, m0, m1, m2, m3, m4, m5, m6, m7, m8, m9, o0, o1, o2, o3, o4, ↓reduceIte] | rfl) ?_)
  refine OpsE_nil ?_
  repeat (first | refine R_seq ?_ | refine R_block ?_ | refine R_skip ?_)
  refine R_region ?_
  (refine OpsE_do rfl ?_; refine E_assign rfl rfl ?_; refine OpsE_eq (st' := _) (by first | dsimp only [n0, n1, n2, n3, n4, n5, n6, n7, n8, n9, m0, m1, m2, m3, m4, m5, m6, m7, m8, m9, o0, o1, o2, o3, o4, ↓reduceIte] | rfl) ?_)
  refine OpsE_nil ?_
  repeat (first | refine R_seq ?_ | refine R_block ?_ | refine R_skip ?_)
  refine R_region ?_
  iterate 3 ((refine OpsE_do rfl ?_; first | refine E_move rfl ?_ | refine E_len un26 rfl rfl ?_); refine OpsE_eq (st' := _) (by first | dsimp only [n0, n1, n2, n3, n4, n5, n6, n7, n8, n9, m0, m1, m2, m3, m4, m5, m6, m7, m8, m9, o0, o1, o2, o3, o4, ↓reduceIte] | rfl) ?_)
  refine OpsE_nil ?_
  repeat (first | refine R_seq ?_ | refine R_block ?_ | refine R_skip ?_)
  refine R_loop ?_
  refine RL_ind (fun (j : Nat) => ⟨[.dat (intssD ls), .undef, .undef, intPV ((ls.take j).flatten.length : Int), .undef, .undef, .undef, .undef, .undef, .dat (intssD ls), intPV (ls.length : Int), intPV (j : Int), .undef, .undef, .undef, .undef, .undef, .undef, .undef, .undef, .undef, .undef, .undef, .undef, .undef, .undef, .undef, .undef, .undef, .undef, .undef, .undef, .undef, .undef, .undef, .undef], []⟩)
    (fun j => j ≤ ls.length) (fun j => ls.length - j) (fun j hj => ?_) _ 0 _ (Nat.lt_succ_self _) (Nat.zero_le _) (by simp only [intssD, List.length_map]; rfl)
  repeat (first | refine R_seq ?_ | refine R_block ?_ | refine R_skip ?_)
  refine R_region ?_
  (refine OpsE_do rfl ?_; (first | refine E_int rfl rfl rfl rfl ?_ | refine E_bin rfl rfl rfl rfl ?_); refine OpsE_eq (st' := _) (by first | dsimp only [n0, n1, n2, n3, n4, n5, n6, n7, n8, n9, m0, m1, m2, m3, m4, m5, m6, m7, m8, m9, o0, o1, o2, o3, o4, ↓reduceIte] | rfl) ?_)
  refine OpsE_nil ?_
  repeat (first | refine R_seq ?_ | refine R_block ?_ | refine R_skip ?_)
  refine R_if rfl (fun h => ?_) (fun h => ?_)
  · have hj' : j < ls.length := by simpa using h
    have hf := flat_le (ls := ls) (j + 1)
    rw [flat_next hj', List.length_append] at hf
    repeat (first | refine R_seq ?_ | refine R_block ?_ | refine R_skip ?_)
    refine R_region ?_
    (refine OpsE_do rfl ?_; (first | refine E_index el26 sz22 rfl rfl rfl rfl (map_get _ (by first | assumption | omega)) rfl ?_ | refine E_index0 el26 sz22 rfl rfl rfl rfl (map_get _ (by first | assumption | omega)) ?_ | refine E_indexArr el26 sz22 rfl rfl rfl rfl (map_get _ (by first | assumption | omega)) ?_); refine OpsE_eq (st' := _) (by first | dsimp only [n0, n1, n2, n3, n4, n5, n6, n7, n8, n9, m0, m1, m2, m3, m4, m5, m6, m7, m8, m9, o0, o1, o2, o3, o4, ↓reduceIte] | rfl) ?_)
    iterate 2 ((refine OpsE_do rfl ?_; first | refine E_loadi (ds := [_]) ag22 sz22 rfl rfl rfl rfl ?_ | refine E_loadp (ds := [_]) ag22 sz22 rfl rfl rfl rfl rfl ?_ | refine E_assign rfl rfl ?_); refine OpsE_eq (st' := _) (by first | dsimp only [n0, n1, n2, n3, n4, n5, n6, n7, n8, n9, m0, m1, m2, m3, m4, m5, m6, m7, m8, m9, o0, o1, o2, o3, o4, ↓reduceIte] | rfl) ?_)
    refine OpsE_nil ?_
    have w1 : IntKind.i64.wrap (((ls.take j).flatten.length : Int) + ((ls[j].map intD).length : Int)) = ((ls.take (j + 1)).flatten.length : Int) := by
      rw [flat_next hj', List.length_append, List.length_map, wrap_i64 (by omega) (by omega)]; omega
    have h0 : ¬ (((ls.take (j + 1)).flatten.length : Int) < 0) := by omega
    repeat (first | refine R_seq ?_ | refine R_block ?_ | refine R_skip ?_)
    refine R_region ?_
    iterate 5 ((refine OpsE_do rfl ?_; first | refine E_move rfl ?_ | refine E_len un22 rfl rfl ?_ | refine E_int rfl rfl rfl rfl ?_ | refine E_assign rfl rfl ?_); refine OpsE_eq (st' := _) (by first | (simp only [n0, n1, n2, n3, n4, n5, n6, n7, n8, n9, m0, m1, m2, m3, m4, m5, m6, m7, m8, m9, o0, o1, o2, o3, o4, ↓reduceIte, w1] <;> rfl) | rfl) ?_)
    refine OpsE_nil ?_
    repeat (first | refine R_seq ?_ | refine R_block ?_ | refine R_skip ?_)
    refine R_region ?_
    iterate 2 ((refine OpsE_do rfl ?_; first | refine E_move rfl ?_ | refine E_int rfl rfl rfl rfl ?_); refine OpsE_eq (st' := _) (by first | (simp only [n0, n1, n2, n3, n4, n5, n6, n7, n8, n9, m0, m1, m2, m3, m4, m5, m6, m7, m8, m9, o0, o1, o2, o3, o4, ↓reduceIte, decide_eq_false h0] <;> rfl) | rfl) ?_)
    refine OpsE_nil ?_
    repeat (first | refine R_seq ?_ | refine R_block ?_ | refine R_skip ?_)
    refine R_false rfl ?_
    repeat (first | refine R_seq ?_ | refine R_block ?_ | refine R_skip ?_)
    refine R_region ?_
    iterate 2 ((refine OpsE_do rfl ?_; first | refine E_int rfl rfl rfl rfl ?_ | refine E_move rfl ?_); refine OpsE_eq (st' := _) (by first | dsimp only [n0, n1, n2, n3, n4, n5, n6, n7, n8, n9, m0, m1, m2, m3, m4, m5, m6, m7, m8, m9, o0, o1, o2, o3, o4, ↓reduceIte] | rfl) ?_)
    refine OpsE_nil ?_
    refine ⟨j + 1, ?_, by omega, hj'⟩
    rw [wrap_succ (by omega)]
    rfl
  · have hj' : j = ls.length := by simp at h; omega
    subst hj'
    rw [List.take_length]
    repeat (first | refine R_seq ?_ | refine R_block ?_ | refine R_skip ?_)
    refine R_exit ?_
    repeat (first | refine R_seq ?_ | refine R_block ?_ | refine R_skip ?_)
    refine R_region ?_
    (refine OpsE_do rfl ?_; refine E_move rfl ?_; refine OpsE_eq (st' := _) (by first | dsimp only [n0, n1, n2, n3, n4, n5, n6, n7, n8, n9, m0, m1, m2, m3, m4, m5, m6, m7, m8, m9, o0, o1, o2, o3, o4, ↓reduceIte] | rfl) ?_)
    (refine OpsE_do rfl ?_; refine E_callNil rfl rfl rfl rfl (c_Grow ls.flatten.length hfl) ?_; refine OpsE_eq (st' := _) (by first | dsimp only [n0, n1, n2, n3, n4, n5, n6, n7, n8, n9, m0, m1, m2, m3, m4, m5, m6, m7, m8, m9, o0, o1, o2, o3, o4, ↓reduceIte] | rfl) ?_)
    (refine OpsE_do rfl ?_; refine E_assign rfl rfl ?_; refine OpsE_eq (st' := _) (by first | dsimp only [n0, n1, n2, n3, n4, n5, n6, n7, n8, n9, m0, m1, m2, m3, m4, m5, m6, m7, m8, m9, o0, o1, o2, o3, o4, ↓reduceIte] | rfl) ?_)
    refine OpsE_nil ?_
    repeat (first | refine R_seq ?_ | refine R_block ?_ | refine R_skip ?_)
    refine R_region ?_
    iterate 3 ((refine OpsE_do rfl ?_; first | refine E_move rfl ?_ | refine E_len un26 rfl rfl ?_); refine OpsE_eq (st' := _) (by first | dsimp only [n0, n1, n2, n3, n4, n5, n6, n7, n8, n9, m0, m1, m2, m3, m4, m5, m6, m7, m8, m9, o0, o1, o2, o3, o4, ↓reduceIte] | rfl) ?_)
    refine OpsE_nil ?_
    repeat (first | refine R_seq ?_ | refine R_block ?_ | refine R_skip ?_)
    refine R_loop ?_
    refine RL_h0 (h1 := 1) rfl ?_
    refine RL_ind (fun (j : Nat) => ⟨[.undef, .undef, .undef, .undef, .undef, .undef, .ms 0 (zg ls.flatten.length) 0 (ls.take j).flatten.length ls.flatten.length, .undef, .undef, .undef, .undef, .undef, .undef, .undef, .undef, .undef, .undef, .undef, .undef, .undef, .undef, .undef, .undef, .undef, .undef, .dat (intssD ls), intPV (ls.length : Int), intPV (j : Int), .undef, .undef, .undef, .undef, .undef, .undef, .undef, .undef], [.mt 3 (zg ls.flatten.length) (cellsOf intD ((ls.take j).flatten ++ List.replicate (ls.flatten.length - (ls.take j).flatten.length) 0))]⟩)
      (fun j => j ≤ ls.length) (fun j => ls.length - j) (fun j hj => ?_) _ 0 _ (Nat.lt_succ_self _) (Nat.zero_le _) ?_
    · repeat (first | refine R_seq ?_ | refine R_block ?_ | refine R_skip ?_)
      refine R_region ?_
      (refine OpsE_do rfl ?_; (first | refine E_int rfl rfl rfl rfl ?_ | refine E_bin rfl rfl rfl rfl ?_); refine OpsE_eq (st' := _) (by first | dsimp only [n0, n1, n2, n3, n4, n5, n6, n7, n8, n9, m0, m1, m2, m3, m4, m5, m6, m7, m8, m9, o0, o1, o2, o3, o4, ↓reduceIte] | rfl) ?_)
      refine OpsE_nil ?_
      repeat (first | refine R_seq ?_ | refine R_block ?_ | refine R_skip ?_)
      refine R_if rfl (fun h => ?_) (fun h => ?_)
      · have hj' : j < ls.length := by simpa using h
        have hf := flat_le (ls := ls) (j + 1)
        rw [flat_next hj', List.length_append] at hf
        repeat (first | refine R_seq ?_ | refine R_block ?_ | refine R_skip ?_)
        refine R_region ?_
        (refine OpsE_do rfl ?_; (first | refine E_index el26 sz22 rfl rfl rfl rfl (map_get _ (by first | assumption | omega)) rfl ?_ | refine E_index0 el26 sz22 rfl rfl rfl rfl (map_get _ (by first | assumption | omega)) ?_ | refine E_indexArr el26 sz22 rfl rfl rfl rfl (map_get _ (by first | assumption | omega)) ?_); refine OpsE_eq (st' := _) (by first | dsimp only [n0, n1, n2, n3, n4, n5, n6, n7, n8, n9, m0, m1, m2, m3, m4, m5, m6, m7, m8, m9, o0, o1, o2, o3, o4, ↓reduceIte] | rfl) ?_)
        iterate 2 ((refine OpsE_do rfl ?_; first | refine E_loadi (ds := [_]) ag22 sz22 rfl rfl rfl rfl ?_ | refine E_loadp (ds := [_]) ag22 sz22 rfl rfl rfl rfl rfl ?_ | refine E_assign rfl rfl ?_); refine OpsE_eq (st' := _) (by first | dsimp only [n0, n1, n2, n3, n4, n5, n6, n7, n8, n9, m0, m1, m2, m3, m4, m5, m6, m7, m8, m9, o0, o1, o2, o3, o4, ↓reduceIte] | rfl) ?_)
        refine OpsE_nil ?_
        have ha : appendMs [.mt 3 (zg ls.flatten.length) (cellsOf intD ((ls.take j).flatten ++ List.replicate (ls.flatten.length - (ls.take j).flatten.length) 0))] 3 8 0 (zg ls.flatten.length) 0 (ls.take j).flatten.length ls.flatten.length (cellsOf intD ls[j]) =
            some (.ms 0 (zg ls.flatten.length) 0 (ls.take (j + 1)).flatten.length ls.flatten.length, [.mt 3 (zg ls.flatten.length) (cellsOf intD ((ls.take (j + 1)).flatten ++ List.replicate (ls.flatten.length - (ls.take (j + 1)).flatten.length) 0))]) := by
          rw [flat_next hj']
          generalize (ls.take j).flatten = A at hf ⊢
          generalize ls[j] = B at hf ⊢
          generalize ls.flatten.length = m at hf ⊢
          cases B with
          | nil => simp only [List.append_nil]; exact appendMs_nil
          | cons x B =>
            rw [ms_append_in (H := [.mt 3 (zg m) (cellsOf intD (A ++ List.replicate (m - A.length) 0))]) (t := 0) (len := A.length) (es := x :: B) (f := intD) (l := A ++ List.replicate (m - A.length) 0) (fun _ => rfl) (mtOf_at rfl) (Nat.succ_pos _) (by simp only [List.length_append, List.length_replicate]; omega)]
            have e1 : (A ++ List.replicate (m - A.length) (0 : Int)).take A.length = A := List.take_left' rfl
            have e2 : (A ++ List.replicate (m - A.length) (0 : Int)).drop (A.length + (x :: B).length) = List.replicate (m - (A ++ x :: B).length) 0 := by
              rw [List.drop_append, List.drop_of_length_le (by omega), List.nil_append, List.drop_replicate, List.length_append]
              congr 1; omega
            rw [e1, e2, Nat.max_eq_left (by omega), List.length_append]
            rfl
        repeat (first | refine R_seq ?_ | refine R_block ?_ | refine R_skip ?_)
        refine R_region ?_
        iterate 2 ((refine OpsE_do rfl ?_; refine E_move rfl ?_); refine OpsE_eq (st' := _) (by first | dsimp only [n0, n1, n2, n3, n4, n5, n6, n7, n8, n9, m0, m1, m2, m3, m4, m5, m6, m7, m8, m9, o0, o1, o2, o3, o4, ↓reduceIte] | rfl) ?_)
        (refine OpsE_do rfl ?_; refine E_appendMs el22 sz3 by3 zn3 (by decide) rfl rfl (source_lst (f := intD) (fun _ => rfl)) ha ?_; refine OpsE_eq (st' := _) (by first | dsimp only [n0, n1, n2, n3, n4, n5, n6, n7, n8, n9, m0, m1, m2, m3, m4, m5, m6, m7, m8, m9, o0, o1, o2, o3, o4, ↓reduceIte] | rfl) ?_)
        (refine OpsE_do rfl ?_; refine E_assign rfl rfl ?_; refine OpsE_eq (st' := _) (by first | dsimp only [n0, n1, n2, n3, n4, n5, n6, n7, n8, n9, m0, m1, m2, m3, m4, m5, m6, m7, m8, m9, o0, o1, o2, o3, o4, ↓reduceIte] | rfl) ?_)
        refine OpsE_nil ?_
        repeat (first | refine R_seq ?_ | refine R_block ?_ | refine R_skip ?_)
        refine R_region ?_
        iterate 2 ((refine OpsE_do rfl ?_; first | refine E_int rfl rfl rfl rfl ?_ | refine E_move rfl ?_); refine OpsE_eq (st' := _) (by first | dsimp only [n0, n1, n2, n3, n4, n5, n6, n7, n8, n9, m0, m1, m2, m3, m4, m5, m6, m7, m8, m9, o0, o1, o2, o3, o4, ↓reduceIte] | rfl) ?_)
        refine OpsE_nil ?_
        refine ⟨j + 1, ?_, by omega, hj'⟩
        rw [wrap_succ (by omega)]
        refine (prune_some rfl).trans ?_
        dsimp only [m6, m7, o0, o1]
        rw [purge_mt]
        rfl
      · have hj' : j = ls.length := by simp at h; omega
        subst hj'
        rw [List.take_length, Nat.sub_self, List.replicate_zero, List.append_nil]
        repeat (first | refine R_seq ?_ | refine R_block ?_ | refine R_skip ?_)
        refine R_exit ?_
        repeat (first | refine R_seq ?_ | refine R_block ?_ | refine R_skip ?_)
        refine R_region ?_
        iterate 2 ((refine OpsE_do rfl ?_; first | refine E_move rfl ?_ | refine E_assign rfl rfl ?_); refine OpsE_eq (st' := _) (by first | dsimp only [n0, n1, n2, n3, n4, n5, n6, n7, n8, n9, m0, m1, m2, m3, m4, m5, m6, m7, m8, m9, o0, o1, o2, o3, o4, ↓reduceIte] | rfl) ?_)
        refine OpsE_nil ?_
        repeat (first | refine R_seq ?_ | refine R_block ?_ | refine R_skip ?_)
        refine R_ret ?_
        refine ⟨trivial, _, rfl, ?_⟩
        have r1 := pure_ms (H := [.mt 3 (zg ls.flatten.length) (cellsOf intD ls.flatten)]) (g := zg ls.flatten.length) (t := 0) (cap := ls.flatten.length) (f := intD) (fun _ => rfl) (mtOf_at rfl) (Nat.le_refl _)
        rw [List.take_length] at r1
        show (pureC [.mt 3 (zg ls.flatten.length) (cellsOf intD ls.flatten)] (.ms 0 (zg ls.flatten.length) 0 ls.flatten.length ls.flatten.length)).map PV.dat = _
        rw [r1]
        rfl
    · refine (prune_some rfl).trans ?_
      dsimp only [m6, m7, o0, o1]
      rw [purge_mt]
      simp only [intssD, List.length_map]
      rfl

def m_slices_Concat_int_int (x : List (List Int)) : Option (List Int) := if x.length ≤ 1000 ∧ x.flatten.length ≤ 1000000 then some x.flatten else none
def P_slices_Concat_int_int : List (List Int) → List Int → Prop := fun x r => ∀ H, PC prog env 107 ([.lst ((List.map (fun l => Dat.lst ((List.map intD) l))) x)].map .dat) H (.dat (.lst ((List.map intD) r))) H
theorem w_slices_Concat_int_int : ∀ x r, m_slices_Concat_int_int x = some r → P_slices_Concat_int_int x r := by
  intro x r hm
  unfold m_slices_Concat_int_int at hm
  split at hm
  · rename_i h
    cases hm
    intro H
    exact c_Concat x H h.1 h.2
  · cases hm
end Go.Proofs.Tryd
namespace Go.Proofs.Tryd
open Go Go.Pm
set_option linter.unusedVariables false
set_option maxRecDepth 2000
structure T_ref14_Core where
  kind : Int
  shape : (List Int)
  buffer : Int
  starts : (List Int)
  axis : Int
  amount : Int
  perm : (List Int)
  kids : (List T_ref14_Core)
mutual
def T_ref14_Core.toD : T_ref14_Core → Dat
  | ⟨kind, shape, buffer, starts, axis, amount, perm, kids⟩ => .agg [(intD kind), (.lst ((List.map intD) shape)), (intD buffer), (.lst ((List.map intD) starts)), (intD axis), (intD amount), (.lst ((List.map intD) perm)), (.lst (T_ref14_Core.toDs kids))]
def T_ref14_Core.toDs : List T_ref14_Core → List Dat
  | [] => []
  | k :: ks => T_ref14_Core.toD k :: T_ref14_Core.toDs ks
end
theorem T_ref14_Core.toDs_eq : ∀ l : List T_ref14_Core, T_ref14_Core.toDs l = l.map T_ref14_Core.toD
  | [] => rfl
  | k :: ks => by rw [T_ref14_Core.toDs, T_ref14_Core.toDs_eq ks]; rfl
def T_ref14_Core.ex (x : T_ref14_Core) : Dat := .agg [(intD x.kind), (.lst ((List.map intD) x.shape)), (intD x.buffer), (.lst ((List.map intD) x.starts)), (intD x.axis), (intD x.amount), (.lst ((List.map intD) x.perm)), (.lst (T_ref14_Core.toDs x.kids))]
theorem T_ref14_Core.toD_eq (x : T_ref14_Core) : x.toD = x.ex := by cases x; rfl
theorem T_ref14_Core.fit (x : T_ref14_Core) : Dat.fits 8 x.toD = true := by cases x; rfl
structure T_core_Core where
  kind : Int
  shape : (List Int)
  buffer : Int
  starts : (List Int)
  axis : Int
  amount : Int
  perm : (List Int)
  kids : (List T_core_Core)
mutual
def T_core_Core.toD : T_core_Core → Dat
  | ⟨kind, shape, buffer, starts, axis, amount, perm, kids⟩ => .agg [(intD kind), (.lst ((List.map intD) shape)), (intD buffer), (.lst ((List.map intD) starts)), (intD axis), (intD amount), (.lst ((List.map intD) perm)), (.lst (T_core_Core.toDs kids))]
def T_core_Core.toDs : List T_core_Core → List Dat
  | [] => []
  | k :: ks => T_core_Core.toD k :: T_core_Core.toDs ks
end
theorem T_core_Core.toDs_eq : ∀ l : List T_core_Core, T_core_Core.toDs l = l.map T_core_Core.toD
  | [] => rfl
  | k :: ks => by rw [T_core_Core.toDs, T_core_Core.toDs_eq ks]; rfl
def T_core_Core.ex (x : T_core_Core) : Dat := .agg [(intD x.kind), (.lst ((List.map intD) x.shape)), (intD x.buffer), (.lst ((List.map intD) x.starts)), (intD x.axis), (intD x.amount), (.lst ((List.map intD) x.perm)), (.lst (T_core_Core.toDs x.kids))]
theorem T_core_Core.toD_eq (x : T_core_Core) : x.toD = x.ex := by cases x; rfl
theorem T_core_Core.fit (x : T_core_Core) : Dat.fits 8 x.toD = true := by cases x; rfl
end Go.Proofs.Tryd
namespace Go.Proofs.Tryd
open Go Go.Pm
set_option linter.unusedVariables false
set_option maxRecDepth 2000
def m_law14_awake (x : Unit) : Option Bool := some true
def P_law14_awake : Unit → Bool → Prop := fun x r => ∀ H, PC prog env 7 ([].map .dat) H (boolPV r) H
theorem w_law14_awake : ∀ x r, m_law14_awake x = some r → P_law14_awake x r := by
  intro x r hm
  cases hm
  intro H
  exact PC_of (n := 200) (by kernel_rfl)
end Go.Proofs.Tryd
namespace Go.Proofs.Tryd
open Go Go.Pm
set_option linter.unusedVariables false
set_option maxRecDepth 2000
mutual
def m_ref14_left_L1 (x : (T_ref14_Core × Int × Int)) : Option (Int) :=
  match x with
  | (p0, v203, v204) =>
  (if v204 < (p0.kids.length : Int) then
    some (decide (v203 ≥ 0))
  else
  some false
  ) >>= fun (v604 : Bool) =>
  if v604 = true then
    idx p0.kids v204 >>= fun v605 =>
    m_ref14_left (v605, v203) >>= fun (v606 : Int) =>
    m_ref14_left_L1 (p0, v606, (W (v204 + 1)))
  else
  some v203
  partial_fixpoint
def m_ref14_left (x : (T_ref14_Core × Int)) : Option Int :=
  match x with
  | (p0, p1) =>
  ((if (p0.shape.length : Int) > 40 then
    some true
  else
  some (decide ((p0.starts.length : Int) > 40))
  ) >>= fun (v2 : Bool) =>
  if v2 = true then
    some true
  else
  some (decide ((p0.perm.length : Int) > 40))
  ) >>= fun (v1 : Bool) =>
  if v1 = true then
    some (-1)
  else
  m_ref14_left_L1 (p0, (W (p1 - 1)), 0) >>= fun (v603 : Int) =>
  some v603
  partial_fixpoint
end
def P_ref14_left_L1 : (T_ref14_Core × Int × Int) → Int → Prop := fun x r => match x with
  | (p0, v203, v204) => ∀ st, prune 1 ((firstRegion (codeAt [1, 1, 1, 0, 1, 0, 0] (bodyOf f24))).bind (env.hint 24).keepAt) st = ⟨kp 43 [(1, (intPV v203)), (2, (.ptr 0 0)), (5, (intPV v204))], [(.box [(intPV p0.kind), (.dat (.lst ((List.map intD) p0.shape))), (intPV p0.buffer), (.dat (.lst ((List.map intD) p0.starts))), (intPV p0.axis), (intPV p0.amount), (.dat (.lst ((List.map intD) p0.perm))), (.dat (.lst (T_ref14_Core.toDs p0.kids)))])]⟩ →
    RL prog env (env.hint 24) true (codeAt [1, 1, 1, 0, 1, 0, 0] (bodyOf f24)) 1 st (fun e s => match r with | v603 => e = .exit 0 ∧ ∃ d, s = ⟨sl d 43 [(1, (intPV v603))], [(.box [(intPV p0.kind), (.dat (.lst ((List.map intD) p0.shape))), (intPV p0.buffer), (.dat (.lst ((List.map intD) p0.starts))), (intPV p0.axis), (intPV p0.amount), (.dat (.lst ((List.map intD) p0.perm))), (.dat (.lst (T_ref14_Core.toDs p0.kids)))])]⟩)
def P_ref14_left : (T_ref14_Core × Int) → Int → Prop := fun x r => match x, r with
  | (p0, p1), r0 => ∀ H, PC prog env 24 ([(T_ref14_Core.ex p0), (intD p1)].map .dat) H (intPV r0) H
theorem g_ref14_left_L1 : (∀ x r, m_ref14_left_L1 x = some r → P_ref14_left_L1 x r) ∧ (∀ x r, m_ref14_left x = some r → P_ref14_left x r) := by
  refine m_ref14_left_L1.mutual_partial_correctness P_ref14_left_L1 P_ref14_left ?_ ?_
  · intro m_ref14_left_L1 m_ref14_left w_ref14_left_L1 w_ref14_left x r hm
    unfold P_ref14_left_L1
    obtain ⟨p0, v203, v204⟩ := x
    intro st hst
    refine RL_at hst ?_
    clear hst
    refine R_seq ?_
    refine R_seq ?_
    obtain ⟨v604, hs, hm⟩ := bind_inv hm
    refine R_cut (fun d => ⟨sl d 43 [(1, (intPV v203)), (2, (.ptr 0 0)), (5, (intPV v204)), (32, (boolPV v604))], [(.box [(intPV p0.kind), (.dat (.lst ((List.map intD) p0.shape))), (intPV p0.buffer), (.dat (.lst ((List.map intD) p0.starts))), (intPV p0.axis), (intPV p0.amount), (.dat (.lst ((List.map intD) p0.perm))), (.dat (.lst (T_ref14_Core.toDs p0.kids)))])]⟩) ?_ (fun d => ?_)
    · replace hm := hs
      clear hs
      refine R_G ?_
      refine G_run 3 ?_
      refine I_len T_ref14_Core.toD p0.kids (es := T_ref14_Core.toDs p0.kids) (T_ref14_Core.toDs_eq _) ?_
      refine G_run 2 ?_
      refine G_split (p := v204 < (p0.kids.length : Int)) 29 (rfl) (fun hc => ?_) (fun hc => ?_)
      · replace hm := pos_inv hc hm
        refine G_run 3 ?_
        refine G_end ?_
        obtain rfl := inj1 hm
        exact cut_leaf (by kernel_rfl)
      replace hm := neg_inv hc hm
      refine G_run 3 ?_
      refine G_end ?_
      obtain rfl := inj1 hm
      exact cut_leaf (by kernel_rfl)
    clear hs
    refine R_ifp (p := v604 = true) (bool_dec _) (fun hc => ?_) (fun hc => ?_)
    · replace hm := pos_inv hc hm
      refine R_skip ?_
      refine R_seq ?_
      refine R_block ?_
      refine R_G ?_
      refine G_run 3 ?_
      obtain ⟨v605, hx, hm⟩ := bind_inv hm
      refine I_idx 8 T_ref14_Core.toD p0.kids v204 v605 (es := T_ref14_Core.toDs p0.kids) (d := (T_ref14_Core.ex v605)) (T_ref14_Core.toDs_eq _) hx (T_ref14_Core.toD_eq v605) rfl ?_
      refine G_run 2 ?_
      obtain ⟨v606, hx, hm⟩ := bind_inv hm
      have hq := w_ref14_left _ _ hx []
      refine G_callP hq ?_
      refine G_run 1 ?_
      refine G_end ?_
      refine R_G ?_
      refine G_run 3 ?_
      refine G_end ?_
      exact w_ref14_left_L1 _ _ hm _ (by kernel_rfl)
    replace hm := neg_inv hc hm
    refine R_exit ?_
    obtain rfl := inj1 hm
    exact ⟨rfl, cut_leaf (by kernel_rfl)⟩
  · intro m_ref14_left_L1 w_ref14_left_L1 x r0 hm
    unfold P_ref14_left
    obtain ⟨p0, p1⟩ := x
    intro H
    refine PC_sx (ds := [(T_ref14_Core.ex p0), (intD p1)]) (fn := f24) (by kernel_rfl) (by kernel_rfl) rfl ?_ (by kernel_rfl)
    refine R_seq ?_
    refine R_G ?_
    refine G_run 2 ?_
    refine G_end ?_
    refine R_seq ?_
    refine R_G ?_
    refine G_run 3 ?_
    refine G_end ?_
    refine R_seq ?_
    refine R_seq ?_
    obtain ⟨v1, hs, hm⟩ := bind_inv hm
    refine R_cut (fun d => ⟨sl d 43 [(1, (intPV (W (p1 - 1)))), (2, (.ptr 0 0)), (23, (boolPV v1))], [(.box [(intPV p0.kind), (.dat (.lst ((List.map intD) p0.shape))), (intPV p0.buffer), (.dat (.lst ((List.map intD) p0.starts))), (intPV p0.axis), (intPV p0.amount), (.dat (.lst ((List.map intD) p0.perm))), (.dat (.lst (T_ref14_Core.toDs p0.kids)))])]⟩) ?_ (fun d => ?_)
    · replace hm := hs
      clear hs
      refine R_GN ?_
      refine G_run 2 ?_
      refine I_len intD p0.shape (es := (List.map intD) p0.shape) rfl ?_
      refine G_run 2 ?_
      obtain ⟨v2, hs, hm⟩ := bind_inv hm
      refine G_cut (j := 10) (fun d => ⟨sl d 43 [(0, (.dat (.agg [(intD p0.kind), (.lst ((List.map intD) p0.shape)), (intD p0.buffer), (.lst ((List.map intD) p0.starts)), (intD p0.axis), (intD p0.amount), (.lst ((List.map intD) p0.perm)), (.lst (T_ref14_Core.toDs p0.kids))]))), (1, (intPV (W (p1 - 1)))), (2, (.ptr 0 0)), (4, (intPV 0)), (6, (intPV p1)), (7, (intPV (W (p1 - 1)))), (8, (.ptr 0 1)), (9, (.dat (.lst ((List.map intD) p0.shape)))), (10, (intPV (p0.shape.length : Int))), (11, (boolPV (decide ((p0.shape.length : Int) > 40)))), (17, (boolPV v2))], [(.box [(intPV p0.kind), (.dat (.lst ((List.map intD) p0.shape))), (intPV p0.buffer), (.dat (.lst ((List.map intD) p0.starts))), (intPV p0.axis), (intPV p0.amount), (.dat (.lst ((List.map intD) p0.perm))), (.dat (.lst (T_ref14_Core.toDs p0.kids)))])]⟩) (fun d => ?_) (fun hJ => ?_)
      · clear hs
        refine G_run 1 ?_
        refine G_split (p := v2 = true) 18 (bool_dec _) (fun hc => ?_) (fun hc => ?_)
        · replace hm := pos_inv hc hm
          refine G_run 5 ?_
          refine G_end ⟨by kernel_rfl, ?_⟩
          obtain rfl := inj1 hm
          exact cut_leaf (by kernel_rfl)
        replace hm := neg_inv hc hm
        refine G_run 2 ?_
        refine I_len intD p0.perm (es := (List.map intD) p0.perm) rfl ?_
        refine G_run 2 ?_
        refine G_end ⟨by kernel_rfl, ?_⟩
        obtain rfl := inj1 hm
        exact cut_leaf (by kernel_rfl)
      replace hm := hs
      clear hs
      refine G_split (p := (p0.shape.length : Int) > 40) 12 (rfl) (fun hc => ?_) (fun hc => ?_)
      · replace hm := pos_inv hc hm
        refine G_run 5 ?_
        obtain rfl := inj1 hm
        exact hJ _ _ (by kernel_rfl) (by kernel_rfl)
      replace hm := neg_inv hc hm
      refine G_run 2 ?_
      refine I_len intD p0.starts (es := (List.map intD) p0.starts) rfl ?_
      refine G_run 2 ?_
      obtain rfl := inj1 hm
      exact hJ _ _ (by kernel_rfl) (by kernel_rfl)
    clear hs
    refine R_ifp (p := v1 = true) (bool_dec _) (fun hc => ?_) (fun hc => ?_)
    · replace hm := pos_inv hc hm
      refine R_seq ?_
      refine R_G ?_
      refine G_run 1 ?_
      refine G_end ?_
      refine R_ret ?_
      obtain rfl := inj1 hm
      exact ⟨trivial, fin_pure (by kernel_rfl)⟩
    replace hm := neg_inv hc hm
    refine R_skip ?_
    refine R_seq ?_
    refine R_seq ?_
    refine R_G ?_
    refine G_run 1 ?_
    refine G_end ?_
    refine R_block ?_
    obtain ⟨v603, hs, hm⟩ := bind_inv hm
    refine R_loop ?_
    refine RL_use (w_ref14_left_L1 _ _ hs) (by kernel_rfl) ?_
    clear hs
    intro e s hp
    obtain ⟨rfl, d, rfl⟩ := hp
    refine R_seq ?_
    refine R_G ?_
    refine G_run 2 ?_
    refine G_end ?_
    refine R_ret ?_
    obtain rfl := inj1 hm
    exact ⟨trivial, fin_pure (by kernel_rfl)⟩
theorem w_ref14_left_L1 : ∀ x r, m_ref14_left_L1 x = some r → P_ref14_left_L1 x r := g_ref14_left_L1.1
theorem w_ref14_left : ∀ x r, m_ref14_left x = some r → P_ref14_left x r := g_ref14_left_L1.2
end Go.Proofs.Tryd
namespace Go.Proofs.Tryd
open Go Go.Pm
set_option linter.unusedVariables false
set_option maxRecDepth 2000
def m_ref14_Few (x : (T_ref14_Core × Int)) : Option Bool :=
  match x with
  | (p0, p1) =>
  m_ref14_left (p0, p1) >>= fun (v1 : Int) =>
  some (decide (v1 ≥ 0))
def P_ref14_Few : (T_ref14_Core × Int) → Bool → Prop := fun x r => match x, r with
  | (p0, p1), r0 => ∀ H, PC prog env 8 ([(T_ref14_Core.ex p0), (intD p1)].map .dat) H (boolPV r0) H
theorem w_ref14_Few : ∀ x r, m_ref14_Few x = some r → P_ref14_Few x r := by
  intro x r0 hm
  unfold m_ref14_Few at hm
  unfold P_ref14_Few
  obtain ⟨p0, p1⟩ := x
  intro H
  refine PC_sx (ds := [(T_ref14_Core.ex p0), (intD p1)]) (fn := f8) (by kernel_rfl) (by kernel_rfl) rfl ?_ (by kernel_rfl)
  refine R_seq ?_
  refine R_G ?_
  refine G_run 2 ?_
  refine G_end ?_
  refine R_seq ?_
  refine R_G ?_
  refine G_run 2 ?_
  obtain ⟨v1, hx, hm⟩ := bind_inv hm
  have hq := w_ref14_left _ _ hx []
  refine G_callP hq ?_
  refine G_run 2 ?_
  refine G_end ?_
  refine R_ret ?_
  obtain rfl := inj1 hm
  exact ⟨trivial, fin_pure (by kernel_rfl)⟩
end Go.Proofs.Tryd
namespace Go.Proofs.Tryd
open Go Go.Pm
set_option linter.unusedVariables false
set_option maxRecDepth 2000
mutual
def m_law14_Core_L1 (x : (T_ref14_Core × (List T_core_Core) × Int)) : Option ((List T_core_Core)) :=
  match x with
  | (p0, v201, v202) =>
  if v202 < (p0.kids.length : Int) then
    idx p0.kids v202 >>= fun v602 =>
    m_law14_Core v602 >>= fun (v603 : T_core_Core) =>
    app 128 v201 ([v603] : List T_core_Core) >>= fun v604 =>
    m_law14_Core_L1 (p0, v604, (W (v202 + 1)))
  else
  some v201
  partial_fixpoint
def m_law14_Core (x : T_ref14_Core) : Option T_core_Core :=
  match x with
  | p0 =>
  m_law14_Core_L1 (p0, ([] : List T_core_Core), 0) >>= fun (v601 : (List T_core_Core)) =>
  some (⟨p0.kind, p0.shape, p0.buffer, p0.starts, p0.axis, p0.amount, p0.perm, v601⟩ : T_core_Core)
  partial_fixpoint
end
def P_law14_Core_L1 : (T_ref14_Core × (List T_core_Core) × Int) → (List T_core_Core) → Prop := fun x r => match x with
  | (p0, v201, v202) => ∀ st, prune 5 ((firstRegion (codeAt [1, 1, 0, 1, 0, 0] (bodyOf f10))).bind (env.hint 10).keepAt) st = ⟨kp 39 [(1, (.ptr 0 0)), (2, (.ptr 1 0)), (3, (.ptr 3 0)), (4, (intPV v202))], [(.box [(intPV p0.kind), (.dat (.lst ((List.map intD) p0.shape))), (intPV p0.buffer), (.dat (.lst ((List.map intD) p0.starts))), (intPV p0.axis), (intPV p0.amount), (.dat (.lst ((List.map intD) p0.perm))), (.dat (.lst (T_ref14_Core.toDs p0.kids)))]), (.box [(intPV 0), (.dat (.lst ((List.map intD) []))), (intPV 0), (.dat (.lst ((List.map intD) []))), (intPV 0), (intPV 0), (.dat (.lst ((List.map intD) []))), (.dat (.lst (T_core_Core.toDs [])))]), (.tok 32 v201.length), (.box [(intPV p0.kind), (.dat (.lst ((List.map intD) p0.shape))), (intPV p0.buffer), (.dat (.lst ((List.map intD) p0.starts))), (intPV p0.axis), (intPV p0.amount), (.dat (.lst ((List.map intD) p0.perm))), (.vec 2 (T_core_Core.toDs v201))]), (.tok 32 (([] : List T_core_Core).length))]⟩ →
    RL prog env (env.hint 10) true (codeAt [1, 1, 0, 1, 0, 0] (bodyOf f10)) 5 st (fun e s => match r with | v601 => e = .exit 0 ∧ ∃ d, s = ⟨sl d 39 [(2, (.ptr 1 0)), (3, (.ptr 3 0))], [(.box [(intPV p0.kind), (.dat (.lst ((List.map intD) p0.shape))), (intPV p0.buffer), (.dat (.lst ((List.map intD) p0.starts))), (intPV p0.axis), (intPV p0.amount), (.dat (.lst ((List.map intD) p0.perm))), (.dat (.lst (T_ref14_Core.toDs p0.kids)))]), (.box [(intPV 0), (.dat (.lst ((List.map intD) []))), (intPV 0), (.dat (.lst ((List.map intD) []))), (intPV 0), (intPV 0), (.dat (.lst ((List.map intD) []))), (.dat (.lst (T_core_Core.toDs [])))]), (.tok 32 v601.length), (.box [(intPV p0.kind), (.dat (.lst ((List.map intD) p0.shape))), (intPV p0.buffer), (.dat (.lst ((List.map intD) p0.starts))), (intPV p0.axis), (intPV p0.amount), (.dat (.lst ((List.map intD) p0.perm))), (.vec 2 (T_core_Core.toDs v601))]), (.tok 32 (([] : List T_core_Core).length))]⟩)
def P_law14_Core : T_ref14_Core → T_core_Core → Prop := fun x r => match x, r with
  | p0, r0 => ∀ H, PC prog env 10 ([(T_ref14_Core.ex p0)].map .dat) H (.dat (T_core_Core.ex r0)) H
theorem g_law14_Core_L1 : (∀ x r, m_law14_Core_L1 x = some r → P_law14_Core_L1 x r) ∧ (∀ x r, m_law14_Core x = some r → P_law14_Core x r) := by
  refine m_law14_Core_L1.mutual_partial_correctness P_law14_Core_L1 P_law14_Core ?_ ?_
  · intro m_law14_Core_L1 m_law14_Core w_law14_Core_L1 w_law14_Core x r hm
    unfold P_law14_Core_L1
    obtain ⟨p0, v201, v202⟩ := x
    intro st hst
    refine RL_at hst ?_
    clear hst
    refine R_seq ?_
    refine R_seq ?_
    refine R_G ?_
    refine G_run 3 ?_
    refine I_len T_ref14_Core.toD p0.kids (es := T_ref14_Core.toDs p0.kids) (T_ref14_Core.toDs_eq _) ?_
    refine G_run 1 ?_
    refine G_end ?_
    refine R_ifp (p := v202 < (p0.kids.length : Int)) (rfl) (fun hc => ?_) (fun hc => ?_)
    · replace hm := pos_inv hc hm
      refine R_skip ?_
      refine R_seq ?_
      refine R_block ?_
      refine R_GD ?_
      refine G_run 5 ?_
      obtain ⟨v602, hx, hm⟩ := bind_inv hm
      refine I_idx 8 T_ref14_Core.toD p0.kids v202 v602 (es := T_ref14_Core.toDs p0.kids) (d := (T_ref14_Core.ex v602)) (T_ref14_Core.toDs_eq _) hx (T_ref14_Core.toD_eq v602) rfl ?_
      refine G_run 1 ?_
      obtain ⟨v603, hx, hm⟩ := bind_inv hm
      have hq := w_law14_Core _ _ hx []
      refine G_callP hq ?_
      refine G_run 1 ?_
      obtain ⟨v604, hx, hm⟩ := bind_inv hm
      refine I_app 32 8 128 2 T_core_Core.toD v201 ([v603] : List T_core_Core) v604 (xs := T_core_Core.toDs v201) (es := [(T_core_Core.ex v603)]) (L := T_core_Core.toDs) T_core_Core.toDs_eq rfl (by simp only [T_core_Core.toDs, T_core_Core.toD_eq]) T_core_Core.fit hx ?_
      refine G_run 2 ?_
      refine G_end ⟨by kernel_rfl, ?_⟩
      refine R_G ?_
      refine G_run 3 ?_
      refine G_end ?_
      exact w_law14_Core_L1 _ _ hm _ (by kernel_rfl)
    replace hm := neg_inv hc hm
    refine R_exit ?_
    obtain rfl := inj1 hm
    exact ⟨rfl, cut_leaf (by kernel_rfl)⟩
  · intro m_law14_Core_L1 w_law14_Core_L1 p0 r0 hm
    unfold P_law14_Core
    intro H
    refine PC_sx (ds := [(T_ref14_Core.ex p0)]) (fn := f10) (by kernel_rfl) (by kernel_rfl) rfl ?_ (by kernel_rfl)
    refine R_seq ?_
    refine R_G ?_
    refine G_run 2 ?_
    refine G_end ?_
    refine R_seq ?_
    refine R_G ?_
    refine G_run 17 ?_
    refine G_end ?_
    refine R_seq ?_
    refine R_seq ?_
    refine R_G ?_
    refine G_run 1 ?_
    refine G_end ?_
    refine R_block ?_
    obtain ⟨v601, hs, hm⟩ := bind_inv hm
    refine R_loop ?_
    refine RL_use (w_law14_Core_L1 _ _ hs) (by kernel_rfl) ?_
    clear hs
    intro e s hp
    obtain ⟨rfl, d, rfl⟩ := hp
    refine R_seq ?_
    refine R_G ?_
    refine G_run 2 ?_
    refine G_end ?_
    refine R_ret ?_
    obtain rfl := inj1 hm
    exact ⟨trivial, fin_pure (by kernel_rfl)⟩
theorem w_law14_Core_L1 : ∀ x r, m_law14_Core_L1 x = some r → P_law14_Core_L1 x r := g_law14_Core_L1.1
theorem w_law14_Core : ∀ x r, m_law14_Core x = some r → P_law14_Core x r := g_law14_Core_L1.2
end Go.Proofs.Tryd
namespace Go.Proofs.Tryd
open Go Go.Pm
set_option linter.unusedVariables false
set_option maxRecDepth 2000
def m_core_fields (x : T_core_Core) : Option Bool :=
  match x with
  | p0 =>
  ((if p0.kind = 3 then
    some true
  else
  some (p0.kind == 4)
  ) >>= fun (v2 : Bool) =>
  if v2 = true then
    some true
  else
  some (p0.kind == 7)
  ) >>= fun (v1 : Bool) =>
  (if p0.kind ≠ 1 then
    some (p0.buffer != 0)
  else
  some false
  ) >>= fun (v3 : Bool) =>
  (if v3 = true then
    some v3
  else
  if p0.kind ≠ 2 then
    some (decide ((p0.starts.length : Int) > 0))
  else
  some false
  ) >>= fun (v4 : Bool) =>
  if v4 = true then
    some false
  else
  (if v1 = false then
    some (p0.axis != 0)
  else
  some false
  ) >>= fun (v5 : Bool) =>
  (if v5 = true then
    some v5
  else
  (if p0.kind ≠ 4 then
    some (p0.amount != 0)
  else
  some false
  ) >>= fun (v7 : Bool) =>
  if v7 = true then
    some v7
  else
  if p0.kind ≠ 5 then
    some (decide ((p0.perm.length : Int) > 0))
  else
  some false
  ) >>= fun (v6 : Bool) =>
  if v6 = true then
    some false
  else
  some true
def P_core_fields : T_core_Core → Bool → Prop := fun x r => match x, r with
  | p0, r0 => ∀ H, PC prog env 42 ([(T_core_Core.ex p0)].map .dat) H (boolPV r0) H
theorem w_core_fields : ∀ x r, m_core_fields x = some r → P_core_fields x r := by
  intro p0 r0 hm
  unfold m_core_fields at hm
  unfold P_core_fields
  intro H
  refine PC_sx (ds := [(T_core_Core.ex p0)]) (fn := f42) (by kernel_rfl) (by kernel_rfl) rfl ?_ (by kernel_rfl)
  refine R_seq ?_
  refine R_G ?_
  refine G_run 2 ?_
  refine G_end ?_
  refine R_seq ?_
  obtain ⟨v1, hs, hm⟩ := bind_inv hm
  refine R_cut (fun d => ⟨sl d 60 [(1, (.ptr 0 0)), (3, (boolPV v1))], [(.box [(intPV p0.kind), (.dat (.lst ((List.map intD) p0.shape))), (intPV p0.buffer), (.dat (.lst ((List.map intD) p0.starts))), (intPV p0.axis), (intPV p0.amount), (.dat (.lst ((List.map intD) p0.perm))), (.dat (.lst (T_core_Core.toDs p0.kids)))])]⟩) ?_ (fun d => ?_)
  · replace hm := hs
    clear hs
    refine R_GN ?_
    refine G_run 4 ?_
    obtain ⟨v2, hs, hm⟩ := bind_inv hm
    refine G_cut (j := 8) (fun d => ⟨sl d 60 [(0, (.dat (.agg [(intD p0.kind), (.lst ((List.map intD) p0.shape)), (intD p0.buffer), (.lst ((List.map intD) p0.starts)), (intD p0.axis), (intD p0.amount), (.lst ((List.map intD) p0.perm)), (.lst (T_core_Core.toDs p0.kids))]))), (1, (.ptr 0 0)), (2, (boolPV false)), (4, (.ptr 0 0)), (5, (intPV p0.kind)), (6, (boolPV (p0.kind == 3))), (11, (boolPV v2))], [(.box [(intPV p0.kind), (.dat (.lst ((List.map intD) p0.shape))), (intPV p0.buffer), (.dat (.lst ((List.map intD) p0.starts))), (intPV p0.axis), (intPV p0.amount), (.dat (.lst ((List.map intD) p0.perm))), (.dat (.lst (T_core_Core.toDs p0.kids)))])]⟩) (fun d => ?_) (fun hJ => ?_)
    · clear hs
      refine G_run 1 ?_
      refine G_split (p := v2 = true) 12 (bool_dec _) (fun hc => ?_) (fun hc => ?_)
      · replace hm := pos_inv hc hm
        refine G_run 5 ?_
        refine G_end ⟨by kernel_rfl, ?_⟩
        obtain rfl := inj1 hm
        exact cut_leaf (by kernel_rfl)
      replace hm := neg_inv hc hm
      refine G_run 5 ?_
      refine G_end ⟨by kernel_rfl, ?_⟩
      obtain rfl := inj1 hm
      exact cut_leaf (by kernel_rfl)
    replace hm := hs
    clear hs
    refine G_split (p := p0.kind = 3) 7 (eq_dec _ _) (fun hc => ?_) (fun hc => ?_)
    · replace hm := pos_inv hc hm
      refine G_run 4 ?_
      obtain rfl := inj1 hm
      exact hJ _ _ (by kernel_rfl) (by kernel_rfl)
    replace hm := neg_inv hc hm
    refine G_run 4 ?_
    obtain rfl := inj1 hm
    exact hJ _ _ (by kernel_rfl) (by kernel_rfl)
  clear hs
  refine R_seq ?_
  refine R_block ?_
  refine R_seq ?_
  refine R_seq ?_
  obtain ⟨v3, hs, hm⟩ := bind_inv hm
  refine R_cut (fun d => ⟨sl d 60 [(1, (.ptr 0 0)), (3, (boolPV v1)), (17, (boolPV v3))], [(.box [(intPV p0.kind), (.dat (.lst ((List.map intD) p0.shape))), (intPV p0.buffer), (.dat (.lst ((List.map intD) p0.starts))), (intPV p0.axis), (intPV p0.amount), (.dat (.lst ((List.map intD) p0.perm))), (.dat (.lst (T_core_Core.toDs p0.kids)))])]⟩) ?_ (fun d => ?_)
  · replace hm := hs
    clear hs
    refine R_G ?_
    refine G_run 4 ?_
    refine G_split (p := p0.kind ≠ 1) 21 (ne_dec _ _) (fun hc => ?_) (fun hc => ?_)
    · replace hm := pos_inv hc hm
      refine G_run 5 ?_
      refine G_end ?_
      obtain rfl := inj1 hm
      exact cut_leaf (by kernel_rfl)
    replace hm := neg_inv hc hm
    refine G_run 5 ?_
    refine G_end ?_
    obtain rfl := inj1 hm
    exact cut_leaf (by kernel_rfl)
  clear hs
  obtain ⟨v4, hs, hm⟩ := bind_inv hm
  refine R_cut (fun d => ⟨sl d 60 [(1, (.ptr 0 0)), (3, (boolPV v1)), (17, (boolPV v4))], [(.box [(intPV p0.kind), (.dat (.lst ((List.map intD) p0.shape))), (intPV p0.buffer), (.dat (.lst ((List.map intD) p0.starts))), (intPV p0.axis), (intPV p0.amount), (.dat (.lst ((List.map intD) p0.perm))), (.dat (.lst (T_core_Core.toDs p0.kids)))])]⟩) ?_ (fun d => ?_)
  · replace hm := hs
    clear hs
    refine R_ifp (p := v3 = true) (bool_dec _) (fun hc => ?_) (fun hc => ?_)
    · replace hm := pos_inv hc hm
      refine R_skip ?_
      obtain rfl := inj1 hm
      exact cut_leaf (by kernel_rfl)
    replace hm := neg_inv hc hm
    refine R_G ?_
    refine G_run 4 ?_
    refine G_split (p := p0.kind ≠ 2) 29 (ne_dec _ _) (fun hc => ?_) (fun hc => ?_)
    · replace hm := pos_inv hc hm
      refine G_run 2 ?_
      refine I_len intD p0.starts (es := (List.map intD) p0.starts) rfl ?_
      refine G_run 3 ?_
      refine G_end ?_
      obtain rfl := inj1 hm
      exact cut_leaf (by kernel_rfl)
    replace hm := neg_inv hc hm
    refine G_run 6 ?_
    refine G_end ?_
    obtain rfl := inj1 hm
    exact cut_leaf (by kernel_rfl)
  clear hs
  refine R_ifp (p := v4 = true) (bool_dec _) (fun hc => ?_) (fun hc => ?_)
  · replace hm := pos_inv hc hm
    refine R_seq ?_
    refine R_G ?_
    refine G_run 1 ?_
    refine G_end ?_
    refine R_ret ?_
    obtain rfl := inj1 hm
    exact ⟨trivial, fin_pure (by kernel_rfl)⟩
  replace hm := neg_inv hc hm
  refine R_seq ?_
  refine R_seq ?_
  obtain ⟨v5, hs, hm⟩ := bind_inv hm
  refine R_cut (fun d => ⟨sl d 60 [(1, (.ptr 0 0)), (35, (boolPV v5))], [(.box [(intPV p0.kind), (.dat (.lst ((List.map intD) p0.shape))), (intPV p0.buffer), (.dat (.lst ((List.map intD) p0.starts))), (intPV p0.axis), (intPV p0.amount), (.dat (.lst ((List.map intD) p0.perm))), (.dat (.lst (T_core_Core.toDs p0.kids)))])]⟩) ?_ (fun d => ?_)
  · replace hm := hs
    clear hs
    refine R_G ?_
    refine G_run 3 ?_
    refine G_split (p := v1 = false) 38 (not_dec _) (fun hc => ?_) (fun hc => ?_)
    · replace hm := pos_inv hc hm
      refine G_run 5 ?_
      refine G_end ?_
      obtain rfl := inj1 hm
      exact cut_leaf (by kernel_rfl)
    replace hm := neg_inv hc hm
    refine G_run 5 ?_
    refine G_end ?_
    obtain rfl := inj1 hm
    exact cut_leaf (by kernel_rfl)
  clear hs
  obtain ⟨v6, hs, hm⟩ := bind_inv hm
  refine R_cut (fun d => ⟨sl d 60 [(35, (boolPV v6))], [(.box [(intPV p0.kind), (.dat (.lst ((List.map intD) p0.shape))), (intPV p0.buffer), (.dat (.lst ((List.map intD) p0.starts))), (intPV p0.axis), (intPV p0.amount), (.dat (.lst ((List.map intD) p0.perm))), (.dat (.lst (T_core_Core.toDs p0.kids)))])]⟩) ?_ (fun d => ?_)
  · replace hm := hs
    clear hs
    refine R_ifp (p := v5 = true) (bool_dec _) (fun hc => ?_) (fun hc => ?_)
    · replace hm := pos_inv hc hm
      refine R_skip ?_
      obtain rfl := inj1 hm
      exact cut_leaf (by kernel_rfl)
    replace hm := neg_inv hc hm
    refine R_seq ?_
    obtain ⟨v7, hs, hm⟩ := bind_inv hm
    refine R_cut (fun d => ⟨sl d 60 [(1, (.ptr 0 0)), (35, (boolPV v7))], [(.box [(intPV p0.kind), (.dat (.lst ((List.map intD) p0.shape))), (intPV p0.buffer), (.dat (.lst ((List.map intD) p0.starts))), (intPV p0.axis), (intPV p0.amount), (.dat (.lst ((List.map intD) p0.perm))), (.dat (.lst (T_core_Core.toDs p0.kids)))])]⟩) ?_ (fun d => ?_)
    · replace hm := hs
      clear hs
      refine R_G ?_
      refine G_run 4 ?_
      refine G_split (p := p0.kind ≠ 4) 46 (ne_dec _ _) (fun hc => ?_) (fun hc => ?_)
      · replace hm := pos_inv hc hm
        refine G_run 5 ?_
        refine G_end ?_
        obtain rfl := inj1 hm
        exact cut_leaf (by kernel_rfl)
      replace hm := neg_inv hc hm
      refine G_run 5 ?_
      refine G_end ?_
      obtain rfl := inj1 hm
      exact cut_leaf (by kernel_rfl)
    clear hs
    refine R_ifp (p := v7 = true) (bool_dec _) (fun hc => ?_) (fun hc => ?_)
    · replace hm := pos_inv hc hm
      refine R_skip ?_
      obtain rfl := inj1 hm
      exact cut_leaf (by kernel_rfl)
    replace hm := neg_inv hc hm
    refine R_G ?_
    refine G_run 4 ?_
    refine G_split (p := p0.kind ≠ 5) 54 (ne_dec _ _) (fun hc => ?_) (fun hc => ?_)
    · replace hm := pos_inv hc hm
      refine G_run 2 ?_
      refine I_len intD p0.perm (es := (List.map intD) p0.perm) rfl ?_
      refine G_run 3 ?_
      refine G_end ?_
      obtain rfl := inj1 hm
      exact cut_leaf (by kernel_rfl)
    replace hm := neg_inv hc hm
    refine G_run 6 ?_
    refine G_end ?_
    obtain rfl := inj1 hm
    exact cut_leaf (by kernel_rfl)
  clear hs
  refine R_ifp (p := v6 = true) (bool_dec _) (fun hc => ?_) (fun hc => ?_)
  · replace hm := pos_inv hc hm
    refine R_seq ?_
    refine R_G ?_
    refine G_run 1 ?_
    refine G_end ?_
    refine R_ret ?_
    obtain rfl := inj1 hm
    exact ⟨trivial, fin_pure (by kernel_rfl)⟩
  replace hm := neg_inv hc hm
  refine R_skip ?_
  refine R_seq ?_
  refine R_G ?_
  refine G_run 1 ?_
  refine G_end ?_
  refine R_ret ?_
  obtain rfl := inj1 hm
  exact ⟨trivial, fin_pure (by kernel_rfl)⟩
end Go.Proofs.Tryd
namespace Go.Proofs.Tryd
open Go Go.Pm
set_option linter.unusedVariables false
set_option maxRecDepth 2000
def m_size_check_1 (x : Int) : Option Bool :=
  match x with
  | p0 =>
  some (decide (p0 < 0))
def P_size_check_1 : Int → Bool → Prop := fun x r => match x, r with
  | p0, r0 => ∀ H, PC prog env 55 ([(intD p0)].map .dat) H (boolPV r0) H
theorem w_size_check_1 : ∀ x r, m_size_check_1 x = some r → P_size_check_1 x r := by
  intro p0 r0 hm
  unfold m_size_check_1 at hm
  unfold P_size_check_1
  intro H
  refine PC_sx (ds := [(intD p0)]) (fn := f55) (by kernel_rfl) (by kernel_rfl) rfl ?_ (by kernel_rfl)
  refine R_seq ?_
  refine R_G ?_
  refine G_run 1 ?_
  refine G_end ?_
  refine R_seq ?_
  refine R_G ?_
  refine G_run 3 ?_
  refine G_end ?_
  refine R_ret ?_
  obtain rfl := inj1 hm
  exact ⟨trivial, fin_pure (by kernel_rfl)⟩
end Go.Proofs.Tryd
namespace Go.Proofs.Tryd
open Go Go.Pm
set_option linter.unusedVariables false
set_option maxRecDepth 2000
def m_slices_IndexFunc_int_int_size_check_1_L1 (x : ((List Int) × Int)) : Option (Int ⊕ Unit) :=
  match x with
  | (p0, v201) =>
  if v201 < (p0.length : Int) then
    idx p0 v201 >>= fun v602 =>
    m_size_check_1 v602 >>= fun (v603 : Bool) =>
    if v603 = true then
      some (Sum.inl v201)
    else
    m_slices_IndexFunc_int_int_size_check_1_L1 (p0, (W (v201 + 1)))
  else
  some (Sum.inr ())
  partial_fixpoint
def P_slices_IndexFunc_int_int_size_check_1_L1 : ((List Int) × Int) → (Int ⊕ Unit) → Prop := fun x r => match x with
  | (p0, v201) => ∀ st, prune 0 ((firstRegion (codeAt [1, 0, 1, 0, 0] (bodyOf f59))).bind (env.hint 59).keepAt) st = ⟨kp 19 [(0, (.dat (.lst ((List.map intD) p0)))), (1, (.dat (.raw (.func (.func 55) #[] #[])))), (7, (intPV (p0.length : Int))), (8, (intPV v201))], []⟩ →
    RL prog env (env.hint 59) true (codeAt [1, 0, 1, 0, 0] (bodyOf f59)) 0 st (fun e s => match r with | .inl v601 => e = .ret ∧ ∃ d, s = ⟨sl d 19 [(4, (intPV v601))], []⟩ | .inr (_) => e = .exit 0 ∧ ∃ d, s = ⟨sl d 19 [], []⟩)
theorem w_slices_IndexFunc_int_int_size_check_1_L1 : ∀ x r, m_slices_IndexFunc_int_int_size_check_1_L1 x = some r → P_slices_IndexFunc_int_int_size_check_1_L1 x r := by
  refine m_slices_IndexFunc_int_int_size_check_1_L1.partial_correctness _ (fun m_slices_IndexFunc_int_int_size_check_1_L1 w_slices_IndexFunc_int_int_size_check_1_L1 x r hm => ?_)
  unfold P_slices_IndexFunc_int_int_size_check_1_L1
  obtain ⟨p0, v201⟩ := x
  intro st hst
  refine RL_at hst ?_
  clear hst
  refine R_seq ?_
  refine R_G ?_
  refine G_run 1 ?_
  refine G_end ?_
  refine R_seq ?_
  refine R_ifp (p := v201 < (p0.length : Int)) (rfl) (fun hc => ?_) (fun hc => ?_)
  · replace hm := pos_inv hc hm
    refine R_skip ?_
    refine R_seq ?_
    refine R_block ?_
    refine R_seq ?_
    refine R_G ?_
    refine G_run 2 ?_
    refine G_end ?_
    refine R_seq ?_
    refine R_G ?_
    refine G_run 3 ?_
    obtain ⟨v602, hx, hm⟩ := bind_inv hm
    refine I_idx 1 intD p0 v201 v602 (es := (List.map intD) p0) (d := (intD v602)) rfl hx rfl rfl ?_
    refine G_run 1 ?_
    obtain ⟨v603, hx, hm⟩ := bind_inv hm
    have hq := w_size_check_1 _ _ hx []
    refine G_callP hq ?_
    refine G_end ?_
    refine R_ifp (p := v603 = true) (bool_dec _) (fun hc => ?_) (fun hc => ?_)
    · replace hm := pos_inv hc hm
      refine R_seq ?_
      refine R_G ?_
      refine G_run 2 ?_
      refine G_end ?_
      refine R_ret ?_
      obtain rfl := inj1 hm
      exact ⟨rfl, cut_leaf (by kernel_rfl)⟩
    replace hm := neg_inv hc hm
    refine R_skip ?_
    refine R_G ?_
    refine G_run 2 ?_
    refine G_end ?_
    exact w_slices_IndexFunc_int_int_size_check_1_L1 _ _ hm _ (by kernel_rfl)
  replace hm := neg_inv hc hm
  refine R_exit ?_
  obtain rfl := inj1 hm
  exact ⟨rfl, cut_leaf (by kernel_rfl)⟩
def m_slices_IndexFunc_int_int_size_check_1 (x : (List Int)) : Option Int :=
  match x with
  | p0 =>
  (
  m_slices_IndexFunc_int_int_size_check_1_L1 (p0, 0) >>= fun (out : Int ⊕ Unit) =>
  match out with
  | .inl v601 =>
    some v601
  | .inr (_) =>
    some (-1)
  )
def P_slices_IndexFunc_int_int_size_check_1 : (List Int) → Int → Prop := fun x r => match x, r with
  | p0, r0 => ∀ H, PC prog env 59 ([(.lst ((List.map intD) p0)), (.raw (.func (.func 55) #[] #[]))].map .dat) H (intPV r0) H
theorem w_slices_IndexFunc_int_int_size_check_1 : ∀ x r, m_slices_IndexFunc_int_int_size_check_1 x = some r → P_slices_IndexFunc_int_int_size_check_1 x r := by
  intro p0 r0 hm
  unfold m_slices_IndexFunc_int_int_size_check_1 at hm
  unfold P_slices_IndexFunc_int_int_size_check_1
  intro H
  refine PC_sx (ds := [(.lst ((List.map intD) p0)), (.raw (.func (.func 55) #[] #[]))]) (fn := f59) (by kernel_rfl) (by kernel_rfl) rfl ?_ (by kernel_rfl)
  refine R_seq ?_
  refine R_G ?_
  refine G_run 1 ?_
  refine G_end ?_
  refine R_seq ?_
  refine R_seq ?_
  refine R_G ?_
  refine G_run 1 ?_
  refine I_len intD p0 (es := (List.map intD) p0) rfl ?_
  refine G_run 1 ?_
  refine G_end ?_
  refine R_block ?_
  obtain ⟨out, hs, hm⟩ := bind_inv hm
  refine R_loop ?_
  rcases out with v601 | _
  · refine RL_use (w_slices_IndexFunc_int_int_size_check_1_L1 _ _ hs) (by kernel_rfl) ?_
    clear hs
    intro e s hp
    obtain ⟨rfl, d, rfl⟩ := hp
    obtain rfl := inj1 hm
    exact ⟨trivial, fin_pure (by kernel_rfl)⟩
  · refine RL_use (w_slices_IndexFunc_int_int_size_check_1_L1 _ _ hs) (by kernel_rfl) ?_
    clear hs
    intro e s hp
    obtain ⟨rfl, d, rfl⟩ := hp
    refine R_seq ?_
    refine R_G ?_
    refine G_run 1 ?_
    refine G_end ?_
    refine R_ret ?_
    obtain rfl := inj1 hm
    exact ⟨trivial, fin_pure (by kernel_rfl)⟩
end Go.Proofs.Tryd
namespace Go.Proofs.Tryd
open Go Go.Pm
set_option linter.unusedVariables false
set_option maxRecDepth 2000
def m_slices_ContainsFunc_int_int_size_check_1 (x : (List Int)) : Option Bool :=
  match x with
  | p0 =>
  m_slices_IndexFunc_int_int_size_check_1 p0 >>= fun (v1 : Int) =>
  some (decide (v1 ≥ 0))
def P_slices_ContainsFunc_int_int_size_check_1 : (List Int) → Bool → Prop := fun x r => match x, r with
  | p0, r0 => ∀ H, PC prog env 54 ([(.lst ((List.map intD) p0)), (.raw (.func (.func 55) #[] #[]))].map .dat) H (boolPV r0) H
theorem w_slices_ContainsFunc_int_int_size_check_1 : ∀ x r, m_slices_ContainsFunc_int_int_size_check_1 x = some r → P_slices_ContainsFunc_int_int_size_check_1 x r := by
  intro p0 r0 hm
  unfold m_slices_ContainsFunc_int_int_size_check_1 at hm
  unfold P_slices_ContainsFunc_int_int_size_check_1
  intro H
  refine PC_sx (ds := [(.lst ((List.map intD) p0)), (.raw (.func (.func 55) #[] #[]))]) (fn := f54) (by kernel_rfl) (by kernel_rfl) rfl ?_ (by kernel_rfl)
  refine R_seq ?_
  refine R_G ?_
  refine G_run 1 ?_
  refine G_end ?_
  refine R_seq ?_
  refine R_G ?_
  refine G_run 2 ?_
  obtain ⟨v1, hx, hm⟩ := bind_inv hm
  have hq := w_slices_IndexFunc_int_int_size_check_1 _ _ hx []
  refine G_callP hq ?_
  refine G_run 2 ?_
  refine G_end ?_
  refine R_ret ?_
  obtain rfl := inj1 hm
  exact ⟨trivial, fin_pure (by kernel_rfl)⟩
end Go.Proofs.Tryd
namespace Go.Proofs.Tryd
open Go Go.Pm
set_option linter.unusedVariables false
set_option maxRecDepth 2000
def m_size_check_2 (x : Int) : Option Bool :=
  match x with
  | p0 =>
  some (decide (p0 > 65536))
def P_size_check_2 : Int → Bool → Prop := fun x r => match x, r with
  | p0, r0 => ∀ H, PC prog env 56 ([(intD p0)].map .dat) H (boolPV r0) H
theorem w_size_check_2 : ∀ x r, m_size_check_2 x = some r → P_size_check_2 x r := by
  intro p0 r0 hm
  unfold m_size_check_2 at hm
  unfold P_size_check_2
  intro H
  refine PC_sx (ds := [(intD p0)]) (fn := f56) (by kernel_rfl) (by kernel_rfl) rfl ?_ (by kernel_rfl)
  refine R_seq ?_
  refine R_G ?_
  refine G_run 1 ?_
  refine G_end ?_
  refine R_seq ?_
  refine R_G ?_
  refine G_run 3 ?_
  refine G_end ?_
  refine R_ret ?_
  obtain rfl := inj1 hm
  exact ⟨trivial, fin_pure (by kernel_rfl)⟩
end Go.Proofs.Tryd
namespace Go.Proofs.Tryd
open Go Go.Pm
set_option linter.unusedVariables false
set_option maxRecDepth 2000
def m_slices_IndexFunc_int_int_size_check_2_L1 (x : ((List Int) × Int)) : Option (Int ⊕ Unit) :=
  match x with
  | (p0, v201) =>
  if v201 < (p0.length : Int) then
    idx p0 v201 >>= fun v602 =>
    m_size_check_2 v602 >>= fun (v603 : Bool) =>
    if v603 = true then
      some (Sum.inl v201)
    else
    m_slices_IndexFunc_int_int_size_check_2_L1 (p0, (W (v201 + 1)))
  else
  some (Sum.inr ())
  partial_fixpoint
def P_slices_IndexFunc_int_int_size_check_2_L1 : ((List Int) × Int) → (Int ⊕ Unit) → Prop := fun x r => match x with
  | (p0, v201) => ∀ st, prune 0 ((firstRegion (codeAt [1, 0, 1, 0, 0] (bodyOf f59))).bind (env.hint 59).keepAt) st = ⟨kp 19 [(0, (.dat (.lst ((List.map intD) p0)))), (1, (.dat (.raw (.func (.func 56) #[] #[])))), (7, (intPV (p0.length : Int))), (8, (intPV v201))], []⟩ →
    RL prog env (env.hint 59) true (codeAt [1, 0, 1, 0, 0] (bodyOf f59)) 0 st (fun e s => match r with | .inl v601 => e = .ret ∧ ∃ d, s = ⟨sl d 19 [(4, (intPV v601))], []⟩ | .inr (_) => e = .exit 0 ∧ ∃ d, s = ⟨sl d 19 [], []⟩)
theorem w_slices_IndexFunc_int_int_size_check_2_L1 : ∀ x r, m_slices_IndexFunc_int_int_size_check_2_L1 x = some r → P_slices_IndexFunc_int_int_size_check_2_L1 x r := by
  refine m_slices_IndexFunc_int_int_size_check_2_L1.partial_correctness _ (fun m_slices_IndexFunc_int_int_size_check_2_L1 w_slices_IndexFunc_int_int_size_check_2_L1 x r hm => ?_)
  unfold P_slices_IndexFunc_int_int_size_check_2_L1
  obtain ⟨p0, v201⟩ := x
  intro st hst
  refine RL_at hst ?_
  clear hst
  refine R_seq ?_
  refine R_G ?_
  refine G_run 1 ?_
  refine G_end ?_
  refine R_seq ?_
  refine R_ifp (p := v201 < (p0.length : Int)) (rfl) (fun hc => ?_) (fun hc => ?_)
  · replace hm := pos_inv hc hm
    refine R_skip ?_
    refine R_seq ?_
    refine R_block ?_
    refine R_seq ?_
    refine R_G ?_
    refine G_run 2 ?_
    refine G_end ?_
    refine R_seq ?_
    refine R_G ?_
    refine G_run 3 ?_
    obtain ⟨v602, hx, hm⟩ := bind_inv hm
    refine I_idx 1 intD p0 v201 v602 (es := (List.map intD) p0) (d := (intD v602)) rfl hx rfl rfl ?_
    refine G_run 1 ?_
    obtain ⟨v603, hx, hm⟩ := bind_inv hm
    have hq := w_size_check_2 _ _ hx []
    refine G_callP hq ?_
    refine G_end ?_
    refine R_ifp (p := v603 = true) (bool_dec _) (fun hc => ?_) (fun hc => ?_)
    · replace hm := pos_inv hc hm
      refine R_seq ?_
      refine R_G ?_
      refine G_run 2 ?_
      refine G_end ?_
      refine R_ret ?_
      obtain rfl := inj1 hm
      exact ⟨rfl, cut_leaf (by kernel_rfl)⟩
    replace hm := neg_inv hc hm
    refine R_skip ?_
    refine R_G ?_
    refine G_run 2 ?_
    refine G_end ?_
    exact w_slices_IndexFunc_int_int_size_check_2_L1 _ _ hm _ (by kernel_rfl)
  replace hm := neg_inv hc hm
  refine R_exit ?_
  obtain rfl := inj1 hm
  exact ⟨rfl, cut_leaf (by kernel_rfl)⟩
def m_slices_IndexFunc_int_int_size_check_2 (x : (List Int)) : Option Int :=
  match x with
  | p0 =>
  (
  m_slices_IndexFunc_int_int_size_check_2_L1 (p0, 0) >>= fun (out : Int ⊕ Unit) =>
  match out with
  | .inl v601 =>
    some v601
  | .inr (_) =>
    some (-1)
  )
def P_slices_IndexFunc_int_int_size_check_2 : (List Int) → Int → Prop := fun x r => match x, r with
  | p0, r0 => ∀ H, PC prog env 59 ([(.lst ((List.map intD) p0)), (.raw (.func (.func 56) #[] #[]))].map .dat) H (intPV r0) H
theorem w_slices_IndexFunc_int_int_size_check_2 : ∀ x r, m_slices_IndexFunc_int_int_size_check_2 x = some r → P_slices_IndexFunc_int_int_size_check_2 x r := by
  intro p0 r0 hm
  unfold m_slices_IndexFunc_int_int_size_check_2 at hm
  unfold P_slices_IndexFunc_int_int_size_check_2
  intro H
  refine PC_sx (ds := [(.lst ((List.map intD) p0)), (.raw (.func (.func 56) #[] #[]))]) (fn := f59) (by kernel_rfl) (by kernel_rfl) rfl ?_ (by kernel_rfl)
  refine R_seq ?_
  refine R_G ?_
  refine G_run 1 ?_
  refine G_end ?_
  refine R_seq ?_
  refine R_seq ?_
  refine R_G ?_
  refine G_run 1 ?_
  refine I_len intD p0 (es := (List.map intD) p0) rfl ?_
  refine G_run 1 ?_
  refine G_end ?_
  refine R_block ?_
  obtain ⟨out, hs, hm⟩ := bind_inv hm
  refine R_loop ?_
  rcases out with v601 | _
  · refine RL_use (w_slices_IndexFunc_int_int_size_check_2_L1 _ _ hs) (by kernel_rfl) ?_
    clear hs
    intro e s hp
    obtain ⟨rfl, d, rfl⟩ := hp
    obtain rfl := inj1 hm
    exact ⟨trivial, fin_pure (by kernel_rfl)⟩
  · refine RL_use (w_slices_IndexFunc_int_int_size_check_2_L1 _ _ hs) (by kernel_rfl) ?_
    clear hs
    intro e s hp
    obtain ⟨rfl, d, rfl⟩ := hp
    refine R_seq ?_
    refine R_G ?_
    refine G_run 1 ?_
    refine G_end ?_
    refine R_ret ?_
    obtain rfl := inj1 hm
    exact ⟨trivial, fin_pure (by kernel_rfl)⟩
end Go.Proofs.Tryd
namespace Go.Proofs.Tryd
open Go Go.Pm
set_option linter.unusedVariables false
set_option maxRecDepth 2000
def m_slices_ContainsFunc_int_int_size_check_2 (x : (List Int)) : Option Bool :=
  match x with
  | p0 =>
  m_slices_IndexFunc_int_int_size_check_2 p0 >>= fun (v1 : Int) =>
  some (decide (v1 ≥ 0))
def P_slices_ContainsFunc_int_int_size_check_2 : (List Int) → Bool → Prop := fun x r => match x, r with
  | p0, r0 => ∀ H, PC prog env 54 ([(.lst ((List.map intD) p0)), (.raw (.func (.func 56) #[] #[]))].map .dat) H (boolPV r0) H
theorem w_slices_ContainsFunc_int_int_size_check_2 : ∀ x r, m_slices_ContainsFunc_int_int_size_check_2 x = some r → P_slices_ContainsFunc_int_int_size_check_2 x r := by
  intro p0 r0 hm
  unfold m_slices_ContainsFunc_int_int_size_check_2 at hm
  unfold P_slices_ContainsFunc_int_int_size_check_2
  intro H
  refine PC_sx (ds := [(.lst ((List.map intD) p0)), (.raw (.func (.func 56) #[] #[]))]) (fn := f54) (by kernel_rfl) (by kernel_rfl) rfl ?_ (by kernel_rfl)
  refine R_seq ?_
  refine R_G ?_
  refine G_run 1 ?_
  refine G_end ?_
  refine R_seq ?_
  refine R_G ?_
  refine G_run 2 ?_
  obtain ⟨v1, hx, hm⟩ := bind_inv hm
  have hq := w_slices_IndexFunc_int_int_size_check_2 _ _ hx []
  refine G_callP hq ?_
  refine G_run 2 ?_
  refine G_end ?_
  refine R_ret ?_
  obtain rfl := inj1 hm
  exact ⟨trivial, fin_pure (by kernel_rfl)⟩
end Go.Proofs.Tryd
namespace Go.Proofs.Tryd
open Go Go.Pm
set_option linter.unusedVariables false
set_option maxRecDepth 2000
def m_size_check (x : (List Int)) : Option Int :=
  match x with
  | p0 =>
  m_slices_ContainsFunc_int_int_size_check_1 p0 >>= fun (v1 : Bool) =>
  if v1 = true then
    some 6
  else
  m_slices_ContainsFunc_int_int_size_check_2 p0 >>= fun (v2 : Bool) =>
  if v2 = true then
    some 7
  else
  some 0
def P_size_check : (List Int) → Int → Prop := fun x r => match x, r with
  | p0, r0 => ∀ H, PC prog env 49 ([(.lst ((List.map intD) p0))].map .dat) H (intPV r0) H
theorem w_size_check : ∀ x r, m_size_check x = some r → P_size_check x r := by
  intro p0 r0 hm
  unfold m_size_check at hm
  unfold P_size_check
  intro H
  refine PC_sx (ds := [(.lst ((List.map intD) p0))]) (fn := f49) (by kernel_rfl) (by kernel_rfl) rfl ?_ (by kernel_rfl)
  refine R_seq ?_
  refine R_G ?_
  refine G_run 1 ?_
  refine G_end ?_
  refine R_seq ?_
  refine R_block ?_
  refine R_seq ?_
  refine R_G ?_
  refine G_run 1 ?_
  obtain ⟨v1, hx, hm⟩ := bind_inv hm
  have hq := w_slices_ContainsFunc_int_int_size_check_1 _ _ hx []
  refine G_callP hq ?_
  refine G_run 1 ?_
  refine G_end ?_
  refine R_ifp (p := v1 = true) (bool_dec _) (fun hc => ?_) (fun hc => ?_)
  · replace hm := pos_inv hc hm
    refine R_seq ?_
    refine R_G ?_
    refine G_run 1 ?_
    refine G_end ?_
    refine R_ret ?_
    obtain rfl := inj1 hm
    exact ⟨trivial, fin_pure (by kernel_rfl)⟩
  replace hm := neg_inv hc hm
  refine R_seq ?_
  refine R_G ?_
  refine G_run 1 ?_
  obtain ⟨v2, hx, hm⟩ := bind_inv hm
  have hq := w_slices_ContainsFunc_int_int_size_check_2 _ _ hx []
  refine G_callP hq ?_
  refine G_run 1 ?_
  refine G_end ?_
  refine R_ifp (p := v2 = true) (bool_dec _) (fun hc => ?_) (fun hc => ?_)
  · replace hm := pos_inv hc hm
    refine R_seq ?_
    refine R_G ?_
    refine G_run 1 ?_
    refine G_end ?_
    refine R_ret ?_
    obtain rfl := inj1 hm
    exact ⟨trivial, fin_pure (by kernel_rfl)⟩
  replace hm := neg_inv hc hm
  refine R_skip ?_
  refine R_seq ?_
  refine R_G ?_
  refine G_run 1 ?_
  refine G_end ?_
  refine R_ret ?_
  obtain rfl := inj1 hm
  exact ⟨trivial, fin_pure (by kernel_rfl)⟩
end Go.Proofs.Tryd
namespace Go.Proofs.Tryd
open Go Go.Pm
set_option linter.unusedVariables false
set_option maxRecDepth 2000
def m_slices_Index_int_int_L1 (x : ((List Int) × Int × Int)) : Option (Int ⊕ Unit) :=
  match x with
  | (p0, p1, v201) =>
  if v201 < (p0.length : Int) then
    idx p0 v201 >>= fun v602 =>
    if p1 = v602 then
      some (Sum.inl v201)
    else
    m_slices_Index_int_int_L1 (p0, p1, (W (v201 + 1)))
  else
  some (Sum.inr ())
  partial_fixpoint
def P_slices_Index_int_int_L1 : ((List Int) × Int × Int) → (Int ⊕ Unit) → Prop := fun x r => match x with
  | (p0, p1, v201) => ∀ st, prune 0 ((firstRegion (codeAt [1, 0, 1, 0, 0] (bodyOf f57))).bind (env.hint 57).keepAt) st = ⟨kp 19 [(0, (.dat (.lst ((List.map intD) p0)))), (1, (intPV p1)), (7, (intPV (p0.length : Int))), (8, (intPV v201))], []⟩ →
    RL prog env (env.hint 57) true (codeAt [1, 0, 1, 0, 0] (bodyOf f57)) 0 st (fun e s => match r with | .inl v601 => e = .ret ∧ ∃ d, s = ⟨sl d 19 [(4, (intPV v601))], []⟩ | .inr (_) => e = .exit 0 ∧ ∃ d, s = ⟨sl d 19 [], []⟩)
theorem w_slices_Index_int_int_L1 : ∀ x r, m_slices_Index_int_int_L1 x = some r → P_slices_Index_int_int_L1 x r := by
  refine m_slices_Index_int_int_L1.partial_correctness _ (fun m_slices_Index_int_int_L1 w_slices_Index_int_int_L1 x r hm => ?_)
  unfold P_slices_Index_int_int_L1
  obtain ⟨p0, p1, v201⟩ := x
  intro st hst
  refine RL_at hst ?_
  clear hst
  refine R_seq ?_
  refine R_G ?_
  refine G_run 1 ?_
  refine G_end ?_
  refine R_seq ?_
  refine R_ifp (p := v201 < (p0.length : Int)) (rfl) (fun hc => ?_) (fun hc => ?_)
  · replace hm := pos_inv hc hm
    refine R_skip ?_
    refine R_seq ?_
    refine R_block ?_
    refine R_seq ?_
    refine R_G ?_
    refine G_run 2 ?_
    refine G_end ?_
    refine R_seq ?_
    refine R_G ?_
    refine G_run 3 ?_
    obtain ⟨v602, hx, hm⟩ := bind_inv hm
    refine I_idx 1 intD p0 v201 v602 (es := (List.map intD) p0) (d := (intD v602)) rfl hx rfl rfl ?_
    refine G_run 2 ?_
    refine G_end ?_
    refine R_ifp (p := p1 = v602) (eq_dec _ _) (fun hc => ?_) (fun hc => ?_)
    · replace hm := pos_inv hc hm
      refine R_seq ?_
      refine R_G ?_
      refine G_run 2 ?_
      refine G_end ?_
      refine R_ret ?_
      obtain rfl := inj1 hm
      exact ⟨rfl, cut_leaf (by kernel_rfl)⟩
    replace hm := neg_inv hc hm
    refine R_skip ?_
    refine R_G ?_
    refine G_run 2 ?_
    refine G_end ?_
    exact w_slices_Index_int_int_L1 _ _ hm _ (by kernel_rfl)
  replace hm := neg_inv hc hm
  refine R_exit ?_
  obtain rfl := inj1 hm
  exact ⟨rfl, cut_leaf (by kernel_rfl)⟩
def m_slices_Index_int_int (x : ((List Int) × Int)) : Option Int :=
  match x with
  | (p0, p1) =>
  (
  m_slices_Index_int_int_L1 (p0, p1, 0) >>= fun (out : Int ⊕ Unit) =>
  match out with
  | .inl v601 =>
    some v601
  | .inr (_) =>
    some (-1)
  )
def P_slices_Index_int_int : ((List Int) × Int) → Int → Prop := fun x r => match x, r with
  | (p0, p1), r0 => ∀ H, PC prog env 57 ([(.lst ((List.map intD) p0)), (intD p1)].map .dat) H (intPV r0) H
theorem w_slices_Index_int_int : ∀ x r, m_slices_Index_int_int x = some r → P_slices_Index_int_int x r := by
  intro x r0 hm
  unfold m_slices_Index_int_int at hm
  unfold P_slices_Index_int_int
  obtain ⟨p0, p1⟩ := x
  intro H
  refine PC_sx (ds := [(.lst ((List.map intD) p0)), (intD p1)]) (fn := f57) (by kernel_rfl) (by kernel_rfl) rfl ?_ (by kernel_rfl)
  refine R_seq ?_
  refine R_G ?_
  refine G_run 1 ?_
  refine G_end ?_
  refine R_seq ?_
  refine R_seq ?_
  refine R_G ?_
  refine G_run 1 ?_
  refine I_len intD p0 (es := (List.map intD) p0) rfl ?_
  refine G_run 1 ?_
  refine G_end ?_
  refine R_block ?_
  obtain ⟨out, hs, hm⟩ := bind_inv hm
  refine R_loop ?_
  rcases out with v601 | _
  · refine RL_use (w_slices_Index_int_int_L1 _ _ hs) (by kernel_rfl) ?_
    clear hs
    intro e s hp
    obtain ⟨rfl, d, rfl⟩ := hp
    obtain rfl := inj1 hm
    exact ⟨trivial, fin_pure (by kernel_rfl)⟩
  · refine RL_use (w_slices_Index_int_int_L1 _ _ hs) (by kernel_rfl) ?_
    clear hs
    intro e s hp
    obtain ⟨rfl, d, rfl⟩ := hp
    refine R_seq ?_
    refine R_G ?_
    refine G_run 1 ?_
    refine G_end ?_
    refine R_ret ?_
    obtain rfl := inj1 hm
    exact ⟨trivial, fin_pure (by kernel_rfl)⟩
end Go.Proofs.Tryd
namespace Go.Proofs.Tryd
open Go Go.Pm
set_option linter.unusedVariables false
set_option maxRecDepth 2000
def m_slices_Contains_int_int (x : ((List Int) × Int)) : Option Bool :=
  match x with
  | (p0, p1) =>
  m_slices_Index_int_int (p0, p1) >>= fun (v1 : Int) =>
  some (decide (v1 ≥ 0))
def P_slices_Contains_int_int : ((List Int) × Int) → Bool → Prop := fun x r => match x, r with
  | (p0, p1), r0 => ∀ H, PC prog env 50 ([(.lst ((List.map intD) p0)), (intD p1)].map .dat) H (boolPV r0) H
theorem w_slices_Contains_int_int : ∀ x r, m_slices_Contains_int_int x = some r → P_slices_Contains_int_int x r := by
  intro x r0 hm
  unfold m_slices_Contains_int_int at hm
  unfold P_slices_Contains_int_int
  obtain ⟨p0, p1⟩ := x
  intro H
  refine PC_sx (ds := [(.lst ((List.map intD) p0)), (intD p1)]) (fn := f50) (by kernel_rfl) (by kernel_rfl) rfl ?_ (by kernel_rfl)
  refine R_seq ?_
  refine R_G ?_
  refine G_run 1 ?_
  refine G_end ?_
  refine R_seq ?_
  refine R_G ?_
  refine G_run 2 ?_
  obtain ⟨v1, hx, hm⟩ := bind_inv hm
  have hq := w_slices_Index_int_int _ _ hx []
  refine G_callP hq ?_
  refine G_run 2 ?_
  refine G_end ?_
  refine R_ret ?_
  obtain rfl := inj1 hm
  exact ⟨trivial, fin_pure (by kernel_rfl)⟩
end Go.Proofs.Tryd
namespace Go.Proofs.Tryd
open Go Go.Pm
set_option linter.unusedVariables false
set_option maxRecDepth 2000
def m_size_Mul (x : (Int × Int × Int)) : Option (Int × Bool) :=
  match x with
  | (p0, p1, p2) =>
  ((if p0 < 0 then
    some true
  else
  some (decide (p1 < 0))
  ) >>= fun (v2 : Bool) =>
  (if v2 = true then
    some true
  else
  some (decide (p0 > p2))
  ) >>= fun (v3 : Bool) =>
  (if v3 = true then
    some true
  else
  some (decide (p1 > p2))
  ) >>= fun (v4 : Bool) =>
  if v4 = true then
    some true
  else
  if p1 > 0 then
    quoM p2 p1 >>= fun v5 =>
    some (decide (p0 > v5))
  else
  some false
  ) >>= fun (v1 : Bool) =>
  if v1 = true then
    some (0, false)
  else
  some ((W (p0 * p1)), true)
def P_size_Mul : (Int × Int × Int) → (Int × Bool) → Prop := fun x r => match x, r with
  | (p0, p1, p2), (r0, r1) => ∀ H, PC prog env 53 ([(intD p0), (intD p1), (intD p2)].map .dat) H (.tup [(intPV r0), (boolPV r1)]) H
theorem w_size_Mul : ∀ x r, m_size_Mul x = some r → P_size_Mul x r := by
  intro x r hm
  unfold m_size_Mul at hm
  unfold P_size_Mul
  obtain ⟨p0, p1, p2⟩ := x
  obtain ⟨r0, r1⟩ := r
  intro H
  refine PC_sx (ds := [(intD p0), (intD p1), (intD p2)]) (fn := f53) (by kernel_rfl) (by kernel_rfl) rfl ?_ (by kernel_rfl)
  refine R_seq ?_
  refine R_G ?_
  refine G_run 2 ?_
  refine G_end ?_
  refine R_seq ?_
  refine R_seq ?_
  obtain ⟨v1, hs, hm⟩ := bind_inv hm
  refine R_cut (fun d => ⟨sl d 38 [(0, (intPV p0)), (1, (intPV p1)), (34, (boolPV v1))], []⟩) ?_ (fun d => ?_)
  · replace hm := hs
    clear hs
    refine R_GN ?_
    refine G_run 3 ?_
    obtain ⟨v2, hs, hm⟩ := bind_inv hm
    refine G_cut (j := 6) (fun d => ⟨sl d 38 [(0, (intPV p0)), (1, (intPV p1)), (2, (intPV p2)), (6, (intPV 0)), (7, (boolPV false)), (8, (intPV p0)), (9, (boolPV (decide (p0 < 0)))), (13, (boolPV v2))], []⟩) (fun d => ?_) (fun hJ => ?_)
    · clear hs
      refine G_run 1 ?_
      obtain ⟨v3, hs, hm⟩ := bind_inv hm
      refine G_cut (j := 11) (fun d => ⟨sl d 38 [(0, (intPV p0)), (1, (intPV p1)), (2, (intPV p2)), (6, (intPV 0)), (7, (boolPV false)), (8, (intPV p0)), (9, (boolPV (decide (p0 < 0)))), (13, (boolPV v2)), (18, (boolPV v3))], []⟩) (fun d => ?_) (fun hJ => ?_)
      · clear hs
        refine G_run 1 ?_
        obtain ⟨v4, hs, hm⟩ := bind_inv hm
        refine G_cut (j := 16) (fun d => ⟨sl d 38 [(0, (intPV p0)), (1, (intPV p1)), (2, (intPV p2)), (6, (intPV 0)), (7, (boolPV false)), (8, (intPV p0)), (9, (boolPV (decide (p0 < 0)))), (13, (boolPV v2)), (18, (boolPV v3)), (23, (boolPV v4))], []⟩) (fun d => ?_) (fun hJ => ?_)
        · clear hs
          refine G_run 1 ?_
          refine G_split (p := v4 = true) 24 (bool_dec _) (fun hc => ?_) (fun hc => ?_)
          · replace hm := pos_inv hc hm
            refine G_run 10 ?_
            refine G_end ⟨by kernel_rfl, ?_⟩
            obtain rfl := inj1 hm
            exact cut_leaf (by kernel_rfl)
          replace hm := neg_inv hc hm
          refine G_run 3 ?_
          refine G_split (p := p1 > 0) 27 (rfl) (fun hc => ?_) (fun hc => ?_)
          · replace hm := pos_inv hc hm
            refine G_run 3 ?_
            obtain ⟨v5, hx, hm⟩ := bind_inv hm
            refine G_semN rfl (by kernel_rfl) (fun _ => E_quo (a := p2) (b := p1) hx rfl (by kernel_rfl) (by kernel_rfl)) ?_
            refine G_run 3 ?_
            refine G_end ⟨by kernel_rfl, ?_⟩
            obtain rfl := inj1 hm
            exact cut_leaf (by kernel_rfl)
          replace hm := neg_inv hc hm
          refine G_run 7 ?_
          refine G_end ⟨by kernel_rfl, ?_⟩
          obtain rfl := inj1 hm
          exact cut_leaf (by kernel_rfl)
        replace hm := hs
        clear hs
        refine G_split (p := v3 = true) 19 (bool_dec _) (fun hc => ?_) (fun hc => ?_)
        · replace hm := pos_inv hc hm
          refine G_run 4 ?_
          obtain rfl := inj1 hm
          exact hJ _ _ (by kernel_rfl) (by kernel_rfl)
        replace hm := neg_inv hc hm
        refine G_run 4 ?_
        obtain rfl := inj1 hm
        exact hJ _ _ (by kernel_rfl) (by kernel_rfl)
      replace hm := hs
      clear hs
      refine G_split (p := v2 = true) 14 (bool_dec _) (fun hc => ?_) (fun hc => ?_)
      · replace hm := pos_inv hc hm
        refine G_run 4 ?_
        obtain rfl := inj1 hm
        exact hJ _ _ (by kernel_rfl) (by kernel_rfl)
      replace hm := neg_inv hc hm
      refine G_run 4 ?_
      obtain rfl := inj1 hm
      exact hJ _ _ (by kernel_rfl) (by kernel_rfl)
    replace hm := hs
    clear hs
    refine G_split (p := p0 < 0) 10 (rfl) (fun hc => ?_) (fun hc => ?_)
    · replace hm := pos_inv hc hm
      refine G_run 3 ?_
      obtain rfl := inj1 hm
      exact hJ _ _ (by kernel_rfl) (by kernel_rfl)
    replace hm := neg_inv hc hm
    refine G_run 3 ?_
    obtain rfl := inj1 hm
    exact hJ _ _ (by kernel_rfl) (by kernel_rfl)
  clear hs
  refine R_ifp (p := v1 = true) (bool_dec _) (fun hc => ?_) (fun hc => ?_)
  · replace hm := pos_inv hc hm
    refine R_seq ?_
    refine R_G ?_
    refine G_run 2 ?_
    refine G_end ?_
    refine R_ret ?_
    obtain ⟨rfl, rfl⟩ := inj2 hm
    exact ⟨trivial, fin_pure (by kernel_rfl)⟩
  replace hm := neg_inv hc hm
  refine R_skip ?_
  refine R_seq ?_
  refine R_G ?_
  refine G_run 5 ?_
  refine G_end ?_
  refine R_ret ?_
  obtain ⟨rfl, rfl⟩ := inj2 hm
  exact ⟨trivial, fin_pure (by kernel_rfl)⟩
end Go.Proofs.Tryd
namespace Go.Proofs.Tryd
open Go Go.Pm
set_option linter.unusedVariables false
set_option maxRecDepth 2000
def m_size_Product_1 (x : (Int × Int)) : Option (Int × Bool) :=
  match x with
  | (p0, p1) =>
  m_size_Mul (p0, p1, 65536) >>= fun ((v1, v2) : (Int × Bool)) =>
  some (v1, v2)
def P_size_Product_1 : (Int × Int) → (Int × Bool) → Prop := fun x r => match x, r with
  | (p0, p1), (r0, r1) => ∀ H, PC prog env 52 ([(intD p0), (intD p1)].map .dat) H (.tup [(intPV r0), (boolPV r1)]) H
theorem w_size_Product_1 : ∀ x r, m_size_Product_1 x = some r → P_size_Product_1 x r := by
  intro x r hm
  unfold m_size_Product_1 at hm
  unfold P_size_Product_1
  obtain ⟨p0, p1⟩ := x
  obtain ⟨r0, r1⟩ := r
  intro H
  refine PC_sx (ds := [(intD p0), (intD p1)]) (fn := f52) (by kernel_rfl) (by kernel_rfl) rfl ?_ (by kernel_rfl)
  refine R_seq ?_
  refine R_G ?_
  refine G_run 2 ?_
  refine G_end ?_
  refine R_seq ?_
  refine R_G ?_
  refine G_run 2 ?_
  obtain ⟨⟨v1, v2⟩, hx, hm⟩ := bind_inv hm
  have hq := w_size_Mul _ _ hx []
  refine G_callP hq ?_
  refine G_run 4 ?_
  refine G_end ?_
  refine R_ret ?_
  obtain ⟨rfl, rfl⟩ := inj2 hm
  exact ⟨trivial, fin_pure (by kernel_rfl)⟩
end Go.Proofs.Tryd
namespace Go.Proofs.Tryd
open Go Go.Pm
set_option linter.unusedVariables false
set_option maxRecDepth 2000
def m_size_fold_int_size_Product_1_L1 (x : ((List Int) × Int × Int)) : Option (Int ⊕ Int) :=
  match x with
  | (p0, v201, v202) =>
  if v202 < (p0.length : Int) then
    idx p0 v202 >>= fun v603 =>
    m_size_Product_1 (v201, v603) >>= fun ((v604, v605) : (Int × Bool)) =>
    if v605 = false then
      some (Sum.inl v604)
    else
    m_size_fold_int_size_Product_1_L1 (p0, v604, (W (v202 + 1)))
  else
  some (Sum.inr v201)
  partial_fixpoint
def P_size_fold_int_size_Product_1_L1 : ((List Int) × Int × Int) → (Int ⊕ Int) → Prop := fun x r => match x with
  | (p0, v201, v202) => ∀ st, prune 0 ((firstRegion (codeAt [1, 1, 0, 1, 0, 0] (bodyOf f58))).bind (env.hint 58).keepAt) st = ⟨kp 31 [(2, (.dat (.raw (.func (.func 52) #[] #[])))), (8, (intPV v201)), (13, (.dat (.lst ((List.map intD) p0)))), (14, (intPV (p0.length : Int))), (15, (intPV v202))], []⟩ →
    RL prog env (env.hint 58) true (codeAt [1, 1, 0, 1, 0, 0] (bodyOf f58)) 0 st (fun e s => match r with | .inl v601 => e = .ret ∧ ∃ d, s = ⟨sl d 31 [(6, (intPV v601)), (7, (boolPV false))], []⟩ | .inr (v602) => e = .exit 0 ∧ ∃ d, s = ⟨sl d 31 [(8, (intPV v602))], []⟩)
theorem w_size_fold_int_size_Product_1_L1 : ∀ x r, m_size_fold_int_size_Product_1_L1 x = some r → P_size_fold_int_size_Product_1_L1 x r := by
  refine m_size_fold_int_size_Product_1_L1.partial_correctness _ (fun m_size_fold_int_size_Product_1_L1 w_size_fold_int_size_Product_1_L1 x r hm => ?_)
  unfold P_size_fold_int_size_Product_1_L1
  obtain ⟨p0, v201, v202⟩ := x
  intro st hst
  refine RL_at hst ?_
  clear hst
  refine R_seq ?_
  refine R_G ?_
  refine G_run 1 ?_
  refine G_end ?_
  refine R_seq ?_
  refine R_ifp (p := v202 < (p0.length : Int)) (rfl) (fun hc => ?_) (fun hc => ?_)
  · replace hm := pos_inv hc hm
    refine R_skip ?_
    refine R_seq ?_
    refine R_block ?_
    refine R_seq ?_
    refine R_G ?_
    obtain ⟨v603, hx, hm⟩ := bind_inv hm
    refine I_idx 1 intD p0 v202 v603 (es := (List.map intD) p0) (d := (intD v603)) rfl hx rfl rfl ?_
    refine G_run 2 ?_
    refine G_end ?_
    refine R_seq ?_
    refine R_G ?_
    refine G_run 3 ?_
    obtain ⟨⟨v604, v605⟩, hx, hm⟩ := bind_inv hm
    have hq := w_size_Product_1 _ _ hx []
    refine G_callP hq ?_
    refine G_run 5 ?_
    refine G_end ?_
    refine R_seq ?_
    refine R_G ?_
    refine G_run 2 ?_
    refine G_end ?_
    refine R_ifp (p := v605 = false) (not_dec _) (fun hc => ?_) (fun hc => ?_)
    · replace hm := pos_inv hc hm
      refine R_seq ?_
      refine R_G ?_
      refine G_run 3 ?_
      refine G_end ?_
      refine R_ret ?_
      obtain rfl := inj1 hm
      exact ⟨rfl, cut_leaf (by kernel_rfl)⟩
    replace hm := neg_inv hc hm
    refine R_skip ?_
    refine R_G ?_
    refine G_run 2 ?_
    refine G_end ?_
    exact w_size_fold_int_size_Product_1_L1 _ _ hm _ (by kernel_rfl)
  replace hm := neg_inv hc hm
  refine R_exit ?_
  obtain rfl := inj1 hm
  exact ⟨rfl, cut_leaf (by kernel_rfl)⟩
def m_size_fold_int_size_Product_1 (x : ((List Int) × Int)) : Option (Int × Bool) :=
  match x with
  | (p0, p1) =>
  (
  m_size_fold_int_size_Product_1_L1 (p0, p1, 0) >>= fun (out : Int ⊕ Int) =>
  match out with
  | .inl v601 =>
    some (v601, false)
  | .inr (v602) =>
    some (v602, true)
  )
def P_size_fold_int_size_Product_1 : ((List Int) × Int) → (Int × Bool) → Prop := fun x r => match x, r with
  | (p0, p1), (r0, r1) => ∀ H, PC prog env 58 ([(.lst ((List.map intD) p0)), (intD p1), (.raw (.func (.func 52) #[] #[]))].map .dat) H (.tup [(intPV r0), (boolPV r1)]) H
theorem w_size_fold_int_size_Product_1 : ∀ x r, m_size_fold_int_size_Product_1 x = some r → P_size_fold_int_size_Product_1 x r := by
  intro x r hm
  unfold m_size_fold_int_size_Product_1 at hm
  unfold P_size_fold_int_size_Product_1
  obtain ⟨p0, p1⟩ := x
  obtain ⟨r0, r1⟩ := r
  intro H
  refine PC_sx (ds := [(.lst ((List.map intD) p0)), (intD p1), (.raw (.func (.func 52) #[] #[]))]) (fn := f58) (by kernel_rfl) (by kernel_rfl) rfl ?_ (by kernel_rfl)
  refine R_seq ?_
  refine R_G ?_
  refine G_run 2 ?_
  refine G_end ?_
  refine R_seq ?_
  refine R_G ?_
  refine G_run 3 ?_
  refine G_end ?_
  refine R_seq ?_
  refine R_seq ?_
  refine R_G ?_
  refine G_run 1 ?_
  refine I_len intD p0 (es := (List.map intD) p0) rfl ?_
  refine G_run 1 ?_
  refine G_end ?_
  refine R_block ?_
  obtain ⟨out, hs, hm⟩ := bind_inv hm
  refine R_loop ?_
  rcases out with v601 | v602
  · refine RL_use (w_size_fold_int_size_Product_1_L1 _ _ hs) (by kernel_rfl) ?_
    clear hs
    intro e s hp
    obtain ⟨rfl, d, rfl⟩ := hp
    obtain ⟨rfl, rfl⟩ := inj2 hm
    exact ⟨trivial, fin_pure (by kernel_rfl)⟩
  · refine RL_use (w_size_fold_int_size_Product_1_L1 _ _ hs) (by kernel_rfl) ?_
    clear hs
    intro e s hp
    obtain ⟨rfl, d, rfl⟩ := hp
    refine R_seq ?_
    refine R_G ?_
    refine G_run 3 ?_
    refine G_end ?_
    refine R_ret ?_
    obtain ⟨rfl, rfl⟩ := inj2 hm
    exact ⟨trivial, fin_pure (by kernel_rfl)⟩
end Go.Proofs.Tryd
namespace Go.Proofs.Tryd
open Go Go.Pm
set_option linter.unusedVariables false
set_option maxRecDepth 2000
def m_size_combined_size_Product_1 (x : ((List Int) × Int)) : Option (Int × Int) :=
  match x with
  | (p0, p1) =>
  m_size_check p0 >>= fun (v1 : Int) =>
  if v1 ≠ 0 then
    some (0, v1)
  else
  m_size_fold_int_size_Product_1 (p0, p1) >>= fun ((v2, v3) : (Int × Bool)) =>
  if v3 = false then
    some (0, 7)
  else
  some (v2, 0)
def P_size_combined_size_Product_1 : ((List Int) × Int) → (Int × Int) → Prop := fun x r => match x, r with
  | (p0, p1), (r0, r1) => ∀ H, PC prog env 51 ([(.lst ((List.map intD) p0)), (intD p1), (.raw (.func (.func 52) #[] #[]))].map .dat) H (.tup [(intPV r0), (intPV r1)]) H
theorem w_size_combined_size_Product_1 : ∀ x r, m_size_combined_size_Product_1 x = some r → P_size_combined_size_Product_1 x r := by
  intro x r hm
  unfold m_size_combined_size_Product_1 at hm
  unfold P_size_combined_size_Product_1
  obtain ⟨p0, p1⟩ := x
  obtain ⟨r0, r1⟩ := r
  intro H
  refine PC_sx (ds := [(.lst ((List.map intD) p0)), (intD p1), (.raw (.func (.func 52) #[] #[]))]) (fn := f51) (by kernel_rfl) (by kernel_rfl) rfl ?_ (by kernel_rfl)
  refine R_seq ?_
  refine R_G ?_
  refine G_run 2 ?_
  refine G_end ?_
  refine R_seq ?_
  refine R_seq ?_
  refine R_G ?_
  refine G_run 1 ?_
  obtain ⟨v1, hx, hm⟩ := bind_inv hm
  have hq := w_size_check _ _ hx []
  refine G_callP hq ?_
  refine G_run 1 ?_
  refine G_end ?_
  refine R_seq ?_
  refine R_G ?_
  refine G_run 2 ?_
  refine G_end ?_
  refine R_ifp (p := v1 ≠ 0) (ne_dec _ _) (fun hc => ?_) (fun hc => ?_)
  · replace hm := pos_inv hc hm
    refine R_seq ?_
    refine R_G ?_
    refine G_run 3 ?_
    refine G_end ?_
    refine R_ret ?_
    obtain ⟨rfl, rfl⟩ := inj2 hm
    exact ⟨trivial, fin_pure (by kernel_rfl)⟩
  replace hm := neg_inv hc hm
  refine R_skip ?_
  refine R_seq ?_
  refine R_G ?_
  refine G_run 3 ?_
  obtain ⟨⟨v2, v3⟩, hx, hm⟩ := bind_inv hm
  have hq := w_size_fold_int_size_Product_1 _ _ hx []
  refine G_callP hq ?_
  refine G_run 5 ?_
  refine G_end ?_
  refine R_seq ?_
  refine R_seq ?_
  refine R_G ?_
  refine G_run 2 ?_
  refine G_end ?_
  refine R_ifp (p := v3 = false) (not_dec _) (fun hc => ?_) (fun hc => ?_)
  · replace hm := pos_inv hc hm
    refine R_seq ?_
    refine R_G ?_
    refine G_run 2 ?_
    refine G_end ?_
    refine R_ret ?_
    obtain ⟨rfl, rfl⟩ := inj2 hm
    exact ⟨trivial, fin_pure (by kernel_rfl)⟩
  replace hm := neg_inv hc hm
  refine R_skip ?_
  refine R_seq ?_
  refine R_G ?_
  refine G_run 3 ?_
  refine G_end ?_
  refine R_ret ?_
  obtain ⟨rfl, rfl⟩ := inj2 hm
  exact ⟨trivial, fin_pure (by kernel_rfl)⟩
end Go.Proofs.Tryd
namespace Go.Proofs.Tryd
open Go Go.Pm
set_option linter.unusedVariables false
set_option maxRecDepth 2000
def m_size_Product (x : (List Int)) : Option (Int × Int) :=
  match x with
  | p0 =>
  m_size_check p0 >>= fun (v1 : Int) =>
  (if v1 = 0 then
    m_slices_Contains_int_int (p0, 0) >>= fun (v3 : Bool) =>
    some v3
  else
  some false
  ) >>= fun (v2 : Bool) =>
  if v2 = true then
    some (0, 0)
  else
  m_size_combined_size_Product_1 (p0, 1) >>= fun ((v4, v5) : (Int × Int)) =>
  some (v4, v5)
def P_size_Product : (List Int) → (Int × Int) → Prop := fun x r => match x, r with
  | p0, (r0, r1) => ∀ H, PC prog env 48 ([(.lst ((List.map intD) p0))].map .dat) H (.tup [(intPV r0), (intPV r1)]) H
theorem w_size_Product : ∀ x r, m_size_Product x = some r → P_size_Product x r := by
  intro p0 r hm
  unfold m_size_Product at hm
  unfold P_size_Product
  obtain ⟨r0, r1⟩ := r
  intro H
  refine PC_sx (ds := [(.lst ((List.map intD) p0))]) (fn := f48) (by kernel_rfl) (by kernel_rfl) rfl ?_ (by kernel_rfl)
  refine R_seq ?_
  refine R_G ?_
  refine G_run 2 ?_
  refine G_end ?_
  refine R_seq ?_
  refine R_seq ?_
  refine R_G ?_
  refine G_run 1 ?_
  obtain ⟨v1, hx, hm⟩ := bind_inv hm
  have hq := w_size_check _ _ hx []
  refine G_callP hq ?_
  refine G_run 1 ?_
  refine G_end ?_
  refine R_seq ?_
  obtain ⟨v2, hs, hm⟩ := bind_inv hm
  refine R_cut (fun d => ⟨sl d 17 [(0, (.dat (.lst ((List.map intD) p0)))), (12, (boolPV v2))], []⟩) ?_ (fun d => ?_)
  · replace hm := hs
    clear hs
    refine R_G ?_
    refine G_run 3 ?_
    refine G_split (p := v1 = 0) 9 (eq_dec _ _) (fun hc => ?_) (fun hc => ?_)
    · replace hm := pos_inv hc hm
      refine G_run 1 ?_
      obtain ⟨v3, hx, hm⟩ := bind_inv hm
      have hq := w_slices_Contains_int_int _ _ hx []
      refine G_callP hq ?_
      refine G_run 1 ?_
      refine G_end ?_
      obtain rfl := inj1 hm
      exact cut_leaf (by kernel_rfl)
    replace hm := neg_inv hc hm
    refine G_run 3 ?_
    refine G_end ?_
    obtain rfl := inj1 hm
    exact cut_leaf (by kernel_rfl)
  clear hs
  refine R_ifp (p := v2 = true) (bool_dec _) (fun hc => ?_) (fun hc => ?_)
  · replace hm := pos_inv hc hm
    refine R_seq ?_
    refine R_G ?_
    refine G_run 2 ?_
    refine G_end ?_
    refine R_ret ?_
    obtain ⟨rfl, rfl⟩ := inj2 hm
    exact ⟨trivial, fin_pure (by kernel_rfl)⟩
  replace hm := neg_inv hc hm
  refine R_skip ?_
  refine R_seq ?_
  refine R_G ?_
  refine G_run 1 ?_
  obtain ⟨⟨v4, v5⟩, hx, hm⟩ := bind_inv hm
  have hq := w_size_combined_size_Product_1 _ _ hx []
  refine G_callP hq ?_
  refine G_run 4 ?_
  refine G_end ?_
  refine R_ret ?_
  obtain ⟨rfl, rfl⟩ := inj2 hm
  exact ⟨trivial, fin_pure (by kernel_rfl)⟩
end Go.Proofs.Tryd
namespace Go.Proofs.Tryd
open Go Go.Pm
set_option linter.unusedVariables false
set_option maxRecDepth 2000
def m_shape_Check (x : (List Int)) : Option Int :=
  match x with
  | p0 =>
  m_size_Product p0 >>= fun ((v1, v2) : (Int × Int)) =>
  (if v2 ≠ 6 then
    some (decide ((p0.length : Int) > 16))
  else
  some false
  ) >>= fun (v3 : Bool) =>
  if v3 = true then
    some 7
  else
  some v2
def P_shape_Check : (List Int) → Int → Prop := fun x r => match x, r with
  | p0, r0 => ∀ H, PC prog env 43 ([(.lst ((List.map intD) p0))].map .dat) H (intPV r0) H
theorem w_shape_Check : ∀ x r, m_shape_Check x = some r → P_shape_Check x r := by
  intro p0 r0 hm
  unfold m_shape_Check at hm
  unfold P_shape_Check
  intro H
  refine PC_sx (ds := [(.lst ((List.map intD) p0))]) (fn := f43) (by kernel_rfl) (by kernel_rfl) rfl ?_ (by kernel_rfl)
  refine R_seq ?_
  refine R_G ?_
  refine G_run 1 ?_
  refine G_end ?_
  refine R_seq ?_
  refine R_G ?_
  refine G_run 1 ?_
  obtain ⟨⟨v1, v2⟩, hx, hm⟩ := bind_inv hm
  have hq := w_size_Product _ _ hx []
  refine G_callP hq ?_
  refine G_run 5 ?_
  refine G_end ?_
  refine R_seq ?_
  refine R_seq ?_
  obtain ⟨v3, hs, hm⟩ := bind_inv hm
  refine R_cut (fun d => ⟨sl d 18 [(4, (intPV v2)), (16, (boolPV v3))], []⟩) ?_ (fun d => ?_)
  · replace hm := hs
    clear hs
    refine R_G ?_
    refine G_run 3 ?_
    refine G_split (p := v2 ≠ 6) 12 (ne_dec _ _) (fun hc => ?_) (fun hc => ?_)
    · replace hm := pos_inv hc hm
      refine G_run 1 ?_
      refine I_len intD p0 (es := (List.map intD) p0) rfl ?_
      refine G_run 2 ?_
      refine G_end ?_
      obtain rfl := inj1 hm
      exact cut_leaf (by kernel_rfl)
    replace hm := neg_inv hc hm
    refine G_run 4 ?_
    refine G_end ?_
    obtain rfl := inj1 hm
    exact cut_leaf (by kernel_rfl)
  clear hs
  refine R_ifp (p := v3 = true) (bool_dec _) (fun hc => ?_) (fun hc => ?_)
  · replace hm := pos_inv hc hm
    refine R_seq ?_
    refine R_G ?_
    refine G_run 1 ?_
    refine G_end ?_
    refine R_ret ?_
    obtain rfl := inj1 hm
    exact ⟨trivial, fin_pure (by kernel_rfl)⟩
  replace hm := neg_inv hc hm
  refine R_skip ?_
  refine R_seq ?_
  refine R_G ?_
  refine G_run 2 ?_
  refine G_end ?_
  refine R_ret ?_
  obtain rfl := inj1 hm
  exact ⟨trivial, fin_pure (by kernel_rfl)⟩
end Go.Proofs.Tryd
namespace Go.Proofs.Tryd
open Go Go.Pm
set_option linter.unusedVariables false
set_option maxRecDepth 2000
def m_slices_Equal_int_int_L1 (x : ((List Int) × (List Int) × Int)) : Option (Unit ⊕ Unit) :=
  match x with
  | (p0, p1, v201) =>
  if v201 < (p0.length : Int) then
    idx p0 v201 >>= fun v601 =>
    idx p1 v201 >>= fun v602 =>
    if v601 ≠ v602 then
      some (Sum.inl ())
    else
    m_slices_Equal_int_int_L1 (p0, p1, (W (v201 + 1)))
  else
  some (Sum.inr ())
  partial_fixpoint
def P_slices_Equal_int_int_L1 : ((List Int) × (List Int) × Int) → (Unit ⊕ Unit) → Prop := fun x r => match x with
  | (p0, p1, v201) => ∀ st, prune 0 ((firstRegion (codeAt [1, 1, 0, 1, 0, 0] (bodyOf f33))).bind (env.hint 33).keepAt) st = ⟨kp 26 [(0, (.dat (.lst ((List.map intD) p0)))), (1, (.dat (.lst ((List.map intD) p1)))), (12, (intPV (p0.length : Int))), (13, (intPV v201))], []⟩ →
    RL prog env (env.hint 33) true (codeAt [1, 1, 0, 1, 0, 0] (bodyOf f33)) 0 st (fun e s => match r with | .inl _ => e = .ret ∧ ∃ d, s = ⟨sl d 26 [(4, (boolPV false))], []⟩ | .inr (_) => e = .exit 0 ∧ ∃ d, s = ⟨sl d 26 [], []⟩)
theorem w_slices_Equal_int_int_L1 : ∀ x r, m_slices_Equal_int_int_L1 x = some r → P_slices_Equal_int_int_L1 x r := by
  refine m_slices_Equal_int_int_L1.partial_correctness _ (fun m_slices_Equal_int_int_L1 w_slices_Equal_int_int_L1 x r hm => ?_)
  unfold P_slices_Equal_int_int_L1
  obtain ⟨p0, p1, v201⟩ := x
  intro st hst
  refine RL_at hst ?_
  clear hst
  refine R_seq ?_
  refine R_G ?_
  refine G_run 1 ?_
  refine G_end ?_
  refine R_seq ?_
  refine R_ifp (p := v201 < (p0.length : Int)) (rfl) (fun hc => ?_) (fun hc => ?_)
  · replace hm := pos_inv hc hm
    refine R_skip ?_
    refine R_seq ?_
    refine R_block ?_
    refine R_seq ?_
    refine R_G ?_
    refine G_run 2 ?_
    refine G_end ?_
    refine R_seq ?_
    refine R_GD ?_
    refine G_run 2 ?_
    obtain ⟨v601, hx, hm⟩ := bind_inv hm
    refine I_idx 1 intD p0 v201 v601 (es := (List.map intD) p0) (d := (intD v601)) rfl hx rfl rfl ?_
    refine G_run 3 ?_
    obtain ⟨v602, hx, hm⟩ := bind_inv hm
    refine I_idx 1 intD p1 v201 v602 (es := (List.map intD) p1) (d := (intD v602)) rfl hx rfl rfl ?_
    refine G_run 2 ?_
    refine G_end ⟨by kernel_rfl, ?_⟩
    refine R_ifp (p := v601 ≠ v602) (ne_dec _ _) (fun hc => ?_) (fun hc => ?_)
    · replace hm := pos_inv hc hm
      refine R_seq ?_
      refine R_G ?_
      refine G_run 1 ?_
      refine G_end ?_
      refine R_ret ?_
      obtain rfl := inj1 hm
      exact ⟨rfl, cut_leaf (by kernel_rfl)⟩
    replace hm := neg_inv hc hm
    refine R_skip ?_
    refine R_G ?_
    refine G_run 2 ?_
    refine G_end ?_
    exact w_slices_Equal_int_int_L1 _ _ hm _ (by kernel_rfl)
  replace hm := neg_inv hc hm
  refine R_exit ?_
  obtain rfl := inj1 hm
  exact ⟨rfl, cut_leaf (by kernel_rfl)⟩
def m_slices_Equal_int_int (x : ((List Int) × (List Int))) : Option Bool :=
  match x with
  | (p0, p1) =>
  if (p0.length : Int) ≠ (p1.length : Int) then
    some false
  else
  (
  m_slices_Equal_int_int_L1 (p0, p1, 0) >>= fun (out : Unit ⊕ Unit) =>
  match out with
  | .inl _ =>
    some false
  | .inr (_) =>
    some true
  )
def P_slices_Equal_int_int : ((List Int) × (List Int)) → Bool → Prop := fun x r => match x, r with
  | (p0, p1), r0 => ∀ H, PC prog env 33 ([(.lst ((List.map intD) p0)), (.lst ((List.map intD) p1))].map .dat) H (boolPV r0) H
theorem w_slices_Equal_int_int : ∀ x r, m_slices_Equal_int_int x = some r → P_slices_Equal_int_int x r := by
  intro x r0 hm
  unfold m_slices_Equal_int_int at hm
  unfold P_slices_Equal_int_int
  obtain ⟨p0, p1⟩ := x
  intro H
  refine PC_sx (ds := [(.lst ((List.map intD) p0)), (.lst ((List.map intD) p1))]) (fn := f33) (by kernel_rfl) (by kernel_rfl) rfl ?_ (by kernel_rfl)
  refine R_seq ?_
  refine R_G ?_
  refine G_run 1 ?_
  refine G_end ?_
  refine R_seq ?_
  refine R_seq ?_
  refine R_G ?_
  refine G_run 1 ?_
  refine I_len intD p0 (es := (List.map intD) p0) rfl ?_
  refine G_run 1 ?_
  refine I_len intD p1 (es := (List.map intD) p1) rfl ?_
  refine G_run 1 ?_
  refine G_end ?_
  refine R_ifp (p := (p0.length : Int) ≠ (p1.length : Int)) (ne_dec _ _) (fun hc => ?_) (fun hc => ?_)
  · replace hm := pos_inv hc hm
    refine R_seq ?_
    refine R_G ?_
    refine G_run 1 ?_
    refine G_end ?_
    refine R_ret ?_
    obtain rfl := inj1 hm
    exact ⟨trivial, fin_pure (by kernel_rfl)⟩
  replace hm := neg_inv hc hm
  refine R_skip ?_
  refine R_seq ?_
  refine R_seq ?_
  refine R_G ?_
  refine G_run 1 ?_
  refine I_len intD p0 (es := (List.map intD) p0) rfl ?_
  refine G_run 1 ?_
  refine G_end ?_
  refine R_block ?_
  obtain ⟨out, hs, hm⟩ := bind_inv hm
  refine R_loop ?_
  rcases out with _ | _
  · refine RL_use (w_slices_Equal_int_int_L1 _ _ hs) (by kernel_rfl) ?_
    clear hs
    intro e s hp
    obtain ⟨rfl, d, rfl⟩ := hp
    obtain rfl := inj1 hm
    exact ⟨trivial, fin_pure (by kernel_rfl)⟩
  · refine RL_use (w_slices_Equal_int_int_L1 _ _ hs) (by kernel_rfl) ?_
    clear hs
    intro e s hp
    obtain ⟨rfl, d, rfl⟩ := hp
    refine R_seq ?_
    refine R_G ?_
    refine G_run 1 ?_
    refine G_end ?_
    refine R_ret ?_
    obtain rfl := inj1 hm
    exact ⟨trivial, fin_pure (by kernel_rfl)⟩
end Go.Proofs.Tryd
namespace Go.Proofs.Tryd
open Go Go.Pm
set_option linter.unusedVariables false
set_option maxRecDepth 2000
def m_shape_Equal (x : ((List Int) × (List Int))) : Option Bool :=
  match x with
  | (p0, p1) =>
  m_slices_Equal_int_int (p0, p1) >>= fun (v1 : Bool) =>
  some v1
def P_shape_Equal : ((List Int) × (List Int)) → Bool → Prop := fun x r => match x, r with
  | (p0, p1), r0 => ∀ H, PC prog env 32 ([(.lst ((List.map intD) p0)), (.lst ((List.map intD) p1))].map .dat) H (boolPV r0) H
theorem w_shape_Equal : ∀ x r, m_shape_Equal x = some r → P_shape_Equal x r := by
  intro x r0 hm
  unfold m_shape_Equal at hm
  unfold P_shape_Equal
  obtain ⟨p0, p1⟩ := x
  intro H
  refine PC_sx (ds := [(.lst ((List.map intD) p0)), (.lst ((List.map intD) p1))]) (fn := f32) (by kernel_rfl) (by kernel_rfl) rfl ?_ (by kernel_rfl)
  refine R_seq ?_
  refine R_G ?_
  refine G_run 1 ?_
  refine G_end ?_
  refine R_seq ?_
  refine R_G ?_
  refine G_run 2 ?_
  obtain ⟨v1, hx, hm⟩ := bind_inv hm
  have hq := w_slices_Equal_int_int _ _ hx []
  refine G_callP hq ?_
  refine G_run 1 ?_
  refine G_end ?_
  refine R_ret ?_
  obtain rfl := inj1 hm
  exact ⟨trivial, fin_pure (by kernel_rfl)⟩
end Go.Proofs.Tryd
namespace Go.Proofs.Tryd
open Go Go.Pm
set_option linter.unusedVariables false
set_option maxRecDepth 2000
def m_core_nothing (x : T_core_Core) : Option Bool :=
  match x with
  | p0 =>
  some true
def P_core_nothing : T_core_Core → Bool → Prop := fun x r => match x, r with
  | p0, r0 => ∀ H, PC prog env 76 ([(T_core_Core.ex p0)].map .dat) H (boolPV r0) H
theorem w_core_nothing : ∀ x r, m_core_nothing x = some r → P_core_nothing x r := by
  intro p0 r0 hm
  unfold m_core_nothing at hm
  unfold P_core_nothing
  intro H
  refine PC_sx (ds := [(T_core_Core.ex p0)]) (fn := f76) (by kernel_rfl) (by kernel_rfl) rfl ?_ (by kernel_rfl)
  refine R_seq ?_
  refine R_G ?_
  refine G_run 2 ?_
  refine G_end ?_
  refine R_seq ?_
  refine R_G ?_
  refine G_run 1 ?_
  refine G_end ?_
  refine R_ret ?_
  obtain rfl := inj1 hm
  exact ⟨trivial, fin_pure (by kernel_rfl)⟩
end Go.Proofs.Tryd
namespace Go.Proofs.Tryd
open Go Go.Pm
set_option linter.unusedVariables false
set_option maxRecDepth 2000
def m_core_rightWindow_1 (x : Int) : Option Bool :=
  match x with
  | p0 =>
  if p0 < (-65536) then
    some true
  else
  some (decide (p0 > 65536))
def P_core_rightWindow_1 : Int → Bool → Prop := fun x r => match x, r with
  | p0, r0 => ∀ H, PC prog env 89 ([(intD p0)].map .dat) H (boolPV r0) H
theorem w_core_rightWindow_1 : ∀ x r, m_core_rightWindow_1 x = some r → P_core_rightWindow_1 x r := by
  intro p0 r0 hm
  unfold m_core_rightWindow_1 at hm
  unfold P_core_rightWindow_1
  intro H
  refine PC_sx (ds := [(intD p0)]) (fn := f89) (by kernel_rfl) (by kernel_rfl) rfl ?_ (by kernel_rfl)
  refine R_seq ?_
  refine R_G ?_
  refine G_run 1 ?_
  refine G_end ?_
  refine R_seq ?_
  refine R_G ?_
  refine G_run 3 ?_
  refine G_split (p := p0 < (-65536)) 5 (rfl) (fun hc => ?_) (fun hc => ?_)
  · replace hm := pos_inv hc hm
    refine G_run 4 ?_
    refine G_end ?_
    refine R_ret ?_
    obtain rfl := inj1 hm
    exact ⟨trivial, fin_pure (by kernel_rfl)⟩
  replace hm := neg_inv hc hm
  refine G_run 4 ?_
  refine G_end ?_
  refine R_ret ?_
  obtain rfl := inj1 hm
  exact ⟨trivial, fin_pure (by kernel_rfl)⟩
end Go.Proofs.Tryd
namespace Go.Proofs.Tryd
open Go Go.Pm
set_option linter.unusedVariables false
set_option maxRecDepth 2000
def m_slices_IndexFunc_int_int_core_rightWindow_1_L1 (x : ((List Int) × Int)) : Option (Int ⊕ Unit) :=
  match x with
  | (p0, v201) =>
  if v201 < (p0.length : Int) then
    idx p0 v201 >>= fun v602 =>
    m_core_rightWindow_1 v602 >>= fun (v603 : Bool) =>
    if v603 = true then
      some (Sum.inl v201)
    else
    m_slices_IndexFunc_int_int_core_rightWindow_1_L1 (p0, (W (v201 + 1)))
  else
  some (Sum.inr ())
  partial_fixpoint
def P_slices_IndexFunc_int_int_core_rightWindow_1_L1 : ((List Int) × Int) → (Int ⊕ Unit) → Prop := fun x r => match x with
  | (p0, v201) => ∀ st, prune 0 ((firstRegion (codeAt [1, 0, 1, 0, 0] (bodyOf f59))).bind (env.hint 59).keepAt) st = ⟨kp 19 [(0, (.dat (.lst ((List.map intD) p0)))), (1, (.dat (.raw (.func (.func 89) #[] #[])))), (7, (intPV (p0.length : Int))), (8, (intPV v201))], []⟩ →
    RL prog env (env.hint 59) true (codeAt [1, 0, 1, 0, 0] (bodyOf f59)) 0 st (fun e s => match r with | .inl v601 => e = .ret ∧ ∃ d, s = ⟨sl d 19 [(4, (intPV v601))], []⟩ | .inr (_) => e = .exit 0 ∧ ∃ d, s = ⟨sl d 19 [], []⟩)
theorem w_slices_IndexFunc_int_int_core_rightWindow_1_L1 : ∀ x r, m_slices_IndexFunc_int_int_core_rightWindow_1_L1 x = some r → P_slices_IndexFunc_int_int_core_rightWindow_1_L1 x r := by
  refine m_slices_IndexFunc_int_int_core_rightWindow_1_L1.partial_correctness _ (fun m_slices_IndexFunc_int_int_core_rightWindow_1_L1 w_slices_IndexFunc_int_int_core_rightWindow_1_L1 x r hm => ?_)
  unfold P_slices_IndexFunc_int_int_core_rightWindow_1_L1
  obtain ⟨p0, v201⟩ := x
  intro st hst
  refine RL_at hst ?_
  clear hst
  refine R_seq ?_
  refine R_G ?_
  refine G_run 1 ?_
  refine G_end ?_
  refine R_seq ?_
  refine R_ifp (p := v201 < (p0.length : Int)) (rfl) (fun hc => ?_) (fun hc => ?_)
  · replace hm := pos_inv hc hm
    refine R_skip ?_
    refine R_seq ?_
    refine R_block ?_
    refine R_seq ?_
    refine R_G ?_
    refine G_run 2 ?_
    refine G_end ?_
    refine R_seq ?_
    refine R_G ?_
    refine G_run 3 ?_
    obtain ⟨v602, hx, hm⟩ := bind_inv hm
    refine I_idx 1 intD p0 v201 v602 (es := (List.map intD) p0) (d := (intD v602)) rfl hx rfl rfl ?_
    refine G_run 1 ?_
    obtain ⟨v603, hx, hm⟩ := bind_inv hm
    have hq := w_core_rightWindow_1 _ _ hx []
    refine G_callP hq ?_
    refine G_end ?_
    refine R_ifp (p := v603 = true) (bool_dec _) (fun hc => ?_) (fun hc => ?_)
    · replace hm := pos_inv hc hm
      refine R_seq ?_
      refine R_G ?_
      refine G_run 2 ?_
      refine G_end ?_
      refine R_ret ?_
      obtain rfl := inj1 hm
      exact ⟨rfl, cut_leaf (by kernel_rfl)⟩
    replace hm := neg_inv hc hm
    refine R_skip ?_
    refine R_G ?_
    refine G_run 2 ?_
    refine G_end ?_
    exact w_slices_IndexFunc_int_int_core_rightWindow_1_L1 _ _ hm _ (by kernel_rfl)
  replace hm := neg_inv hc hm
  refine R_exit ?_
  obtain rfl := inj1 hm
  exact ⟨rfl, cut_leaf (by kernel_rfl)⟩
def m_slices_IndexFunc_int_int_core_rightWindow_1 (x : (List Int)) : Option Int :=
  match x with
  | p0 =>
  (
  m_slices_IndexFunc_int_int_core_rightWindow_1_L1 (p0, 0) >>= fun (out : Int ⊕ Unit) =>
  match out with
  | .inl v601 =>
    some v601
  | .inr (_) =>
    some (-1)
  )
def P_slices_IndexFunc_int_int_core_rightWindow_1 : (List Int) → Int → Prop := fun x r => match x, r with
  | p0, r0 => ∀ H, PC prog env 59 ([(.lst ((List.map intD) p0)), (.raw (.func (.func 89) #[] #[]))].map .dat) H (intPV r0) H
theorem w_slices_IndexFunc_int_int_core_rightWindow_1 : ∀ x r, m_slices_IndexFunc_int_int_core_rightWindow_1 x = some r → P_slices_IndexFunc_int_int_core_rightWindow_1 x r := by
  intro p0 r0 hm
  unfold m_slices_IndexFunc_int_int_core_rightWindow_1 at hm
  unfold P_slices_IndexFunc_int_int_core_rightWindow_1
  intro H
  refine PC_sx (ds := [(.lst ((List.map intD) p0)), (.raw (.func (.func 89) #[] #[]))]) (fn := f59) (by kernel_rfl) (by kernel_rfl) rfl ?_ (by kernel_rfl)
  refine R_seq ?_
  refine R_G ?_
  refine G_run 1 ?_
  refine G_end ?_
  refine R_seq ?_
  refine R_seq ?_
  refine R_G ?_
  refine G_run 1 ?_
  refine I_len intD p0 (es := (List.map intD) p0) rfl ?_
  refine G_run 1 ?_
  refine G_end ?_
  refine R_block ?_
  obtain ⟨out, hs, hm⟩ := bind_inv hm
  refine R_loop ?_
  rcases out with v601 | _
  · refine RL_use (w_slices_IndexFunc_int_int_core_rightWindow_1_L1 _ _ hs) (by kernel_rfl) ?_
    clear hs
    intro e s hp
    obtain ⟨rfl, d, rfl⟩ := hp
    obtain rfl := inj1 hm
    exact ⟨trivial, fin_pure (by kernel_rfl)⟩
  · refine RL_use (w_slices_IndexFunc_int_int_core_rightWindow_1_L1 _ _ hs) (by kernel_rfl) ?_
    clear hs
    intro e s hp
    obtain ⟨rfl, d, rfl⟩ := hp
    refine R_seq ?_
    refine R_G ?_
    refine G_run 1 ?_
    refine G_end ?_
    refine R_ret ?_
    obtain rfl := inj1 hm
    exact ⟨trivial, fin_pure (by kernel_rfl)⟩
end Go.Proofs.Tryd
namespace Go.Proofs.Tryd
open Go Go.Pm
set_option linter.unusedVariables false
set_option maxRecDepth 2000
def m_slices_ContainsFunc_int_int_core_rightWindow_1 (x : (List Int)) : Option Bool :=
  match x with
  | p0 =>
  m_slices_IndexFunc_int_int_core_rightWindow_1 p0 >>= fun (v1 : Int) =>
  some (decide (v1 ≥ 0))
def P_slices_ContainsFunc_int_int_core_rightWindow_1 : (List Int) → Bool → Prop := fun x r => match x, r with
  | p0, r0 => ∀ H, PC prog env 54 ([(.lst ((List.map intD) p0)), (.raw (.func (.func 89) #[] #[]))].map .dat) H (boolPV r0) H
theorem w_slices_ContainsFunc_int_int_core_rightWindow_1 : ∀ x r, m_slices_ContainsFunc_int_int_core_rightWindow_1 x = some r → P_slices_ContainsFunc_int_int_core_rightWindow_1 x r := by
  intro p0 r0 hm
  unfold m_slices_ContainsFunc_int_int_core_rightWindow_1 at hm
  unfold P_slices_ContainsFunc_int_int_core_rightWindow_1
  intro H
  refine PC_sx (ds := [(.lst ((List.map intD) p0)), (.raw (.func (.func 89) #[] #[]))]) (fn := f54) (by kernel_rfl) (by kernel_rfl) rfl ?_ (by kernel_rfl)
  refine R_seq ?_
  refine R_G ?_
  refine G_run 1 ?_
  refine G_end ?_
  refine R_seq ?_
  refine R_G ?_
  refine G_run 2 ?_
  obtain ⟨v1, hx, hm⟩ := bind_inv hm
  have hq := w_slices_IndexFunc_int_int_core_rightWindow_1 _ _ hx []
  refine G_callP hq ?_
  refine G_run 2 ?_
  refine G_end ?_
  refine R_ret ?_
  obtain rfl := inj1 hm
  exact ⟨trivial, fin_pure (by kernel_rfl)⟩
end Go.Proofs.Tryd
namespace Go.Proofs.Tryd
open Go Go.Pm
set_option linter.unusedVariables false
set_option maxRecDepth 2000
def m_core_rightWindow (x : T_core_Core) : Option Bool :=
  match x with
  | p0 =>
  (if (p0.starts.length : Int) = (p0.shape.length : Int) then
    idx p0.kids 0 >>= fun v2 =>
    some ((v2.shape.length : Int) == (p0.shape.length : Int))
  else
  some false
  ) >>= fun (v1 : Bool) =>
  if v1 = true then
    m_slices_ContainsFunc_int_int_core_rightWindow_1 p0.starts >>= fun (v3 : Bool) =>
    some (!v3)
  else
  some false
def P_core_rightWindow : T_core_Core → Bool → Prop := fun x r => match x, r with
  | p0, r0 => ∀ H, PC prog env 78 ([(T_core_Core.ex p0)].map .dat) H (boolPV r0) H
theorem w_core_rightWindow : ∀ x r, m_core_rightWindow x = some r → P_core_rightWindow x r := by
  intro p0 r0 hm
  unfold m_core_rightWindow at hm
  unfold P_core_rightWindow
  intro H
  refine PC_sx (ds := [(T_core_Core.ex p0)]) (fn := f78) (by kernel_rfl) (by kernel_rfl) rfl ?_ (by kernel_rfl)
  refine R_seq ?_
  refine R_G ?_
  refine G_run 2 ?_
  refine G_end ?_
  refine R_seq ?_
  refine R_G ?_
  refine G_run 1 ?_
  refine G_end ?_
  refine R_seq ?_
  refine R_GW ?_
  refine G_run 2 ?_
  refine I_len intD p0.starts (es := (List.map intD) p0.starts) rfl ?_
  refine G_run 2 ?_
  refine I_len intD p0.shape (es := (List.map intD) p0.shape) rfl ?_
  refine G_run 2 ?_
  obtain ⟨v1, hs, hm⟩ := bind_inv hm
  refine G_cut (j := 19) (fun d => ⟨sl d 30 [(0, (.dat (.agg [(intD p0.kind), (.lst ((List.map intD) p0.shape)), (intD p0.buffer), (.lst ((List.map intD) p0.starts)), (intD p0.axis), (intD p0.amount), (.lst ((List.map intD) p0.perm)), (.lst (T_core_Core.toDs p0.kids))]))), (1, (.ptr 0 0)), (2, (boolPV false)), (3, (.dat (.raw (.func (.func 89) #[] #[])))), (4, (.ptr 0 3)), (5, (.dat (.lst ((List.map intD) p0.starts)))), (6, (intPV (p0.starts.length : Int))), (7, (.ptr 0 1)), (8, (.dat (.lst ((List.map intD) p0.shape)))), (9, (intPV (p0.shape.length : Int))), (10, (boolPV ((p0.starts.length : Int) == (p0.shape.length : Int)))), (22, (boolPV v1))], [(.box [(intPV p0.kind), (.dat (.lst ((List.map intD) p0.shape))), (intPV p0.buffer), (.dat (.lst ((List.map intD) p0.starts))), (intPV p0.axis), (intPV p0.amount), (.dat (.lst ((List.map intD) p0.perm))), (.dat (.lst (T_core_Core.toDs p0.kids)))])]⟩) (fun d => ?_) (fun hJ => ?_)
  · clear hs
    refine G_run 1 ?_
    refine G_split (p := v1 = true) 23 (bool_dec _) (fun hc => ?_) (fun hc => ?_)
    · replace hm := pos_inv hc hm
      refine G_run 3 ?_
      obtain ⟨v3, hx, hm⟩ := bind_inv hm
      have hq := w_slices_ContainsFunc_int_int_core_rightWindow_1 _ _ hx []
      refine G_callP hq ?_
      refine G_run 3 ?_
      refine G_end ⟨by kernel_rfl, ?_⟩
      refine R_ret ?_
      obtain rfl := inj1 hm
      exact ⟨trivial, fin_pure (by kernel_rfl)⟩
    replace hm := neg_inv hc hm
    refine G_run 7 ?_
    refine G_end ⟨by kernel_rfl, ?_⟩
    refine R_ret ?_
    obtain rfl := inj1 hm
    exact ⟨trivial, fin_pure (by kernel_rfl)⟩
  replace hm := hs
  clear hs
  refine G_split (p := (p0.starts.length : Int) = (p0.shape.length : Int)) 11 (eq_dec _ _) (fun hc => ?_) (fun hc => ?_)
  · replace hm := pos_inv hc hm
    refine G_run 2 ?_
    obtain ⟨v2, hx, hm⟩ := bind_inv hm
    refine I_idx 8 T_core_Core.toD p0.kids 0 v2 (es := T_core_Core.toDs p0.kids) (d := (T_core_Core.ex v2)) (T_core_Core.toDs_eq _) hx (T_core_Core.toD_eq v2) rfl ?_
    refine G_run 2 ?_
    refine I_len intD v2.shape (es := (List.map intD) v2.shape) rfl ?_
    refine G_run 2 ?_
    refine I_len intD p0.shape (es := (List.map intD) p0.shape) rfl ?_
    refine G_run 2 ?_
    obtain rfl := inj1 hm
    exact hJ _ _ (by kernel_rfl) (by kernel_rfl)
  replace hm := neg_inv hc hm
  refine G_run 11 ?_
  obtain rfl := inj1 hm
  exact hJ _ _ (by kernel_rfl) (by kernel_rfl)
end Go.Proofs.Tryd
namespace Go.Proofs.Tryd
open Go Go.Pm
set_option linter.unusedVariables false
set_option maxRecDepth 2000
def m_core_alike (x : T_core_Core) : Option Bool :=
  match x with
  | p0 =>
  idx p0.kids 0 >>= fun v1 =>
  m_shape_Equal (v1.shape, p0.shape) >>= fun (v2 : Bool) =>
  (if v2 = true then
    some (decide (p0.axis ≥ 0))
  else
  some false
  ) >>= fun (v3 : Bool) =>
  if v3 = true then
    some (decide (p0.axis < (p0.shape.length : Int)))
  else
  some false
def P_core_alike : T_core_Core → Bool → Prop := fun x r => match x, r with
  | p0, r0 => ∀ H, PC prog env 90 ([(T_core_Core.ex p0)].map .dat) H (boolPV r0) H
theorem w_core_alike : ∀ x r, m_core_alike x = some r → P_core_alike x r := by
  intro p0 r0 hm
  unfold m_core_alike at hm
  unfold P_core_alike
  intro H
  refine PC_sx (ds := [(T_core_Core.ex p0)]) (fn := f90) (by kernel_rfl) (by kernel_rfl) rfl ?_ (by kernel_rfl)
  refine R_seq ?_
  refine R_G ?_
  refine G_run 2 ?_
  refine G_end ?_
  refine R_seq ?_
  refine R_GW ?_
  refine G_run 2 ?_
  obtain ⟨v1, hx, hm⟩ := bind_inv hm
  refine I_idx 8 T_core_Core.toD p0.kids 0 v1 (es := T_core_Core.toDs p0.kids) (d := (T_core_Core.ex v1)) (T_core_Core.toDs_eq _) hx (T_core_Core.toD_eq v1) rfl ?_
  refine G_run 4 ?_
  obtain ⟨v2, hx, hm⟩ := bind_inv hm
  have hq := w_shape_Equal _ _ hx []
  refine G_callP hq ?_
  refine G_run 1 ?_
  obtain ⟨v3, hs, hm⟩ := bind_inv hm
  refine G_cut (j := 13) (fun d => ⟨sl d 24 [(0, (.dat (.agg [(intD p0.kind), (.lst ((List.map intD) p0.shape)), (intD p0.buffer), (.lst ((List.map intD) p0.starts)), (intD p0.axis), (intD p0.amount), (.lst ((List.map intD) p0.perm)), (.lst (T_core_Core.toDs p0.kids))]))), (1, (.ptr 0 0)), (2, (boolPV false)), (3, (.ptr 0 7)), (4, (.dat (.lst (T_core_Core.toDs p0.kids)))), (5, (.iptr [(intD v1.kind), (.lst ((List.map intD) v1.shape)), (intD v1.buffer), (.lst ((List.map intD) v1.starts)), (intD v1.axis), (intD v1.amount), (.lst ((List.map intD) v1.perm)), (.lst (T_core_Core.toDs v1.kids))])), (6, (.iptr [(.lst ((List.map intD) v1.shape)), (intD v1.buffer), (.lst ((List.map intD) v1.starts)), (intD v1.axis), (intD v1.amount), (.lst ((List.map intD) v1.perm)), (.lst (T_core_Core.toDs v1.kids))])), (7, (.dat (.lst ((List.map intD) v1.shape)))), (8, (.ptr 0 1)), (9, (.dat (.lst ((List.map intD) p0.shape)))), (10, (boolPV v2)), (15, (boolPV v3))], [(.box [(intPV p0.kind), (.dat (.lst ((List.map intD) p0.shape))), (intPV p0.buffer), (.dat (.lst ((List.map intD) p0.starts))), (intPV p0.axis), (intPV p0.amount), (.dat (.lst ((List.map intD) p0.perm))), (.dat (.lst (T_core_Core.toDs p0.kids)))])]⟩) (fun d => ?_) (fun hJ => ?_)
  · clear hs
    refine G_run 1 ?_
    refine G_split (p := v3 = true) 16 (bool_dec _) (fun hc => ?_) (fun hc => ?_)
    · replace hm := pos_inv hc hm
      refine G_run 4 ?_
      refine I_len intD p0.shape (es := (List.map intD) p0.shape) rfl ?_
      refine G_run 3 ?_
      refine G_end ⟨by kernel_rfl, ?_⟩
      refine R_ret ?_
      obtain rfl := inj1 hm
      exact ⟨trivial, fin_pure (by kernel_rfl)⟩
    replace hm := neg_inv hc hm
    refine G_run 8 ?_
    refine G_end ⟨by kernel_rfl, ?_⟩
    refine R_ret ?_
    obtain rfl := inj1 hm
    exact ⟨trivial, fin_pure (by kernel_rfl)⟩
  replace hm := hs
  clear hs
  refine G_split (p := v2 = true) 11 (bool_dec _) (fun hc => ?_) (fun hc => ?_)
  · replace hm := pos_inv hc hm
    refine G_run 4 ?_
    obtain rfl := inj1 hm
    exact hJ _ _ (by kernel_rfl) (by kernel_rfl)
  replace hm := neg_inv hc hm
  refine G_run 4 ?_
  obtain rfl := inj1 hm
  exact hJ _ _ (by kernel_rfl) (by kernel_rfl)
end Go.Proofs.Tryd
namespace Go.Proofs.Tryd
open Go Go.Pm
set_option linter.unusedVariables false
set_option maxRecDepth 2000
def m_core_rightReverse (x : T_core_Core) : Option Bool :=
  match x with
  | p0 =>
  m_core_alike p0 >>= fun (v1 : Bool) =>
  some v1
def P_core_rightReverse : T_core_Core → Bool → Prop := fun x r => match x, r with
  | p0, r0 => ∀ H, PC prog env 80 ([(T_core_Core.ex p0)].map .dat) H (boolPV r0) H
theorem w_core_rightReverse : ∀ x r, m_core_rightReverse x = some r → P_core_rightReverse x r := by
  intro p0 r0 hm
  unfold m_core_rightReverse at hm
  unfold P_core_rightReverse
  intro H
  refine PC_sx (ds := [(T_core_Core.ex p0)]) (fn := f80) (by kernel_rfl) (by kernel_rfl) rfl ?_ (by kernel_rfl)
  refine R_seq ?_
  refine R_G ?_
  refine G_run 2 ?_
  refine G_end ?_
  refine R_seq ?_
  refine R_G ?_
  refine G_run 1 ?_
  obtain ⟨v1, hx, hm⟩ := bind_inv hm
  have hq := w_core_alike _ _ hx []
  refine G_callP hq ?_
  refine G_run 1 ?_
  refine G_end ?_
  refine R_ret ?_
  obtain rfl := inj1 hm
  exact ⟨trivial, fin_pure (by kernel_rfl)⟩
end Go.Proofs.Tryd
namespace Go.Proofs.Tryd
open Go Go.Pm
set_option linter.unusedVariables false
set_option maxRecDepth 2000
def m_core_rightRotate (x : T_core_Core) : Option Bool :=
  match x with
  | p0 =>
  m_core_alike p0 >>= fun (v1 : Bool) =>
  (if v1 = true then
    some (decide (p0.amount ≥ 0))
  else
  some false
  ) >>= fun (v2 : Bool) =>
  if v2 = true then
    idx p0.shape p0.axis >>= fun v3 =>
    some (decide (p0.amount < (if v3 < 1 then 1 else v3)))
  else
  some false
def P_core_rightRotate : T_core_Core → Bool → Prop := fun x r => match x, r with
  | p0, r0 => ∀ H, PC prog env 82 ([(T_core_Core.ex p0)].map .dat) H (boolPV r0) H
theorem w_core_rightRotate : ∀ x r, m_core_rightRotate x = some r → P_core_rightRotate x r := by
  intro p0 r0 hm
  unfold m_core_rightRotate at hm
  unfold P_core_rightRotate
  intro H
  refine PC_sx (ds := [(T_core_Core.ex p0)]) (fn := f82) (by kernel_rfl) (by kernel_rfl) rfl ?_ (by kernel_rfl)
  refine R_seq ?_
  refine R_G ?_
  refine G_run 2 ?_
  refine G_end ?_
  refine R_seq ?_
  refine R_GW ?_
  refine G_run 1 ?_
  obtain ⟨v1, hx, hm⟩ := bind_inv hm
  have hq := w_core_alike _ _ hx []
  refine G_callP hq ?_
  refine G_run 1 ?_
  obtain ⟨v2, hs, hm⟩ := bind_inv hm
  refine G_cut (j := 7) (fun d => ⟨sl d 22 [(0, (.dat (.agg [(intD p0.kind), (.lst ((List.map intD) p0.shape)), (intD p0.buffer), (.lst ((List.map intD) p0.starts)), (intD p0.axis), (intD p0.amount), (.lst ((List.map intD) p0.perm)), (.lst (T_core_Core.toDs p0.kids))]))), (1, (.ptr 0 0)), (2, (boolPV false)), (3, (.dat (.agg [(intD p0.kind), (.lst ((List.map intD) p0.shape)), (intD p0.buffer), (.lst ((List.map intD) p0.starts)), (intD p0.axis), (intD p0.amount), (.lst ((List.map intD) p0.perm)), (.lst (T_core_Core.toDs p0.kids))]))), (4, (boolPV v1)), (9, (boolPV v2))], [(.box [(intPV p0.kind), (.dat (.lst ((List.map intD) p0.shape))), (intPV p0.buffer), (.dat (.lst ((List.map intD) p0.starts))), (intPV p0.axis), (intPV p0.amount), (.dat (.lst ((List.map intD) p0.perm))), (.dat (.lst (T_core_Core.toDs p0.kids)))])]⟩) (fun d => ?_) (fun hJ => ?_)
  · clear hs
    refine G_run 1 ?_
    refine G_split (p := v2 = true) 10 (bool_dec _) (fun hc => ?_) (fun hc => ?_)
    · replace hm := pos_inv hc hm
      refine G_run 6 ?_
      obtain ⟨v3, hx, hm⟩ := bind_inv hm
      refine I_idx 1 intD p0.shape p0.axis v3 (es := (List.map intD) p0.shape) (d := (intD v3)) rfl hx rfl rfl ?_
      refine G_run 1 ?_
      refine G_semN rfl (by kernel_rfl) (fun _ => E_max (k := .i64) (m := v3) (n := 1) rfl (by kernel_rfl) (by kernel_rfl)) ?_
      refine G_run 3 ?_
      refine G_end ⟨by kernel_rfl, ?_⟩
      refine R_ret ?_
      obtain rfl := inj1 hm
      exact ⟨trivial, fin_pure (by kernel_rfl)⟩
    replace hm := neg_inv hc hm
    refine G_run 12 ?_
    refine G_end ⟨by kernel_rfl, ?_⟩
    refine R_ret ?_
    obtain rfl := inj1 hm
    exact ⟨trivial, fin_pure (by kernel_rfl)⟩
  replace hm := hs
  clear hs
  refine G_split (p := v1 = true) 5 (bool_dec _) (fun hc => ?_) (fun hc => ?_)
  · replace hm := pos_inv hc hm
    refine G_run 4 ?_
    obtain rfl := inj1 hm
    exact hJ _ _ (by kernel_rfl) (by kernel_rfl)
  replace hm := neg_inv hc hm
  refine G_run 4 ?_
  obtain rfl := inj1 hm
  exact hJ _ _ (by kernel_rfl) (by kernel_rfl)
end Go.Proofs.Tryd
namespace Go.Proofs.Tryd
open Go Go.Pm
set_option linter.unusedVariables false
set_option maxRecDepth 2000
def m_slices_Repeat_int_int_8 (x : Int × Int) : Option (List Int) := match x with
  | (a, n) => if (a = 1 ∨ a = -1) ∧ 0 ≤ n ∧ n ≤ 16 then some (List.replicate n.toNat a) else none
def P_slices_Repeat_int_int_8 : Int × Int → List Int → Prop := fun x r => match x with
  | (a, n) => ∀ d0 d1 d2 d3 d4 d5 d6 d7 : Dat, PC prog env 92 [(.dat (.lst ((List.map intD) ([a] : List Int)))), (intPV n)] [.box [.dat d0, .dat d1, .dat d2, .dat d3, .dat d4, .dat d5, .dat d6, .dat d7]] (.arr 1 0 r.length r.length) [.box [.dat d0, .dat d1, .dat d2, .dat d3, .dat d4, .dat d5, .dat d6, .dat d7], (.box (cellsOf intD r))]
theorem w_slices_Repeat_int_int_8 : ∀ x r, m_slices_Repeat_int_int_8 x = some r → P_slices_Repeat_int_int_8 x r := by
  intro x r hm
  obtain ⟨a, n⟩ := x
  unfold m_slices_Repeat_int_int_8 at hm
  simp only at hm
  split at hm
  · rename_i hc
    cases hm
    obtain ⟨ha, h0, h1⟩ := hc
    obtain ⟨k, rfl⟩ := Int.eq_ofNat_of_zero_le h0
    have hk : k ≤ 16 := by omega
    unfold P_slices_Repeat_int_int_8
    intro d0 d1 d2 d3 d4 d5 d6 d7
    rcases ha with rfl | rfl
    · match k, hk with
      | 0, _ => refine PC_of (n := 60) ?_; kernel_rfl
      | 1, _ => refine PC_of (n := 60) ?_; kernel_rfl
      | 2, _ => refine PC_of (n := 60) ?_; kernel_rfl
      | 3, _ => refine PC_of (n := 60) ?_; kernel_rfl
      | 4, _ => refine PC_of (n := 60) ?_; kernel_rfl
      | 5, _ => refine PC_of (n := 60) ?_; kernel_rfl
      | 6, _ => refine PC_of (n := 60) ?_; kernel_rfl
      | 7, _ => refine PC_of (n := 60) ?_; kernel_rfl
      | 8, _ => refine PC_of (n := 60) ?_; kernel_rfl
      | 9, _ => refine PC_of (n := 60) ?_; kernel_rfl
      | 10, _ => refine PC_of (n := 60) ?_; kernel_rfl
      | 11, _ => refine PC_of (n := 60) ?_; kernel_rfl
      | 12, _ => refine PC_of (n := 60) ?_; kernel_rfl
      | 13, _ => refine PC_of (n := 60) ?_; kernel_rfl
      | 14, _ => refine PC_of (n := 60) ?_; kernel_rfl
      | 15, _ => refine PC_of (n := 60) ?_; kernel_rfl
      | 16, _ => refine PC_of (n := 60) ?_; kernel_rfl
    · match k, hk with
      | 0, _ => refine PC_of (n := 60) ?_; kernel_rfl
      | 1, _ => refine PC_of (n := 60) ?_; kernel_rfl
      | 2, _ => refine PC_of (n := 60) ?_; kernel_rfl
      | 3, _ => refine PC_of (n := 60) ?_; kernel_rfl
      | 4, _ => refine PC_of (n := 60) ?_; kernel_rfl
      | 5, _ => refine PC_of (n := 60) ?_; kernel_rfl
      | 6, _ => refine PC_of (n := 60) ?_; kernel_rfl
      | 7, _ => refine PC_of (n := 60) ?_; kernel_rfl
      | 8, _ => refine PC_of (n := 60) ?_; kernel_rfl
      | 9, _ => refine PC_of (n := 60) ?_; kernel_rfl
      | 10, _ => refine PC_of (n := 60) ?_; kernel_rfl
      | 11, _ => refine PC_of (n := 60) ?_; kernel_rfl
      | 12, _ => refine PC_of (n := 60) ?_; kernel_rfl
      | 13, _ => refine PC_of (n := 60) ?_; kernel_rfl
      | 14, _ => refine PC_of (n := 60) ?_; kernel_rfl
      | 15, _ => refine PC_of (n := 60) ?_; kernel_rfl
      | 16, _ => refine PC_of (n := 60) ?_; kernel_rfl
  · cases hm
end Go.Proofs.Tryd
namespace Go.Proofs.Tryd
open Go Go.Pm
set_option linter.unusedVariables false
set_option maxRecDepth 2000
def m_core_rightTranspose_L1 (x : (T_core_Core × (List Int) × (List Int) × Int)) : Option ((List Int) ⊕ (List Int)) :=
  match x with
  | (p0, v2, v203, v204) =>
  if v204 < (p0.perm.length : Int) then
    idx p0.perm v204 >>= fun v605 =>
    (if v605 < 0 then
      some true
    else
    some (decide (v605 ≥ (v2.length : Int)))
    ) >>= fun (v606 : Bool) =>
    if v606 = true then
      some (Sum.inl v203)
    else
    idx p0.kids 0 >>= fun v607 =>
    idx v607.shape v204 >>= fun v608 =>
    (guardM (v203.length = v2.length) >>= fun (_ : Unit) =>
    idx v203 v605 >>= fun v610 =>
    idx v203 v605 >>= fun v612 =>
    if v612 < 0 then
      some true
    else
    guardM (v203.length = v2.length) >>= fun (_ : Unit) =>
    idx v203 v605 >>= fun v613 =>
    idx v203 v605 >>= fun v615 =>
    some (decide (v608 < v615))
    ) >>= fun (v609 : Bool) =>
    if v609 = true then
      guardM (v203.length = v2.length) >>= fun (_ : Unit) =>
      idx v203 v605 >>= fun v616 =>
      setM v203 v605 v608 >>= fun v618 =>
      m_core_rightTranspose_L1 (p0, v2, v618, (W (v204 + 1)))
    else
    m_core_rightTranspose_L1 (p0, v2, v203, (W (v204 + 1)))
  else
  some (Sum.inr v203)
  partial_fixpoint
def P_core_rightTranspose_L1 : (T_core_Core × (List Int) × (List Int) × Int) → ((List Int) ⊕ (List Int)) → Prop := fun x r => match x with
  | (p0, v2, v203, v204) => ∀ st, prune 2 ((firstRegion (codeAt [1, 1, 1, 0, 1, 0, 0] (bodyOf f84))).bind (env.hint 84).keepAt) st = ⟨kp 68 [(1, (.ptr 0 0)), (3, (.arr 1 0 v2.length v2.length)), (23, (.dat (.lst ((List.map intD) p0.perm)))), (24, (intPV (p0.perm.length : Int))), (25, (intPV v204))], [(.box [(intPV p0.kind), (.dat (.lst ((List.map intD) p0.shape))), (intPV p0.buffer), (.dat (.lst ((List.map intD) p0.starts))), (intPV p0.axis), (intPV p0.amount), (.dat (.lst ((List.map intD) p0.perm))), (.dat (.lst (T_core_Core.toDs p0.kids)))]), (.box (cellsOf intD v203))]⟩ →
    RL prog env (env.hint 84) true (codeAt [1, 1, 1, 0, 1, 0, 0] (bodyOf f84)) 2 st (fun e s => match r with | .inl v603 => e = .ret ∧ ∃ d, s = ⟨sl d 68 [(2, (boolPV false))], [(.box [(intPV p0.kind), (.dat (.lst ((List.map intD) p0.shape))), (intPV p0.buffer), (.dat (.lst ((List.map intD) p0.starts))), (intPV p0.axis), (intPV p0.amount), (.dat (.lst ((List.map intD) p0.perm))), (.dat (.lst (T_core_Core.toDs p0.kids)))]), (.box (cellsOf intD v603))]⟩ | .inr (v604) => e = .exit 0 ∧ ∃ d, s = ⟨sl d 68 [(1, (.ptr 0 0)), (3, (.arr 1 0 v2.length v2.length))], [(.box [(intPV p0.kind), (.dat (.lst ((List.map intD) p0.shape))), (intPV p0.buffer), (.dat (.lst ((List.map intD) p0.starts))), (intPV p0.axis), (intPV p0.amount), (.dat (.lst ((List.map intD) p0.perm))), (.dat (.lst (T_core_Core.toDs p0.kids)))]), (.box (cellsOf intD v604))]⟩)
theorem w_core_rightTranspose_L1 : ∀ x r, m_core_rightTranspose_L1 x = some r → P_core_rightTranspose_L1 x r := by
  refine m_core_rightTranspose_L1.partial_correctness _ (fun m_core_rightTranspose_L1 w_core_rightTranspose_L1 x r hm => ?_)
  unfold P_core_rightTranspose_L1
  obtain ⟨p0, v2, v203, v204⟩ := x
  intro st hst
  refine RL_at hst ?_
  clear hst
  refine R_seq ?_
  refine R_G ?_
  refine G_run 1 ?_
  refine G_end ?_
  refine R_seq ?_
  refine R_ifp (p := v204 < (p0.perm.length : Int)) (rfl) (fun hc => ?_) (fun hc => ?_)
  · replace hm := pos_inv hc hm
    refine R_skip ?_
    refine R_seq ?_
    refine R_block ?_
    refine R_seq ?_
    refine R_G ?_
    refine G_run 1 ?_
    obtain ⟨v605, hx, hm⟩ := bind_inv hm
    refine I_idx 1 intD p0.perm v204 v605 (es := (List.map intD) p0.perm) (d := (intD v605)) rfl hx rfl rfl ?_
    refine G_run 3 ?_
    refine G_end ?_
    refine R_seq ?_
    refine R_seq ?_
    obtain ⟨v606, hs, hm⟩ := bind_inv hm
    refine R_cut (fun d => ⟨sl d 68 [(1, (.ptr 0 0)), (3, (.arr 1 0 v2.length v2.length)), (4, (intPV v204)), (5, (intPV v605)), (23, (.dat (.lst ((List.map intD) p0.perm)))), (24, (intPV (p0.perm.length : Int))), (25, (intPV v204)), (37, (boolPV v606))], [(.box [(intPV p0.kind), (.dat (.lst ((List.map intD) p0.shape))), (intPV p0.buffer), (.dat (.lst ((List.map intD) p0.starts))), (intPV p0.axis), (intPV p0.amount), (.dat (.lst ((List.map intD) p0.perm))), (.dat (.lst (T_core_Core.toDs p0.kids)))]), (.box (cellsOf intD v203))]⟩) ?_ (fun d => ?_)
    · replace hm := hs
      clear hs
      refine R_G ?_
      refine G_run 3 ?_
      refine G_split (p := v605 < 0) 32 (rfl) (fun hc => ?_) (fun hc => ?_)
      · replace hm := pos_inv hc hm
        refine G_run 5 ?_
        refine G_end ?_
        obtain rfl := inj1 hm
        exact cut_leaf (by kernel_rfl)
      replace hm := neg_inv hc hm
      refine G_run 2 ?_
      refine G_run 1 ?_
      refine G_run 2 ?_
      refine G_end ?_
      obtain rfl := inj1 hm
      exact cut_leaf (by kernel_rfl)
    clear hs
    refine R_ifp (p := v606 = true) (bool_dec _) (fun hc => ?_) (fun hc => ?_)
    · replace hm := pos_inv hc hm
      refine R_seq ?_
      refine R_G ?_
      refine G_run 1 ?_
      refine G_end ?_
      refine R_ret ?_
      obtain rfl := inj1 hm
      exact ⟨rfl, cut_leaf (by kernel_rfl)⟩
    replace hm := neg_inv hc hm
    refine R_skip ?_
    refine R_seq ?_
    refine R_G ?_
    refine G_run 2 ?_
    obtain ⟨v607, hx, hm⟩ := bind_inv hm
    refine I_idx 8 T_core_Core.toD p0.kids 0 v607 (es := T_core_Core.toDs p0.kids) (d := (T_core_Core.ex v607)) (T_core_Core.toDs_eq _) hx (T_core_Core.toD_eq v607) rfl ?_
    refine G_run 3 ?_
    obtain ⟨v608, hx, hm⟩ := bind_inv hm
    refine I_idx 1 intD v607.shape v204 v608 (es := (List.map intD) v607.shape) (d := (intD v608)) rfl hx rfl rfl ?_
    refine G_run 2 ?_
    refine G_end ?_
    refine R_seq ?_
    obtain ⟨v609, hs, hm⟩ := bind_inv hm
    refine R_cut (fun d => ⟨sl d 68 [(1, (.ptr 0 0)), (3, (.arr 1 0 v2.length v2.length)), (5, (intPV v605)), (6, (intPV v608)), (23, (.dat (.lst ((List.map intD) p0.perm)))), (24, (intPV (p0.perm.length : Int))), (25, (intPV v204)), (58, (boolPV v609))], [(.box [(intPV p0.kind), (.dat (.lst ((List.map intD) p0.shape))), (intPV p0.buffer), (.dat (.lst ((List.map intD) p0.starts))), (intPV p0.axis), (intPV p0.amount), (.dat (.lst ((List.map intD) p0.perm))), (.dat (.lst (T_core_Core.toDs p0.kids)))]), (.box (cellsOf intD v203))]⟩) ?_ (fun d => ?_)
    · replace hm := hs
      clear hs
      refine R_G ?_
      refine G_run 2 ?_
      obtain ⟨_, hl611, hm⟩ := bind_inv hm
      replace hl611 := guard_inv hl611
      obtain ⟨v610, hx, hm⟩ := bind_inv hm
      refine G_semN rfl (by kernel_rfl) (fun _ => E_ixBox (e := 3) (l := v203) (n := v605) (i := 1) (cap := v2.length) (m := v2.length) hx hl611 (by kernel_rfl) (by kernel_rfl) rfl (by kernel_rfl) (by kernel_rfl)) ?_
      obtain ⟨v612, hx, hm⟩ := bind_inv hm
      refine G_semN rfl (by kernel_rfl) (fun _ => E_ldBox intD (l := v203) (n := v605) (i := 1) hx (by kernel_rfl) (by kernel_rfl) rfl (by kernel_rfl) (by kernel_rfl)) ?_
      refine G_run 2 ?_
      refine G_split (p := v612 < 0) 51 (rfl) (fun hc => ?_) (fun hc => ?_)
      · replace hm := pos_inv hc hm
        refine G_run 7 ?_
        refine G_end ?_
        obtain rfl := inj1 hm
        exact cut_leaf (by kernel_rfl)
      replace hm := neg_inv hc hm
      refine G_run 3 ?_
      obtain ⟨_, hl614, hm⟩ := bind_inv hm
      replace hl614 := guard_inv hl614
      obtain ⟨v613, hx, hm⟩ := bind_inv hm
      refine G_semN rfl (by kernel_rfl) (fun _ => E_ixBox (e := 3) (l := v203) (n := v605) (i := 1) (cap := v2.length) (m := v2.length) hx hl614 (by kernel_rfl) (by kernel_rfl) rfl (by kernel_rfl) (by kernel_rfl)) ?_
      obtain ⟨v615, hx, hm⟩ := bind_inv hm
      refine G_semN rfl (by kernel_rfl) (fun _ => E_ldBox intD (l := v203) (n := v605) (i := 1) hx (by kernel_rfl) (by kernel_rfl) rfl (by kernel_rfl) (by kernel_rfl)) ?_
      refine G_run 2 ?_
      refine G_end ?_
      obtain rfl := inj1 hm
      exact cut_leaf (by kernel_rfl)
    clear hs
    refine R_ifp (p := v609 = true) (bool_dec _) (fun hc => ?_) (fun hc => ?_)
    · replace hm := pos_inv hc hm
      refine R_G ?_
      refine G_run 3 ?_
      obtain ⟨_, hl617, hm⟩ := bind_inv hm
      replace hl617 := guard_inv hl617
      obtain ⟨v616, hx, hm⟩ := bind_inv hm
      refine G_semN rfl (by kernel_rfl) (fun _ => E_ixBox (e := 3) (l := v203) (n := v605) (i := 1) (cap := v2.length) (m := v2.length) hx hl617 (by kernel_rfl) (by kernel_rfl) rfl (by kernel_rfl) (by kernel_rfl)) ?_
      obtain ⟨v618, hx, hm⟩ := bind_inv hm
      refine G_semH (fun H => H.set 1 (.box (cellsOf intD v618))) rfl (by kernel_rfl) (fun _ => E_stBox intD (l := v203) (n := v605) (y := v608) hx (fun _ => rfl) (by kernel_rfl) rfl (by kernel_rfl) (by kernel_rfl) (by kernel_rfl)) ?_
      refine G_end ?_
      refine R_G ?_
      refine G_run 2 ?_
      refine G_end ?_
      exact w_core_rightTranspose_L1 _ _ hm _ (prune_of2 [(.box [(intPV p0.kind), (.dat (.lst ((List.map intD) p0.shape))), (intPV p0.buffer), (.dat (.lst ((List.map intD) p0.starts))), (intPV p0.axis), (intPV p0.amount), (.dat (.lst ((List.map intD) p0.perm))), (.dat (.lst (T_core_Core.toDs p0.kids)))]), (.box (cellsOf intD v618))] (fun _ => (pg_cons (by kernel_rfl) (pg_cons (purge_box intD _ _ _) pg_nil))) rfl)
    replace hm := neg_inv hc hm
    refine R_skip ?_
    refine R_G ?_
    refine G_run 2 ?_
    refine G_end ?_
    exact w_core_rightTranspose_L1 _ _ hm _ (prune_of2 [(.box [(intPV p0.kind), (.dat (.lst ((List.map intD) p0.shape))), (intPV p0.buffer), (.dat (.lst ((List.map intD) p0.starts))), (intPV p0.axis), (intPV p0.amount), (.dat (.lst ((List.map intD) p0.perm))), (.dat (.lst (T_core_Core.toDs p0.kids)))]), (.box (cellsOf intD v203))] (fun _ => (pg_cons (by kernel_rfl) (pg_cons (purge_box intD _ _ _) pg_nil))) rfl)
  replace hm := neg_inv hc hm
  refine R_exit ?_
  obtain rfl := inj1 hm
  exact ⟨rfl, cut_leaf (by kernel_rfl)⟩
def m_core_rightTranspose (x : T_core_Core) : Option Bool :=
  match x with
  | p0 =>
  idx p0.kids 0 >>= fun v1 =>
  if (p0.perm.length : Int) ≠ (v1.shape.length : Int) then
    some false
  else
  m_slices_Repeat_int_int_8 ((-1), (p0.shape.length : Int)) >>= fun v2 =>
  (
  m_core_rightTranspose_L1 (p0, v2, v2, 0) >>= fun (out : (List Int) ⊕ (List Int)) =>
  match out with
  | .inl v603 =>
    some false
  | .inr (v604) =>
    guardM (v604.length = v2.length) >>= fun (_ : Unit) =>
    m_shape_Equal (v604, p0.shape) >>= fun (v620 : Bool) =>
    some v620
  )
def P_core_rightTranspose : T_core_Core → Bool → Prop := fun x r => match x, r with
  | p0, r0 => ∀ H, PC prog env 84 ([(T_core_Core.ex p0)].map .dat) H (boolPV r0) H
theorem w_core_rightTranspose : ∀ x r, m_core_rightTranspose x = some r → P_core_rightTranspose x r := by
  intro p0 r0 hm
  unfold m_core_rightTranspose at hm
  unfold P_core_rightTranspose
  intro H
  refine PC_sx (ds := [(T_core_Core.ex p0)]) (fn := f84) (by kernel_rfl) (by kernel_rfl) rfl ?_ (by kernel_rfl)
  refine R_seq ?_
  refine R_G ?_
  refine G_run 2 ?_
  refine G_end ?_
  refine R_seq ?_
  refine R_seq ?_
  refine R_GD ?_
  refine G_run 2 ?_
  refine I_len intD p0.perm (es := (List.map intD) p0.perm) rfl ?_
  refine G_run 2 ?_
  obtain ⟨v1, hx, hm⟩ := bind_inv hm
  refine I_idx 8 T_core_Core.toD p0.kids 0 v1 (es := T_core_Core.toDs p0.kids) (d := (T_core_Core.ex v1)) (T_core_Core.toDs_eq _) hx (T_core_Core.toD_eq v1) rfl ?_
  refine G_run 2 ?_
  refine I_len intD v1.shape (es := (List.map intD) v1.shape) rfl ?_
  refine G_run 1 ?_
  refine G_end ⟨by kernel_rfl, ?_⟩
  refine R_ifp (p := (p0.perm.length : Int) ≠ (v1.shape.length : Int)) (ne_dec _ _) (fun hc => ?_) (fun hc => ?_)
  · replace hm := pos_inv hc hm
    refine R_seq ?_
    refine R_G ?_
    refine G_run 1 ?_
    refine G_end ?_
    refine R_ret ?_
    obtain rfl := inj1 hm
    exact ⟨trivial, fin_pure (by kernel_rfl)⟩
  replace hm := neg_inv hc hm
  refine R_skip ?_
  refine R_seq ?_
  refine R_G ?_
  refine G_run 3 ?_
  refine I_len intD p0.shape (es := (List.map intD) p0.shape) rfl ?_
  obtain ⟨v2, hx, hm⟩ := bind_inv hm
  have hq := w_slices_Repeat_int_int_8 _ _ hx
  dsimp only [P_slices_Repeat_int_int_8] at hq
  replace hq := hq (intD p0.kind) (.lst ((List.map intD) p0.shape)) (intD p0.buffer) (.lst ((List.map intD) p0.starts)) (intD p0.axis) (intD p0.amount) (.lst ((List.map intD) p0.perm)) (.lst (T_core_Core.toDs p0.kids))
  refine G_callB hq ?_
  refine G_run 1 ?_
  refine G_end ?_
  refine R_seq ?_
  refine R_seq ?_
  refine R_G ?_
  refine G_run 2 ?_
  refine I_len intD p0.perm (es := (List.map intD) p0.perm) rfl ?_
  refine G_run 1 ?_
  refine G_end ?_
  refine R_block ?_
  obtain ⟨out, hs, hm⟩ := bind_inv hm
  refine R_loop ?_
  rcases out with v603 | v604
  · refine RL_use (w_core_rightTranspose_L1 _ _ hs) (prune_of2 [(.box [(intPV p0.kind), (.dat (.lst ((List.map intD) p0.shape))), (intPV p0.buffer), (.dat (.lst ((List.map intD) p0.starts))), (intPV p0.axis), (intPV p0.amount), (.dat (.lst ((List.map intD) p0.perm))), (.dat (.lst (T_core_Core.toDs p0.kids)))]), (.box (cellsOf intD v2))] (fun _ => (pg_cons (by kernel_rfl) (pg_cons (purge_box intD _ _ _) pg_nil))) rfl) ?_
    clear hs
    intro e s hp
    obtain ⟨rfl, d, rfl⟩ := hp
    obtain rfl := inj1 hm
    exact ⟨trivial, fin_pure (by kernel_rfl)⟩
  · refine RL_use (w_core_rightTranspose_L1 _ _ hs) (prune_of2 [(.box [(intPV p0.kind), (.dat (.lst ((List.map intD) p0.shape))), (intPV p0.buffer), (.dat (.lst ((List.map intD) p0.starts))), (intPV p0.axis), (intPV p0.amount), (.dat (.lst ((List.map intD) p0.perm))), (.dat (.lst (T_core_Core.toDs p0.kids)))]), (.box (cellsOf intD v2))] (fun _ => (pg_cons (by kernel_rfl) (pg_cons (purge_box intD _ _ _) pg_nil))) rfl) ?_
    clear hs
    intro e s hp
    obtain ⟨rfl, d, rfl⟩ := hp
    refine R_seq ?_
    refine R_G ?_
    refine G_run 3 ?_
    obtain ⟨_, hl619, hm⟩ := bind_inv hm
    replace hl619 := guard_inv hl619
    obtain ⟨v620, hx, hm⟩ := bind_inv hm
    have hq := w_shape_Equal _ _ hx []
    refine G_callL (args := [(.arr 1 0 v2.length v2.length), (.dat (.lst ((List.map intD) p0.shape)))]) hq (ps_cons (p1_arr (pc_arr intD v604 hl619 (fun _ => rfl) (by kernel_rfl))) (ps_cons (by kernel_rfl) ps_nil)) ?_
    refine G_run 1 ?_
    refine G_end ?_
    refine R_ret ?_
    obtain rfl := inj1 hm
    exact ⟨trivial, fin_pure (by kernel_rfl)⟩
end Go.Proofs.Tryd
namespace Go.Proofs.Tryd
open Go Go.Pm
set_option linter.unusedVariables false
set_option maxRecDepth 2000
def m_shape_one (x : Int) : Option Int :=
  match x with
  | p0 =>
  some p0
def P_shape_one : Int → Int → Prop := fun x r => match x, r with
  | p0, v5001 => ∀ H, PC prog env 102 ([(intD p0)].map .dat) H (.fn 108 [(.iptr [(intD v5001)])]) H
theorem w_shape_one : ∀ x r, m_shape_one x = some r → P_shape_one x r := by
  intro p0 v5001 hm
  unfold m_shape_one at hm
  unfold P_shape_one
  intro H
  refine PC_sx (ds := [(intD p0)]) (fn := f102) (by kernel_rfl) (by kernel_rfl) rfl ?_ (by kernel_rfl)
  refine R_seq ?_
  refine R_G ?_
  refine G_run 2 ?_
  refine G_end ?_
  refine R_seq ?_
  refine R_G ?_
  refine G_run 2 ?_
  refine G_end ?_
  refine R_ret ?_
  obtain rfl := inj1 hm
  exact ⟨trivial, fin_pure (by kernel_rfl)⟩
end Go.Proofs.Tryd
namespace Go.Proofs.Tryd
open Go Go.Pm
set_option linter.unusedVariables false
set_option maxRecDepth 2000
def m_shape_one_1_b9040 (x : Int) : Option (Unit) :=
  match x with
  | q0 =>
  some ()
def P_shape_one_1_b9040 : Int → Unit → Prop := fun x r => match x with
  | q0 => PC prog env 108 [(.iptr [(intD q0)])] [] (match r with | _ => (.dat (.lst ((List.map intD) ([q0] : List Int))))) (match r with | _ => [])
theorem w_shape_one_1_b9040 : ∀ x r, m_shape_one_1_b9040 x = some r → P_shape_one_1_b9040 x r := by
  intro q0 r hm
  unfold m_shape_one_1_b9040 at hm
  unfold P_shape_one_1_b9040
  refine PC_sxB (fn := f108) (by kernel_rfl) (by kernel_rfl) rfl ?_
  refine R_seq ?_
  refine R_G ?_
  refine G_run 1 ?_
  refine G_end ?_
  refine R_seq ?_
  refine R_G ?_
  refine G_run 3 ?_
  refine G_end ?_
  refine R_ret ?_
  obtain rfl := inj1 hm
  exact ⟨trivial, fin_body (by kernel_rfl) (by kernel_rfl)⟩
end Go.Proofs.Tryd
namespace Go.Proofs.Tryd
open Go Go.Pm
set_option linter.unusedVariables false
set_option maxRecDepth 2000
def m_shape_edited_int_b9faf (x : ((List Int) × Int × Int × Int)) : Option (((List Int) × Int)) :=
  match x with
  | (q0, q1, q2, q3) =>
  ((if q1 < 0 then
    some true
  else
  some (decide (q2 > (q0.length : Int)))
  ) >>= fun (v2 : Bool) =>
  if v2 = true then
    some true
  else
  some (decide (q1 > q2))
  ) >>= fun (v1 : Bool) =>
  if v1 = true then
    some (([] : List Int), 4)
  else
  sub q0 0 q1 >>= fun v3 =>
  m_shape_one_1_b9040 q3 >>= fun (_ : Unit) =>
  sub q0 q2 (q0.length : Int) >>= fun v4 =>
  m_slices_Concat_int_int ([v3, ([q3] : List Int), v4] : List (List Int)) >>= fun (v5 : (List Int)) =>
  some (v5, 0)
def P_shape_edited_int_b9faf : ((List Int) × Int × Int × Int) → ((List Int) × Int) → Prop := fun x r => match x with
  | (q0, q1, q2, q3) => PC prog env 101 [(.dat (.lst ((List.map intD) q0))), (intPV q1), (intPV q2), (.fn 108 [(.iptr [(intD q3)])])] [] (match r with | (v5001, v5002) => (.tup [(.dat (.lst ((List.map intD) v5001))), (intPV v5002)])) (match r with | (v5001, v5002) => [])
theorem w_shape_edited_int_b9faf : ∀ x r, m_shape_edited_int_b9faf x = some r → P_shape_edited_int_b9faf x r := by
  intro x r hm
  unfold m_shape_edited_int_b9faf at hm
  unfold P_shape_edited_int_b9faf
  obtain ⟨q0, q1, q2, q3⟩ := x
  refine PC_sxB (fn := f101) (by kernel_rfl) (by kernel_rfl) rfl ?_
  refine R_seq ?_
  refine R_G ?_
  refine G_run 2 ?_
  refine G_end ?_
  refine R_seq ?_
  refine R_seq ?_
  obtain ⟨v1, hs, hm⟩ := bind_inv hm
  refine R_cut (fun d => ⟨sl d 33 [(0, (.dat (.lst ((List.map intD) q0)))), (1, (intPV q1)), (2, (intPV q2)), (3, (.fn 108 [(.iptr [(intD q3)])])), (22, (boolPV v1))], []⟩) ?_ (fun d => ?_)
  · replace hm := hs
    clear hs
    refine R_GN ?_
    refine G_run 3 ?_
    obtain ⟨v2, hs, hm⟩ := bind_inv hm
    refine G_cut (j := 8) (fun d => ⟨sl d 33 [(0, (.dat (.lst ((List.map intD) q0)))), (1, (intPV q1)), (2, (intPV q2)), (3, (.fn 108 [(.iptr [(intD q3)])])), (8, (.dat (.lst ((List.map intD) [])))), (9, (intPV 0)), (10, (intPV q1)), (11, (boolPV (decide (q1 < 0)))), (17, (boolPV v2))], []⟩) (fun d => ?_) (fun hJ => ?_)
    · clear hs
      refine G_run 1 ?_
      refine G_split (p := v2 = true) 18 (bool_dec _) (fun hc => ?_) (fun hc => ?_)
      · replace hm := pos_inv hc hm
        refine G_run 4 ?_
        refine G_end ⟨by kernel_rfl, ?_⟩
        obtain rfl := inj1 hm
        exact cut_leaf (by kernel_rfl)
      replace hm := neg_inv hc hm
      refine G_run 4 ?_
      refine G_end ⟨by kernel_rfl, ?_⟩
      obtain rfl := inj1 hm
      exact cut_leaf (by kernel_rfl)
    replace hm := hs
    clear hs
    refine G_split (p := q1 < 0) 12 (rfl) (fun hc => ?_) (fun hc => ?_)
    · replace hm := pos_inv hc hm
      refine G_run 5 ?_
      obtain rfl := inj1 hm
      exact hJ _ _ (by kernel_rfl) (by kernel_rfl)
    replace hm := neg_inv hc hm
    refine G_run 2 ?_
    refine I_len intD q0 (es := (List.map intD) q0) rfl ?_
    refine G_run 2 ?_
    obtain rfl := inj1 hm
    exact hJ _ _ (by kernel_rfl) (by kernel_rfl)
  clear hs
  refine R_ifp (p := v1 = true) (bool_dec _) (fun hc => ?_) (fun hc => ?_)
  · replace hm := pos_inv hc hm
    refine R_seq ?_
    refine R_G ?_
    refine G_run 2 ?_
    refine G_end ?_
    refine R_ret ?_
    obtain rfl := inj1 hm
    exact ⟨trivial, fin_body (by kernel_rfl) (by kernel_rfl)⟩
  replace hm := neg_inv hc hm
  refine R_skip ?_
  refine R_seq ?_
  refine R_GD ?_
  refine G_run 2 ?_
  obtain ⟨v3, hx, hm⟩ := bind_inv hm
  refine I_sub 1 intD q0 v3 0 q1 (es := (List.map intD) q0) (L := (List.map intD)) (a := natI 0) (b := natI q1) (fun _ => rfl) rfl (fun _ => by first | rfl | exact num_of_fit ((fun _ => rfl) _)) hx rfl (Or.inl rfl) ?_
  refine G_run 1 ?_
  obtain ⟨_, hx, hm⟩ := bind_inv hm
  have hq := w_shape_one_1_b9040 _ _ hx
  dsimp only [P_shape_one_1_b9040] at hq
  refine G_callB hq ?_
  refine G_run 2 ?_
  obtain ⟨v4, hx, hm⟩ := bind_inv hm
  refine I_sub 1 intD q0 v4 q2 (q0.length : Int) (es := (List.map intD) q0) (L := (List.map intD)) (a := natI q2) (b := some ((List.map intD) q0).length) (fun _ => rfl) rfl (fun _ => by first | rfl | exact num_of_fit ((fun _ => rfl) _)) hx rfl (Or.inr ⟨rfl, rfl⟩) ?_
  refine G_run 1 ?_
  obtain ⟨v5, hx, hm⟩ := bind_inv hm
  have hq := w_slices_Concat_int_int _ _ hx []
  refine G_callP hq ?_
  refine G_run 2 ?_
  refine G_end ⟨by kernel_rfl, ?_⟩
  refine R_ret ?_
  obtain rfl := inj1 hm
  exact ⟨trivial, fin_body (by kernel_rfl) (by kernel_rfl)⟩
end Go.Proofs.Tryd
namespace Go.Proofs.Tryd
open Go Go.Pm
set_option linter.unusedVariables false
set_option maxRecDepth 2000
def m_shape_Replace (x : ((List Int) × Int × Int)) : Option ((List Int) × Int) :=
  match x with
  | (p0, p1, p2) =>
  if p1 ≥ (p0.length : Int) then
    some (([] : (List Int)), 4)
  else
  m_shape_one p2 >>= fun (v1 : Int) =>
  m_shape_edited_int_b9faf (p0, p1, (W (p1 + 1)), v1) >>= fun ((v2, v3) : ((List Int) × Int)) =>
  some (v2, v3)
def P_shape_Replace : ((List Int) × Int × Int) → ((List Int) × Int) → Prop := fun x r => match x, r with
  | (p0, p1, p2), (r0, r1) => ∀ H, PC prog env 96 ([(.lst ((List.map intD) p0)), (intD p1), (intD p2)].map .dat) H (.tup [(.dat (.lst ((List.map intD) r0))), (intPV r1)]) H
theorem w_shape_Replace : ∀ x r, m_shape_Replace x = some r → P_shape_Replace x r := by
  intro x r hm
  unfold m_shape_Replace at hm
  unfold P_shape_Replace
  obtain ⟨p0, p1, p2⟩ := x
  obtain ⟨r0, r1⟩ := r
  intro H
  refine PC_sx (ds := [(.lst ((List.map intD) p0)), (intD p1), (intD p2)]) (fn := f96) (by kernel_rfl) (by kernel_rfl) rfl ?_ (by kernel_rfl)
  refine R_seq ?_
  refine R_G ?_
  refine G_run 2 ?_
  refine G_end ?_
  refine R_seq ?_
  refine R_seq ?_
  refine R_G ?_
  refine G_run 2 ?_
  refine I_len intD p0 (es := (List.map intD) p0) rfl ?_
  refine G_run 1 ?_
  refine G_end ?_
  refine R_ifp (p := p1 ≥ (p0.length : Int)) (rfl) (fun hc => ?_) (fun hc => ?_)
  · replace hm := pos_inv hc hm
    refine R_seq ?_
    refine R_G ?_
    refine G_run 2 ?_
    refine G_end ?_
    refine R_ret ?_
    obtain ⟨rfl, rfl⟩ := inj2 hm
    exact ⟨trivial, fin_pure (by kernel_rfl)⟩
  replace hm := neg_inv hc hm
  refine R_skip ?_
  refine R_seq ?_
  refine R_G ?_
  refine G_run 5 ?_
  obtain ⟨v1, hx, hm⟩ := bind_inv hm
  have hq := w_shape_one _ _ hx []
  refine G_callP hq ?_
  obtain ⟨⟨v2, v3⟩, hx, hm⟩ := bind_inv hm
  have hq := w_shape_edited_int_b9faf _ _ hx
  dsimp only [P_shape_edited_int_b9faf] at hq
  refine G_callB hq ?_
  refine G_run 4 ?_
  refine G_end ?_
  refine R_ret ?_
  obtain ⟨rfl, rfl⟩ := inj2 hm
  exact ⟨trivial, fin_pure (by kernel_rfl)⟩
end Go.Proofs.Tryd
namespace Go.Proofs.Tryd
open Go Go.Pm
set_option linter.unusedVariables false
set_option maxRecDepth 2000
def m_core_rightCatenate (x : T_core_Core) : Option Bool :=
  match x with
  | p0 =>
  idx p0.kids 0 >>= fun v1 =>
  idx p0.kids 1 >>= fun v2 =>
  ((if p0.axis < 0 then
    some true
  else
  some (decide (p0.axis ≥ (v1.shape.length : Int)))
  ) >>= fun (v4 : Bool) =>
  if v4 = true then
    some true
  else
  some ((v2.shape.length : Int) != (v1.shape.length : Int))
  ) >>= fun (v3 : Bool) =>
  if v3 = true then
    some false
  else
  idx v1.shape p0.axis >>= fun v5 =>
  idx v2.shape p0.axis >>= fun v6 =>
  m_shape_Replace (v1.shape, p0.axis, (W (v5 + v6))) >>= fun ((v7, v8) : ((List Int) × Int)) =>
  idx v1.shape p0.axis >>= fun v9 =>
  m_shape_Replace (v2.shape, p0.axis, v9) >>= fun ((v10, v11) : ((List Int) × Int)) =>
  m_shape_Equal (v10, v1.shape) >>= fun (v12 : Bool) =>
  if v12 = true then
    m_shape_Equal (v7, p0.shape) >>= fun (v13 : Bool) =>
    some v13
  else
  some false
def P_core_rightCatenate : T_core_Core → Bool → Prop := fun x r => match x, r with
  | p0, r0 => ∀ H, PC prog env 87 ([(T_core_Core.ex p0)].map .dat) H (boolPV r0) H
theorem w_core_rightCatenate : ∀ x r, m_core_rightCatenate x = some r → P_core_rightCatenate x r := by
  intro p0 r0 hm
  unfold m_core_rightCatenate at hm
  unfold P_core_rightCatenate
  intro H
  refine PC_sx (ds := [(T_core_Core.ex p0)]) (fn := f87) (by kernel_rfl) (by kernel_rfl) rfl ?_ (by kernel_rfl)
  refine R_seq ?_
  refine R_G ?_
  refine G_run 2 ?_
  refine G_end ?_
  refine R_seq ?_
  refine R_GD ?_
  refine G_run 2 ?_
  obtain ⟨v1, hx, hm⟩ := bind_inv hm
  refine I_idx 8 T_core_Core.toD p0.kids 0 v1 (es := T_core_Core.toDs p0.kids) (d := (T_core_Core.ex v1)) (T_core_Core.toDs_eq _) hx (T_core_Core.toD_eq v1) rfl ?_
  refine G_run 4 ?_
  obtain ⟨v2, hx, hm⟩ := bind_inv hm
  refine I_idx 8 T_core_Core.toD p0.kids 1 v2 (es := T_core_Core.toDs p0.kids) (d := (T_core_Core.ex v2)) (T_core_Core.toDs_eq _) hx (T_core_Core.toD_eq v2) rfl ?_
  refine G_run 4 ?_
  refine G_end ⟨by kernel_rfl, ?_⟩
  refine R_seq ?_
  refine R_seq ?_
  obtain ⟨v3, hs, hm⟩ := bind_inv hm
  refine R_cut (fun d => ⟨sl d 75 [(1, (.ptr 0 0)), (3, (.dat (.lst ((List.map intD) v1.shape)))), (4, (.dat (.lst ((List.map intD) v2.shape)))), (35, (boolPV v3))], [(.box [(intPV p0.kind), (.dat (.lst ((List.map intD) p0.shape))), (intPV p0.buffer), (.dat (.lst ((List.map intD) p0.starts))), (intPV p0.axis), (intPV p0.amount), (.dat (.lst ((List.map intD) p0.perm))), (.dat (.lst (T_core_Core.toDs p0.kids)))])]⟩) ?_ (fun d => ?_)
  · replace hm := hs
    clear hs
    refine R_GN ?_
    refine G_run 4 ?_
    obtain ⟨v4, hs, hm⟩ := bind_inv hm
    refine G_cut (j := 10) (fun d => ⟨sl d 75 [(0, (.dat (.agg [(intD p0.kind), (.lst ((List.map intD) p0.shape)), (intD p0.buffer), (.lst ((List.map intD) p0.starts)), (intD p0.axis), (intD p0.amount), (.lst ((List.map intD) p0.perm)), (.lst (T_core_Core.toDs p0.kids))]))), (1, (.ptr 0 0)), (2, (boolPV false)), (3, (.dat (.lst ((List.map intD) v1.shape)))), (4, (.dat (.lst ((List.map intD) v2.shape)))), (9, (.ptr 0 7)), (10, (.dat (.lst (T_core_Core.toDs p0.kids)))), (11, (.iptr [(intD v1.kind), (.lst ((List.map intD) v1.shape)), (intD v1.buffer), (.lst ((List.map intD) v1.starts)), (intD v1.axis), (intD v1.amount), (.lst ((List.map intD) v1.perm)), (.lst (T_core_Core.toDs v1.kids))])), (12, (.iptr [(.lst ((List.map intD) v1.shape)), (intD v1.buffer), (.lst ((List.map intD) v1.starts)), (intD v1.axis), (intD v1.amount), (.lst ((List.map intD) v1.perm)), (.lst (T_core_Core.toDs v1.kids))])), (13, (.dat (.lst ((List.map intD) v1.shape)))), (14, (.ptr 0 7)), (15, (.dat (.lst (T_core_Core.toDs p0.kids)))), (16, (.iptr [(intD v2.kind), (.lst ((List.map intD) v2.shape)), (intD v2.buffer), (.lst ((List.map intD) v2.starts)), (intD v2.axis), (intD v2.amount), (.lst ((List.map intD) v2.perm)), (.lst (T_core_Core.toDs v2.kids))])), (17, (.iptr [(.lst ((List.map intD) v2.shape)), (intD v2.buffer), (.lst ((List.map intD) v2.starts)), (intD v2.axis), (intD v2.amount), (.lst ((List.map intD) v2.perm)), (.lst (T_core_Core.toDs v2.kids))])), (18, (.dat (.lst ((List.map intD) v2.shape)))), (19, (.ptr 0 4)), (20, (intPV p0.axis)), (21, (boolPV (decide (p0.axis < 0)))), (28, (boolPV v4))], [(.box [(intPV p0.kind), (.dat (.lst ((List.map intD) p0.shape))), (intPV p0.buffer), (.dat (.lst ((List.map intD) p0.starts))), (intPV p0.axis), (intPV p0.amount), (.dat (.lst ((List.map intD) p0.perm))), (.dat (.lst (T_core_Core.toDs p0.kids)))])]⟩) (fun d => ?_) (fun hJ => ?_)
    · clear hs
      refine G_run 1 ?_
      refine G_split (p := v4 = true) 29 (bool_dec _) (fun hc => ?_) (fun hc => ?_)
      · replace hm := pos_inv hc hm
        refine G_run 6 ?_
        refine G_end ⟨by kernel_rfl, ?_⟩
        obtain rfl := inj1 hm
        exact cut_leaf (by kernel_rfl)
      replace hm := neg_inv hc hm
      refine G_run 1 ?_
      refine I_len intD v2.shape (es := (List.map intD) v2.shape) rfl ?_
      refine G_run 1 ?_
      refine I_len intD v1.shape (es := (List.map intD) v1.shape) rfl ?_
      refine G_run 2 ?_
      refine G_end ⟨by kernel_rfl, ?_⟩
      obtain rfl := inj1 hm
      exact cut_leaf (by kernel_rfl)
    replace hm := hs
    clear hs
    refine G_split (p := p0.axis < 0) 22 (rfl) (fun hc => ?_) (fun hc => ?_)
    · replace hm := pos_inv hc hm
      refine G_run 6 ?_
      obtain rfl := inj1 hm
      exact hJ _ _ (by kernel_rfl) (by kernel_rfl)
    replace hm := neg_inv hc hm
    refine G_run 3 ?_
    refine I_len intD v1.shape (es := (List.map intD) v1.shape) rfl ?_
    refine G_run 2 ?_
    obtain rfl := inj1 hm
    exact hJ _ _ (by kernel_rfl) (by kernel_rfl)
  clear hs
  refine R_ifp (p := v3 = true) (bool_dec _) (fun hc => ?_) (fun hc => ?_)
  · replace hm := pos_inv hc hm
    refine R_seq ?_
    refine R_G ?_
    refine G_run 1 ?_
    refine G_end ?_
    refine R_ret ?_
    obtain rfl := inj1 hm
    exact ⟨trivial, fin_pure (by kernel_rfl)⟩
  replace hm := neg_inv hc hm
  refine R_skip ?_
  refine R_seq ?_
  refine R_GD ?_
  refine G_run 6 ?_
  obtain ⟨v5, hx, hm⟩ := bind_inv hm
  refine I_idx 1 intD v1.shape p0.axis v5 (es := (List.map intD) v1.shape) (d := (intD v5)) rfl hx rfl rfl ?_
  refine G_run 4 ?_
  obtain ⟨v6, hx, hm⟩ := bind_inv hm
  refine I_idx 1 intD v2.shape p0.axis v6 (es := (List.map intD) v2.shape) (d := (intD v6)) rfl hx rfl rfl ?_
  refine G_run 2 ?_
  obtain ⟨⟨v7, v8⟩, hx, hm⟩ := bind_inv hm
  have hq := w_shape_Replace _ _ hx []
  refine G_callP hq ?_
  refine G_run 5 ?_
  refine G_end ⟨by kernel_rfl, ?_⟩
  refine R_seq ?_
  refine R_GD ?_
  refine G_run 6 ?_
  obtain ⟨v9, hx, hm⟩ := bind_inv hm
  refine I_idx 1 intD v1.shape p0.axis v9 (es := (List.map intD) v1.shape) (d := (intD v9)) rfl hx rfl rfl ?_
  refine G_run 1 ?_
  obtain ⟨⟨v10, v11⟩, hx, hm⟩ := bind_inv hm
  have hq := w_shape_Replace _ _ hx []
  refine G_callP hq ?_
  refine G_run 5 ?_
  refine G_end ⟨by kernel_rfl, ?_⟩
  refine R_seq ?_
  refine R_G ?_
  refine G_run 2 ?_
  obtain ⟨v12, hx, hm⟩ := bind_inv hm
  have hq := w_shape_Equal _ _ hx []
  refine G_callP hq ?_
  refine G_run 1 ?_
  refine G_split (p := v12 = true) 69 (bool_dec _) (fun hc => ?_) (fun hc => ?_)
  · replace hm := pos_inv hc hm
    refine G_run 3 ?_
    obtain ⟨v13, hx, hm⟩ := bind_inv hm
    have hq := w_shape_Equal _ _ hx []
    refine G_callP hq ?_
    refine G_run 2 ?_
    refine G_end ?_
    refine R_ret ?_
    obtain rfl := inj1 hm
    exact ⟨trivial, fin_pure (by kernel_rfl)⟩
  replace hm := neg_inv hc hm
  refine G_run 6 ?_
  refine G_end ?_
  refine R_ret ?_
  obtain rfl := inj1 hm
  exact ⟨trivial, fin_pure (by kernel_rfl)⟩
end Go.Proofs.Tryd
namespace Go.Proofs.Tryd
open Go Go.Pm
set_option linter.unusedVariables false
set_option maxRecDepth 2000
def m_core_node (x : (T_core_Core × (List (List Int)))) : Option Bool :=
  match x with
  | (p0, p1) =>
  ((if p0.kind < 1 then
    some true
  else
  some (decide (p0.kind > 7))
  ) >>= fun (v2 : Bool) =>
  (if v2 = true then
    some true
  else
  guardM (0 ≤ p0.kind ∧ p0.kind < 8) >>= fun (_ : Unit) =>
  idx ([0, 0, 1, 1, 1, 1, 1, 2] : List Int) p0.kind >>= fun v5 =>
  some ((p0.kids.length : Int) != v5)
  ) >>= fun (v3 : Bool) =>
  (if v3 = true then
    some true
  else
  m_core_fields (⟨p0.kind, p0.shape, p0.buffer, p0.starts, p0.axis, p0.amount, p0.perm, p0.kids⟩ : T_core_Core) >>= fun (v7 : Bool) =>
  some (!v7)
  ) >>= fun (v6 : Bool) =>
  if v6 = true then
    some true
  else
  m_shape_Check p0.shape >>= fun (v8 : Int) =>
  some (v8 != 0)
  ) >>= fun (v1 : Bool) =>
  if v1 = true then
    some false
  else
  (if p0.kind = 1 then
    (if p0.buffer < 0 then
      some true
    else
    some (decide (p0.buffer ≥ (p1.length : Int)))
    ) >>= fun (v10 : Bool) =>
    if v10 = true then
      some true
    else
    idx p1 p0.buffer >>= fun v11 =>
    m_shape_Equal (v11, p0.shape) >>= fun (v12 : Bool) =>
    some (!v12)
  else
  some false
  ) >>= fun (v9 : Bool) =>
  if v9 = true then
    some false
  else
  guardM (0 ≤ p0.kind ∧ p0.kind < 8) >>= fun (_ : Unit) =>
  if p0.kind = 0 then
    none
  else
  if p0.kind = 1 then
    m_core_nothing p0 >>= fun (v14 : Bool) =>
    some v14
  else
  if p0.kind = 2 then
    m_core_rightWindow (⟨p0.kind, p0.shape, p0.buffer, p0.starts, p0.axis, p0.amount, p0.perm, p0.kids⟩ : T_core_Core) >>= fun (v15 : Bool) =>
    some v15
  else
  if p0.kind = 3 then
    m_core_rightReverse p0 >>= fun (v16 : Bool) =>
    some v16
  else
  if p0.kind = 4 then
    m_core_rightRotate p0 >>= fun (v17 : Bool) =>
    some v17
  else
  if p0.kind = 5 then
    m_core_rightTranspose p0 >>= fun (v18 : Bool) =>
    some v18
  else
  if p0.kind = 6 then
    m_core_nothing p0 >>= fun (v19 : Bool) =>
    some v19
  else
  if p0.kind = 7 then
    m_core_rightCatenate (⟨p0.kind, p0.shape, p0.buffer, p0.starts, p0.axis, p0.amount, p0.perm, p0.kids⟩ : T_core_Core) >>= fun (v20 : Bool) =>
    some v20
  else
  none
def P_core_node : (T_core_Core × (List (List Int))) → Bool → Prop := fun x r => match x, r with
  | (p0, p1), r0 => ∀ H, PC prog env 37 ([(T_core_Core.ex p0), (.lst ((List.map (fun l => Dat.lst ((List.map intD) l))) p1))].map .dat) H (boolPV r0) H
theorem w_core_node : ∀ x r, m_core_node x = some r → P_core_node x r := by
  intro x r0 hm
  unfold m_core_node at hm
  unfold P_core_node
  obtain ⟨p0, p1⟩ := x
  intro H
  refine PC_sx (ds := [(T_core_Core.ex p0), (.lst ((List.map (fun l => Dat.lst ((List.map intD) l))) p1))]) (fn := f37) (by kernel_rfl) (by kernel_rfl) rfl ?_ (by kernel_rfl)
  refine R_seq ?_
  refine R_G ?_
  refine G_run 2 ?_
  refine G_end ?_
  refine R_seq ?_
  refine R_seq ?_
  obtain ⟨v1, hs, hm⟩ := bind_inv hm
  refine R_cut (fun d => ⟨sl d 68 [(1, (.dat (.lst ((List.map (fun l => Dat.lst ((List.map intD) l))) p1)))), (2, (.ptr 0 0)), (34, (boolPV v1))], [(.box [(intPV p0.kind), (.dat (.lst ((List.map intD) p0.shape))), (intPV p0.buffer), (.dat (.lst ((List.map intD) p0.starts))), (intPV p0.axis), (intPV p0.amount), (.dat (.lst ((List.map intD) p0.perm))), (.dat (.lst (T_core_Core.toDs p0.kids)))])]⟩) ?_ (fun d => ?_)
  · replace hm := hs
    clear hs
    refine R_GW ?_
    refine G_run 4 ?_
    obtain ⟨v2, hs, hm⟩ := bind_inv hm
    refine G_cut (j := 8) (fun d => ⟨sl d 68 [(0, (.dat (.agg [(intD p0.kind), (.lst ((List.map intD) p0.shape)), (intD p0.buffer), (.lst ((List.map intD) p0.starts)), (intD p0.axis), (intD p0.amount), (.lst ((List.map intD) p0.perm)), (.lst (T_core_Core.toDs p0.kids))]))), (1, (.dat (.lst ((List.map (fun l => Dat.lst ((List.map intD) l))) p1)))), (2, (.ptr 0 0)), (4, (boolPV false)), (5, (.ptr 0 0)), (6, (intPV p0.kind)), (7, (boolPV (decide (p0.kind < 1)))), (12, (boolPV v2))], [(.box [(intPV p0.kind), (.dat (.lst ((List.map intD) p0.shape))), (intPV p0.buffer), (.dat (.lst ((List.map intD) p0.starts))), (intPV p0.axis), (intPV p0.amount), (.dat (.lst ((List.map intD) p0.perm))), (.dat (.lst (T_core_Core.toDs p0.kids)))])]⟩) (fun d => ?_) (fun hJ => ?_)
    · clear hs
      refine G_run 1 ?_
      obtain ⟨v3, hs, hm⟩ := bind_inv hm
      refine G_cut (j := 19) (fun d => ⟨sl d 68 [(0, (.dat (.agg [(intD p0.kind), (.lst ((List.map intD) p0.shape)), (intD p0.buffer), (.lst ((List.map intD) p0.starts)), (intD p0.axis), (intD p0.amount), (.lst ((List.map intD) p0.perm)), (.lst (T_core_Core.toDs p0.kids))]))), (1, (.dat (.lst ((List.map (fun l => Dat.lst ((List.map intD) l))) p1)))), (2, (.ptr 0 0)), (4, (boolPV false)), (5, (.ptr 0 0)), (6, (intPV p0.kind)), (7, (boolPV (decide (p0.kind < 1)))), (12, (boolPV v2)), (23, (boolPV v3))], [(.box [(intPV p0.kind), (.dat (.lst ((List.map intD) p0.shape))), (intPV p0.buffer), (.dat (.lst ((List.map intD) p0.starts))), (intPV p0.axis), (intPV p0.amount), (.dat (.lst ((List.map intD) p0.perm))), (.dat (.lst (T_core_Core.toDs p0.kids)))])]⟩) (fun d => ?_) (fun hJ => ?_)
      · clear hs
        refine G_run 1 ?_
        obtain ⟨v6, hs, hm⟩ := bind_inv hm
        refine G_cut (j := 24) (fun d => ⟨sl d 68 [(0, (.dat (.agg [(intD p0.kind), (.lst ((List.map intD) p0.shape)), (intD p0.buffer), (.lst ((List.map intD) p0.starts)), (intD p0.axis), (intD p0.amount), (.lst ((List.map intD) p0.perm)), (.lst (T_core_Core.toDs p0.kids))]))), (1, (.dat (.lst ((List.map (fun l => Dat.lst ((List.map intD) l))) p1)))), (2, (.ptr 0 0)), (4, (boolPV false)), (5, (.ptr 0 0)), (6, (intPV p0.kind)), (7, (boolPV (decide (p0.kind < 1)))), (12, (boolPV v2)), (23, (boolPV v3)), (28, (boolPV v6))], [(.box [(intPV p0.kind), (.dat (.lst ((List.map intD) p0.shape))), (intPV p0.buffer), (.dat (.lst ((List.map intD) p0.starts))), (intPV p0.axis), (intPV p0.amount), (.dat (.lst ((List.map intD) p0.perm))), (.dat (.lst (T_core_Core.toDs p0.kids)))])]⟩) (fun d => ?_) (fun hJ => ?_)
        · clear hs
          refine G_run 1 ?_
          refine G_split (p := v6 = true) 29 (bool_dec _) (fun hc => ?_) (fun hc => ?_)
          · replace hm := pos_inv hc hm
            refine G_run 5 ?_
            refine G_end ⟨by kernel_rfl, ?_⟩
            obtain rfl := inj1 hm
            exact cut_leaf (by kernel_rfl)
          replace hm := neg_inv hc hm
          refine G_run 2 ?_
          obtain ⟨v8, hx, hm⟩ := bind_inv hm
          have hq := w_shape_Check _ _ hx []
          refine G_callP hq ?_
          refine G_run 2 ?_
          refine G_end ⟨by kernel_rfl, ?_⟩
          obtain rfl := inj1 hm
          exact cut_leaf (by kernel_rfl)
        replace hm := hs
        clear hs
        refine G_split (p := v3 = true) 24 (bool_dec _) (fun hc => ?_) (fun hc => ?_)
        · replace hm := pos_inv hc hm
          refine G_run 4 ?_
          obtain rfl := inj1 hm
          exact hJ _ _ (by kernel_rfl) (by kernel_rfl)
        replace hm := neg_inv hc hm
        refine G_run 1 ?_
        obtain ⟨v7, hx, hm⟩ := bind_inv hm
        have hq := w_core_fields _ _ hx []
        refine G_callP hq ?_
        refine G_run 2 ?_
        obtain rfl := inj1 hm
        exact hJ _ _ (by kernel_rfl) (by kernel_rfl)
      replace hm := hs
      clear hs
      refine G_split (p := v2 = true) 13 (bool_dec _) (fun hc => ?_) (fun hc => ?_)
      · replace hm := pos_inv hc hm
        refine G_run 10 ?_
        obtain rfl := inj1 hm
        exact hJ _ _ (by kernel_rfl) (by kernel_rfl)
      replace hm := neg_inv hc hm
      refine G_run 2 ?_
      refine I_len T_core_Core.toD p0.kids (es := T_core_Core.toDs p0.kids) (T_core_Core.toDs_eq _) ?_
      refine G_run 2 ?_
      obtain ⟨_, hl4, hm⟩ := bind_inv hm
      replace hl4 := guard_inv hl4
      refine I_garr 8 3 [(intD 0), (.raw .nilFunc), (.raw .nilFunc), (intD 0), (.raw (.func (.func 76) #[] #[])), (.raw (.func (.func 77) #[] #[])), (intD 1), (.raw (.func (.func 78) #[] #[])), (.raw (.func (.func 79) #[] #[])), (intD 1), (.raw (.func (.func 80) #[] #[])), (.raw (.func (.func 81) #[] #[])), (intD 1), (.raw (.func (.func 82) #[] #[])), (.raw (.func (.func 83) #[] #[])), (intD 1), (.raw (.func (.func 84) #[] #[])), (.raw (.func (.func 85) #[] #[])), (intD 1), (.raw (.func (.func 76) #[] #[])), (.raw (.func (.func 86) #[] #[])), (intD 2), (.raw (.func (.func 87) #[] #[])), (.raw (.func (.func 88) #[] #[]))] p0.kind hl4 ?_
      refine G_run 1 ?_
      obtain ⟨v5, hx, hm⟩ := bind_inv hm
      refine I_gint 8 3 0 [(intD 0), (.raw .nilFunc), (.raw .nilFunc), (intD 0), (.raw (.func (.func 76) #[] #[])), (.raw (.func (.func 77) #[] #[])), (intD 1), (.raw (.func (.func 78) #[] #[])), (.raw (.func (.func 79) #[] #[])), (intD 1), (.raw (.func (.func 80) #[] #[])), (.raw (.func (.func 81) #[] #[])), (intD 1), (.raw (.func (.func 82) #[] #[])), (.raw (.func (.func 83) #[] #[])), (intD 1), (.raw (.func (.func 84) #[] #[])), (.raw (.func (.func 85) #[] #[])), (intD 1), (.raw (.func (.func 76) #[] #[])), (.raw (.func (.func 86) #[] #[])), (intD 2), (.raw (.func (.func 87) #[] #[])), (.raw (.func (.func 88) #[] #[]))] p0.kind ([0, 0, 1, 1, 1, 1, 1, 2] : List Int) v5 hx ?_
      refine G_run 2 ?_
      obtain rfl := inj1 hm
      exact hJ _ _ (by kernel_rfl) (by kernel_rfl)
    replace hm := hs
    clear hs
    refine G_split (p := p0.kind < 1) 8 (rfl) (fun hc => ?_) (fun hc => ?_)
    · replace hm := pos_inv hc hm
      refine G_run 4 ?_
      obtain rfl := inj1 hm
      exact hJ _ _ (by kernel_rfl) (by kernel_rfl)
    replace hm := neg_inv hc hm
    refine G_run 4 ?_
    obtain rfl := inj1 hm
    exact hJ _ _ (by kernel_rfl) (by kernel_rfl)
  clear hs
  refine R_ifp (p := v1 = true) (bool_dec _) (fun hc => ?_) (fun hc => ?_)
  · replace hm := pos_inv hc hm
    refine R_seq ?_
    refine R_G ?_
    refine G_run 1 ?_
    refine G_end ?_
    refine R_ret ?_
    obtain rfl := inj1 hm
    exact ⟨trivial, fin_pure (by kernel_rfl)⟩
  replace hm := neg_inv hc hm
  refine R_skip ?_
  refine R_seq ?_
  refine R_seq ?_
  obtain ⟨v9, hs, hm⟩ := bind_inv hm
  refine R_cut (fun d => ⟨sl d 68 [(2, (.ptr 0 0)), (60, (boolPV v9))], [(.box [(intPV p0.kind), (.dat (.lst ((List.map intD) p0.shape))), (intPV p0.buffer), (.dat (.lst ((List.map intD) p0.starts))), (intPV p0.axis), (intPV p0.amount), (.dat (.lst ((List.map intD) p0.perm))), (.dat (.lst (T_core_Core.toDs p0.kids)))])]⟩) ?_ (fun d => ?_)
  · replace hm := hs
    clear hs
    refine R_GW ?_
    refine G_run 4 ?_
    refine G_split (p := p0.kind = 1) 38 (eq_dec _ _) (fun hc => ?_) (fun hc => ?_)
    · replace hm := pos_inv hc hm
      refine G_run 4 ?_
      obtain ⟨v10, hs, hm⟩ := bind_inv hm
      refine G_cut (j := 14) (fun d => ⟨sl d 68 [(1, (.dat (.lst ((List.map (fun l => Dat.lst ((List.map intD) l))) p1)))), (2, (.ptr 0 0)), (34, (boolPV v1)), (35, (.ptr 0 0)), (36, (intPV p0.kind)), (37, (boolPV (p0.kind == 1))), (38, (boolPV true)), (39, (.ptr 0 2)), (40, (intPV p0.buffer)), (41, (boolPV (decide (p0.buffer < 0)))), (48, (boolPV v10))], [(.box [(intPV p0.kind), (.dat (.lst ((List.map intD) p0.shape))), (intPV p0.buffer), (.dat (.lst ((List.map intD) p0.starts))), (intPV p0.axis), (intPV p0.amount), (.dat (.lst ((List.map intD) p0.perm))), (.dat (.lst (T_core_Core.toDs p0.kids)))])]⟩) (fun d => ?_) (fun hJ => ?_)
      · clear hs
        refine G_run 1 ?_
        refine G_split (p := v10 = true) 49 (bool_dec _) (fun hc => ?_) (fun hc => ?_)
        · replace hm := pos_inv hc hm
          refine G_run 11 ?_
          refine G_end ⟨by kernel_rfl, ?_⟩
          obtain rfl := inj1 hm
          exact cut_leaf (by kernel_rfl)
        replace hm := neg_inv hc hm
        refine G_run 3 ?_
        obtain ⟨v11, hx, hm⟩ := bind_inv hm
        refine I_idx 1 (fun l => Dat.lst ((List.map intD) l)) p1 p0.buffer v11 (es := (List.map (fun l => Dat.lst ((List.map intD) l))) p1) (d := (.lst ((List.map intD) v11))) rfl hx rfl rfl ?_
        refine G_run 3 ?_
        obtain ⟨v12, hx, hm⟩ := bind_inv hm
        have hq := w_shape_Equal _ _ hx []
        refine G_callP hq ?_
        refine G_run 3 ?_
        refine G_end ⟨by kernel_rfl, ?_⟩
        obtain rfl := inj1 hm
        exact cut_leaf (by kernel_rfl)
      replace hm := hs
      clear hs
      refine G_split (p := p0.buffer < 0) 42 (rfl) (fun hc => ?_) (fun hc => ?_)
      · replace hm := pos_inv hc hm
        refine G_run 6 ?_
        obtain rfl := inj1 hm
        exact hJ _ _ (by kernel_rfl) (by kernel_rfl)
      replace hm := neg_inv hc hm
      refine G_run 3 ?_
      refine I_len (fun l => Dat.lst ((List.map intD) l)) p1 (es := (List.map (fun l => Dat.lst ((List.map intD) l))) p1) rfl ?_
      refine G_run 2 ?_
      obtain rfl := inj1 hm
      exact hJ _ _ (by kernel_rfl) (by kernel_rfl)
    replace hm := neg_inv hc hm
    refine G_run 22 ?_
    refine G_end ⟨by kernel_rfl, ?_⟩
    obtain rfl := inj1 hm
    exact cut_leaf (by kernel_rfl)
  clear hs
  refine R_ifp (p := v9 = true) (bool_dec _) (fun hc => ?_) (fun hc => ?_)
  · replace hm := pos_inv hc hm
    refine R_seq ?_
    refine R_G ?_
    refine G_run 1 ?_
    refine G_end ?_
    refine R_ret ?_
    obtain rfl := inj1 hm
    exact ⟨trivial, fin_pure (by kernel_rfl)⟩
  replace hm := neg_inv hc hm
  refine R_skip ?_
  refine R_seq ?_
  refine R_GD ?_
  refine G_run 2 ?_
  obtain ⟨_, hl13, hm⟩ := bind_inv hm
  replace hl13 := guard_inv hl13
  refine I_garr 8 3 [(intD 0), (.raw .nilFunc), (.raw .nilFunc), (intD 0), (.raw (.func (.func 76) #[] #[])), (.raw (.func (.func 77) #[] #[])), (intD 1), (.raw (.func (.func 78) #[] #[])), (.raw (.func (.func 79) #[] #[])), (intD 1), (.raw (.func (.func 80) #[] #[])), (.raw (.func (.func 81) #[] #[])), (intD 1), (.raw (.func (.func 82) #[] #[])), (.raw (.func (.func 83) #[] #[])), (intD 1), (.raw (.func (.func 84) #[] #[])), (.raw (.func (.func 85) #[] #[])), (intD 1), (.raw (.func (.func 76) #[] #[])), (.raw (.func (.func 86) #[] #[])), (intD 2), (.raw (.func (.func 87) #[] #[])), (.raw (.func (.func 88) #[] #[]))] p0.kind hl13 ?_
  refine G_run 1 ?_
  by_cases hc : p0.kind = ((0 : Nat) : Int)
  · replace hm := pos_inv (show p0.kind = 0 from hc) hm
    exact (none_inv hm).elim
  replace hm := neg_inv (show ¬ p0.kind = 0 from hc) hm
  by_cases hc : p0.kind = ((1 : Nat) : Int)
  · replace hm := pos_inv (show p0.kind = 1 from hc) hm
    refine I_gfun 1 3 1 [(intD 0), (.raw .nilFunc), (.raw .nilFunc), (intD 0), (.raw (.func (.func 76) #[] #[])), (.raw (.func (.func 77) #[] #[])), (intD 1), (.raw (.func (.func 78) #[] #[])), (.raw (.func (.func 79) #[] #[])), (intD 1), (.raw (.func (.func 80) #[] #[])), (.raw (.func (.func 81) #[] #[])), (intD 1), (.raw (.func (.func 82) #[] #[])), (.raw (.func (.func 83) #[] #[])), (intD 1), (.raw (.func (.func 84) #[] #[])), (.raw (.func (.func 85) #[] #[])), (intD 1), (.raw (.func (.func 76) #[] #[])), (.raw (.func (.func 86) #[] #[])), (intD 2), (.raw (.func (.func 87) #[] #[])), (.raw (.func (.func 88) #[] #[]))] p0.kind (.raw (.func (.func 76) #[] #[])) hc ?_
    refine G_run 1 ?_
    obtain ⟨v14, hx, hm⟩ := bind_inv hm
    have hq := w_core_nothing _ _ hx []
    refine G_callP hq ?_
    refine G_run 1 ?_
    refine G_end ⟨by kernel_rfl, ?_⟩
    refine R_ret ?_
    obtain rfl := inj1 hm
    exact ⟨trivial, fin_pure (by kernel_rfl)⟩
  replace hm := neg_inv (show ¬ p0.kind = 1 from hc) hm
  by_cases hc : p0.kind = ((2 : Nat) : Int)
  · replace hm := pos_inv (show p0.kind = 2 from hc) hm
    refine I_gfun 2 3 1 [(intD 0), (.raw .nilFunc), (.raw .nilFunc), (intD 0), (.raw (.func (.func 76) #[] #[])), (.raw (.func (.func 77) #[] #[])), (intD 1), (.raw (.func (.func 78) #[] #[])), (.raw (.func (.func 79) #[] #[])), (intD 1), (.raw (.func (.func 80) #[] #[])), (.raw (.func (.func 81) #[] #[])), (intD 1), (.raw (.func (.func 82) #[] #[])), (.raw (.func (.func 83) #[] #[])), (intD 1), (.raw (.func (.func 84) #[] #[])), (.raw (.func (.func 85) #[] #[])), (intD 1), (.raw (.func (.func 76) #[] #[])), (.raw (.func (.func 86) #[] #[])), (intD 2), (.raw (.func (.func 87) #[] #[])), (.raw (.func (.func 88) #[] #[]))] p0.kind (.raw (.func (.func 78) #[] #[])) hc ?_
    refine G_run 1 ?_
    obtain ⟨v15, hx, hm⟩ := bind_inv hm
    have hq := w_core_rightWindow _ _ hx []
    refine G_callP hq ?_
    refine G_run 1 ?_
    refine G_end ⟨by kernel_rfl, ?_⟩
    refine R_ret ?_
    obtain rfl := inj1 hm
    exact ⟨trivial, fin_pure (by kernel_rfl)⟩
  replace hm := neg_inv (show ¬ p0.kind = 2 from hc) hm
  by_cases hc : p0.kind = ((3 : Nat) : Int)
  · replace hm := pos_inv (show p0.kind = 3 from hc) hm
    refine I_gfun 3 3 1 [(intD 0), (.raw .nilFunc), (.raw .nilFunc), (intD 0), (.raw (.func (.func 76) #[] #[])), (.raw (.func (.func 77) #[] #[])), (intD 1), (.raw (.func (.func 78) #[] #[])), (.raw (.func (.func 79) #[] #[])), (intD 1), (.raw (.func (.func 80) #[] #[])), (.raw (.func (.func 81) #[] #[])), (intD 1), (.raw (.func (.func 82) #[] #[])), (.raw (.func (.func 83) #[] #[])), (intD 1), (.raw (.func (.func 84) #[] #[])), (.raw (.func (.func 85) #[] #[])), (intD 1), (.raw (.func (.func 76) #[] #[])), (.raw (.func (.func 86) #[] #[])), (intD 2), (.raw (.func (.func 87) #[] #[])), (.raw (.func (.func 88) #[] #[]))] p0.kind (.raw (.func (.func 80) #[] #[])) hc ?_
    refine G_run 1 ?_
    obtain ⟨v16, hx, hm⟩ := bind_inv hm
    have hq := w_core_rightReverse _ _ hx []
    refine G_callP hq ?_
    refine G_run 1 ?_
    refine G_end ⟨by kernel_rfl, ?_⟩
    refine R_ret ?_
    obtain rfl := inj1 hm
    exact ⟨trivial, fin_pure (by kernel_rfl)⟩
  replace hm := neg_inv (show ¬ p0.kind = 3 from hc) hm
  by_cases hc : p0.kind = ((4 : Nat) : Int)
  · replace hm := pos_inv (show p0.kind = 4 from hc) hm
    refine I_gfun 4 3 1 [(intD 0), (.raw .nilFunc), (.raw .nilFunc), (intD 0), (.raw (.func (.func 76) #[] #[])), (.raw (.func (.func 77) #[] #[])), (intD 1), (.raw (.func (.func 78) #[] #[])), (.raw (.func (.func 79) #[] #[])), (intD 1), (.raw (.func (.func 80) #[] #[])), (.raw (.func (.func 81) #[] #[])), (intD 1), (.raw (.func (.func 82) #[] #[])), (.raw (.func (.func 83) #[] #[])), (intD 1), (.raw (.func (.func 84) #[] #[])), (.raw (.func (.func 85) #[] #[])), (intD 1), (.raw (.func (.func 76) #[] #[])), (.raw (.func (.func 86) #[] #[])), (intD 2), (.raw (.func (.func 87) #[] #[])), (.raw (.func (.func 88) #[] #[]))] p0.kind (.raw (.func (.func 82) #[] #[])) hc ?_
    refine G_run 1 ?_
    obtain ⟨v17, hx, hm⟩ := bind_inv hm
    have hq := w_core_rightRotate _ _ hx []
    refine G_callP hq ?_
    refine G_run 1 ?_
    refine G_end ⟨by kernel_rfl, ?_⟩
    refine R_ret ?_
    obtain rfl := inj1 hm
    exact ⟨trivial, fin_pure (by kernel_rfl)⟩
  replace hm := neg_inv (show ¬ p0.kind = 4 from hc) hm
  by_cases hc : p0.kind = ((5 : Nat) : Int)
  · replace hm := pos_inv (show p0.kind = 5 from hc) hm
    refine I_gfun 5 3 1 [(intD 0), (.raw .nilFunc), (.raw .nilFunc), (intD 0), (.raw (.func (.func 76) #[] #[])), (.raw (.func (.func 77) #[] #[])), (intD 1), (.raw (.func (.func 78) #[] #[])), (.raw (.func (.func 79) #[] #[])), (intD 1), (.raw (.func (.func 80) #[] #[])), (.raw (.func (.func 81) #[] #[])), (intD 1), (.raw (.func (.func 82) #[] #[])), (.raw (.func (.func 83) #[] #[])), (intD 1), (.raw (.func (.func 84) #[] #[])), (.raw (.func (.func 85) #[] #[])), (intD 1), (.raw (.func (.func 76) #[] #[])), (.raw (.func (.func 86) #[] #[])), (intD 2), (.raw (.func (.func 87) #[] #[])), (.raw (.func (.func 88) #[] #[]))] p0.kind (.raw (.func (.func 84) #[] #[])) hc ?_
    refine G_run 1 ?_
    obtain ⟨v18, hx, hm⟩ := bind_inv hm
    have hq := w_core_rightTranspose _ _ hx []
    refine G_callP hq ?_
    refine G_run 1 ?_
    refine G_end ⟨by kernel_rfl, ?_⟩
    refine R_ret ?_
    obtain rfl := inj1 hm
    exact ⟨trivial, fin_pure (by kernel_rfl)⟩
  replace hm := neg_inv (show ¬ p0.kind = 5 from hc) hm
  by_cases hc : p0.kind = ((6 : Nat) : Int)
  · replace hm := pos_inv (show p0.kind = 6 from hc) hm
    refine I_gfun 6 3 1 [(intD 0), (.raw .nilFunc), (.raw .nilFunc), (intD 0), (.raw (.func (.func 76) #[] #[])), (.raw (.func (.func 77) #[] #[])), (intD 1), (.raw (.func (.func 78) #[] #[])), (.raw (.func (.func 79) #[] #[])), (intD 1), (.raw (.func (.func 80) #[] #[])), (.raw (.func (.func 81) #[] #[])), (intD 1), (.raw (.func (.func 82) #[] #[])), (.raw (.func (.func 83) #[] #[])), (intD 1), (.raw (.func (.func 84) #[] #[])), (.raw (.func (.func 85) #[] #[])), (intD 1), (.raw (.func (.func 76) #[] #[])), (.raw (.func (.func 86) #[] #[])), (intD 2), (.raw (.func (.func 87) #[] #[])), (.raw (.func (.func 88) #[] #[]))] p0.kind (.raw (.func (.func 76) #[] #[])) hc ?_
    refine G_run 1 ?_
    obtain ⟨v19, hx, hm⟩ := bind_inv hm
    have hq := w_core_nothing _ _ hx []
    refine G_callP hq ?_
    refine G_run 1 ?_
    refine G_end ⟨by kernel_rfl, ?_⟩
    refine R_ret ?_
    obtain rfl := inj1 hm
    exact ⟨trivial, fin_pure (by kernel_rfl)⟩
  replace hm := neg_inv (show ¬ p0.kind = 6 from hc) hm
  by_cases hc : p0.kind = ((7 : Nat) : Int)
  · replace hm := pos_inv (show p0.kind = 7 from hc) hm
    refine I_gfun 7 3 1 [(intD 0), (.raw .nilFunc), (.raw .nilFunc), (intD 0), (.raw (.func (.func 76) #[] #[])), (.raw (.func (.func 77) #[] #[])), (intD 1), (.raw (.func (.func 78) #[] #[])), (.raw (.func (.func 79) #[] #[])), (intD 1), (.raw (.func (.func 80) #[] #[])), (.raw (.func (.func 81) #[] #[])), (intD 1), (.raw (.func (.func 82) #[] #[])), (.raw (.func (.func 83) #[] #[])), (intD 1), (.raw (.func (.func 84) #[] #[])), (.raw (.func (.func 85) #[] #[])), (intD 1), (.raw (.func (.func 76) #[] #[])), (.raw (.func (.func 86) #[] #[])), (intD 2), (.raw (.func (.func 87) #[] #[])), (.raw (.func (.func 88) #[] #[]))] p0.kind (.raw (.func (.func 87) #[] #[])) hc ?_
    refine G_run 1 ?_
    obtain ⟨v20, hx, hm⟩ := bind_inv hm
    have hq := w_core_rightCatenate _ _ hx []
    refine G_callP hq ?_
    refine G_run 1 ?_
    refine G_end ⟨by kernel_rfl, ?_⟩
    refine R_ret ?_
    obtain rfl := inj1 hm
    exact ⟨trivial, fin_pure (by kernel_rfl)⟩
  replace hm := neg_inv (show ¬ p0.kind = 7 from hc) hm
  exact (none_inv hm).elim
end Go.Proofs.Tryd
namespace Go.Proofs.Tryd
open Go Go.Pm
set_option linter.unusedVariables false
set_option maxRecDepth 2000
mutual
def m_core_within_1_b964f (x : (Int × (List Int) × Int × (List Int) × Int × Int × (List Int) × (List T_core_Core) × Int × (List Int) × Int × (List Int) × Int × Int × (List Int) × (List T_core_Core) × (List (List Int)) × Int)) : Option (Bool) :=
  match x with
  | (q0, q1, q2, q3, q4, q5, q6, q7, q8, q9, q10, q11, q12, q13, q14, q15, q16, q17) =>
  m_core_within ((⟨q0, q1, q2, q3, q4, q5, q6, q7⟩ : T_core_Core), q16, (W (q17 - 1))) >>= fun (v1 : Bool) =>
  some (!v1)
  partial_fixpoint
def m_slices_IndexFunc_core_Core_core_Core_b6f47_L1 (x : ((List T_core_Core) × Int × (List Int) × Int × (List Int) × Int × Int × (List Int) × (List (List Int)) × Int × Int)) : Option ((Int × (List Int) × Int × (List Int) × Int × Int × (List Int) × (List T_core_Core) × Int) ⊕ Unit) :=
  match x with
  | (q0, q1, q2, q3, q4, q5, q6, q7, q8, q9, v201) =>
  if v201 < (q0.length : Int) then
    idx q0 v201 >>= fun v610 =>
    m_core_within_1_b964f (v610.kind, v610.shape, v610.buffer, v610.starts, v610.axis, v610.amount, v610.perm, v610.kids, q1, q2, q3, q4, q5, q6, q7, q0, q8, q9) >>= fun (v611 : Bool) =>
    if v611 = true then
      some (Sum.inl (v610.kind, v610.shape, v610.buffer, v610.starts, v610.axis, v610.amount, v610.perm, v610.kids, v201))
    else
    m_slices_IndexFunc_core_Core_core_Core_b6f47_L1 (q0, q1, q2, q3, q4, q5, q6, q7, q8, q9, (W (v201 + 1)))
  else
  some (Sum.inr ())
  partial_fixpoint
def m_slices_IndexFunc_core_Core_core_Core_b6f47 (x : ((List T_core_Core) × Int × (List Int) × Int × (List Int) × Int × Int × (List Int) × (List (List Int)) × Int)) : Option ((Int × (List Int) × Int × (List Int) × Int × Int × (List Int) × (List T_core_Core) × Int) ⊕ Unit) :=
  match x with
  | (q0, q1, q2, q3, q4, q5, q6, q7, q8, q9) =>
  (
  m_slices_IndexFunc_core_Core_core_Core_b6f47_L1 (q0, q1, q2, q3, q4, q5, q6, q7, q8, q9, 0) >>= fun (out : (Int × (List Int) × Int × (List Int) × Int × Int × (List Int) × (List T_core_Core) × Int) ⊕ Unit) =>
  match out with
  | .inl (v601, v602, v603, v604, v605, v606, v607, v608, v609) =>
    some (Sum.inl (v601, v602, v603, v604, v605, v606, v607, v608, v609))
  | .inr (_) =>
    some (Sum.inr ())
  )
  partial_fixpoint
def m_slices_ContainsFunc_core_Core_core_Core_b6f47 (x : ((List T_core_Core) × Int × (List Int) × Int × (List Int) × Int × Int × (List Int) × (List (List Int)) × Int)) : Option ((Int × (List Int) × Int × (List Int) × Int × Int × (List Int) × (List T_core_Core) × Bool) ⊕ Unit) :=
  match x with
  | (q0, q1, q2, q3, q4, q5, q6, q7, q8, q9) =>
  (
  m_slices_IndexFunc_core_Core_core_Core_b6f47 (q0, q1, q2, q3, q4, q5, q6, q7, q8, q9) >>= fun (out : (Int × (List Int) × Int × (List Int) × Int × Int × (List Int) × (List T_core_Core) × Int) ⊕ Unit) =>
  match out with
  | .inl (v1, v2, v3, v4, v5, v6, v7, v8, v9) =>
    some (Sum.inl (v1, v2, v3, v4, v5, v6, v7, v8, (decide (v9 ≥ 0))))
  | .inr (_) =>
    some (Sum.inr ())
  )
  partial_fixpoint
def m_core_within (x : (T_core_Core × (List (List Int)) × Int)) : Option Bool :=
  match x with
  | (p0, p1, p2) =>
  (if p2 > 0 then
    m_core_node ((⟨p0.kind, p0.shape, p0.buffer, p0.starts, p0.axis, p0.amount, p0.perm, p0.kids⟩ : T_core_Core), p1) >>= fun (v2 : Bool) =>
    some v2
  else
  some false
  ) >>= fun (v1 : Bool) =>
  if v1 = true then
    (
    m_slices_ContainsFunc_core_Core_core_Core_b6f47 (p0.kids, p0.kind, p0.shape, p0.buffer, p0.starts, p0.axis, p0.amount, p0.perm, p1, p2) >>= fun (out : (Int × (List Int) × Int × (List Int) × Int × Int × (List Int) × (List T_core_Core) × Bool) ⊕ Unit) =>
    match out with
    | .inl (v3, v4, v5, v6, v7, v8, v9, v10, v11) =>
      some (!v11)
    | .inr (_) =>
      some true
    )
  else
  some false
  partial_fixpoint
end
def P_core_within_1_b964f : (Int × (List Int) × Int × (List Int) × Int × Int × (List Int) × (List T_core_Core) × Int × (List Int) × Int × (List Int) × Int × Int × (List Int) × (List T_core_Core) × (List (List Int)) × Int) → Bool → Prop := fun x r => match x with
  | (q0, q1, q2, q3, q4, q5, q6, q7, q8, q9, q10, q11, q12, q13, q14, q15, q16, q17) => PC prog env 39 [(.dat (.agg [(intD q0), (.lst ((List.map intD) q1)), (intD q2), (.lst ((List.map intD) q3)), (intD q4), (intD q5), (.lst ((List.map intD) q6)), (.lst (T_core_Core.toDs q7))])), (.ptr 1 0), (.ptr 2 0)] [(.box [(intPV q8), (.dat (.lst ((List.map intD) q9))), (intPV q10), (.dat (.lst ((List.map intD) q11))), (intPV q12), (intPV q13), (.dat (.lst ((List.map intD) q14))), (.dat (.lst (T_core_Core.toDs q15)))]), (.box [(.dat (.lst ((List.map (fun l => Dat.lst ((List.map intD) l))) q16)))]), (.box [(intPV q17)])] (match r with | v5001 => (boolPV v5001)) (match r with | v5001 => [(.box [(intPV q8), (.dat (.lst ((List.map intD) q9))), (intPV q10), (.dat (.lst ((List.map intD) q11))), (intPV q12), (intPV q13), (.dat (.lst ((List.map intD) q14))), (.dat (.lst (T_core_Core.toDs q15)))]), (.box [(.dat (.lst ((List.map (fun l => Dat.lst ((List.map intD) l))) q16)))]), (.box [(intPV q17)]), (.box [(intPV q0), (.dat (.lst ((List.map intD) q1))), (intPV q2), (.dat (.lst ((List.map intD) q3))), (intPV q4), (intPV q5), (.dat (.lst ((List.map intD) q6))), (.dat (.lst (T_core_Core.toDs q7)))])])
def P_slices_IndexFunc_core_Core_core_Core_b6f47_L1 : ((List T_core_Core) × Int × (List Int) × Int × (List Int) × Int × Int × (List Int) × (List (List Int)) × Int × Int) → ((Int × (List Int) × Int × (List Int) × Int × Int × (List Int) × (List T_core_Core) × Int) ⊕ Unit) → Prop := fun x r => match x with
  | (q0, q1, q2, q3, q4, q5, q6, q7, q8, q9, v201) => ∀ st, prune 3 ((firstRegion (codeAt [1, 0, 1, 0, 0] (bodyOf f44))).bind (env.hint 44).keepAt) st = ⟨kp 19 [(0, (.dat (.lst (T_core_Core.toDs q0)))), (1, (.fn 39 [(.ptr 1 0), (.ptr 2 0)])), (7, (intPV (q0.length : Int))), (8, (intPV v201))], [(.box [(intPV q1), (.dat (.lst ((List.map intD) q2))), (intPV q3), (.dat (.lst ((List.map intD) q4))), (intPV q5), (intPV q6), (.dat (.lst ((List.map intD) q7))), (.dat (.lst (T_core_Core.toDs q0)))]), (.box [(.dat (.lst ((List.map (fun l => Dat.lst ((List.map intD) l))) q8)))]), (.box [(intPV q9)])]⟩ →
    RL prog env (env.hint 44) true (codeAt [1, 0, 1, 0, 0] (bodyOf f44)) 3 st (fun e s => match r with | .inl (v601, v602, v603, v604, v605, v606, v607, v608, v609) => e = .ret ∧ ∃ d, s = ⟨sl d 19 [(4, (intPV v609))], [(.box [(intPV q1), (.dat (.lst ((List.map intD) q2))), (intPV q3), (.dat (.lst ((List.map intD) q4))), (intPV q5), (intPV q6), (.dat (.lst ((List.map intD) q7))), (.dat (.lst (T_core_Core.toDs q0)))]), (.box [(.dat (.lst ((List.map (fun l => Dat.lst ((List.map intD) l))) q8)))]), (.box [(intPV q9)]), (.box [(intPV v601), (.dat (.lst ((List.map intD) v602))), (intPV v603), (.dat (.lst ((List.map intD) v604))), (intPV v605), (intPV v606), (.dat (.lst ((List.map intD) v607))), (.dat (.lst (T_core_Core.toDs v608)))])]⟩ | .inr (_) => e = .exit 0 ∧ ∃ d, s = ⟨sl d 19 [], [(.box [(intPV q1), (.dat (.lst ((List.map intD) q2))), (intPV q3), (.dat (.lst ((List.map intD) q4))), (intPV q5), (intPV q6), (.dat (.lst ((List.map intD) q7))), (.dat (.lst (T_core_Core.toDs q0)))]), (.box [(.dat (.lst ((List.map (fun l => Dat.lst ((List.map intD) l))) q8)))]), (.box [(intPV q9)])]⟩)
def P_slices_IndexFunc_core_Core_core_Core_b6f47 : ((List T_core_Core) × Int × (List Int) × Int × (List Int) × Int × Int × (List Int) × (List (List Int)) × Int) → ((Int × (List Int) × Int × (List Int) × Int × Int × (List Int) × (List T_core_Core) × Int) ⊕ Unit) → Prop := fun x r => match x with
  | (q0, q1, q2, q3, q4, q5, q6, q7, q8, q9) => PC prog env 44 [(.dat (.lst (T_core_Core.toDs q0))), (.fn 39 [(.ptr 1 0), (.ptr 2 0)])] [(.box [(intPV q1), (.dat (.lst ((List.map intD) q2))), (intPV q3), (.dat (.lst ((List.map intD) q4))), (intPV q5), (intPV q6), (.dat (.lst ((List.map intD) q7))), (.dat (.lst (T_core_Core.toDs q0)))]), (.box [(.dat (.lst ((List.map (fun l => Dat.lst ((List.map intD) l))) q8)))]), (.box [(intPV q9)])] (match r with | .inl (v5001, v5002, v5003, v5004, v5005, v5006, v5007, v5008, v5009) => (intPV v5009) | .inr (_) => (intPV (-1))) (match r with | .inl (v5001, v5002, v5003, v5004, v5005, v5006, v5007, v5008, v5009) => [(.box [(intPV q1), (.dat (.lst ((List.map intD) q2))), (intPV q3), (.dat (.lst ((List.map intD) q4))), (intPV q5), (intPV q6), (.dat (.lst ((List.map intD) q7))), (.dat (.lst (T_core_Core.toDs q0)))]), (.box [(.dat (.lst ((List.map (fun l => Dat.lst ((List.map intD) l))) q8)))]), (.box [(intPV q9)]), (.box [(intPV v5001), (.dat (.lst ((List.map intD) v5002))), (intPV v5003), (.dat (.lst ((List.map intD) v5004))), (intPV v5005), (intPV v5006), (.dat (.lst ((List.map intD) v5007))), (.dat (.lst (T_core_Core.toDs v5008)))])] | .inr (_) => [(.box [(intPV q1), (.dat (.lst ((List.map intD) q2))), (intPV q3), (.dat (.lst ((List.map intD) q4))), (intPV q5), (intPV q6), (.dat (.lst ((List.map intD) q7))), (.dat (.lst (T_core_Core.toDs q0)))]), (.box [(.dat (.lst ((List.map (fun l => Dat.lst ((List.map intD) l))) q8)))]), (.box [(intPV q9)])])
def P_slices_ContainsFunc_core_Core_core_Core_b6f47 : ((List T_core_Core) × Int × (List Int) × Int × (List Int) × Int × Int × (List Int) × (List (List Int)) × Int) → ((Int × (List Int) × Int × (List Int) × Int × Int × (List Int) × (List T_core_Core) × Bool) ⊕ Unit) → Prop := fun x r => match x with
  | (q0, q1, q2, q3, q4, q5, q6, q7, q8, q9) => PC prog env 38 [(.dat (.lst (T_core_Core.toDs q0))), (.fn 39 [(.ptr 1 0), (.ptr 2 0)])] [(.box [(intPV q1), (.dat (.lst ((List.map intD) q2))), (intPV q3), (.dat (.lst ((List.map intD) q4))), (intPV q5), (intPV q6), (.dat (.lst ((List.map intD) q7))), (.dat (.lst (T_core_Core.toDs q0)))]), (.box [(.dat (.lst ((List.map (fun l => Dat.lst ((List.map intD) l))) q8)))]), (.box [(intPV q9)])] (match r with | .inl (v5001, v5002, v5003, v5004, v5005, v5006, v5007, v5008, v5009) => (boolPV v5009) | .inr (_) => (boolPV false)) (match r with | .inl (v5001, v5002, v5003, v5004, v5005, v5006, v5007, v5008, v5009) => [(.box [(intPV q1), (.dat (.lst ((List.map intD) q2))), (intPV q3), (.dat (.lst ((List.map intD) q4))), (intPV q5), (intPV q6), (.dat (.lst ((List.map intD) q7))), (.dat (.lst (T_core_Core.toDs q0)))]), (.box [(.dat (.lst ((List.map (fun l => Dat.lst ((List.map intD) l))) q8)))]), (.box [(intPV q9)]), (.box [(intPV v5001), (.dat (.lst ((List.map intD) v5002))), (intPV v5003), (.dat (.lst ((List.map intD) v5004))), (intPV v5005), (intPV v5006), (.dat (.lst ((List.map intD) v5007))), (.dat (.lst (T_core_Core.toDs v5008)))])] | .inr (_) => [(.box [(intPV q1), (.dat (.lst ((List.map intD) q2))), (intPV q3), (.dat (.lst ((List.map intD) q4))), (intPV q5), (intPV q6), (.dat (.lst ((List.map intD) q7))), (.dat (.lst (T_core_Core.toDs q0)))]), (.box [(.dat (.lst ((List.map (fun l => Dat.lst ((List.map intD) l))) q8)))]), (.box [(intPV q9)])])
def P_core_within : (T_core_Core × (List (List Int)) × Int) → Bool → Prop := fun x r => match x, r with
  | (p0, p1, p2), r0 => ∀ H, PC prog env 25 ([(T_core_Core.ex p0), (.lst ((List.map (fun l => Dat.lst ((List.map intD) l))) p1)), (intD p2)].map .dat) H (boolPV r0) H
theorem g_core_within_1_b964f : (∀ x r, m_core_within_1_b964f x = some r → P_core_within_1_b964f x r) ∧ (∀ x r, m_core_within x = some r → P_core_within x r) ∧ (∀ x r, m_slices_ContainsFunc_core_Core_core_Core_b6f47 x = some r → P_slices_ContainsFunc_core_Core_core_Core_b6f47 x r) ∧ (∀ x r, m_slices_IndexFunc_core_Core_core_Core_b6f47 x = some r → P_slices_IndexFunc_core_Core_core_Core_b6f47 x r) ∧ (∀ x r, m_slices_IndexFunc_core_Core_core_Core_b6f47_L1 x = some r → P_slices_IndexFunc_core_Core_core_Core_b6f47_L1 x r) := by
  refine m_core_within_1_b964f.mutual_partial_correctness P_core_within_1_b964f P_core_within P_slices_ContainsFunc_core_Core_core_Core_b6f47 P_slices_IndexFunc_core_Core_core_Core_b6f47 P_slices_IndexFunc_core_Core_core_Core_b6f47_L1 ?_ ?_ ?_ ?_ ?_
  · intro m_core_within w_core_within x r hm
    unfold P_core_within_1_b964f
    obtain ⟨q0, q1, q2, q3, q4, q5, q6, q7, q8, q9, q10, q11, q12, q13, q14, q15, q16, q17⟩ := x
    refine PC_sxB (fn := f39) (by kernel_rfl) (by kernel_rfl) rfl ?_
    refine R_seq ?_
    refine R_G ?_
    refine G_run 2 ?_
    refine G_end ?_
    refine R_seq ?_
    refine R_G ?_
    refine G_run 4 ?_
    obtain ⟨v1, hx, hm⟩ := bind_inv hm
    have hq := w_core_within _ _ hx []
    refine G_callP hq ?_
    refine G_run 2 ?_
    refine G_end ?_
    refine R_ret ?_
    obtain rfl := inj1 hm
    exact ⟨trivial, fin_body (by kernel_rfl) (by kernel_rfl)⟩
  · intro m_slices_ContainsFunc_core_Core_core_Core_b6f47 w_slices_ContainsFunc_core_Core_core_Core_b6f47 x r0 hm
    unfold P_core_within
    obtain ⟨p0, p1, p2⟩ := x
    intro H
    refine PC_sx (ds := [(T_core_Core.ex p0), (.lst ((List.map (fun l => Dat.lst ((List.map intD) l))) p1)), (intD p2)]) (fn := f25) (by kernel_rfl) (by kernel_rfl) rfl ?_ (by kernel_rfl)
    refine R_seq ?_
    refine R_G ?_
    refine G_run 4 ?_
    refine G_end ?_
    refine R_seq ?_
    refine R_GN ?_
    refine G_run 3 ?_
    obtain ⟨v1, hs, hm⟩ := bind_inv hm
    refine G_cut (j := 7) (fun d => ⟨sl d 21 [(0, (.dat (.agg [(intD p0.kind), (.lst ((List.map intD) p0.shape)), (intD p0.buffer), (.lst ((List.map intD) p0.starts)), (intD p0.axis), (intD p0.amount), (.lst ((List.map intD) p0.perm)), (.lst (T_core_Core.toDs p0.kids))]))), (1, (.dat (.lst ((List.map (fun l => Dat.lst ((List.map intD) l))) p1)))), (2, (intPV p2)), (3, (.ptr 0 0)), (4, (.ptr 1 0)), (5, (.ptr 2 0)), (6, (boolPV false)), (7, (intPV p2)), (8, (boolPV (decide (p2 > 0)))), (13, (boolPV v1))], [(.box [(intPV p0.kind), (.dat (.lst ((List.map intD) p0.shape))), (intPV p0.buffer), (.dat (.lst ((List.map intD) p0.starts))), (intPV p0.axis), (intPV p0.amount), (.dat (.lst ((List.map intD) p0.perm))), (.dat (.lst (T_core_Core.toDs p0.kids)))]), (.box [(.dat (.lst ((List.map (fun l => Dat.lst ((List.map intD) l))) p1)))]), (.box [(intPV p2)])]⟩) (fun d => ?_) (fun hJ => ?_)
    · clear hs
      refine G_run 1 ?_
      refine G_split (p := v1 = true) 14 (bool_dec _) (fun hc => ?_) (fun hc => ?_)
      · replace hm := pos_inv hc hm
        refine G_run 3 ?_
        obtain ⟨out, hx, hm⟩ := bind_inv hm
        rcases out with ⟨v3, v4, v5, v6, v7, v8, v9, v10, v11⟩ | _
        · have hq := w_slices_ContainsFunc_core_Core_core_Core_b6f47 _ _ hx
          dsimp only [P_slices_ContainsFunc_core_Core_core_Core_b6f47] at hq
          refine G_callB hq ?_
          refine G_run 3 ?_
          refine G_end ⟨by kernel_rfl, ?_⟩
          refine R_ret ?_
          obtain rfl := inj1 hm
          exact ⟨trivial, fin_pure (by kernel_rfl)⟩
        · have hq := w_slices_ContainsFunc_core_Core_core_Core_b6f47 _ _ hx
          dsimp only [P_slices_ContainsFunc_core_Core_core_Core_b6f47] at hq
          refine G_callB hq ?_
          refine G_run 3 ?_
          refine G_end ⟨by kernel_rfl, ?_⟩
          refine R_ret ?_
          obtain rfl := inj1 hm
          exact ⟨trivial, fin_pure (by kernel_rfl)⟩
      replace hm := neg_inv hc hm
      refine G_run 7 ?_
      refine G_end ⟨by kernel_rfl, ?_⟩
      refine R_ret ?_
      obtain rfl := inj1 hm
      exact ⟨trivial, fin_pure (by kernel_rfl)⟩
    replace hm := hs
    clear hs
    refine G_split (p := p2 > 0) 9 (rfl) (fun hc => ?_) (fun hc => ?_)
    · replace hm := pos_inv hc hm
      refine G_run 2 ?_
      obtain ⟨v2, hx, hm⟩ := bind_inv hm
      have hq := w_core_node _ _ hx []
      refine G_callP hq ?_
      refine G_run 1 ?_
      obtain rfl := inj1 hm
      exact hJ _ _ (by kernel_rfl) (by kernel_rfl)
    replace hm := neg_inv hc hm
    refine G_run 4 ?_
    obtain rfl := inj1 hm
    exact hJ _ _ (by kernel_rfl) (by kernel_rfl)
  · intro m_slices_IndexFunc_core_Core_core_Core_b6f47 w_slices_IndexFunc_core_Core_core_Core_b6f47 x r hm
    unfold P_slices_ContainsFunc_core_Core_core_Core_b6f47
    obtain ⟨q0, q1, q2, q3, q4, q5, q6, q7, q8, q9⟩ := x
    refine PC_sxB (fn := f38) (by kernel_rfl) (by kernel_rfl) rfl ?_
    refine R_seq ?_
    refine R_G ?_
    refine G_run 1 ?_
    refine G_end ?_
    refine R_seq ?_
    refine R_G ?_
    refine G_run 2 ?_
    obtain ⟨out, hx, hm⟩ := bind_inv hm
    rcases out with ⟨v1, v2, v3, v4, v5, v6, v7, v8, v9⟩ | _
    · have hq := w_slices_IndexFunc_core_Core_core_Core_b6f47 _ _ hx
      dsimp only [P_slices_IndexFunc_core_Core_core_Core_b6f47] at hq
      refine G_callB hq ?_
      refine G_run 2 ?_
      refine G_end ?_
      refine R_ret ?_
      obtain rfl := inj1 hm
      exact ⟨trivial, fin_body (by kernel_rfl) (by kernel_rfl)⟩
    · have hq := w_slices_IndexFunc_core_Core_core_Core_b6f47 _ _ hx
      dsimp only [P_slices_IndexFunc_core_Core_core_Core_b6f47] at hq
      refine G_callB hq ?_
      refine G_run 2 ?_
      refine G_end ?_
      refine R_ret ?_
      obtain rfl := inj1 hm
      exact ⟨trivial, fin_body (by kernel_rfl) (by kernel_rfl)⟩
  · intro m_slices_IndexFunc_core_Core_core_Core_b6f47_L1 w_slices_IndexFunc_core_Core_core_Core_b6f47_L1 x r hm
    unfold P_slices_IndexFunc_core_Core_core_Core_b6f47
    obtain ⟨q0, q1, q2, q3, q4, q5, q6, q7, q8, q9⟩ := x
    refine PC_sxB (fn := f44) (by kernel_rfl) (by kernel_rfl) rfl ?_
    refine R_seq ?_
    refine R_G ?_
    refine G_run 1 ?_
    refine G_end ?_
    refine R_seq ?_
    refine R_seq ?_
    refine R_G ?_
    refine G_run 1 ?_
    refine I_len T_core_Core.toD q0 (es := T_core_Core.toDs q0) (T_core_Core.toDs_eq _) ?_
    refine G_run 1 ?_
    refine G_end ?_
    refine R_block ?_
    obtain ⟨out, hs, hm⟩ := bind_inv hm
    refine R_loop ?_
    rcases out with ⟨v601, v602, v603, v604, v605, v606, v607, v608, v609⟩ | _
    · refine RL_use (w_slices_IndexFunc_core_Core_core_Core_b6f47_L1 _ _ hs) (by kernel_rfl) ?_
      clear hs
      intro e s hp
      obtain ⟨rfl, d, rfl⟩ := hp
      obtain rfl := inj1 hm
      exact ⟨trivial, fin_body (by kernel_rfl) (by kernel_rfl)⟩
    · refine RL_use (w_slices_IndexFunc_core_Core_core_Core_b6f47_L1 _ _ hs) (by kernel_rfl) ?_
      clear hs
      intro e s hp
      obtain ⟨rfl, d, rfl⟩ := hp
      refine R_seq ?_
      refine R_G ?_
      refine G_run 1 ?_
      refine G_end ?_
      refine R_ret ?_
      obtain rfl := inj1 hm
      exact ⟨trivial, fin_body (by kernel_rfl) (by kernel_rfl)⟩
  · intro m_core_within_1_b964f m_slices_IndexFunc_core_Core_core_Core_b6f47_L1 w_core_within_1_b964f w_slices_IndexFunc_core_Core_core_Core_b6f47_L1 x r hm
    unfold P_slices_IndexFunc_core_Core_core_Core_b6f47_L1
    obtain ⟨q0, q1, q2, q3, q4, q5, q6, q7, q8, q9, v201⟩ := x
    intro st hst
    refine RL_at hst ?_
    clear hst
    refine R_seq ?_
    refine R_G ?_
    refine G_run 1 ?_
    refine G_end ?_
    refine R_seq ?_
    refine R_ifp (p := v201 < (q0.length : Int)) (rfl) (fun hc => ?_) (fun hc => ?_)
    · replace hm := pos_inv hc hm
      refine R_skip ?_
      refine R_seq ?_
      refine R_block ?_
      refine R_seq ?_
      refine R_G ?_
      refine G_run 2 ?_
      refine G_end ?_
      refine R_seq ?_
      refine R_G ?_
      refine G_run 3 ?_
      obtain ⟨v610, hx, hm⟩ := bind_inv hm
      refine I_idx 8 T_core_Core.toD q0 v201 v610 (es := T_core_Core.toDs q0) (d := (T_core_Core.ex v610)) (T_core_Core.toDs_eq _) hx (T_core_Core.toD_eq v610) rfl ?_
      refine G_run 1 ?_
      obtain ⟨v611, hx, hm⟩ := bind_inv hm
      have hq := w_core_within_1_b964f _ _ hx
      dsimp only [P_core_within_1_b964f] at hq
      refine G_callB hq ?_
      refine G_end ?_
      refine R_ifp (p := v611 = true) (bool_dec _) (fun hc => ?_) (fun hc => ?_)
      · replace hm := pos_inv hc hm
        refine R_seq ?_
        refine R_G ?_
        refine G_run 2 ?_
        refine G_end ?_
        refine R_ret ?_
        obtain rfl := inj1 hm
        exact ⟨rfl, cut_leaf (by kernel_rfl)⟩
      replace hm := neg_inv hc hm
      refine R_skip ?_
      refine R_G ?_
      refine G_run 2 ?_
      refine G_end ?_
      exact w_slices_IndexFunc_core_Core_core_Core_b6f47_L1 _ _ hm _ (by kernel_rfl)
    replace hm := neg_inv hc hm
    refine R_exit ?_
    obtain rfl := inj1 hm
    exact ⟨rfl, cut_leaf (by kernel_rfl)⟩
theorem w_core_within_1_b964f : ∀ x r, m_core_within_1_b964f x = some r → P_core_within_1_b964f x r := g_core_within_1_b964f.1
theorem w_core_within : ∀ x r, m_core_within x = some r → P_core_within x r := g_core_within_1_b964f.2.1
theorem w_slices_ContainsFunc_core_Core_core_Core_b6f47 : ∀ x r, m_slices_ContainsFunc_core_Core_core_Core_b6f47 x = some r → P_slices_ContainsFunc_core_Core_core_Core_b6f47 x r := g_core_within_1_b964f.2.2.1
theorem w_slices_IndexFunc_core_Core_core_Core_b6f47 : ∀ x r, m_slices_IndexFunc_core_Core_core_Core_b6f47 x = some r → P_slices_IndexFunc_core_Core_core_Core_b6f47 x r := g_core_within_1_b964f.2.2.2.1
theorem w_slices_IndexFunc_core_Core_core_Core_b6f47_L1 : ∀ x r, m_slices_IndexFunc_core_Core_core_Core_b6f47_L1 x = some r → P_slices_IndexFunc_core_Core_core_Core_b6f47_L1 x r := g_core_within_1_b964f.2.2.2.2
end Go.Proofs.Tryd
namespace Go.Proofs.Tryd
open Go Go.Pm
set_option linter.unusedVariables false
set_option maxRecDepth 2000
def m_core_Right (x : (T_core_Core × (List (List Int)))) : Option Bool :=
  match x with
  | (p0, p1) =>
  m_core_within ((⟨p0.kind, p0.shape, p0.buffer, p0.starts, p0.axis, p0.amount, p0.perm, p0.kids⟩ : T_core_Core), p1, 300) >>= fun (v1 : Bool) =>
  some v1
def P_core_Right : (T_core_Core × (List (List Int))) → Bool → Prop := fun x r => match x, r with
  | (p0, p1), r0 => ∀ H, PC prog env 9 ([(T_core_Core.ex p0), (.lst ((List.map (fun l => Dat.lst ((List.map intD) l))) p1))].map .dat) H (boolPV r0) H
theorem w_core_Right : ∀ x r, m_core_Right x = some r → P_core_Right x r := by
  intro x r0 hm
  unfold m_core_Right at hm
  unfold P_core_Right
  obtain ⟨p0, p1⟩ := x
  intro H
  refine PC_sx (ds := [(T_core_Core.ex p0), (.lst ((List.map (fun l => Dat.lst ((List.map intD) l))) p1))]) (fn := f9) (by kernel_rfl) (by kernel_rfl) rfl ?_ (by kernel_rfl)
  refine R_seq ?_
  refine R_G ?_
  refine G_run 2 ?_
  refine G_end ?_
  refine R_seq ?_
  refine R_G ?_
  refine G_run 2 ?_
  obtain ⟨v1, hx, hm⟩ := bind_inv hm
  have hq := w_core_within _ _ hx []
  refine G_callP hq ?_
  refine G_run 1 ?_
  refine G_end ?_
  refine R_ret ?_
  obtain rfl := inj1 hm
  exact ⟨trivial, fin_pure (by kernel_rfl)⟩
end Go.Proofs.Tryd
namespace Go.Proofs.Tryd
open Go Go.Pm
set_option linter.unusedVariables false
set_option maxRecDepth 2000
mutual
def m_ref14_Depth_L1 (x : (T_ref14_Core × Int × Int)) : Option (Int) :=
  match x with
  | (p0, v201, v202) =>
  if v202 < (p0.kids.length : Int) then
    idx p0.kids v202 >>= fun v602 =>
    m_ref14_Depth v602 >>= fun (v603 : Int) =>
    m_ref14_Depth_L1 (p0, (if v201 < v603 then v603 else v201), (W (v202 + 1)))
  else
  some v201
  partial_fixpoint
def m_ref14_Depth (x : T_ref14_Core) : Option Int :=
  match x with
  | p0 =>
  m_ref14_Depth_L1 (p0, 0, 0) >>= fun (v601 : Int) =>
  some (W (v601 + 1))
  partial_fixpoint
end
def P_ref14_Depth_L1 : (T_ref14_Core × Int × Int) → Int → Prop := fun x r => match x with
  | (p0, v201, v202) => ∀ st, prune 1 ((firstRegion (codeAt [1, 1, 0, 1, 0, 0] (bodyOf f26))).bind (env.hint 26).keepAt) st = ⟨kp 22 [(1, (.ptr 0 0)), (3, (intPV v201)), (4, (intPV v202))], [(.box [(intPV p0.kind), (.dat (.lst ((List.map intD) p0.shape))), (intPV p0.buffer), (.dat (.lst ((List.map intD) p0.starts))), (intPV p0.axis), (intPV p0.amount), (.dat (.lst ((List.map intD) p0.perm))), (.dat (.lst (T_ref14_Core.toDs p0.kids)))])]⟩ →
    RL prog env (env.hint 26) true (codeAt [1, 1, 0, 1, 0, 0] (bodyOf f26)) 1 st (fun e s => match r with | v601 => e = .exit 0 ∧ ∃ d, s = ⟨sl d 22 [(3, (intPV v601))], [(.box [(intPV p0.kind), (.dat (.lst ((List.map intD) p0.shape))), (intPV p0.buffer), (.dat (.lst ((List.map intD) p0.starts))), (intPV p0.axis), (intPV p0.amount), (.dat (.lst ((List.map intD) p0.perm))), (.dat (.lst (T_ref14_Core.toDs p0.kids)))])]⟩)
def P_ref14_Depth : T_ref14_Core → Int → Prop := fun x r => match x, r with
  | p0, r0 => ∀ H, PC prog env 26 ([(T_ref14_Core.ex p0)].map .dat) H (intPV r0) H
theorem g_ref14_Depth_L1 : (∀ x r, m_ref14_Depth_L1 x = some r → P_ref14_Depth_L1 x r) ∧ (∀ x r, m_ref14_Depth x = some r → P_ref14_Depth x r) := by
  refine m_ref14_Depth_L1.mutual_partial_correctness P_ref14_Depth_L1 P_ref14_Depth ?_ ?_
  · intro m_ref14_Depth_L1 m_ref14_Depth w_ref14_Depth_L1 w_ref14_Depth x r hm
    unfold P_ref14_Depth_L1
    obtain ⟨p0, v201, v202⟩ := x
    intro st hst
    refine RL_at hst ?_
    clear hst
    refine R_seq ?_
    refine R_seq ?_
    refine R_G ?_
    refine G_run 3 ?_
    refine I_len T_ref14_Core.toD p0.kids (es := T_ref14_Core.toDs p0.kids) (T_ref14_Core.toDs_eq _) ?_
    refine G_run 1 ?_
    refine G_end ?_
    refine R_ifp (p := v202 < (p0.kids.length : Int)) (rfl) (fun hc => ?_) (fun hc => ?_)
    · replace hm := pos_inv hc hm
      refine R_skip ?_
      refine R_seq ?_
      refine R_block ?_
      refine R_G ?_
      refine G_run 4 ?_
      obtain ⟨v602, hx, hm⟩ := bind_inv hm
      refine I_idx 8 T_ref14_Core.toD p0.kids v202 v602 (es := T_ref14_Core.toDs p0.kids) (d := (T_ref14_Core.ex v602)) (T_ref14_Core.toDs_eq _) hx (T_ref14_Core.toD_eq v602) rfl ?_
      refine G_run 1 ?_
      obtain ⟨v603, hx, hm⟩ := bind_inv hm
      have hq := w_ref14_Depth _ _ hx []
      refine G_callP hq ?_
      refine G_semN rfl (by kernel_rfl) (fun _ => E_max (k := .i64) (m := v201) (n := v603) rfl (by kernel_rfl) (by kernel_rfl)) ?_
      refine G_run 1 ?_
      refine G_end ?_
      refine R_G ?_
      refine G_run 3 ?_
      refine G_end ?_
      exact w_ref14_Depth_L1 _ _ hm _ (by kernel_rfl)
    replace hm := neg_inv hc hm
    refine R_exit ?_
    obtain rfl := inj1 hm
    exact ⟨rfl, cut_leaf (by kernel_rfl)⟩
  · intro m_ref14_Depth_L1 w_ref14_Depth_L1 p0 r0 hm
    unfold P_ref14_Depth
    intro H
    refine PC_sx (ds := [(T_ref14_Core.ex p0)]) (fn := f26) (by kernel_rfl) (by kernel_rfl) rfl ?_ (by kernel_rfl)
    refine R_seq ?_
    refine R_G ?_
    refine G_run 2 ?_
    refine G_end ?_
    refine R_seq ?_
    refine R_G ?_
    refine G_run 1 ?_
    refine G_end ?_
    refine R_seq ?_
    refine R_seq ?_
    refine R_G ?_
    refine G_run 1 ?_
    refine G_end ?_
    refine R_block ?_
    obtain ⟨v601, hs, hm⟩ := bind_inv hm
    refine R_loop ?_
    refine RL_use (w_ref14_Depth_L1 _ _ hs) (by kernel_rfl) ?_
    clear hs
    intro e s hp
    obtain ⟨rfl, d, rfl⟩ := hp
    refine R_seq ?_
    refine R_G ?_
    refine G_run 3 ?_
    refine G_end ?_
    refine R_ret ?_
    obtain rfl := inj1 hm
    exact ⟨trivial, fin_pure (by kernel_rfl)⟩
theorem w_ref14_Depth_L1 : ∀ x r, m_ref14_Depth_L1 x = some r → P_ref14_Depth_L1 x r := g_ref14_Depth_L1.1
theorem w_ref14_Depth : ∀ x r, m_ref14_Depth x = some r → P_ref14_Depth x r := g_ref14_Depth_L1.2
end Go.Proofs.Tryd
namespace Go.Proofs.Tryd
open Go Go.Pm
set_option linter.unusedVariables false
set_option maxRecDepth 2000
def m_ref01_Product_L1 (x : ((List Int) × Bool × Int)) : Option (Unit ⊕ Bool) :=
  match x with
  | (p0, v201, v202) =>
  if v202 < (p0.length : Int) then
    idx p0 v202 >>= fun v602 =>
    if v602 < 0 then
      some (Sum.inl ())
    else
    if v201 = true then
      m_ref01_Product_L1 (p0, true, (W (v202 + 1)))
    else
    idx p0 v202 >>= fun v603 =>
    m_ref01_Product_L1 (p0, (v603 == 0), (W (v202 + 1)))
  else
  some (Sum.inr v201)
  partial_fixpoint
def P_ref01_Product_L1 : ((List Int) × Bool × Int) → (Unit ⊕ Bool) → Prop := fun x r => match x with
  | (p0, v201, v202) => ∀ st, prune 0 ((firstRegion (codeAt [1, 1, 0, 1, 0, 0] (bodyOf f36))).bind (env.hint 36).keepAt) st = ⟨kp 55 [(0, (.dat (.lst ((List.map intD) p0)))), (4, (boolPV v201)), (5, (intPV v202))], []⟩ →
    RL prog env (env.hint 36) true (codeAt [1, 1, 0, 1, 0, 0] (bodyOf f36)) 0 st (fun e s => match r with | .inl _ => e = .ret ∧ ∃ d, s = ⟨sl d 55 [(2, (intPV 0)), (3, (intPV 6))], []⟩ | .inr (v601) => e = .exit 0 ∧ ∃ d, s = ⟨sl d 55 [(0, (.dat (.lst ((List.map intD) p0)))), (4, (boolPV v601))], []⟩)
theorem w_ref01_Product_L1 : ∀ x r, m_ref01_Product_L1 x = some r → P_ref01_Product_L1 x r := by
  refine m_ref01_Product_L1.partial_correctness _ (fun m_ref01_Product_L1 w_ref01_Product_L1 x r hm => ?_)
  unfold P_ref01_Product_L1
  obtain ⟨p0, v201, v202⟩ := x
  intro st hst
  refine RL_at hst ?_
  clear hst
  refine R_seq ?_
  refine R_seq ?_
  refine R_G ?_
  refine G_run 2 ?_
  refine I_len intD p0 (es := (List.map intD) p0) rfl ?_
  refine G_run 1 ?_
  refine G_end ?_
  refine R_ifp (p := v202 < (p0.length : Int)) (rfl) (fun hc => ?_) (fun hc => ?_)
  · replace hm := pos_inv hc hm
    refine R_skip ?_
    refine R_seq ?_
    refine R_block ?_
    refine R_seq ?_
    refine R_seq ?_
    refine R_G ?_
    refine G_run 2 ?_
    obtain ⟨v602, hx, hm⟩ := bind_inv hm
    refine I_idx 1 intD p0 v202 v602 (es := (List.map intD) p0) (d := (intD v602)) rfl hx rfl rfl ?_
    refine G_run 2 ?_
    refine G_end ?_
    refine R_ifp (p := v602 < 0) (rfl) (fun hc => ?_) (fun hc => ?_)
    · replace hm := pos_inv hc hm
      refine R_seq ?_
      refine R_G ?_
      refine G_run 2 ?_
      refine G_end ?_
      refine R_ret ?_
      obtain rfl := inj1 hm
      exact ⟨rfl, cut_leaf (by kernel_rfl)⟩
    replace hm := neg_inv hc hm
    refine R_skip ?_
    refine R_G ?_
    refine G_run 2 ?_
    refine G_split (p := v201 = true) 21 (bool_dec _) (fun hc => ?_) (fun hc => ?_)
    · replace hm := pos_inv hc hm
      refine G_run 7 ?_
      refine G_end ?_
      refine R_G ?_
      refine G_run 3 ?_
      refine G_end ?_
      exact w_ref01_Product_L1 _ _ hm _ (by kernel_rfl)
    replace hm := neg_inv hc hm
    refine G_run 2 ?_
    obtain ⟨v603, hx, hm⟩ := bind_inv hm
    refine I_idx 1 intD p0 v202 v603 (es := (List.map intD) p0) (d := (intD v603)) rfl hx rfl rfl ?_
    refine G_run 4 ?_
    refine G_end ?_
    refine R_G ?_
    refine G_run 3 ?_
    refine G_end ?_
    exact w_ref01_Product_L1 _ _ hm _ (by kernel_rfl)
  replace hm := neg_inv hc hm
  refine R_exit ?_
  obtain rfl := inj1 hm
  exact ⟨rfl, cut_leaf (by kernel_rfl)⟩
def m_ref01_Product_L2 (x : ((List Int) × Bool × Int)) : Option (Unit ⊕ Unit) :=
  match x with
  | (p0, v601, v804) =>
  if v804 < (p0.length : Int) then
    idx p0 v804 >>= fun v1204 =>
    if v1204 > 65536 then
      some (Sum.inl ())
    else
    m_ref01_Product_L2 (p0, v601, (W (v804 + 1)))
  else
  some (Sum.inr ())
  partial_fixpoint
def P_ref01_Product_L2 : ((List Int) × Bool × Int) → (Unit ⊕ Unit) → Prop := fun x r => match x with
  | (p0, v601, v804) => ∀ st, prune 0 ((firstRegion (codeAt [1, 1, 1, 0, 1, 0, 0] (bodyOf f36))).bind (env.hint 36).keepAt) st = ⟨kp 55 [(0, (.dat (.lst ((List.map intD) p0)))), (4, (boolPV v601)), (6, (intPV v804))], []⟩ →
    RL prog env (env.hint 36) true (codeAt [1, 1, 1, 0, 1, 0, 0] (bodyOf f36)) 0 st (fun e s => match r with | .inl _ => e = .ret ∧ ∃ d, s = ⟨sl d 55 [(2, (intPV 0)), (3, (intPV 7))], []⟩ | .inr (_) => e = .exit 2 ∧ ∃ d, s = ⟨sl d 55 [(0, (.dat (.lst ((List.map intD) p0)))), (4, (boolPV v601))], []⟩)
theorem w_ref01_Product_L2 : ∀ x r, m_ref01_Product_L2 x = some r → P_ref01_Product_L2 x r := by
  refine m_ref01_Product_L2.partial_correctness _ (fun m_ref01_Product_L2 w_ref01_Product_L2 x r hm => ?_)
  unfold P_ref01_Product_L2
  obtain ⟨p0, v601, v804⟩ := x
  intro st hst
  refine RL_at hst ?_
  clear hst
  refine R_seq ?_
  refine R_seq ?_
  refine R_G ?_
  refine G_run 2 ?_
  refine I_len intD p0 (es := (List.map intD) p0) rfl ?_
  refine G_run 1 ?_
  refine G_end ?_
  refine R_ifp (p := v804 < (p0.length : Int)) (rfl) (fun hc => ?_) (fun hc => ?_)
  · replace hm := pos_inv hc hm
    refine R_skip ?_
    refine R_seq ?_
    refine R_block ?_
    refine R_seq ?_
    refine R_G ?_
    refine G_run 2 ?_
    obtain ⟨v1204, hx, hm⟩ := bind_inv hm
    refine I_idx 1 intD p0 v804 v1204 (es := (List.map intD) p0) (d := (intD v1204)) rfl hx rfl rfl ?_
    refine G_run 2 ?_
    refine G_end ?_
    refine R_ifp (p := v1204 > 65536) (rfl) (fun hc => ?_) (fun hc => ?_)
    · replace hm := pos_inv hc hm
      refine R_seq ?_
      refine R_G ?_
      refine G_run 2 ?_
      refine G_end ?_
      refine R_ret ?_
      obtain rfl := inj1 hm
      exact ⟨rfl, cut_leaf (by kernel_rfl)⟩
    replace hm := neg_inv hc hm
    refine R_skip ?_
    refine R_G ?_
    refine G_run 3 ?_
    refine G_end ?_
    exact w_ref01_Product_L2 _ _ hm _ (by kernel_rfl)
  replace hm := neg_inv hc hm
  refine R_exit ?_
  obtain rfl := inj1 hm
  exact ⟨rfl, cut_leaf (by kernel_rfl)⟩
def m_ref01_Product_L3 (x : ((List Int) × Int × Int)) : Option (Unit ⊕ Int) :=
  match x with
  | (p0, v1405, v1406) =>
  if v1406 < (p0.length : Int) then
    idx p0 v1406 >>= fun v1806 =>
    if (W (v1405 * v1806)) > 65536 then
      some (Sum.inl ())
    else
    m_ref01_Product_L3 (p0, (W (v1405 * v1806)), (W (v1406 + 1)))
  else
  some (Sum.inr v1405)
  partial_fixpoint
def P_ref01_Product_L3 : ((List Int) × Int × Int) → (Unit ⊕ Int) → Prop := fun x r => match x with
  | (p0, v1405, v1406) => ∀ st, prune 0 ((firstRegion (codeAt [1, 1, 1, 1, 1, 1, 0, 1, 0, 0] (bodyOf f36))).bind (env.hint 36).keepAt) st = ⟨kp 55 [(0, (.dat (.lst ((List.map intD) p0)))), (7, (intPV v1405)), (8, (intPV v1406))], []⟩ →
    RL prog env (env.hint 36) true (codeAt [1, 1, 1, 1, 1, 1, 0, 1, 0, 0] (bodyOf f36)) 0 st (fun e s => match r with | .inl _ => e = .ret ∧ ∃ d, s = ⟨sl d 55 [(2, (intPV 0)), (3, (intPV 7))], []⟩ | .inr (v1805) => e = .exit 4 ∧ ∃ d, s = ⟨sl d 55 [(7, (intPV v1805))], []⟩)
theorem w_ref01_Product_L3 : ∀ x r, m_ref01_Product_L3 x = some r → P_ref01_Product_L3 x r := by
  refine m_ref01_Product_L3.partial_correctness _ (fun m_ref01_Product_L3 w_ref01_Product_L3 x r hm => ?_)
  unfold P_ref01_Product_L3
  obtain ⟨p0, v1405, v1406⟩ := x
  intro st hst
  refine RL_at hst ?_
  clear hst
  refine R_seq ?_
  refine R_seq ?_
  refine R_G ?_
  refine G_run 2 ?_
  refine I_len intD p0 (es := (List.map intD) p0) rfl ?_
  refine G_run 1 ?_
  refine G_end ?_
  refine R_ifp (p := v1406 < (p0.length : Int)) (rfl) (fun hc => ?_) (fun hc => ?_)
  · replace hm := pos_inv hc hm
    refine R_skip ?_
    refine R_seq ?_
    refine R_block ?_
    refine R_seq ?_
    refine R_G ?_
    refine G_run 3 ?_
    obtain ⟨v1806, hx, hm⟩ := bind_inv hm
    refine I_idx 1 intD p0 v1406 v1806 (es := (List.map intD) p0) (d := (intD v1806)) rfl hx rfl rfl ?_
    refine G_run 3 ?_
    refine G_end ?_
    refine R_seq ?_
    refine R_G ?_
    refine G_run 2 ?_
    refine G_end ?_
    refine R_ifp (p := (W (v1405 * v1806)) > 65536) (rfl) (fun hc => ?_) (fun hc => ?_)
    · replace hm := pos_inv hc hm
      refine R_seq ?_
      refine R_G ?_
      refine G_run 2 ?_
      refine G_end ?_
      refine R_ret ?_
      obtain rfl := inj1 hm
      exact ⟨rfl, cut_leaf (by kernel_rfl)⟩
    replace hm := neg_inv hc hm
    refine R_skip ?_
    refine R_G ?_
    refine G_run 3 ?_
    refine G_end ?_
    exact w_ref01_Product_L3 _ _ hm _ (by kernel_rfl)
  replace hm := neg_inv hc hm
  refine R_exit ?_
  obtain rfl := inj1 hm
  exact ⟨rfl, cut_leaf (by kernel_rfl)⟩
def m_ref01_Product (x : (List Int)) : Option (Int × Int) :=
  match x with
  | p0 =>
  (
  m_ref01_Product_L1 (p0, false, 0) >>= fun (out : Unit ⊕ Bool) =>
  match out with
  | .inl _ =>
    some (0, 6)
  | .inr (v601) =>
    (
    m_ref01_Product_L2 (p0, v601, 0) >>= fun (out : Unit ⊕ Unit) =>
    match out with
    | .inl _ =>
      some (0, 7)
    | .inr (_) =>
      if v601 = true then
        some (0, 0)
      else
      (
      m_ref01_Product_L3 (p0, 1, 0) >>= fun (out : Unit ⊕ Int) =>
      match out with
      | .inl _ =>
        some (0, 7)
      | .inr (v1805) =>
        some (v1805, 0)
      )
    )
  )
def P_ref01_Product : (List Int) → (Int × Int) → Prop := fun x r => match x, r with
  | p0, (r0, r1) => ∀ H, PC prog env 36 ([(.lst ((List.map intD) p0))].map .dat) H (.tup [(intPV r0), (intPV r1)]) H
theorem w_ref01_Product : ∀ x r, m_ref01_Product x = some r → P_ref01_Product x r := by
  intro p0 r hm
  unfold m_ref01_Product at hm
  unfold P_ref01_Product
  obtain ⟨r0, r1⟩ := r
  intro H
  refine PC_sx (ds := [(.lst ((List.map intD) p0))]) (fn := f36) (by kernel_rfl) (by kernel_rfl) rfl ?_ (by kernel_rfl)
  refine R_seq ?_
  refine R_G ?_
  refine G_run 2 ?_
  refine G_end ?_
  refine R_seq ?_
  refine R_G ?_
  refine G_run 1 ?_
  refine G_end ?_
  refine R_seq ?_
  refine R_seq ?_
  refine R_G ?_
  refine G_run 1 ?_
  refine G_end ?_
  refine R_block ?_
  obtain ⟨out, hs, hm⟩ := bind_inv hm
  refine R_loop ?_
  rcases out with _ | v601
  · refine RL_use (w_ref01_Product_L1 _ _ hs) (by kernel_rfl) ?_
    clear hs
    intro e s hp
    obtain ⟨rfl, d, rfl⟩ := hp
    obtain ⟨rfl, rfl⟩ := inj2 hm
    exact ⟨trivial, fin_pure (by kernel_rfl)⟩
  · refine RL_use (w_ref01_Product_L1 _ _ hs) (by kernel_rfl) ?_
    clear hs
    intro e s hp
    obtain ⟨rfl, d, rfl⟩ := hp
    refine R_seq ?_
    refine R_seq ?_
    refine R_G ?_
    refine G_run 1 ?_
    refine G_end ?_
    refine R_block ?_
    obtain ⟨out, hs, hm⟩ := bind_inv hm
    refine R_loop ?_
    rcases out with _ | _
    · refine RL_use (w_ref01_Product_L2 _ _ hs) (by kernel_rfl) ?_
      clear hs
      intro e s hp
      obtain ⟨rfl, d, rfl⟩ := hp
      obtain ⟨rfl, rfl⟩ := inj2 hm
      exact ⟨trivial, fin_pure (by kernel_rfl)⟩
    · refine RL_use (w_ref01_Product_L2 _ _ hs) (by kernel_rfl) ?_
      clear hs
      intro e s hp
      obtain ⟨rfl, d, rfl⟩ := hp
      refine R_seq ?_
      refine R_seq ?_
      refine R_G ?_
      refine G_run 1 ?_
      refine G_end ?_
      refine R_ifp (p := v601 = true) (bool_dec _) (fun hc => ?_) (fun hc => ?_)
      · replace hm := pos_inv hc hm
        refine R_seq ?_
        refine R_G ?_
        refine G_run 2 ?_
        refine G_end ?_
        refine R_ret ?_
        obtain ⟨rfl, rfl⟩ := inj2 hm
        exact ⟨trivial, fin_pure (by kernel_rfl)⟩
      replace hm := neg_inv hc hm
      refine R_skip ?_
      refine R_seq ?_
      refine R_G ?_
      refine G_run 1 ?_
      refine G_end ?_
      refine R_seq ?_
      refine R_seq ?_
      refine R_G ?_
      refine G_run 1 ?_
      refine G_end ?_
      refine R_block ?_
      obtain ⟨out, hs, hm⟩ := bind_inv hm
      refine R_loop ?_
      rcases out with _ | v1805
      · refine RL_use (w_ref01_Product_L3 _ _ hs) (by kernel_rfl) ?_
        clear hs
        intro e s hp
        obtain ⟨rfl, d, rfl⟩ := hp
        obtain ⟨rfl, rfl⟩ := inj2 hm
        exact ⟨trivial, fin_pure (by kernel_rfl)⟩
      · refine RL_use (w_ref01_Product_L3 _ _ hs) (by kernel_rfl) ?_
        clear hs
        intro e s hp
        obtain ⟨rfl, d, rfl⟩ := hp
        refine R_seq ?_
        refine R_G ?_
        refine G_run 3 ?_
        refine G_end ?_
        refine R_ret ?_
        obtain ⟨rfl, rfl⟩ := inj2 hm
        exact ⟨trivial, fin_pure (by kernel_rfl)⟩
end Go.Proofs.Tryd
namespace Go.Proofs.Tryd
open Go Go.Pm
set_option linter.unusedVariables false
set_option maxRecDepth 2000
def m_ref02_Check_L1 (x : ((List Int) × Int)) : Option (Unit ⊕ Unit) :=
  match x with
  | (p0, v201) =>
  if v201 < (p0.length : Int) then
    idx p0 v201 >>= fun v601 =>
    if v601 < 0 then
      some (Sum.inl ())
    else
    m_ref02_Check_L1 (p0, (W (v201 + 1)))
  else
  some (Sum.inr ())
  partial_fixpoint
def P_ref02_Check_L1 : ((List Int) × Int) → (Unit ⊕ Unit) → Prop := fun x r => match x with
  | (p0, v201) => ∀ st, prune 0 ((firstRegion (codeAt [1, 0, 1, 0, 0] (bodyOf f35))).bind (env.hint 35).keepAt) st = ⟨kp 29 [(0, (.dat (.lst ((List.map intD) p0)))), (3, (intPV v201))], []⟩ →
    RL prog env (env.hint 35) true (codeAt [1, 0, 1, 0, 0] (bodyOf f35)) 0 st (fun e s => match r with | .inl _ => e = .ret ∧ ∃ d, s = ⟨sl d 29 [(2, (intPV 6))], []⟩ | .inr (_) => e = .exit 0 ∧ ∃ d, s = ⟨sl d 29 [(0, (.dat (.lst ((List.map intD) p0))))], []⟩)
theorem w_ref02_Check_L1 : ∀ x r, m_ref02_Check_L1 x = some r → P_ref02_Check_L1 x r := by
  refine m_ref02_Check_L1.partial_correctness _ (fun m_ref02_Check_L1 w_ref02_Check_L1 x r hm => ?_)
  unfold P_ref02_Check_L1
  obtain ⟨p0, v201⟩ := x
  intro st hst
  refine RL_at hst ?_
  clear hst
  refine R_seq ?_
  refine R_seq ?_
  refine R_G ?_
  refine G_run 2 ?_
  refine I_len intD p0 (es := (List.map intD) p0) rfl ?_
  refine G_run 1 ?_
  refine G_end ?_
  refine R_ifp (p := v201 < (p0.length : Int)) (rfl) (fun hc => ?_) (fun hc => ?_)
  · replace hm := pos_inv hc hm
    refine R_skip ?_
    refine R_seq ?_
    refine R_block ?_
    refine R_seq ?_
    refine R_G ?_
    refine G_run 2 ?_
    obtain ⟨v601, hx, hm⟩ := bind_inv hm
    refine I_idx 1 intD p0 v201 v601 (es := (List.map intD) p0) (d := (intD v601)) rfl hx rfl rfl ?_
    refine G_run 2 ?_
    refine G_end ?_
    refine R_ifp (p := v601 < 0) (rfl) (fun hc => ?_) (fun hc => ?_)
    · replace hm := pos_inv hc hm
      refine R_seq ?_
      refine R_G ?_
      refine G_run 1 ?_
      refine G_end ?_
      refine R_ret ?_
      obtain rfl := inj1 hm
      exact ⟨rfl, cut_leaf (by kernel_rfl)⟩
    replace hm := neg_inv hc hm
    refine R_skip ?_
    refine R_G ?_
    refine G_run 3 ?_
    refine G_end ?_
    exact w_ref02_Check_L1 _ _ hm _ (by kernel_rfl)
  replace hm := neg_inv hc hm
  refine R_exit ?_
  obtain rfl := inj1 hm
  exact ⟨rfl, cut_leaf (by kernel_rfl)⟩
def m_ref02_Check (x : (List Int)) : Option Int :=
  match x with
  | p0 =>
  (
  m_ref02_Check_L1 (p0, 0) >>= fun (out : Unit ⊕ Unit) =>
  match out with
  | .inl _ =>
    some 6
  | .inr (_) =>
    m_ref01_Product p0 >>= fun ((v602, v603) : (Int × Int)) =>
    (if (p0.length : Int) > 16 then
      some true
    else
    some (v603 != 0)
    ) >>= fun (v604 : Bool) =>
    if v604 = true then
      some 7
    else
    some 0
  )
def P_ref02_Check : (List Int) → Int → Prop := fun x r => match x, r with
  | p0, r0 => ∀ H, PC prog env 35 ([(.lst ((List.map intD) p0))].map .dat) H (intPV r0) H
theorem w_ref02_Check : ∀ x r, m_ref02_Check x = some r → P_ref02_Check x r := by
  intro p0 r0 hm
  unfold m_ref02_Check at hm
  unfold P_ref02_Check
  intro H
  refine PC_sx (ds := [(.lst ((List.map intD) p0))]) (fn := f35) (by kernel_rfl) (by kernel_rfl) rfl ?_ (by kernel_rfl)
  refine R_seq ?_
  refine R_G ?_
  refine G_run 1 ?_
  refine G_end ?_
  refine R_seq ?_
  refine R_seq ?_
  refine R_G ?_
  refine G_run 1 ?_
  refine G_end ?_
  refine R_block ?_
  obtain ⟨out, hs, hm⟩ := bind_inv hm
  refine R_loop ?_
  rcases out with _ | _
  · refine RL_use (w_ref02_Check_L1 _ _ hs) (by kernel_rfl) ?_
    clear hs
    intro e s hp
    obtain ⟨rfl, d, rfl⟩ := hp
    obtain rfl := inj1 hm
    exact ⟨trivial, fin_pure (by kernel_rfl)⟩
  · refine RL_use (w_ref02_Check_L1 _ _ hs) (by kernel_rfl) ?_
    clear hs
    intro e s hp
    obtain ⟨rfl, d, rfl⟩ := hp
    refine R_seq ?_
    refine R_G ?_
    refine G_run 1 ?_
    obtain ⟨⟨v602, v603⟩, hx, hm⟩ := bind_inv hm
    have hq := w_ref01_Product _ _ hx []
    refine G_callP hq ?_
    refine G_run 5 ?_
    refine G_end ?_
    refine R_seq ?_
    refine R_seq ?_
    obtain ⟨v604, hs, hm⟩ := bind_inv hm
    refine R_cut (fun d => ⟨sl d 29 [(28, (boolPV v604))], []⟩) ?_ (fun d => ?_)
    · replace hm := hs
      clear hs
      refine R_G ?_
      refine G_run 1 ?_
      refine I_len intD p0 (es := (List.map intD) p0) rfl ?_
      refine G_run 2 ?_
      refine G_split (p := (p0.length : Int) > 16) 25 (rfl) (fun hc => ?_) (fun hc => ?_)
      · replace hm := pos_inv hc hm
        refine G_run 3 ?_
        refine G_end ?_
        obtain rfl := inj1 hm
        exact cut_leaf (by kernel_rfl)
      replace hm := neg_inv hc hm
      refine G_run 3 ?_
      refine G_end ?_
      obtain rfl := inj1 hm
      exact cut_leaf (by kernel_rfl)
    clear hs
    refine R_ifp (p := v604 = true) (bool_dec _) (fun hc => ?_) (fun hc => ?_)
    · replace hm := pos_inv hc hm
      refine R_seq ?_
      refine R_G ?_
      refine G_run 1 ?_
      refine G_end ?_
      refine R_ret ?_
      obtain rfl := inj1 hm
      exact ⟨trivial, fin_pure (by kernel_rfl)⟩
    replace hm := neg_inv hc hm
    refine R_skip ?_
    refine R_seq ?_
    refine R_G ?_
    refine G_run 1 ?_
    refine G_end ?_
    refine R_ret ?_
    obtain rfl := inj1 hm
    exact ⟨trivial, fin_pure (by kernel_rfl)⟩
end Go.Proofs.Tryd
namespace Go.Proofs.Tryd
open Go Go.Pm
set_option linter.unusedVariables false
set_option maxRecDepth 2000
def m_ref02_Equal_L1 (x : ((List Int) × (List Int) × Int)) : Option (Unit ⊕ Unit) :=
  match x with
  | (p0, p1, v201) =>
  if v201 < (p0.length : Int) then
    idx p0 v201 >>= fun v601 =>
    idx p1 v201 >>= fun v602 =>
    if v601 ≠ v602 then
      some (Sum.inl ())
    else
    m_ref02_Equal_L1 (p0, p1, (W (v201 + 1)))
  else
  some (Sum.inr ())
  partial_fixpoint
def P_ref02_Equal_L1 : ((List Int) × (List Int) × Int) → (Unit ⊕ Unit) → Prop := fun x r => match x with
  | (p0, p1, v201) => ∀ st, prune 0 ((firstRegion (codeAt [1, 1, 0, 1, 0, 0] (bodyOf f17))).bind (env.hint 17).keepAt) st = ⟨kp 26 [(0, (.dat (.lst ((List.map intD) p0)))), (1, (.dat (.lst ((List.map intD) p1)))), (5, (intPV v201))], []⟩ →
    RL prog env (env.hint 17) true (codeAt [1, 1, 0, 1, 0, 0] (bodyOf f17)) 0 st (fun e s => match r with | .inl _ => e = .ret ∧ ∃ d, s = ⟨sl d 26 [(4, (boolPV false))], []⟩ | .inr (_) => e = .exit 0 ∧ ∃ d, s = ⟨sl d 26 [], []⟩)
theorem w_ref02_Equal_L1 : ∀ x r, m_ref02_Equal_L1 x = some r → P_ref02_Equal_L1 x r := by
  refine m_ref02_Equal_L1.partial_correctness _ (fun m_ref02_Equal_L1 w_ref02_Equal_L1 x r hm => ?_)
  unfold P_ref02_Equal_L1
  obtain ⟨p0, p1, v201⟩ := x
  intro st hst
  refine RL_at hst ?_
  clear hst
  refine R_seq ?_
  refine R_seq ?_
  refine R_G ?_
  refine G_run 2 ?_
  refine I_len intD p0 (es := (List.map intD) p0) rfl ?_
  refine G_run 1 ?_
  refine G_end ?_
  refine R_ifp (p := v201 < (p0.length : Int)) (rfl) (fun hc => ?_) (fun hc => ?_)
  · replace hm := pos_inv hc hm
    refine R_skip ?_
    refine R_seq ?_
    refine R_block ?_
    refine R_seq ?_
    refine R_GD ?_
    refine G_run 2 ?_
    obtain ⟨v601, hx, hm⟩ := bind_inv hm
    refine I_idx 1 intD p0 v201 v601 (es := (List.map intD) p0) (d := (intD v601)) rfl hx rfl rfl ?_
    refine G_run 3 ?_
    obtain ⟨v602, hx, hm⟩ := bind_inv hm
    refine I_idx 1 intD p1 v201 v602 (es := (List.map intD) p1) (d := (intD v602)) rfl hx rfl rfl ?_
    refine G_run 2 ?_
    refine G_end ⟨by kernel_rfl, ?_⟩
    refine R_ifp (p := v601 ≠ v602) (ne_dec _ _) (fun hc => ?_) (fun hc => ?_)
    · replace hm := pos_inv hc hm
      refine R_seq ?_
      refine R_G ?_
      refine G_run 1 ?_
      refine G_end ?_
      refine R_ret ?_
      obtain rfl := inj1 hm
      exact ⟨rfl, cut_leaf (by kernel_rfl)⟩
    replace hm := neg_inv hc hm
    refine R_skip ?_
    refine R_G ?_
    refine G_run 3 ?_
    refine G_end ?_
    exact w_ref02_Equal_L1 _ _ hm _ (by kernel_rfl)
  replace hm := neg_inv hc hm
  refine R_exit ?_
  obtain rfl := inj1 hm
  exact ⟨rfl, cut_leaf (by kernel_rfl)⟩
def m_ref02_Equal (x : ((List Int) × (List Int))) : Option Bool :=
  match x with
  | (p0, p1) =>
  if (p0.length : Int) ≠ (p1.length : Int) then
    some false
  else
  (
  m_ref02_Equal_L1 (p0, p1, 0) >>= fun (out : Unit ⊕ Unit) =>
  match out with
  | .inl _ =>
    some false
  | .inr (_) =>
    some true
  )
def P_ref02_Equal : ((List Int) × (List Int)) → Bool → Prop := fun x r => match x, r with
  | (p0, p1), r0 => ∀ H, PC prog env 17 ([(.lst ((List.map intD) p0)), (.lst ((List.map intD) p1))].map .dat) H (boolPV r0) H
theorem w_ref02_Equal : ∀ x r, m_ref02_Equal x = some r → P_ref02_Equal x r := by
  intro x r0 hm
  unfold m_ref02_Equal at hm
  unfold P_ref02_Equal
  obtain ⟨p0, p1⟩ := x
  intro H
  refine PC_sx (ds := [(.lst ((List.map intD) p0)), (.lst ((List.map intD) p1))]) (fn := f17) (by kernel_rfl) (by kernel_rfl) rfl ?_ (by kernel_rfl)
  refine R_seq ?_
  refine R_G ?_
  refine G_run 1 ?_
  refine G_end ?_
  refine R_seq ?_
  refine R_seq ?_
  refine R_G ?_
  refine G_run 1 ?_
  refine I_len intD p0 (es := (List.map intD) p0) rfl ?_
  refine G_run 1 ?_
  refine I_len intD p1 (es := (List.map intD) p1) rfl ?_
  refine G_run 1 ?_
  refine G_end ?_
  refine R_ifp (p := (p0.length : Int) ≠ (p1.length : Int)) (ne_dec _ _) (fun hc => ?_) (fun hc => ?_)
  · replace hm := pos_inv hc hm
    refine R_seq ?_
    refine R_G ?_
    refine G_run 1 ?_
    refine G_end ?_
    refine R_ret ?_
    obtain rfl := inj1 hm
    exact ⟨trivial, fin_pure (by kernel_rfl)⟩
  replace hm := neg_inv hc hm
  refine R_skip ?_
  refine R_seq ?_
  refine R_seq ?_
  refine R_G ?_
  refine G_run 1 ?_
  refine G_end ?_
  refine R_block ?_
  obtain ⟨out, hs, hm⟩ := bind_inv hm
  refine R_loop ?_
  rcases out with _ | _
  · refine RL_use (w_ref02_Equal_L1 _ _ hs) (by kernel_rfl) ?_
    clear hs
    intro e s hp
    obtain ⟨rfl, d, rfl⟩ := hp
    obtain rfl := inj1 hm
    exact ⟨trivial, fin_pure (by kernel_rfl)⟩
  · refine RL_use (w_ref02_Equal_L1 _ _ hs) (by kernel_rfl) ?_
    clear hs
    intro e s hp
    obtain ⟨rfl, d, rfl⟩ := hp
    refine R_seq ?_
    refine R_G ?_
    refine G_run 1 ?_
    refine G_end ?_
    refine R_ret ?_
    obtain rfl := inj1 hm
    exact ⟨trivial, fin_pure (by kernel_rfl)⟩
end Go.Proofs.Tryd
namespace Go.Proofs.Tryd
open Go Go.Pm
set_option linter.unusedVariables false
set_option maxRecDepth 2000
def m_ref14_alike (x : T_ref14_Core) : Option Bool :=
  match x with
  | p0 =>
  idx p0.kids 0 >>= fun v1 =>
  m_ref02_Equal (v1.shape, p0.shape) >>= fun (v2 : Bool) =>
  (if v2 = true then
    some (decide (p0.axis ≥ 0))
  else
  some false
  ) >>= fun (v3 : Bool) =>
  if v3 = true then
    some (decide (p0.axis < (p0.shape.length : Int)))
  else
  some false
def P_ref14_alike : T_ref14_Core → Bool → Prop := fun x r => match x, r with
  | p0, r0 => ∀ H, PC prog env 45 ([(T_ref14_Core.ex p0)].map .dat) H (boolPV r0) H
theorem w_ref14_alike : ∀ x r, m_ref14_alike x = some r → P_ref14_alike x r := by
  intro p0 r0 hm
  unfold m_ref14_alike at hm
  unfold P_ref14_alike
  intro H
  refine PC_sx (ds := [(T_ref14_Core.ex p0)]) (fn := f45) (by kernel_rfl) (by kernel_rfl) rfl ?_ (by kernel_rfl)
  refine R_seq ?_
  refine R_G ?_
  refine G_run 2 ?_
  refine G_end ?_
  refine R_seq ?_
  refine R_GW ?_
  refine G_run 2 ?_
  obtain ⟨v1, hx, hm⟩ := bind_inv hm
  refine I_idx 8 T_ref14_Core.toD p0.kids 0 v1 (es := T_ref14_Core.toDs p0.kids) (d := (T_ref14_Core.ex v1)) (T_ref14_Core.toDs_eq _) hx (T_ref14_Core.toD_eq v1) rfl ?_
  refine G_run 4 ?_
  obtain ⟨v2, hx, hm⟩ := bind_inv hm
  have hq := w_ref02_Equal _ _ hx []
  refine G_callP hq ?_
  refine G_run 1 ?_
  obtain ⟨v3, hs, hm⟩ := bind_inv hm
  refine G_cut (j := 13) (fun d => ⟨sl d 24 [(0, (.dat (.agg [(intD p0.kind), (.lst ((List.map intD) p0.shape)), (intD p0.buffer), (.lst ((List.map intD) p0.starts)), (intD p0.axis), (intD p0.amount), (.lst ((List.map intD) p0.perm)), (.lst (T_ref14_Core.toDs p0.kids))]))), (1, (.ptr 0 0)), (2, (boolPV false)), (3, (.ptr 0 7)), (4, (.dat (.lst (T_ref14_Core.toDs p0.kids)))), (5, (.iptr [(intD v1.kind), (.lst ((List.map intD) v1.shape)), (intD v1.buffer), (.lst ((List.map intD) v1.starts)), (intD v1.axis), (intD v1.amount), (.lst ((List.map intD) v1.perm)), (.lst (T_ref14_Core.toDs v1.kids))])), (6, (.iptr [(.lst ((List.map intD) v1.shape)), (intD v1.buffer), (.lst ((List.map intD) v1.starts)), (intD v1.axis), (intD v1.amount), (.lst ((List.map intD) v1.perm)), (.lst (T_ref14_Core.toDs v1.kids))])), (7, (.dat (.lst ((List.map intD) v1.shape)))), (8, (.ptr 0 1)), (9, (.dat (.lst ((List.map intD) p0.shape)))), (10, (boolPV v2)), (15, (boolPV v3))], [(.box [(intPV p0.kind), (.dat (.lst ((List.map intD) p0.shape))), (intPV p0.buffer), (.dat (.lst ((List.map intD) p0.starts))), (intPV p0.axis), (intPV p0.amount), (.dat (.lst ((List.map intD) p0.perm))), (.dat (.lst (T_ref14_Core.toDs p0.kids)))])]⟩) (fun d => ?_) (fun hJ => ?_)
  · clear hs
    refine G_run 1 ?_
    refine G_split (p := v3 = true) 16 (bool_dec _) (fun hc => ?_) (fun hc => ?_)
    · replace hm := pos_inv hc hm
      refine G_run 4 ?_
      refine I_len intD p0.shape (es := (List.map intD) p0.shape) rfl ?_
      refine G_run 3 ?_
      refine G_end ⟨by kernel_rfl, ?_⟩
      refine R_ret ?_
      obtain rfl := inj1 hm
      exact ⟨trivial, fin_pure (by kernel_rfl)⟩
    replace hm := neg_inv hc hm
    refine G_run 8 ?_
    refine G_end ⟨by kernel_rfl, ?_⟩
    refine R_ret ?_
    obtain rfl := inj1 hm
    exact ⟨trivial, fin_pure (by kernel_rfl)⟩
  replace hm := hs
  clear hs
  refine G_split (p := v2 = true) 11 (bool_dec _) (fun hc => ?_) (fun hc => ?_)
  · replace hm := pos_inv hc hm
    refine G_run 4 ?_
    obtain rfl := inj1 hm
    exact hJ _ _ (by kernel_rfl) (by kernel_rfl)
  replace hm := neg_inv hc hm
  refine G_run 4 ?_
  obtain rfl := inj1 hm
  exact hJ _ _ (by kernel_rfl) (by kernel_rfl)
end Go.Proofs.Tryd
namespace Go.Proofs.Tryd
open Go Go.Pm
set_option linter.unusedVariables false
set_option maxRecDepth 2000
def m_ref14_transposed_L1 (x : (T_ref14_Core × T_ref14_Core × Int)) : Option (Unit ⊕ Unit) :=
  match x with
  | (v1, p0, v202) =>
  if v202 < (v1.shape.length : Int) then
    (idx p0.perm v202 >>= fun v603 =>
    if v603 < 0 then
      some true
    else
    idx p0.perm v202 >>= fun v604 =>
    some (decide (v604 ≥ (p0.shape.length : Int)))
    ) >>= fun (v602 : Bool) =>
    if v602 = true then
      some (Sum.inl ())
    else
    m_ref14_transposed_L1 (v1, p0, (W (v202 + 1)))
  else
  some (Sum.inr ())
  partial_fixpoint
def P_ref14_transposed_L1 : (T_ref14_Core × T_ref14_Core × Int) → (Unit ⊕ Unit) → Prop := fun x r => match x with
  | (v1, p0, v202) => ∀ st, prune 1 ((firstRegion (codeAt [1, 1, 1, 0, 1, 0, 0] (bodyOf f46))).bind (env.hint 46).keepAt) st = ⟨kp 85 [(1, (.ptr 0 0)), (3, (.dat (.lst ((List.map intD) v1.shape)))), (4, (intPV v202))], [(.box [(intPV p0.kind), (.dat (.lst ((List.map intD) p0.shape))), (intPV p0.buffer), (.dat (.lst ((List.map intD) p0.starts))), (intPV p0.axis), (intPV p0.amount), (.dat (.lst ((List.map intD) p0.perm))), (.dat (.lst (T_ref14_Core.toDs p0.kids)))])]⟩ →
    RL prog env (env.hint 46) true (codeAt [1, 1, 1, 0, 1, 0, 0] (bodyOf f46)) 1 st (fun e s => match r with | .inl _ => e = .ret ∧ ∃ d, s = ⟨sl d 85 [(2, (boolPV false))], [(.box [(intPV p0.kind), (.dat (.lst ((List.map intD) p0.shape))), (intPV p0.buffer), (.dat (.lst ((List.map intD) p0.starts))), (intPV p0.axis), (intPV p0.amount), (.dat (.lst ((List.map intD) p0.perm))), (.dat (.lst (T_ref14_Core.toDs p0.kids)))])]⟩ | .inr (_) => e = .exit 0 ∧ ∃ d, s = ⟨sl d 85 [(1, (.ptr 0 0)), (3, (.dat (.lst ((List.map intD) v1.shape))))], [(.box [(intPV p0.kind), (.dat (.lst ((List.map intD) p0.shape))), (intPV p0.buffer), (.dat (.lst ((List.map intD) p0.starts))), (intPV p0.axis), (intPV p0.amount), (.dat (.lst ((List.map intD) p0.perm))), (.dat (.lst (T_ref14_Core.toDs p0.kids)))])]⟩)
theorem w_ref14_transposed_L1 : ∀ x r, m_ref14_transposed_L1 x = some r → P_ref14_transposed_L1 x r := by
  refine m_ref14_transposed_L1.partial_correctness _ (fun m_ref14_transposed_L1 w_ref14_transposed_L1 x r hm => ?_)
  unfold P_ref14_transposed_L1
  obtain ⟨v1, p0, v202⟩ := x
  intro st hst
  refine RL_at hst ?_
  clear hst
  refine R_seq ?_
  refine R_seq ?_
  refine R_G ?_
  refine G_run 2 ?_
  refine I_len intD v1.shape (es := (List.map intD) v1.shape) rfl ?_
  refine G_run 1 ?_
  refine G_end ?_
  refine R_ifp (p := v202 < (v1.shape.length : Int)) (rfl) (fun hc => ?_) (fun hc => ?_)
  · replace hm := pos_inv hc hm
    refine R_skip ?_
    refine R_seq ?_
    refine R_block ?_
    refine R_seq ?_
    obtain ⟨v602, hs, hm⟩ := bind_inv hm
    refine R_cut (fun d => ⟨sl d 85 [(1, (.ptr 0 0)), (3, (.dat (.lst ((List.map intD) v1.shape)))), (4, (intPV v202)), (41, (boolPV v602))], [(.box [(intPV p0.kind), (.dat (.lst ((List.map intD) p0.shape))), (intPV p0.buffer), (.dat (.lst ((List.map intD) p0.starts))), (intPV p0.axis), (intPV p0.amount), (.dat (.lst ((List.map intD) p0.perm))), (.dat (.lst (T_ref14_Core.toDs p0.kids)))])]⟩) ?_ (fun d => ?_)
    · replace hm := hs
      clear hs
      refine R_GD ?_
      refine G_run 3 ?_
      obtain ⟨v603, hx, hm⟩ := bind_inv hm
      refine I_idx 1 intD p0.perm v202 v603 (es := (List.map intD) p0.perm) (d := (intD v603)) rfl hx rfl rfl ?_
      refine G_run 3 ?_
      refine G_split (p := v603 < 0) 31 (rfl) (fun hc => ?_) (fun hc => ?_)
      · replace hm := pos_inv hc hm
        refine G_run 10 ?_
        refine G_end ⟨by kernel_rfl, ?_⟩
        obtain rfl := inj1 hm
        exact cut_leaf (by kernel_rfl)
      replace hm := neg_inv hc hm
      refine G_run 3 ?_
      obtain ⟨v604, hx, hm⟩ := bind_inv hm
      refine I_idx 1 intD p0.perm v202 v604 (es := (List.map intD) p0.perm) (d := (intD v604)) rfl hx rfl rfl ?_
      refine G_run 3 ?_
      refine I_len intD p0.shape (es := (List.map intD) p0.shape) rfl ?_
      refine G_run 2 ?_
      refine G_end ⟨by kernel_rfl, ?_⟩
      obtain rfl := inj1 hm
      exact cut_leaf (by kernel_rfl)
    clear hs
    refine R_ifp (p := v602 = true) (bool_dec _) (fun hc => ?_) (fun hc => ?_)
    · replace hm := pos_inv hc hm
      refine R_seq ?_
      refine R_G ?_
      refine G_run 1 ?_
      refine G_end ?_
      refine R_ret ?_
      obtain rfl := inj1 hm
      exact ⟨rfl, cut_leaf (by kernel_rfl)⟩
    replace hm := neg_inv hc hm
    refine R_skip ?_
    refine R_G ?_
    refine G_run 3 ?_
    refine G_end ?_
    exact w_ref14_transposed_L1 _ _ hm _ (by kernel_rfl)
  replace hm := neg_inv hc hm
  refine R_exit ?_
  obtain rfl := inj1 hm
  exact ⟨rfl, cut_leaf (by kernel_rfl)⟩
def m_ref14_transposed_L3 (x : (T_ref14_Core × T_ref14_Core × Int × Int × Int)) : Option (Int) :=
  match x with
  | (v1, p0, v805, v1405, v1406) =>
  if v1406 < (v1.shape.length : Int) then
    (idx p0.perm v1406 >>= fun v1807 =>
    if v1807 = v805 then
      if v1405 < 0 then
        some true
      else
      idx v1.shape v1406 >>= fun v1808 =>
      some (decide (v1808 < v1405))
    else
    some false
    ) >>= fun (v1806 : Bool) =>
    if v1806 = true then
      idx v1.shape v1406 >>= fun v1809 =>
      m_ref14_transposed_L3 (v1, p0, v805, v1809, (W (v1406 + 1)))
    else
    m_ref14_transposed_L3 (v1, p0, v805, v1405, (W (v1406 + 1)))
  else
  some v1405
  partial_fixpoint
def P_ref14_transposed_L3 : (T_ref14_Core × T_ref14_Core × Int × Int × Int) → Int → Prop := fun x r => match x with
  | (v1, p0, v805, v1405, v1406) => ∀ st, prune 1 ((firstRegion (codeAt [1, 1, 1, 1, 0, 1, 0, 0, 1, 0, 0, 1, 0, 1, 0, 0] (bodyOf f46))).bind (env.hint 46).keepAt) st = ⟨kp 85 [(1, (.ptr 0 0)), (3, (.dat (.lst ((List.map intD) v1.shape)))), (5, (intPV v805)), (6, (intPV v1405)), (7, (intPV v1406))], [(.box [(intPV p0.kind), (.dat (.lst ((List.map intD) p0.shape))), (intPV p0.buffer), (.dat (.lst ((List.map intD) p0.starts))), (intPV p0.axis), (intPV p0.amount), (.dat (.lst ((List.map intD) p0.perm))), (.dat (.lst (T_ref14_Core.toDs p0.kids)))])]⟩ →
    RL prog env (env.hint 46) true (codeAt [1, 1, 1, 1, 0, 1, 0, 0, 1, 0, 0, 1, 0, 1, 0, 0] (bodyOf f46)) 1 st (fun e s => match r with | v1805 => e = .exit 4 ∧ ∃ d, s = ⟨sl d 85 [(1, (.ptr 0 0)), (3, (.dat (.lst ((List.map intD) v1.shape)))), (5, (intPV v805)), (6, (intPV v1805))], [(.box [(intPV p0.kind), (.dat (.lst ((List.map intD) p0.shape))), (intPV p0.buffer), (.dat (.lst ((List.map intD) p0.starts))), (intPV p0.axis), (intPV p0.amount), (.dat (.lst ((List.map intD) p0.perm))), (.dat (.lst (T_ref14_Core.toDs p0.kids)))])]⟩)
theorem w_ref14_transposed_L3 : ∀ x r, m_ref14_transposed_L3 x = some r → P_ref14_transposed_L3 x r := by
  refine m_ref14_transposed_L3.partial_correctness _ (fun m_ref14_transposed_L3 w_ref14_transposed_L3 x r hm => ?_)
  unfold P_ref14_transposed_L3
  obtain ⟨v1, p0, v805, v1405, v1406⟩ := x
  intro st hst
  refine RL_at hst ?_
  clear hst
  refine R_seq ?_
  refine R_seq ?_
  refine R_G ?_
  refine G_run 2 ?_
  refine I_len intD v1.shape (es := (List.map intD) v1.shape) rfl ?_
  refine G_run 1 ?_
  refine G_end ?_
  refine R_ifp (p := v1406 < (v1.shape.length : Int)) (rfl) (fun hc => ?_) (fun hc => ?_)
  · replace hm := pos_inv hc hm
    refine R_skip ?_
    refine R_seq ?_
    refine R_block ?_
    refine R_seq ?_
    obtain ⟨v1806, hs, hm⟩ := bind_inv hm
    refine R_cut (fun d => ⟨sl d 85 [(1, (.ptr 0 0)), (3, (.dat (.lst ((List.map intD) v1.shape)))), (5, (intPV v805)), (6, (intPV v1405)), (7, (intPV v1406)), (73, (boolPV v1806))], [(.box [(intPV p0.kind), (.dat (.lst ((List.map intD) p0.shape))), (intPV p0.buffer), (.dat (.lst ((List.map intD) p0.starts))), (intPV p0.axis), (intPV p0.amount), (.dat (.lst ((List.map intD) p0.perm))), (.dat (.lst (T_ref14_Core.toDs p0.kids)))])]⟩) ?_ (fun d => ?_)
    · replace hm := hs
      clear hs
      refine R_G ?_
      refine G_run 3 ?_
      obtain ⟨v1807, hx, hm⟩ := bind_inv hm
      refine I_idx 1 intD p0.perm v1406 v1807 (es := (List.map intD) p0.perm) (d := (intD v1807)) rfl hx rfl rfl ?_
      refine G_run 4 ?_
      refine G_split (p := v1807 = v805) 62 (eq_dec _ _) (fun hc => ?_) (fun hc => ?_)
      · replace hm := pos_inv hc hm
        refine G_run 3 ?_
        refine G_split (p := v1405 < 0) 65 (rfl) (fun hc => ?_) (fun hc => ?_)
        · replace hm := pos_inv hc hm
          refine G_run 8 ?_
          refine G_end ?_
          obtain rfl := inj1 hm
          exact cut_leaf (by kernel_rfl)
        replace hm := neg_inv hc hm
        refine G_run 2 ?_
        obtain ⟨v1808, hx, hm⟩ := bind_inv hm
        refine I_idx 1 intD v1.shape v1406 v1808 (es := (List.map intD) v1.shape) (d := (intD v1808)) rfl hx rfl rfl ?_
        refine G_run 5 ?_
        refine G_end ?_
        obtain rfl := inj1 hm
        exact cut_leaf (by kernel_rfl)
      replace hm := neg_inv hc hm
      refine G_run 11 ?_
      refine G_end ?_
      obtain rfl := inj1 hm
      exact cut_leaf (by kernel_rfl)
    clear hs
    refine R_ifp (p := v1806 = true) (bool_dec _) (fun hc => ?_) (fun hc => ?_)
    · replace hm := pos_inv hc hm
      refine R_G ?_
      refine G_run 2 ?_
      obtain ⟨v1809, hx, hm⟩ := bind_inv hm
      refine I_idx 1 intD v1.shape v1406 v1809 (es := (List.map intD) v1.shape) (d := (intD v1809)) rfl hx rfl rfl ?_
      refine G_run 2 ?_
      refine G_end ?_
      refine R_G ?_
      refine G_run 3 ?_
      refine G_end ?_
      exact w_ref14_transposed_L3 _ _ hm _ (by kernel_rfl)
    replace hm := neg_inv hc hm
    refine R_skip ?_
    refine R_G ?_
    refine G_run 3 ?_
    refine G_end ?_
    exact w_ref14_transposed_L3 _ _ hm _ (by kernel_rfl)
  replace hm := neg_inv hc hm
  refine R_exit ?_
  obtain rfl := inj1 hm
  exact ⟨rfl, cut_leaf (by kernel_rfl)⟩
def m_ref14_transposed_L2 (x : (T_ref14_Core × T_ref14_Core × Int)) : Option (Unit ⊕ Unit) :=
  match x with
  | (p0, v1, v805) =>
  if v805 < (p0.shape.length : Int) then
    m_ref14_transposed_L3 (v1, p0, v805, (-1), 0) >>= fun (v1805 : Int) =>
    idx p0.shape v805 >>= fun v1810 =>
    if v1805 ≠ v1810 then
      some (Sum.inl ())
    else
    m_ref14_transposed_L2 (p0, v1, (W (v805 + 1)))
  else
  some (Sum.inr ())
  partial_fixpoint
def P_ref14_transposed_L2 : (T_ref14_Core × T_ref14_Core × Int) → (Unit ⊕ Unit) → Prop := fun x r => match x with
  | (p0, v1, v805) => ∀ st, prune 1 ((firstRegion (codeAt [1, 1, 1, 1, 0, 1, 0, 0] (bodyOf f46))).bind (env.hint 46).keepAt) st = ⟨kp 85 [(1, (.ptr 0 0)), (3, (.dat (.lst ((List.map intD) v1.shape)))), (5, (intPV v805))], [(.box [(intPV p0.kind), (.dat (.lst ((List.map intD) p0.shape))), (intPV p0.buffer), (.dat (.lst ((List.map intD) p0.starts))), (intPV p0.axis), (intPV p0.amount), (.dat (.lst ((List.map intD) p0.perm))), (.dat (.lst (T_ref14_Core.toDs p0.kids)))])]⟩ →
    RL prog env (env.hint 46) true (codeAt [1, 1, 1, 1, 0, 1, 0, 0] (bodyOf f46)) 1 st (fun e s => match r with | .inl _ => e = .ret ∧ ∃ d, s = ⟨sl d 85 [(2, (boolPV false))], [(.box [(intPV p0.kind), (.dat (.lst ((List.map intD) p0.shape))), (intPV p0.buffer), (.dat (.lst ((List.map intD) p0.starts))), (intPV p0.axis), (intPV p0.amount), (.dat (.lst ((List.map intD) p0.perm))), (.dat (.lst (T_ref14_Core.toDs p0.kids)))])]⟩ | .inr (_) => e = .exit 2 ∧ ∃ d, s = ⟨sl d 85 [], [(.box [(intPV p0.kind), (.dat (.lst ((List.map intD) p0.shape))), (intPV p0.buffer), (.dat (.lst ((List.map intD) p0.starts))), (intPV p0.axis), (intPV p0.amount), (.dat (.lst ((List.map intD) p0.perm))), (.dat (.lst (T_ref14_Core.toDs p0.kids)))])]⟩)
theorem w_ref14_transposed_L2 : ∀ x r, m_ref14_transposed_L2 x = some r → P_ref14_transposed_L2 x r := by
  refine m_ref14_transposed_L2.partial_correctness _ (fun m_ref14_transposed_L2 w_ref14_transposed_L2 x r hm => ?_)
  unfold P_ref14_transposed_L2
  obtain ⟨p0, v1, v805⟩ := x
  intro st hst
  refine RL_at hst ?_
  clear hst
  refine R_seq ?_
  refine R_seq ?_
  refine R_G ?_
  refine G_run 3 ?_
  refine I_len intD p0.shape (es := (List.map intD) p0.shape) rfl ?_
  refine G_run 1 ?_
  refine G_end ?_
  refine R_ifp (p := v805 < (p0.shape.length : Int)) (rfl) (fun hc => ?_) (fun hc => ?_)
  · replace hm := pos_inv hc hm
    refine R_skip ?_
    refine R_seq ?_
    refine R_block ?_
    refine R_seq ?_
    refine R_G ?_
    refine G_run 1 ?_
    refine G_end ?_
    refine R_seq ?_
    refine R_seq ?_
    refine R_G ?_
    refine G_run 1 ?_
    refine G_end ?_
    refine R_block ?_
    obtain ⟨v1805, hs, hm⟩ := bind_inv hm
    refine R_loop ?_
    refine RL_use (w_ref14_transposed_L3 _ _ hs) (by kernel_rfl) ?_
    clear hs
    intro e s hp
    obtain ⟨rfl, d, rfl⟩ := hp
    refine R_seq ?_
    refine R_G ?_
    refine G_run 4 ?_
    obtain ⟨v1810, hx, hm⟩ := bind_inv hm
    refine I_idx 1 intD p0.shape v805 v1810 (es := (List.map intD) p0.shape) (d := (intD v1810)) rfl hx rfl rfl ?_
    refine G_run 2 ?_
    refine G_end ?_
    refine R_ifp (p := v1805 ≠ v1810) (ne_dec _ _) (fun hc => ?_) (fun hc => ?_)
    · replace hm := pos_inv hc hm
      refine R_seq ?_
      refine R_G ?_
      refine G_run 1 ?_
      refine G_end ?_
      refine R_ret ?_
      obtain rfl := inj1 hm
      exact ⟨rfl, cut_leaf (by kernel_rfl)⟩
    replace hm := neg_inv hc hm
    refine R_skip ?_
    refine R_G ?_
    refine G_run 3 ?_
    refine G_end ?_
    exact w_ref14_transposed_L2 _ _ hm _ (by kernel_rfl)
  replace hm := neg_inv hc hm
  refine R_exit ?_
  obtain rfl := inj1 hm
  exact ⟨rfl, cut_leaf (by kernel_rfl)⟩
def m_ref14_transposed (x : T_ref14_Core) : Option Bool :=
  match x with
  | p0 =>
  idx p0.kids 0 >>= fun v1 =>
  if (p0.perm.length : Int) ≠ (v1.shape.length : Int) then
    some false
  else
  (
  m_ref14_transposed_L1 (v1, p0, 0) >>= fun (out : Unit ⊕ Unit) =>
  match out with
  | .inl _ =>
    some false
  | .inr (_) =>
    (
    m_ref14_transposed_L2 (p0, v1, 0) >>= fun (out : Unit ⊕ Unit) =>
    match out with
    | .inl _ =>
      some false
    | .inr (_) =>
      some true
    )
  )
def P_ref14_transposed : T_ref14_Core → Bool → Prop := fun x r => match x, r with
  | p0, r0 => ∀ H, PC prog env 46 ([(T_ref14_Core.ex p0)].map .dat) H (boolPV r0) H
theorem w_ref14_transposed : ∀ x r, m_ref14_transposed x = some r → P_ref14_transposed x r := by
  intro p0 r0 hm
  unfold m_ref14_transposed at hm
  unfold P_ref14_transposed
  intro H
  refine PC_sx (ds := [(T_ref14_Core.ex p0)]) (fn := f46) (by kernel_rfl) (by kernel_rfl) rfl ?_ (by kernel_rfl)
  refine R_seq ?_
  refine R_G ?_
  refine G_run 2 ?_
  refine G_end ?_
  refine R_seq ?_
  refine R_G ?_
  refine G_run 2 ?_
  obtain ⟨v1, hx, hm⟩ := bind_inv hm
  refine I_idx 8 T_ref14_Core.toD p0.kids 0 v1 (es := T_ref14_Core.toDs p0.kids) (d := (T_ref14_Core.ex v1)) (T_ref14_Core.toDs_eq _) hx (T_ref14_Core.toD_eq v1) rfl ?_
  refine G_run 3 ?_
  refine G_end ?_
  refine R_seq ?_
  refine R_seq ?_
  refine R_G ?_
  refine G_run 2 ?_
  refine I_len intD p0.perm (es := (List.map intD) p0.perm) rfl ?_
  refine G_run 1 ?_
  refine I_len intD v1.shape (es := (List.map intD) v1.shape) rfl ?_
  refine G_run 1 ?_
  refine G_end ?_
  refine R_ifp (p := (p0.perm.length : Int) ≠ (v1.shape.length : Int)) (ne_dec _ _) (fun hc => ?_) (fun hc => ?_)
  · replace hm := pos_inv hc hm
    refine R_seq ?_
    refine R_G ?_
    refine G_run 1 ?_
    refine G_end ?_
    refine R_ret ?_
    obtain rfl := inj1 hm
    exact ⟨trivial, fin_pure (by kernel_rfl)⟩
  replace hm := neg_inv hc hm
  refine R_skip ?_
  refine R_seq ?_
  refine R_seq ?_
  refine R_G ?_
  refine G_run 1 ?_
  refine G_end ?_
  refine R_block ?_
  obtain ⟨out, hs, hm⟩ := bind_inv hm
  refine R_loop ?_
  rcases out with _ | _
  · refine RL_use (w_ref14_transposed_L1 _ _ hs) (by kernel_rfl) ?_
    clear hs
    intro e s hp
    obtain ⟨rfl, d, rfl⟩ := hp
    obtain rfl := inj1 hm
    exact ⟨trivial, fin_pure (by kernel_rfl)⟩
  · refine RL_use (w_ref14_transposed_L1 _ _ hs) (by kernel_rfl) ?_
    clear hs
    intro e s hp
    obtain ⟨rfl, d, rfl⟩ := hp
    refine R_seq ?_
    refine R_seq ?_
    refine R_G ?_
    refine G_run 1 ?_
    refine G_end ?_
    refine R_block ?_
    obtain ⟨out, hs, hm⟩ := bind_inv hm
    refine R_loop ?_
    rcases out with _ | _
    · refine RL_use (w_ref14_transposed_L2 _ _ hs) (by kernel_rfl) ?_
      clear hs
      intro e s hp
      obtain ⟨rfl, d, rfl⟩ := hp
      obtain rfl := inj1 hm
      exact ⟨trivial, fin_pure (by kernel_rfl)⟩
    · refine RL_use (w_ref14_transposed_L2 _ _ hs) (by kernel_rfl) ?_
      clear hs
      intro e s hp
      obtain ⟨rfl, d, rfl⟩ := hp
      refine R_seq ?_
      refine R_G ?_
      refine G_run 1 ?_
      refine G_end ?_
      refine R_ret ?_
      obtain rfl := inj1 hm
      exact ⟨trivial, fin_pure (by kernel_rfl)⟩
end Go.Proofs.Tryd
namespace Go.Proofs.Tryd
open Go Go.Pm
set_option linter.unusedVariables false
set_option maxRecDepth 2000
def m_ref14_joined_L1 (x : (T_ref14_Core × T_ref14_Core × T_ref14_Core × Int)) : Option (Unit ⊕ Unit) :=
  match x with
  | (v1, p0, v2, v206) =>
  if v206 < (v1.shape.length : Int) then
    ((if v206 = p0.axis then
      idx p0.shape v206 >>= fun v608 =>
      idx v1.shape v206 >>= fun v609 =>
      idx v2.shape v206 >>= fun v610 =>
      some (v608 != (W (v609 + v610)))
    else
    some false
    ) >>= fun (v607 : Bool) =>
    if v607 = true then
      some true
    else
    if v206 ≠ p0.axis then
      idx v1.shape v206 >>= fun v611 =>
      idx v2.shape v206 >>= fun v612 =>
      (if v611 ≠ v612 then
        some true
      else
      idx v1.shape v206 >>= fun v614 =>
      idx p0.shape v206 >>= fun v615 =>
      some (v614 != v615)
      ) >>= fun (v613 : Bool) =>
      some v613
    else
    some false
    ) >>= fun (v606 : Bool) =>
    if v606 = true then
      some (Sum.inl ())
    else
    m_ref14_joined_L1 (v1, p0, v2, (W (v206 + 1)))
  else
  some (Sum.inr ())
  partial_fixpoint
def P_ref14_joined_L1 : (T_ref14_Core × T_ref14_Core × T_ref14_Core × Int) → (Unit ⊕ Unit) → Prop := fun x r => match x with
  | (v1, p0, v2, v206) => ∀ st, prune 1 ((firstRegion (codeAt [1, 1, 1, 1, 0, 1, 0, 0] (bodyOf f47))).bind (env.hint 47).keepAt) st = ⟨kp 97 [(1, (.ptr 0 0)), (3, (.dat (.lst ((List.map intD) v1.shape)))), (4, (.dat (.lst ((List.map intD) v2.shape)))), (5, (intPV v206))], [(.box [(intPV p0.kind), (.dat (.lst ((List.map intD) p0.shape))), (intPV p0.buffer), (.dat (.lst ((List.map intD) p0.starts))), (intPV p0.axis), (intPV p0.amount), (.dat (.lst ((List.map intD) p0.perm))), (.dat (.lst (T_ref14_Core.toDs p0.kids)))])]⟩ →
    RL prog env (env.hint 47) true (codeAt [1, 1, 1, 1, 0, 1, 0, 0] (bodyOf f47)) 1 st (fun e s => match r with | .inl _ => e = .ret ∧ ∃ d, s = ⟨sl d 97 [(2, (boolPV false))], [(.box [(intPV p0.kind), (.dat (.lst ((List.map intD) p0.shape))), (intPV p0.buffer), (.dat (.lst ((List.map intD) p0.starts))), (intPV p0.axis), (intPV p0.amount), (.dat (.lst ((List.map intD) p0.perm))), (.dat (.lst (T_ref14_Core.toDs p0.kids)))])]⟩ | .inr (_) => e = .exit 0 ∧ ∃ d, s = ⟨sl d 97 [], [(.box [(intPV p0.kind), (.dat (.lst ((List.map intD) p0.shape))), (intPV p0.buffer), (.dat (.lst ((List.map intD) p0.starts))), (intPV p0.axis), (intPV p0.amount), (.dat (.lst ((List.map intD) p0.perm))), (.dat (.lst (T_ref14_Core.toDs p0.kids)))])]⟩)
theorem w_ref14_joined_L1 : ∀ x r, m_ref14_joined_L1 x = some r → P_ref14_joined_L1 x r := by
  refine m_ref14_joined_L1.partial_correctness _ (fun m_ref14_joined_L1 w_ref14_joined_L1 x r hm => ?_)
  unfold P_ref14_joined_L1
  obtain ⟨v1, p0, v2, v206⟩ := x
  intro st hst
  refine RL_at hst ?_
  clear hst
  refine R_seq ?_
  refine R_seq ?_
  refine R_G ?_
  refine G_run 2 ?_
  refine I_len intD v1.shape (es := (List.map intD) v1.shape) rfl ?_
  refine G_run 1 ?_
  refine G_end ?_
  refine R_ifp (p := v206 < (v1.shape.length : Int)) (rfl) (fun hc => ?_) (fun hc => ?_)
  · replace hm := pos_inv hc hm
    refine R_skip ?_
    refine R_seq ?_
    refine R_block ?_
    refine R_seq ?_
    obtain ⟨v606, hs, hm⟩ := bind_inv hm
    refine R_cut (fun d => ⟨sl d 97 [(1, (.ptr 0 0)), (3, (.dat (.lst ((List.map intD) v1.shape)))), (4, (.dat (.lst ((List.map intD) v2.shape)))), (5, (intPV v206)), (96, (boolPV v606))], [(.box [(intPV p0.kind), (.dat (.lst ((List.map intD) p0.shape))), (intPV p0.buffer), (.dat (.lst ((List.map intD) p0.starts))), (intPV p0.axis), (intPV p0.amount), (.dat (.lst ((List.map intD) p0.perm))), (.dat (.lst (T_ref14_Core.toDs p0.kids)))])]⟩) ?_ (fun d => ?_)
    · replace hm := hs
      clear hs
      refine R_GW ?_
      refine G_run 5 ?_
      obtain ⟨v607, hs, hm⟩ := bind_inv hm
      refine G_cut (j := 21) (fun d => ⟨sl d 97 [(1, (.ptr 0 0)), (3, (.dat (.lst ((List.map intD) v1.shape)))), (4, (.dat (.lst ((List.map intD) v2.shape)))), (5, (intPV v206)), (41, (intPV v206)), (42, (.dat (.lst ((List.map intD) v1.shape)))), (43, (intPV (v1.shape.length : Int))), (44, (boolPV (decide (v206 < (v1.shape.length : Int))))), (47, (intPV v206)), (48, (.ptr 0 4)), (49, (intPV p0.axis)), (50, (boolPV (v206 == p0.axis))), (67, (boolPV v607))], [(.box [(intPV p0.kind), (.dat (.lst ((List.map intD) p0.shape))), (intPV p0.buffer), (.dat (.lst ((List.map intD) p0.starts))), (intPV p0.axis), (intPV p0.amount), (.dat (.lst ((List.map intD) p0.perm))), (.dat (.lst (T_ref14_Core.toDs p0.kids)))])]⟩) (fun d => ?_) (fun hJ => ?_)
      · clear hs
        refine G_run 1 ?_
        refine G_split (p := v607 = true) 68 (bool_dec _) (fun hc => ?_) (fun hc => ?_)
        · replace hm := pos_inv hc hm
          refine G_run 28 ?_
          refine G_end ⟨by kernel_rfl, ?_⟩
          obtain rfl := inj1 hm
          exact cut_leaf (by kernel_rfl)
        replace hm := neg_inv hc hm
        refine G_run 5 ?_
        refine G_split (p := v206 ≠ p0.axis) 73 (ne_dec _ _) (fun hc => ?_) (fun hc => ?_)
        · replace hm := pos_inv hc hm
          refine G_run 2 ?_
          obtain ⟨v611, hx, hm⟩ := bind_inv hm
          refine I_idx 1 intD v1.shape v206 v611 (es := (List.map intD) v1.shape) (d := (intD v611)) rfl hx rfl rfl ?_
          refine G_run 3 ?_
          obtain ⟨v612, hx, hm⟩ := bind_inv hm
          refine I_idx 1 intD v2.shape v206 v612 (es := (List.map intD) v2.shape) (d := (intD v612)) rfl hx rfl rfl ?_
          refine G_run 3 ?_
          obtain ⟨v613, hs, hm⟩ := bind_inv hm
          refine G_cut (j := 48) (fun d => ⟨sl d 97 [(1, (.ptr 0 0)), (3, (.dat (.lst ((List.map intD) v1.shape)))), (4, (.dat (.lst ((List.map intD) v2.shape)))), (5, (intPV v206)), (41, (intPV v206)), (42, (.dat (.lst ((List.map intD) v1.shape)))), (43, (intPV (v1.shape.length : Int))), (44, (boolPV (decide (v206 < (v1.shape.length : Int))))), (47, (intPV v206)), (48, (.ptr 0 4)), (49, (intPV p0.axis)), (50, (boolPV (v206 == p0.axis))), (67, (boolPV v607)), (68, (boolPV false)), (69, (intPV v206)), (70, (.ptr 0 4)), (71, (intPV p0.axis)), (72, (boolPV (v206 != p0.axis))), (73, (boolPV true)), (74, (.dat (.lst ((List.map intD) v1.shape)))), (75, (intPV v206)), (76, (.iptr [(intD v611)])), (77, (intPV v611)), (78, (.dat (.lst ((List.map intD) v2.shape)))), (79, (intPV v206)), (80, (.iptr [(intD v612)])), (81, (intPV v612)), (82, (boolPV (v611 != v612))), (94, (boolPV v613))], [(.box [(intPV p0.kind), (.dat (.lst ((List.map intD) p0.shape))), (intPV p0.buffer), (.dat (.lst ((List.map intD) p0.starts))), (intPV p0.axis), (intPV p0.amount), (.dat (.lst ((List.map intD) p0.perm))), (.dat (.lst (T_ref14_Core.toDs p0.kids)))])]⟩) (fun d => ?_) (fun hJ => ?_)
          · clear hs
            refine G_run 2 ?_
            refine G_end ⟨by kernel_rfl, ?_⟩
            obtain rfl := inj1 hm
            exact cut_leaf (by kernel_rfl)
          replace hm := hs
          clear hs
          refine G_split (p := v611 ≠ v612) 83 (ne_dec _ _) (fun hc => ?_) (fun hc => ?_)
          · replace hm := pos_inv hc hm
            refine G_run 11 ?_
            obtain rfl := inj1 hm
            exact hJ _ _ (by kernel_rfl) (by kernel_rfl)
          replace hm := neg_inv hc hm
          refine G_run 2 ?_
          obtain ⟨v614, hx, hm⟩ := bind_inv hm
          refine I_idx 1 intD v1.shape v206 v614 (es := (List.map intD) v1.shape) (d := (intD v614)) rfl hx rfl rfl ?_
          refine G_run 4 ?_
          obtain ⟨v615, hx, hm⟩ := bind_inv hm
          refine I_idx 1 intD p0.shape v206 v615 (es := (List.map intD) p0.shape) (d := (intD v615)) rfl hx rfl rfl ?_
          refine G_run 3 ?_
          obtain rfl := inj1 hm
          exact hJ _ _ (by kernel_rfl) (by kernel_rfl)
        replace hm := neg_inv hc hm
        refine G_run 23 ?_
        refine G_end ⟨by kernel_rfl, ?_⟩
        obtain rfl := inj1 hm
        exact cut_leaf (by kernel_rfl)
      replace hm := hs
      clear hs
      refine G_split (p := v206 = p0.axis) 51 (eq_dec _ _) (fun hc => ?_) (fun hc => ?_)
      · replace hm := pos_inv hc hm
        refine G_run 3 ?_
        obtain ⟨v608, hx, hm⟩ := bind_inv hm
        refine I_idx 1 intD p0.shape v206 v608 (es := (List.map intD) p0.shape) (d := (intD v608)) rfl hx rfl rfl ?_
        refine G_run 3 ?_
        obtain ⟨v609, hx, hm⟩ := bind_inv hm
        refine I_idx 1 intD v1.shape v206 v609 (es := (List.map intD) v1.shape) (d := (intD v609)) rfl hx rfl rfl ?_
        refine G_run 3 ?_
        obtain ⟨v610, hx, hm⟩ := bind_inv hm
        refine I_idx 1 intD v2.shape v206 v610 (es := (List.map intD) v2.shape) (d := (intD v610)) rfl hx rfl rfl ?_
        refine G_run 4 ?_
        obtain rfl := inj1 hm
        exact hJ _ _ (by kernel_rfl) (by kernel_rfl)
      replace hm := neg_inv hc hm
      refine G_run 16 ?_
      obtain rfl := inj1 hm
      exact hJ _ _ (by kernel_rfl) (by kernel_rfl)
    clear hs
    refine R_ifp (p := v606 = true) (bool_dec _) (fun hc => ?_) (fun hc => ?_)
    · replace hm := pos_inv hc hm
      refine R_seq ?_
      refine R_G ?_
      refine G_run 1 ?_
      refine G_end ?_
      refine R_ret ?_
      obtain rfl := inj1 hm
      exact ⟨rfl, cut_leaf (by kernel_rfl)⟩
    replace hm := neg_inv hc hm
    refine R_skip ?_
    refine R_G ?_
    refine G_run 3 ?_
    refine G_end ?_
    exact w_ref14_joined_L1 _ _ hm _ (by kernel_rfl)
  replace hm := neg_inv hc hm
  refine R_exit ?_
  obtain rfl := inj1 hm
  exact ⟨rfl, cut_leaf (by kernel_rfl)⟩
def m_ref14_joined (x : T_ref14_Core) : Option Bool :=
  match x with
  | p0 =>
  idx p0.kids 0 >>= fun v1 =>
  idx p0.kids 1 >>= fun v2 =>
  ((if (v1.shape.length : Int) ≠ (v2.shape.length : Int) then
    some true
  else
  some ((v1.shape.length : Int) != (p0.shape.length : Int))
  ) >>= fun (v4 : Bool) =>
  (if v4 = true then
    some true
  else
  some (decide (p0.axis < 0))
  ) >>= fun (v5 : Bool) =>
  if v5 = true then
    some true
  else
  some (decide (p0.axis ≥ (v1.shape.length : Int)))
  ) >>= fun (v3 : Bool) =>
  if v3 = true then
    some false
  else
  (
  m_ref14_joined_L1 (v1, p0, v2, 0) >>= fun (out : Unit ⊕ Unit) =>
  match out with
  | .inl _ =>
    some false
  | .inr (_) =>
    some true
  )
def P_ref14_joined : T_ref14_Core → Bool → Prop := fun x r => match x, r with
  | p0, r0 => ∀ H, PC prog env 47 ([(T_ref14_Core.ex p0)].map .dat) H (boolPV r0) H
theorem w_ref14_joined : ∀ x r, m_ref14_joined x = some r → P_ref14_joined x r := by
  intro p0 r0 hm
  unfold m_ref14_joined at hm
  unfold P_ref14_joined
  intro H
  refine PC_sx (ds := [(T_ref14_Core.ex p0)]) (fn := f47) (by kernel_rfl) (by kernel_rfl) rfl ?_ (by kernel_rfl)
  refine R_seq ?_
  refine R_G ?_
  refine G_run 2 ?_
  refine G_end ?_
  refine R_seq ?_
  refine R_G ?_
  refine G_run 2 ?_
  obtain ⟨v1, hx, hm⟩ := bind_inv hm
  refine I_idx 8 T_ref14_Core.toD p0.kids 0 v1 (es := T_ref14_Core.toDs p0.kids) (d := (T_ref14_Core.ex v1)) (T_ref14_Core.toDs_eq _) hx (T_ref14_Core.toD_eq v1) rfl ?_
  refine G_run 3 ?_
  refine G_end ?_
  refine R_seq ?_
  refine R_G ?_
  refine G_run 2 ?_
  obtain ⟨v2, hx, hm⟩ := bind_inv hm
  refine I_idx 8 T_ref14_Core.toD p0.kids 1 v2 (es := T_ref14_Core.toDs p0.kids) (d := (T_ref14_Core.ex v2)) (T_ref14_Core.toDs_eq _) hx (T_ref14_Core.toD_eq v2) rfl ?_
  refine G_run 3 ?_
  refine G_end ?_
  refine R_seq ?_
  refine R_seq ?_
  obtain ⟨v3, hs, hm⟩ := bind_inv hm
  refine R_cut (fun d => ⟨sl d 97 [(1, (.ptr 0 0)), (3, (.dat (.lst ((List.map intD) v1.shape)))), (4, (.dat (.lst ((List.map intD) v2.shape)))), (40, (boolPV v3))], [(.box [(intPV p0.kind), (.dat (.lst ((List.map intD) p0.shape))), (intPV p0.buffer), (.dat (.lst ((List.map intD) p0.starts))), (intPV p0.axis), (intPV p0.amount), (.dat (.lst ((List.map intD) p0.perm))), (.dat (.lst (T_ref14_Core.toDs p0.kids)))])]⟩) ?_ (fun d => ?_)
  · replace hm := hs
    clear hs
    refine R_GN ?_
    refine G_run 1 ?_
    refine I_len intD v1.shape (es := (List.map intD) v1.shape) rfl ?_
    refine G_run 1 ?_
    refine I_len intD v2.shape (es := (List.map intD) v2.shape) rfl ?_
    refine G_run 2 ?_
    obtain ⟨v4, hs, hm⟩ := bind_inv hm
    refine G_cut (j := 13) (fun d => ⟨sl d 97 [(0, (.dat (.agg [(intD p0.kind), (.lst ((List.map intD) p0.shape)), (intD p0.buffer), (.lst ((List.map intD) p0.starts)), (intD p0.axis), (intD p0.amount), (.lst ((List.map intD) p0.perm)), (.lst (T_ref14_Core.toDs p0.kids))]))), (1, (.ptr 0 0)), (2, (boolPV false)), (3, (.dat (.lst ((List.map intD) v1.shape)))), (4, (.dat (.lst ((List.map intD) v2.shape)))), (6, (.ptr 0 7)), (7, (.dat (.lst (T_ref14_Core.toDs p0.kids)))), (8, (.iptr [(intD v1.kind), (.lst ((List.map intD) v1.shape)), (intD v1.buffer), (.lst ((List.map intD) v1.starts)), (intD v1.axis), (intD v1.amount), (.lst ((List.map intD) v1.perm)), (.lst (T_ref14_Core.toDs v1.kids))])), (9, (.iptr [(.lst ((List.map intD) v1.shape)), (intD v1.buffer), (.lst ((List.map intD) v1.starts)), (intD v1.axis), (intD v1.amount), (.lst ((List.map intD) v1.perm)), (.lst (T_ref14_Core.toDs v1.kids))])), (10, (.dat (.lst ((List.map intD) v1.shape)))), (11, (.ptr 0 7)), (12, (.dat (.lst (T_ref14_Core.toDs p0.kids)))), (13, (.iptr [(intD v2.kind), (.lst ((List.map intD) v2.shape)), (intD v2.buffer), (.lst ((List.map intD) v2.starts)), (intD v2.axis), (intD v2.amount), (.lst ((List.map intD) v2.perm)), (.lst (T_ref14_Core.toDs v2.kids))])), (14, (.iptr [(.lst ((List.map intD) v2.shape)), (intD v2.buffer), (.lst ((List.map intD) v2.starts)), (intD v2.axis), (intD v2.amount), (.lst ((List.map intD) v2.perm)), (.lst (T_ref14_Core.toDs v2.kids))])), (15, (.dat (.lst ((List.map intD) v2.shape)))), (16, (.dat (.lst ((List.map intD) v1.shape)))), (17, (intPV (v1.shape.length : Int))), (18, (.dat (.lst ((List.map intD) v2.shape)))), (19, (intPV (v2.shape.length : Int))), (20, (boolPV ((v1.shape.length : Int) != (v2.shape.length : Int)))), (28, (boolPV v4))], [(.box [(intPV p0.kind), (.dat (.lst ((List.map intD) p0.shape))), (intPV p0.buffer), (.dat (.lst ((List.map intD) p0.starts))), (intPV p0.axis), (intPV p0.amount), (.dat (.lst ((List.map intD) p0.perm))), (.dat (.lst (T_ref14_Core.toDs p0.kids)))])]⟩) (fun d => ?_) (fun hJ => ?_)
    · clear hs
      refine G_run 1 ?_
      obtain ⟨v5, hs, hm⟩ := bind_inv hm
      refine G_cut (j := 18) (fun d => ⟨sl d 97 [(0, (.dat (.agg [(intD p0.kind), (.lst ((List.map intD) p0.shape)), (intD p0.buffer), (.lst ((List.map intD) p0.starts)), (intD p0.axis), (intD p0.amount), (.lst ((List.map intD) p0.perm)), (.lst (T_ref14_Core.toDs p0.kids))]))), (1, (.ptr 0 0)), (2, (boolPV false)), (3, (.dat (.lst ((List.map intD) v1.shape)))), (4, (.dat (.lst ((List.map intD) v2.shape)))), (6, (.ptr 0 7)), (7, (.dat (.lst (T_ref14_Core.toDs p0.kids)))), (8, (.iptr [(intD v1.kind), (.lst ((List.map intD) v1.shape)), (intD v1.buffer), (.lst ((List.map intD) v1.starts)), (intD v1.axis), (intD v1.amount), (.lst ((List.map intD) v1.perm)), (.lst (T_ref14_Core.toDs v1.kids))])), (9, (.iptr [(.lst ((List.map intD) v1.shape)), (intD v1.buffer), (.lst ((List.map intD) v1.starts)), (intD v1.axis), (intD v1.amount), (.lst ((List.map intD) v1.perm)), (.lst (T_ref14_Core.toDs v1.kids))])), (10, (.dat (.lst ((List.map intD) v1.shape)))), (11, (.ptr 0 7)), (12, (.dat (.lst (T_ref14_Core.toDs p0.kids)))), (13, (.iptr [(intD v2.kind), (.lst ((List.map intD) v2.shape)), (intD v2.buffer), (.lst ((List.map intD) v2.starts)), (intD v2.axis), (intD v2.amount), (.lst ((List.map intD) v2.perm)), (.lst (T_ref14_Core.toDs v2.kids))])), (14, (.iptr [(.lst ((List.map intD) v2.shape)), (intD v2.buffer), (.lst ((List.map intD) v2.starts)), (intD v2.axis), (intD v2.amount), (.lst ((List.map intD) v2.perm)), (.lst (T_ref14_Core.toDs v2.kids))])), (15, (.dat (.lst ((List.map intD) v2.shape)))), (16, (.dat (.lst ((List.map intD) v1.shape)))), (17, (intPV (v1.shape.length : Int))), (18, (.dat (.lst ((List.map intD) v2.shape)))), (19, (intPV (v2.shape.length : Int))), (20, (boolPV ((v1.shape.length : Int) != (v2.shape.length : Int)))), (28, (boolPV v4)), (33, (boolPV v5))], [(.box [(intPV p0.kind), (.dat (.lst ((List.map intD) p0.shape))), (intPV p0.buffer), (.dat (.lst ((List.map intD) p0.starts))), (intPV p0.axis), (intPV p0.amount), (.dat (.lst ((List.map intD) p0.perm))), (.dat (.lst (T_ref14_Core.toDs p0.kids)))])]⟩) (fun d => ?_) (fun hJ => ?_)
      · clear hs
        refine G_run 1 ?_
        refine G_split (p := v5 = true) 34 (bool_dec _) (fun hc => ?_) (fun hc => ?_)
        · replace hm := pos_inv hc hm
          refine G_run 6 ?_
          refine G_end ⟨by kernel_rfl, ?_⟩
          obtain rfl := inj1 hm
          exact cut_leaf (by kernel_rfl)
        replace hm := neg_inv hc hm
        refine G_run 3 ?_
        refine I_len intD v1.shape (es := (List.map intD) v1.shape) rfl ?_
        refine G_run 2 ?_
        refine G_end ⟨by kernel_rfl, ?_⟩
        obtain rfl := inj1 hm
        exact cut_leaf (by kernel_rfl)
      replace hm := hs
      clear hs
      refine G_split (p := v4 = true) 29 (bool_dec _) (fun hc => ?_) (fun hc => ?_)
      · replace hm := pos_inv hc hm
        refine G_run 4 ?_
        obtain rfl := inj1 hm
        exact hJ _ _ (by kernel_rfl) (by kernel_rfl)
      replace hm := neg_inv hc hm
      refine G_run 4 ?_
      obtain rfl := inj1 hm
      exact hJ _ _ (by kernel_rfl) (by kernel_rfl)
    replace hm := hs
    clear hs
    refine G_split (p := (v1.shape.length : Int) ≠ (v2.shape.length : Int)) 21 (ne_dec _ _) (fun hc => ?_) (fun hc => ?_)
    · replace hm := pos_inv hc hm
      refine G_run 7 ?_
      obtain rfl := inj1 hm
      exact hJ _ _ (by kernel_rfl) (by kernel_rfl)
    replace hm := neg_inv hc hm
    refine G_run 1 ?_
    refine I_len intD v1.shape (es := (List.map intD) v1.shape) rfl ?_
    refine G_run 2 ?_
    refine I_len intD p0.shape (es := (List.map intD) p0.shape) rfl ?_
    refine G_run 2 ?_
    obtain rfl := inj1 hm
    exact hJ _ _ (by kernel_rfl) (by kernel_rfl)
  clear hs
  refine R_ifp (p := v3 = true) (bool_dec _) (fun hc => ?_) (fun hc => ?_)
  · replace hm := pos_inv hc hm
    refine R_seq ?_
    refine R_G ?_
    refine G_run 1 ?_
    refine G_end ?_
    refine R_ret ?_
    obtain rfl := inj1 hm
    exact ⟨trivial, fin_pure (by kernel_rfl)⟩
  replace hm := neg_inv hc hm
  refine R_skip ?_
  refine R_seq ?_
  refine R_seq ?_
  refine R_G ?_
  refine G_run 1 ?_
  refine G_end ?_
  refine R_block ?_
  obtain ⟨out, hs, hm⟩ := bind_inv hm
  refine R_loop ?_
  rcases out with _ | _
  · refine RL_use (w_ref14_joined_L1 _ _ hs) (by kernel_rfl) ?_
    clear hs
    intro e s hp
    obtain ⟨rfl, d, rfl⟩ := hp
    obtain rfl := inj1 hm
    exact ⟨trivial, fin_pure (by kernel_rfl)⟩
  · refine RL_use (w_ref14_joined_L1 _ _ hs) (by kernel_rfl) ?_
    clear hs
    intro e s hp
    obtain ⟨rfl, d, rfl⟩ := hp
    refine R_seq ?_
    refine R_G ?_
    refine G_run 1 ?_
    refine G_end ?_
    refine R_ret ?_
    obtain rfl := inj1 hm
    exact ⟨trivial, fin_pure (by kernel_rfl)⟩
end Go.Proofs.Tryd
