/-
  Models of functions, their walks, and plain laws.
-/
import Derived.Test.YtieiegplecaomaaPmSx
import Derived.Test.YtieiegplecaomaaProg
import Derived.Test.YtieiegplecaomaaPmStr
import Derived.Test.YtieiegplecaomaaPmMs
import Derived.KernelRfl
namespace Go.Proofs.Try
open Go Go.Pm
set_option linter.unusedVariables false
set_option linter.unusedSimpArgs false
set_option maxRecDepth 2000
/-- lists that a machine can hold -/
def Sm (n : Nat) : Prop := n ≤ 9223372036854775807
theorem Sm_of {n m : Nat} (h : n ≤ m) (hm : m ≤ 9223372036854775807 := by decide) : Sm n := Nat.le_trans h hm
theorem idx_ok {α : Type} {l : List α} {j : Nat} (h : j < l.length) : idx l (j : Int) = some l[j] := by simp [idx, h]
theorem app_ok {α : Type} {b : Nat} {l es : List α} (h : (l.length + es.length) * b ≤ room) : app b l es = some (l ++ es) := if_pos h
theorem W_ok {n : Int} (h1 : -9223372036854775808 ≤ n) (h2 : n < 9223372036854775808) : W n = n := by
  simp only [W, IntKind.wrap, IntKind.bits, IntKind.signed]; simp; split <;> omega
theorem W_succ {j : Nat} (h : j < 9223372036854775807) : W ((j : Int) + 1) = ((j + 1 : Nat) : Int) := by rw [W_ok (by omega) (by omega)]; omega
/-! a loop over a list: what lies behind, what lies ahead -/
section
variable {α : Type} {p s : List α} {x : α}
theorem mid_lt : ((p.length : Int) < ((p ++ x :: s).length : Int)) := by simp; omega
theorem end_lt : ¬ ((p.length : Int) < ((p ++ ([] : List α)).length : Int)) := by simp
theorem mid_idx : idx (p ++ x :: s) (p.length : Int) = some x := by simp [idx]
theorem mid_app : p ++ x :: s = (p ++ [x]) ++ s := by simp
theorem mid_W (hs : Sm (p ++ x :: s).length) : W ((p.length : Int) + 1) = ((p ++ [x]).length : Int) := by
  unfold Sm at hs
  rw [W_ok (by omega) (by simp at hs; omega)]; simp
end
theorem bind_ok {α β : Type} (a : α) (f : α → Option β) : (some a >>= f) = f a := rfl
end Go.Proofs.Try
namespace Go.Proofs.Try
open Go Go.Pm
set_option linter.unusedVariables false
set_option maxHeartbeats 2000000
set_option maxRecDepth 2000
def hintOf : FuncId → Hint
  | 4 => { own := [((3, 0), [(0, 2)])], keep := [(5, [0, 1, 5, 6]), (15, [0, 1, 7, 9, 11])] }
  | 6 => { own := [], keep := [(12, [5, 6, 7])] }
  | 7 => { own := [], keep := [(6, [1, 3, 4, 5])] }
  | 8 => { own := [((4, 0), [(0, 3)]), ((5, 0), [(0, 3)]), ((6, 0), [(0, 3)])], keep := [(9, [2, 3, 5, 6, 7]), (13, [2, 3, 5, 6, 8]), (17, [2, 3, 5, 6, 9])] }
  | 10 => { own := [], keep := [(2, [0, 3])] }
  | 12 => { own := [((13, 5), [(0, 78)])], keep := [] }
  | 13 => { own := [], keep := [(4, [0, 1, 5])] }
  | 17 => { own := [((6, 0), [(0, 3)]), ((6, 1), [(0, 3)]), ((18, 4), [(0, 78)])], keep := [(8, [4, 6, 8, 9, 38, 39, 40])] }
  | 18 => { own := [((6, 1), [(0, 3)]), ((12, 4), [(0, 78)])], keep := [(8, [4, 6, 8, 9, 41, 42, 43])] }
  | 22 => { own := [], keep := [(5, [1, 2, 5, 6])] }
  | 23 => { own := [((2, 4), [(0, 3)]), ((2, 9), [(0, 3)]), ((2, 15), [(0, 3)])], keep := [(5, [2, 3, 4, 5])] }
  | 25 => { own := [], keep := [(2, [1, 2, 3]), (7, [1, 2, 4])] }
  | 29 => { own := [((1, 0), [(0, 60)])], keep := [(4, [1, 3, 4, 5])] }
  | 30 => { own := [((5, 0), [(0, 22)]), ((12, 1), [(0, 3)])], keep := [(3, [0, 3, 4]), (7, [0, 3, 4, 5, 6]), (10, [0, 3, 4, 5, 6, 7])] }
  | 32 => { own := [], keep := [(3, [3, 7, 8, 9])] }
  | 33 => { own := [((4, 4), [(0, 78)])], keep := [] }
  | 34 => { own := [((9, 10), [(0, 78)])], keep := [] }
  | 36 => { own := [], keep := [(3, [0, 4, 5]), (9, [0, 4, 6]), (17, [0, 7, 8])] }
  | 38 => { own := [((3, 1), [(0, 3)])], keep := [] }
  | 40 => { own := [((4, 1), [(0, 3)]), ((4, 3), [(0, 3)])], keep := [(6, [6, 9, 23, 24, 25])] }
  | 44 => { own := [((1, 0), [(1000, 3)]), ((9, 3), [(0, 78)])], keep := [(3, [1, 2, 4, 6, 9, 10, 11]), (5, [1, 2, 4, 6, 7, 8, 9, 10, 11])] }
  | 48 => { own := [((2, 0), [(1000, 3)]), ((3, 0), [(1000, 3)])], keep := [] }
  | 51 => { own := [((1, 0), [(0, 50)])], keep := [(3, [1, 5, 8, 9, 10])] }
  | 54 => { own := [], keep := [(2, [1, 2, 5])] }
  | 55 => { own := [((1, 0), [(1000, 3)])], keep := [(3, [1, 5, 8, 9, 10])] }
  | 57 => { own := [((2, 7), [(0, 3)]), ((3, 7), [(0, 3)]), ((5, 9), [(0, 3)])], keep := [] }
  | 58 => { own := [((1, 3), [(0, 3)]), ((2, 3), [(0, 3)]), ((3, 4), [(0, 3)])], keep := [] }
  | 60 => { own := [], keep := [(4, [0, 1, 12, 13])] }
  | 61 => { own := [((0, 0), [(9000, 3)]), ((0, 1), [(9000, 3)])], keep := [] }
  | 62 => { own := [], keep := [(3, [0, 1, 5, 6])] }
  | 65 => { own := [], keep := [(3, [0, 1, 5, 11, 12])] }
  | 77 => { own := [((3, 2), [(0, 2)])], keep := [] }
  | 78 => { own := [((1, 2), [(0, 3)])], keep := [(3, [1, 6, 14, 15, 16])] }
  | 80 => { own := [], keep := [(5, [0, 3, 4])] }
  | 87 => { own := [((2, 5), [(0, 3)]), ((2, 6), [(0, 3)])], keep := [(4, [2, 4, 7, 26, 27, 28])] }
  | 89 => { own := [((1, 2), [(8000, 3)]), ((1, 4), [(0, 3)])], keep := [] }
  | 93 => { own := [((1, 0), [(1000, 3)])], keep := [(3, [0, 1, 5, 6])] }
  | 94 => { own := [((1, 4), [(0, 3)])], keep := [] }
  | 102 => { own := [((2, 0), [(1000, 2)]), ((3, 0), [(1000, 2)])], keep := [] }
  | 103 => { own := [], keep := [(8, [7, 8])] }
  | 104 => { own := [], keep := [(2, [0, 1, 7, 8])] }
  | 106 => { own := [], keep := [(8, [0, 3, 4, 18, 19])] }
  | 108 => { own := [((1, 0), [(0, 123)])], keep := [(3, [1, 5, 8, 9, 10])] }
  | 117 => { own := [((9, 1), [(2000, 3)])], keep := [(3, [0, 3, 9, 10, 11]), (11, [6, 25, 26, 27])] }
  | 119 => { own := [], keep := [(3, [2, 8, 13, 14, 15])] }
  | 121 => { own := [], keep := [(4, [0, 12, 13, 14])] }
  | 127 => { own := [], keep := [(3, [0, 1, 5, 9, 10]), (9, [0, 1, 5, 24, 25])] }
  | 128 => { own := [], keep := [(2, [0, 1, 2, 3, 4, 10, 11])] }
  | 130 => { own := [], keep := [(2, [0, 1, 9, 10, 11])] }
  | 134 => { own := [], keep := [(2, [0, 1, 7, 8])] }
  | 139 => { own := [], keep := [(1, [0, 1, 2, 3, 8]), (4, [0, 1, 2, 3, 8, 9])] }
  | 140 => { own := [], keep := [(4, [0, 3, 8, 9, 10, 11]), (8, [0, 3, 8, 9, 12])] }
  | 141 => { own := [], keep := [(5, [0, 1, 8, 9, 10, 11])] }
  | 143 => { own := [], keep := [(2, [0, 8, 9])] }
  | 144 => { own := [], keep := [(3, [0, 1, 2, 3, 9, 10]), (5, [0, 1, 2, 3, 9, 10]), (14, [0, 1, 2, 3, 9, 10, 11]), (20, [0, 1, 2, 3, 9, 10, 12])] }
  | 145 => { own := [], keep := [(3, [0, 1, 4, 11, 12]), (5, [0, 1, 4, 11, 12])] }
  | 146 => { own := [], keep := [(3, [0, 1, 4, 12, 13]), (5, [0, 1, 4, 12, 13]), (13, [0, 1, 4, 12, 13]), (15, [0, 1, 4, 12, 13])] }
  | 150 => { own := [], keep := [(2, [0, 1, 7, 8])] }
  | 151 => { own := [], keep := [(1, [0, 2, 3, 4, 10])] }
  | _ => {}
def env : Env where
  summ := fun _ => none
  hint := hintOf
  pure := fun f => f != 40 && f != 42 && f != 47 && f != 48 && f != 55 && f != 56 && f != 57 && f != 58 && f != 76 && f != 78 && f != 79 && f != 81 && f != 83 && f != 92 && f != 93 && f != 94 && f != 97 && f != 102 && f != 103 && f != 118 && f != 124 && f != 125 && f != 126 && f != 135 && f != 138
  split := fun f => f == 48 || f == 102

end Go.Proofs.Try
namespace Go.Proofs.Try
open Go Go.Pm
theorem ag22 : aggT prog 22 = some false := by kernel_rfl
theorem by3 : bytesOf prog 3 = some 8 := by kernel_rfl
theorem el22 : elemOfSlice prog 22 = some 3 := by kernel_rfl
theorem el62 : elemOfSlice prog 62 = some 22 := by kernel_rfl
theorem sz22 : szOf prog 22 = some 1 := by kernel_rfl
theorem sz3 : szOf prog 3 = some 1 := by kernel_rfl
theorem un22 : prog.underlying 22 = some (TypeDesc.slice 3) := by kernel_rfl
theorem un3 : prog.underlying 3 = some (TypeDesc.int IntKind.i64) := by kernel_rfl
theorem un62 : prog.underlying 62 = some (TypeDesc.slice 22) := by kernel_rfl
theorem ze3 : zeroOf prog 3 = some (Dat.raw (Value.int IntKind.i64 (0))) := by kernel_rfl
theorem zn3 : (zeroOf prog 3).map Dat.num = some 1 := by kernel_rfl
end Go.Proofs.Try
namespace Go.Proofs.Try
open Go Go.Pm
set_option linter.unusedVariables false
set_option linter.unusedSimpArgs false
set_option maxRecDepth 2000
theorem wrap_i64 {n : Int} (h1 : -9223372036854775808 ≤ n) (h2 : n < 9223372036854775808) : IntKind.i64.wrap n = n := by
  simp only [IntKind.wrap, IntKind.bits, IntKind.signed]; simp; split <;> omega
theorem wrap_succ {j : Nat} (h : j < 9223372036854775807) : IntKind.i64.wrap ((j : Int) + 1) = ((j + 1 : Nat) : Int) := by rw [wrap_i64 (by omega) (by omega)]; omega

def intsD (l : List Int) : Dat := .lst (l.map intD)
theorem ints_get {l : List Int} {j : Nat} (h : j < l.length) : (l.map intD)[j]? = some (intD l[j]) := by simp [h]
theorem map_fit {α : Type} {f : α → Dat} {k : Nat} (h : ∀ a, Dat.fits k (f a) = true) (l : List α) : (l.map f).all (Dat.fits k) = true := by
  simp only [List.all_map, List.all_eq_true]; intro x _; exact h x
theorem getD_eq {l : List Int} {j : Nat} (h : j < l.length) : l.getD j 0 = l[j] := by simp [h]
theorem take_next {α : Type} {l : List α} {j : Nat} (h : j < l.length) : l.take (j + 1) = l.take j ++ [l[j]] := List.take_succ_eq_append_getElem h
def zg (n : Nat) : Nat := if n = 0 then 0 else 1
theorem c_Grow (n : Nat) (hn : n ≤ 1000000) : PC prog env 135 [.ms 0 0 0 0 0, .dat (intD (n : Int))] [.mt 3 0 []] (.ms 0 (zg n) 0 0 n) [.mt 3 (zg n) (cellsOf intD (List.replicate n 0))] := by
  refine PC_body (fn := f135) (by kernel_rfl) rfl rfl (by kernel_rfl) rfl ?_
  refine R_eq (st' := ⟨[.ms 0 0 0 0 0, .dat (intD (n : Int)), .tup [], .tup [], .tup [], .tup [], .tup [], .tup [], .tup [], .tup [], .tup [], .tup [], .tup [], .tup [], .tup [], .tup [], .tup [], .tup [], .tup [], .tup [], .tup [], .tup [], .tup [], .tup [], .tup [], .tup [], .tup []], [.mt 3 0 []]⟩) rfl ?_
  repeat (first | refine R_seq ?_ | refine R_block ?_ | refine R_skip ?_)
  refine R_region ?_
  (refine OpsE_do rfl ?_; refine E_assign rfl rfl ?_; refine OpsE_eq (st' := _) (by first | dsimp only [n0, n1, n2, n3, n4, n5, n6, n7, n8, n9, m0, m1, m2, m3, m4, m5, m6, m7, m8, m9, o0, o1, o2, o3, o4, ↓reduceIte] | rfl) ?_)
  refine OpsE_nil ?_
  have h0 : ¬ ((n : Int) < 0) := by omega
  repeat (first | refine R_seq ?_ | refine R_block ?_ | refine R_skip ?_)
  refine R_region ?_
  iterate 2 ((refine OpsE_do rfl ?_; first | refine E_move rfl ?_ | refine E_int rfl rfl rfl rfl ?_); refine OpsE_eq (st' := _) (by first | (simp only [n0, n1, n2, n3, n4, n5, n6, n7, n8, n9, m0, m1, m2, m3, m4, m5, m6, m7, m8, m9, o0, o1, o2, o3, o4, ↓reduceIte, decide_eq_false h0] <;> rfl) | rfl) ?_)
  refine OpsE_nil ?_
  repeat (first | refine R_seq ?_ | refine R_block ?_ | refine R_skip ?_)
  refine R_false rfl ?_
  have w1 : IntKind.i64.wrap ((n : Int) - IntKind.i64.wrap (0 - ((0 : Nat) : Int))) = (n : Int) := by rw [wrap_i64 (n := 0 - ((0 : Nat) : Int)) (by omega) (by omega), wrap_i64 (by omega) (by omega)]; omega
  repeat (first | refine R_seq ?_ | refine R_block ?_ | refine R_skip ?_)
  refine R_region ?_
  iterate 2 ((refine OpsE_do rfl ?_; refine E_move rfl ?_); refine OpsE_eq (st' := _) (by first | dsimp only [n0, n1, n2, n3, n4, n5, n6, n7, n8, n9, m0, m1, m2, m3, m4, m5, m6, m7, m8, m9, o0, o1, o2, o3, o4, ↓reduceIte] | rfl) ?_)
  (refine OpsE_do rfl ?_; refine E_cap un22 rfl rfl (mtOf_at rfl) ?_; refine OpsE_eq (st' := _) (by first | dsimp only [n0, n1, n2, n3, n4, n5, n6, n7, n8, n9, m0, m1, m2, m3, m4, m5, m6, m7, m8, m9, o0, o1, o2, o3, o4, ↓reduceIte] | rfl) ?_)
  iterate 5 ((refine OpsE_do rfl ?_; first | refine E_move rfl ?_ | refine E_len un22 rfl rfl ?_ | refine E_int rfl rfl rfl rfl ?_ | refine E_assign rfl rfl ?_); refine OpsE_eq (st' := _) (by first | dsimp only [n0, n1, n2, n3, n4, n5, n6, n7, n8, n9, m0, m1, m2, m3, m4, m5, m6, m7, m8, m9, o0, o1, o2, o3, o4, ↓reduceIte] | rfl) ?_)
  refine OpsE_nil ?_
  rw [w1]
  by_cases hz : n = 0
  · subst hz
    repeat (first | refine R_seq ?_ | refine R_block ?_ | refine R_skip ?_)
    refine R_region ?_
    iterate 2 ((refine OpsE_do rfl ?_; first | refine E_move rfl ?_ | refine E_int rfl rfl rfl rfl ?_); refine OpsE_eq (st' := _) (by first | dsimp only [n0, n1, n2, n3, n4, n5, n6, n7, n8, n9, m0, m1, m2, m3, m4, m5, m6, m7, m8, m9, o0, o1, o2, o3, o4, ↓reduceIte] | rfl) ?_)
    refine OpsE_nil ?_
    repeat (first | refine R_seq ?_ | refine R_block ?_ | refine R_skip ?_)
    refine R_false rfl ?_
    repeat (first | refine R_seq ?_ | refine R_block ?_ | refine R_skip ?_)
    refine R_region ?_
    iterate 2 ((refine OpsE_do rfl ?_; first | refine E_move rfl ?_ | refine E_assign rfl rfl ?_); refine OpsE_eq (st' := _) (by first | dsimp only [n0, n1, n2, n3, n4, n5, n6, n7, n8, n9, m0, m1, m2, m3, m4, m5, m6, m7, m8, m9, o0, o1, o2, o3, o4, ↓reduceIte] | rfl) ?_)
    refine OpsE_nil ?_
    repeat (first | refine R_seq ?_ | refine R_block ?_ | refine R_skip ?_)
    refine R_ret ?_
    exact ⟨trivial, _, rfl, rfl, rfl⟩
  · have hp : ((n : Int)) > 0 := by omega
    repeat (first | refine R_seq ?_ | refine R_block ?_ | refine R_skip ?_)
    refine R_region ?_
    iterate 2 ((refine OpsE_do rfl ?_; first | refine E_move rfl ?_ | refine E_int rfl rfl rfl rfl ?_); refine OpsE_eq (st' := _) (by first | (simp only [n0, n1, n2, n3, n4, n5, n6, n7, n8, n9, m0, m1, m2, m3, m4, m5, m6, m7, m8, m9, o0, o1, o2, o3, o4, ↓reduceIte, decide_eq_true hp] <;> rfl) | rfl) ?_)
    refine OpsE_nil ?_
    repeat (first | refine R_seq ?_ | refine R_block ?_ | refine R_skip ?_)
    refine R_true rfl ?_
    repeat (first | refine R_seq ?_ | refine R_block ?_ | refine R_skip ?_)
    refine R_region ?_
    iterate 2 ((refine OpsE_do rfl ?_; refine E_move rfl ?_); refine OpsE_eq (st' := _) (by first | dsimp only [n0, n1, n2, n3, n4, n5, n6, n7, n8, n9, m0, m1, m2, m3, m4, m5, m6, m7, m8, m9, o0, o1, o2, o3, o4, ↓reduceIte] | rfl) ?_)
    (refine OpsE_do rfl ?_; refine E_cap un22 rfl rfl (mtOf_at rfl) ?_; refine OpsE_eq (st' := _) (by first | dsimp only [n0, n1, n2, n3, n4, n5, n6, n7, n8, n9, m0, m1, m2, m3, m4, m5, m6, m7, m8, m9, o0, o1, o2, o3, o4, ↓reduceIte] | rfl) ?_)
    (refine OpsE_do rfl ?_; refine E_sliceMs el22 sz3 rfl rfl (cutMs_of (l := 0) (h := 0) rfl rfl (Nat.le_refl _) (Nat.zero_le _) (Or.inl rfl)) ?_; refine OpsE_eq (st' := _) (by first | dsimp only [n0, n1, n2, n3, n4, n5, n6, n7, n8, n9, m0, m1, m2, m3, m4, m5, m6, m7, m8, m9, o0, o1, o2, o3, o4, ↓reduceIte] | rfl) ?_)
    (refine OpsE_do rfl ?_; refine E_move rfl ?_; refine OpsE_eq (st' := _) (by first | dsimp only [n0, n1, n2, n3, n4, n5, n6, n7, n8, n9, m0, m1, m2, m3, m4, m5, m6, m7, m8, m9, o0, o1, o2, o3, o4, ↓reduceIte] | rfl) ?_)
    (refine OpsE_do rfl ?_; refine E_appendZeros (n := n) el22 un3 sz3 by3 ze3 rfl (by decide) rfl rfl rfl (mtOf_at rfl) (by omega) (by simp [room]; omega) ?_; refine OpsE_eq (st' := _) (by first | dsimp only [n0, n1, n2, n3, n4, n5, n6, n7, n8, n9, m0, m1, m2, m3, m4, m5, m6, m7, m8, m9, o0, o1, o2, o3, o4, ↓reduceIte] | rfl) ?_)
    iterate 2 ((refine OpsE_do rfl ?_; first | refine E_move rfl ?_ | refine E_len un22 rfl rfl ?_); refine OpsE_eq (st' := _) (by first | dsimp only [n0, n1, n2, n3, n4, n5, n6, n7, n8, n9, m0, m1, m2, m3, m4, m5, m6, m7, m8, m9, o0, o1, o2, o3, o4, ↓reduceIte] | rfl) ?_)
    (refine OpsE_do rfl ?_; refine E_sliceMs el22 sz3 rfl rfl (cutMs_of (l := 0) (h := 0) rfl rfl (Nat.le_refl _) (Nat.zero_le _) (Or.inl rfl)) ?_; refine OpsE_eq (st' := _) (by first | dsimp only [n0, n1, n2, n3, n4, n5, n6, n7, n8, n9, m0, m1, m2, m3, m4, m5, m6, m7, m8, m9, o0, o1, o2, o3, o4, ↓reduceIte] | rfl) ?_)
    (refine OpsE_do rfl ?_; refine E_assign rfl rfl ?_; refine OpsE_eq (st' := _) (by first | dsimp only [n0, n1, n2, n3, n4, n5, n6, n7, n8, n9, m0, m1, m2, m3, m4, m5, m6, m7, m8, m9, o0, o1, o2, o3, o4, ↓reduceIte] | rfl) ?_)
    refine OpsE_nil ?_
    repeat (first | refine R_seq ?_ | refine R_block ?_ | refine R_skip ?_)
    refine R_region ?_
    iterate 2 ((refine OpsE_do rfl ?_; first | refine E_move rfl ?_ | refine E_assign rfl rfl ?_); refine OpsE_eq (st' := _) (by first | dsimp only [n0, n1, n2, n3, n4, n5, n6, n7, n8, n9, m0, m1, m2, m3, m4, m5, m6, m7, m8, m9, o0, o1, o2, o3, o4, ↓reduceIte] | rfl) ?_)
    refine OpsE_nil ?_
    repeat (first | refine R_seq ?_ | refine R_block ?_ | refine R_skip ?_)
    refine R_ret ?_
    refine ⟨trivial, _, rfl, ?_, ?_⟩
    · simp [zg, hz, tupOf]
    · simp [zg, hz, cellsOf, intD]
def intssD (ls : List (List Int)) : Dat := .lst (ls.map intsD)
theorem flat_next {ls : List (List Int)} {j : Nat} (h : j < ls.length) : (ls.take (j + 1)).flatten = (ls.take j).flatten ++ ls[j] := by
  rw [take_next h, List.flatten_append]; simp
theorem flat_le {ls : List (List Int)} (j : Nat) : (ls.take j).flatten.length ≤ ls.flatten.length := by
  have : ls.flatten = (ls.take j).flatten ++ (ls.drop j).flatten := by rw [← List.flatten_append, List.take_append_drop]
  rw [this, List.length_append]; omega

theorem c_Concat (ls : List (List Int)) (H : List Blk) (hls : ls.length ≤ 1000) (hfl : ls.flatten.length ≤ 1000000) : PC prog env 117 [.dat (intssD ls)] H (.dat (intsD ls.flatten)) H := by
  refine PC_pure (fn := f117) (by kernel_rfl) rfl rfl (by kernel_rfl) rfl rfl ?_ (by simp [PV.lends])
  refine R_eq (st' := ⟨[.dat (intssD ls), .tup [], .tup [], .tup [], .tup [], .tup [], .tup [], .tup [], .tup [], .tup [], .tup [], .tup [], .tup [], .tup [], .tup [], .tup [], .tup [], .tup [], .tup [], .tup [], .tup [], .tup [], .tup [], .tup [], .tup [], .tup [], .tup [], .tup [], .tup [], .tup [], .tup [], .tup [], .tup [], .tup [], .tup [], .tup []], []⟩) rfl ?_
  repeat (first | refine R_seq ?_ | refine R_block ?_ | refine R_skip ?_)
  refine R_region ?_
  (refine OpsE_do rfl ?_; refine E_assign rfl rfl ?_; refine OpsE_eq (st' := _) (by first | dsimp only [n0, n1, n2, n3, n4, n5, n6, n7, n8, n9, m0, m1, m2, m3, m4, m5, m6, m7, m8, m9, o0, o1, o2, o3, o4, ↓reduceIte] | rfl) ?_)
  refine OpsE_nil ?_
  repeat (first | refine R_seq ?_ | refine R_block ?_ | refine R_skip ?_)
  refine R_region ?_
  (refine OpsE_do rfl ?_; refine E_assign rfl rfl ?_; refine OpsE_eq (st' := _) (by first | dsimp only [n0, n1, n2, n3, n4, n5, n6, n7, n8, n9, m0, m1, m2, m3, m4, m5, m6, m7, m8, m9, o0, o1, o2, o3, o4, ↓reduceIte] | rfl) ?_)
  refine OpsE_nil ?_
  repeat (first | refine R_seq ?_ | refine R_block ?_ | refine R_skip ?_)
  refine R_region ?_
  iterate 3 ((refine OpsE_do rfl ?_; first | refine E_move rfl ?_ | refine E_len un62 rfl rfl ?_); refine OpsE_eq (st' := _) (by first | dsimp only [n0, n1, n2, n3, n4, n5, n6, n7, n8, n9, m0, m1, m2, m3, m4, m5, m6, m7, m8, m9, o0, o1, o2, o3, o4, ↓reduceIte] | rfl) ?_)
  refine OpsE_nil ?_
  repeat (first | refine R_seq ?_ | refine R_block ?_ | refine R_skip ?_)
  refine R_loop ?_
  refine RL_ind (fun (j : Nat) => ⟨[.dat (intssD ls), .undef, .undef, intPV ((ls.take j).flatten.length : Int), .undef, .undef, .undef, .undef, .undef, .dat (intssD ls), intPV (ls.length : Int), intPV (j : Int), .undef, .undef, .undef, .undef, .undef, .undef, .undef, .undef, .undef, .undef, .undef, .undef, .undef, .undef, .undef, .undef, .undef, .undef, .undef, .undef, .undef, .undef, .undef, .undef], []⟩)
    (fun j => j ≤ ls.length) (fun j => ls.length - j) (fun j hj => ?_) _ 0 _ (Nat.lt_succ_self _) (Nat.zero_le _) (by simp only [intssD, List.length_map]; rfl)
  repeat (first | refine R_seq ?_ | refine R_block ?_ | refine R_skip ?_)
  refine R_region ?_
  (refine OpsE_do rfl ?_; (first | refine E_int rfl rfl rfl rfl ?_ | refine E_bin rfl rfl rfl rfl ?_); refine OpsE_eq (st' := _) (by first | dsimp only [n0, n1, n2, n3, n4, n5, n6, n7, n8, n9, m0, m1, m2, m3, m4, m5, m6, m7, m8, m9, o0, o1, o2, o3, o4, ↓reduceIte] | rfl) ?_)
  refine OpsE_nil ?_
  repeat (first | refine R_seq ?_ | refine R_block ?_ | refine R_skip ?_)
  refine R_if rfl (fun h => ?_) (fun h => ?_)
  · have hj' : j < ls.length := by simpa using h
    have hf := flat_le (ls := ls) (j + 1)
    rw [flat_next hj', List.length_append] at hf
    repeat (first | refine R_seq ?_ | refine R_block ?_ | refine R_skip ?_)
    refine R_region ?_
    (refine OpsE_do rfl ?_; (first | refine E_index el62 sz22 rfl rfl rfl rfl (map_get _ (by first | assumption | omega)) rfl ?_ | refine E_index0 el62 sz22 rfl rfl rfl rfl (map_get _ (by first | assumption | omega)) ?_ | refine E_indexArr el62 sz22 rfl rfl rfl rfl (map_get _ (by first | assumption | omega)) ?_); refine OpsE_eq (st' := _) (by first | dsimp only [n0, n1, n2, n3, n4, n5, n6, n7, n8, n9, m0, m1, m2, m3, m4, m5, m6, m7, m8, m9, o0, o1, o2, o3, o4, ↓reduceIte] | rfl) ?_)
    iterate 2 ((refine OpsE_do rfl ?_; first | refine E_loadi (ds := [_]) ag22 sz22 rfl rfl rfl rfl ?_ | refine E_loadp (ds := [_]) ag22 sz22 rfl rfl rfl rfl rfl ?_ | refine E_assign rfl rfl ?_); refine OpsE_eq (st' := _) (by first | dsimp only [n0, n1, n2, n3, n4, n5, n6, n7, n8, n9, m0, m1, m2, m3, m4, m5, m6, m7, m8, m9, o0, o1, o2, o3, o4, ↓reduceIte] | rfl) ?_)
    refine OpsE_nil ?_
    have w1 : IntKind.i64.wrap (((ls.take j).flatten.length : Int) + ((ls[j].map intD).length : Int)) = ((ls.take (j + 1)).flatten.length : Int) := by
      rw [flat_next hj', List.length_append, List.length_map, wrap_i64 (by omega) (by omega)]; omega
    have h0 : ¬ (((ls.take (j + 1)).flatten.length : Int) < 0) := by omega
    repeat (first | refine R_seq ?_ | refine R_block ?_ | refine R_skip ?_)
    refine R_region ?_
    iterate 5 ((refine OpsE_do rfl ?_; first | refine E_move rfl ?_ | refine E_len un22 rfl rfl ?_ | refine E_int rfl rfl rfl rfl ?_ | refine E_assign rfl rfl ?_); refine OpsE_eq (st' := _) (by first | (simp only [n0, n1, n2, n3, n4, n5, n6, n7, n8, n9, m0, m1, m2, m3, m4, m5, m6, m7, m8, m9, o0, o1, o2, o3, o4, ↓reduceIte, w1] <;> rfl) | rfl) ?_)
    refine OpsE_nil ?_
    repeat (first | refine R_seq ?_ | refine R_block ?_ | refine R_skip ?_)
    refine R_region ?_
    iterate 2 ((refine OpsE_do rfl ?_; first | refine E_move rfl ?_ | refine E_int rfl rfl rfl rfl ?_); refine OpsE_eq (st' := _) (by first | (simp only [n0, n1, n2, n3, n4, n5, n6, n7, n8, n9, m0, m1, m2, m3, m4, m5, m6, m7, m8, m9, o0, o1, o2, o3, o4, ↓reduceIte, decide_eq_false h0] <;> rfl) | rfl) ?_)
    refine OpsE_nil ?_
    repeat (first | refine R_seq ?_ | refine R_block ?_ | refine R_skip ?_)
    refine R_false rfl ?_
    repeat (first | refine R_seq ?_ | refine R_block ?_ | refine R_skip ?_)
    refine R_region ?_
    iterate 2 ((refine OpsE_do rfl ?_; first | refine E_int rfl rfl rfl rfl ?_ | refine E_move rfl ?_); refine OpsE_eq (st' := _) (by first | dsimp only [n0, n1, n2, n3, n4, n5, n6, n7, n8, n9, m0, m1, m2, m3, m4, m5, m6, m7, m8, m9, o0, o1, o2, o3, o4, ↓reduceIte] | rfl) ?_)
    refine OpsE_nil ?_
    refine ⟨j + 1, ?_, by omega, hj'⟩
    rw [wrap_succ (by omega)]
    rfl
  · have hj' : j = ls.length := by simp at h; omega
    subst hj'
    rw [List.take_length]
    repeat (first | refine R_seq ?_ | refine R_block ?_ | refine R_skip ?_)
    refine R_exit ?_
    repeat (first | refine R_seq ?_ | refine R_block ?_ | refine R_skip ?_)
    refine R_region ?_
    (refine OpsE_do rfl ?_; refine E_move rfl ?_; refine OpsE_eq (st' := _) (by first | dsimp only [n0, n1, n2, n3, n4, n5, n6, n7, n8, n9, m0, m1, m2, m3, m4, m5, m6, m7, m8, m9, o0, o1, o2, o3, o4, ↓reduceIte] | rfl) ?_)
    (refine OpsE_do rfl ?_; refine E_callNil rfl rfl rfl rfl (c_Grow ls.flatten.length hfl) ?_; refine OpsE_eq (st' := _) (by first | dsimp only [n0, n1, n2, n3, n4, n5, n6, n7, n8, n9, m0, m1, m2, m3, m4, m5, m6, m7, m8, m9, o0, o1, o2, o3, o4, ↓reduceIte] | rfl) ?_)
    (refine OpsE_do rfl ?_; refine E_assign rfl rfl ?_; refine OpsE_eq (st' := _) (by first | dsimp only [n0, n1, n2, n3, n4, n5, n6, n7, n8, n9, m0, m1, m2, m3, m4, m5, m6, m7, m8, m9, o0, o1, o2, o3, o4, ↓reduceIte] | rfl) ?_)
    refine OpsE_nil ?_
    repeat (first | refine R_seq ?_ | refine R_block ?_ | refine R_skip ?_)
    refine R_region ?_
    iterate 3 ((refine OpsE_do rfl ?_; first | refine E_move rfl ?_ | refine E_len un62 rfl rfl ?_); refine OpsE_eq (st' := _) (by first | dsimp only [n0, n1, n2, n3, n4, n5, n6, n7, n8, n9, m0, m1, m2, m3, m4, m5, m6, m7, m8, m9, o0, o1, o2, o3, o4, ↓reduceIte] | rfl) ?_)
    refine OpsE_nil ?_
    repeat (first | refine R_seq ?_ | refine R_block ?_ | refine R_skip ?_)
    refine R_loop ?_
    refine RL_h0 (h1 := 1) rfl ?_
    refine RL_ind (fun (j : Nat) => ⟨[.undef, .undef, .undef, .undef, .undef, .undef, .ms 0 (zg ls.flatten.length) 0 (ls.take j).flatten.length ls.flatten.length, .undef, .undef, .undef, .undef, .undef, .undef, .undef, .undef, .undef, .undef, .undef, .undef, .undef, .undef, .undef, .undef, .undef, .undef, .dat (intssD ls), intPV (ls.length : Int), intPV (j : Int), .undef, .undef, .undef, .undef, .undef, .undef, .undef, .undef], [.mt 3 (zg ls.flatten.length) (cellsOf intD ((ls.take j).flatten ++ List.replicate (ls.flatten.length - (ls.take j).flatten.length) 0))]⟩)
      (fun j => j ≤ ls.length) (fun j => ls.length - j) (fun j hj => ?_) _ 0 _ (Nat.lt_succ_self _) (Nat.zero_le _) ?_
    · repeat (first | refine R_seq ?_ | refine R_block ?_ | refine R_skip ?_)
      refine R_region ?_
      (refine OpsE_do rfl ?_; (first | refine E_int rfl rfl rfl rfl ?_ | refine E_bin rfl rfl rfl rfl ?_); refine OpsE_eq (st' := _) (by first | dsimp only [n0, n1, n2, n3, n4, n5, n6, n7, n8, n9, m0, m1, m2, m3, m4, m5, m6, m7, m8, m9, o0, o1, o2, o3, o4, ↓reduceIte] | rfl) ?_)
      refine OpsE_nil ?_
      repeat (first | refine R_seq ?_ | refine R_block ?_ | refine R_skip ?_)
      refine R_if rfl (fun h => ?_) (fun h => ?_)
      · have hj' : j < ls.length := by simpa using h
        have hf := flat_le (ls := ls) (j + 1)
        rw [flat_next hj', List.length_append] at hf
        repeat (first | refine R_seq ?_ | refine R_block ?_ | refine R_skip ?_)
        refine R_region ?_
        (refine OpsE_do rfl ?_; (first | refine E_index el62 sz22 rfl rfl rfl rfl (map_get _ (by first | assumption | omega)) rfl ?_ | refine E_index0 el62 sz22 rfl rfl rfl rfl (map_get _ (by first | assumption | omega)) ?_ | refine E_indexArr el62 sz22 rfl rfl rfl rfl (map_get _ (by first | assumption | omega)) ?_); refine OpsE_eq (st' := _) (by first | dsimp only [n0, n1, n2, n3, n4, n5, n6, n7, n8, n9, m0, m1, m2, m3, m4, m5, m6, m7, m8, m9, o0, o1, o2, o3, o4, ↓reduceIte] | rfl) ?_)
        iterate 2 ((refine OpsE_do rfl ?_; first | refine E_loadi (ds := [_]) ag22 sz22 rfl rfl rfl rfl ?_ | refine E_loadp (ds := [_]) ag22 sz22 rfl rfl rfl rfl rfl ?_ | refine E_assign rfl rfl ?_); refine OpsE_eq (st' := _) (by first | dsimp only [n0, n1, n2, n3, n4, n5, n6, n7, n8, n9, m0, m1, m2, m3, m4, m5, m6, m7, m8, m9, o0, o1, o2, o3, o4, ↓reduceIte] | rfl) ?_)
        refine OpsE_nil ?_
        have ha : appendMs [.mt 3 (zg ls.flatten.length) (cellsOf intD ((ls.take j).flatten ++ List.replicate (ls.flatten.length - (ls.take j).flatten.length) 0))] 3 8 0 (zg ls.flatten.length) 0 (ls.take j).flatten.length ls.flatten.length (cellsOf intD ls[j]) =
            some (.ms 0 (zg ls.flatten.length) 0 (ls.take (j + 1)).flatten.length ls.flatten.length, [.mt 3 (zg ls.flatten.length) (cellsOf intD ((ls.take (j + 1)).flatten ++ List.replicate (ls.flatten.length - (ls.take (j + 1)).flatten.length) 0))]) := by
          rw [flat_next hj']
          generalize (ls.take j).flatten = A at hf ⊢
          generalize ls[j] = B at hf ⊢
          generalize ls.flatten.length = m at hf ⊢
          cases B with
          | nil => simp only [List.append_nil]; exact appendMs_nil
          | cons x B =>
            rw [ms_append_in (H := [.mt 3 (zg m) (cellsOf intD (A ++ List.replicate (m - A.length) 0))]) (t := 0) (len := A.length) (es := x :: B) (f := intD) (l := A ++ List.replicate (m - A.length) 0) (fun _ => rfl) (mtOf_at rfl) (Nat.succ_pos _) (by simp only [List.length_append, List.length_replicate]; omega)]
            have e1 : (A ++ List.replicate (m - A.length) (0 : Int)).take A.length = A := List.take_left' rfl
            have e2 : (A ++ List.replicate (m - A.length) (0 : Int)).drop (A.length + (x :: B).length) = List.replicate (m - (A ++ x :: B).length) 0 := by
              rw [List.drop_append, List.drop_of_length_le (by omega), List.nil_append, List.drop_replicate, List.length_append]
              congr 1; omega
            rw [e1, e2, Nat.max_eq_left (by omega), List.length_append]
            rfl
        repeat (first | refine R_seq ?_ | refine R_block ?_ | refine R_skip ?_)
        refine R_region ?_
        iterate 2 ((refine OpsE_do rfl ?_; refine E_move rfl ?_); refine OpsE_eq (st' := _) (by first | dsimp only [n0, n1, n2, n3, n4, n5, n6, n7, n8, n9, m0, m1, m2, m3, m4, m5, m6, m7, m8, m9, o0, o1, o2, o3, o4, ↓reduceIte] | rfl) ?_)
        (refine OpsE_do rfl ?_; refine E_appendMs el22 sz3 by3 zn3 (by decide) rfl rfl (source_lst (f := intD) (fun _ => rfl)) ha ?_; refine OpsE_eq (st' := _) (by first | dsimp only [n0, n1, n2, n3, n4, n5, n6, n7, n8, n9, m0, m1, m2, m3, m4, m5, m6, m7, m8, m9, o0, o1, o2, o3, o4, ↓reduceIte] | rfl) ?_)
        (refine OpsE_do rfl ?_; refine E_assign rfl rfl ?_; refine OpsE_eq (st' := _) (by first | dsimp only [n0, n1, n2, n3, n4, n5, n6, n7, n8, n9, m0, m1, m2, m3, m4, m5, m6, m7, m8, m9, o0, o1, o2, o3, o4, ↓reduceIte] | rfl) ?_)
        refine OpsE_nil ?_
        repeat (first | refine R_seq ?_ | refine R_block ?_ | refine R_skip ?_)
        refine R_region ?_
        iterate 2 ((refine OpsE_do rfl ?_; first | refine E_int rfl rfl rfl rfl ?_ | refine E_move rfl ?_); refine OpsE_eq (st' := _) (by first | dsimp only [n0, n1, n2, n3, n4, n5, n6, n7, n8, n9, m0, m1, m2, m3, m4, m5, m6, m7, m8, m9, o0, o1, o2, o3, o4, ↓reduceIte] | rfl) ?_)
        refine OpsE_nil ?_
        refine ⟨j + 1, ?_, by omega, hj'⟩
        rw [wrap_succ (by omega)]
        refine (prune_some rfl).trans ?_
        dsimp only [m6, m7, o0, o1]
        rw [purge_mt]
        rfl
      · have hj' : j = ls.length := by simp at h; omega
        subst hj'
        rw [List.take_length, Nat.sub_self, List.replicate_zero, List.append_nil]
        repeat (first | refine R_seq ?_ | refine R_block ?_ | refine R_skip ?_)
        refine R_exit ?_
        repeat (first | refine R_seq ?_ | refine R_block ?_ | refine R_skip ?_)
        refine R_region ?_
        iterate 2 ((refine OpsE_do rfl ?_; first | refine E_move rfl ?_ | refine E_assign rfl rfl ?_); refine OpsE_eq (st' := _) (by first | dsimp only [n0, n1, n2, n3, n4, n5, n6, n7, n8, n9, m0, m1, m2, m3, m4, m5, m6, m7, m8, m9, o0, o1, o2, o3, o4, ↓reduceIte] | rfl) ?_)
        refine OpsE_nil ?_
        repeat (first | refine R_seq ?_ | refine R_block ?_ | refine R_skip ?_)
        refine R_ret ?_
        refine ⟨trivial, _, rfl, ?_⟩
        have r1 := pure_ms (H := [.mt 3 (zg ls.flatten.length) (cellsOf intD ls.flatten)]) (g := zg ls.flatten.length) (t := 0) (cap := ls.flatten.length) (f := intD) (fun _ => rfl) (mtOf_at rfl) (Nat.le_refl _)
        rw [List.take_length] at r1
        show (pureC [.mt 3 (zg ls.flatten.length) (cellsOf intD ls.flatten)] (.ms 0 (zg ls.flatten.length) 0 ls.flatten.length ls.flatten.length)).map PV.dat = _
        rw [r1]
        rfl
    · refine (prune_some rfl).trans ?_
      dsimp only [m6, m7, o0, o1]
      rw [purge_mt]
      simp only [intssD, List.length_map]
      rfl

def m_slices_Concat_int_int (x : List (List Int)) : Option (List Int) := if x.length ≤ 1000 ∧ x.flatten.length ≤ 1000000 then some x.flatten else none
def P_slices_Concat_int_int : List (List Int) → List Int → Prop := fun x r => ∀ H, PC prog env 117 ([.lst ((List.map (fun l => Dat.lst ((List.map intD) l))) x)].map .dat) H (.dat (.lst ((List.map intD) r))) H
theorem w_slices_Concat_int_int : ∀ x r, m_slices_Concat_int_int x = some r → P_slices_Concat_int_int x r := by
  intro x r hm
  unfold m_slices_Concat_int_int at hm
  split at hm
  · rename_i h
    cases hm
    intro H
    exact c_Concat x H h.1 h.2
  · cases hm
end Go.Proofs.Try
namespace Go.Proofs.Try
open Go Go.Pm
set_option linter.unusedVariables false
set_option linter.unusedSimpArgs false
set_option maxRecDepth 2000
theorem drop_last (l : List Int) (q k : Nat) (hk : k + 1 < l.length) : (l ++ List.replicate q 0).take k ++ l.drop (k + 1) ++ (l ++ List.replicate q 0).drop (k + (l.drop (k + 1)).length) = l.eraseIdx k ++ (l.drop (l.length - 1) ++ List.replicate q 0) := by
  have e : k + (l.drop (k + 1)).length = l.length - 1 := by simp; omega
  rw [e, List.take_append_of_le_length (by omega), List.drop_append_of_le_length (by omega), List.eraseIdx_eq_take_drop_succ]
theorem erase_len (l : List Int) (k : Nat) (hk : k < l.length) : (l.eraseIdx k).length = l.length - 1 := by rw [List.length_eraseIdx, if_pos hk]

theorem c53 {t g cap q k len : Nat} (l : List Int) (H : List Blk) (hlen : l.length = len) (hm : mtOf H t = some (3, g, cellsOf intD (l ++ List.replicate q 0))) (hk : k + 1 < l.length) (hc : l.length ≤ cap) (hl : l.length ≤ 1048576) :
    PC prog env 92 [.ms t g 0 len cap, intPV (k : Int), intPV ((k + 1 : Nat) : Int)] H (.ms t g 0 (l.eraseIdx k).length cap) (H.set t (.mt 3 g (cellsOf intD (l.eraseIdx k ++ List.replicate (q + 1) 0)))) := by
  subst hlen
  have ht := mtOf_lt hm
  have hE : ((l ++ List.replicate q 0).drop (k + 1)).take (l.length - (k + 1)) = l.drop (k + 1) := by
    rw [List.drop_append_of_le_length (by omega)]
    exact List.take_left' (by simp)
  have hsrc : sourceOf H (.ms t g (k + 1) (l.length - (k + 1)) (cap - (k + 1))) = some (cellsOf intD (l.drop (k + 1))) := by
    rw [source_ms hm (by simp; omega), hE]
  have hel := erase_len l k (by omega)
  have ha : appendMs H 3 8 t g 0 k cap (cellsOf intD (l.drop (k + 1))) = some (.ms t g 0 (l.length - 1) cap, H.set t (.mt 3 g (cellsOf intD (l.eraseIdx k ++ (l.drop (l.length - 1) ++ List.replicate q 0))))) := by
    rw [ms_append_in (fun _ => rfl) hm (by simp; omega) (by simp; omega), drop_last l q k hk]
    have e : k + (l.drop (k + 1)).length = l.length - 1 := by simp; omega
    rw [e, Nat.max_eq_left (by omega)]
  refine PC_body (fn := f92) (by kernel_rfl) rfl rfl (by kernel_rfl) rfl ?_
  refine R_eq (st' := ⟨[.ms t g 0 l.length cap, intPV (k : Int), intPV ((k + 1 : Nat) : Int), .tup [], .tup [], .tup [], .tup [], .tup [], .tup [], .tup [], .tup [], .tup [], .tup [], .tup [], .tup [], .tup [], .tup [], .tup [], .tup [], .tup [], .tup [], .tup [], .tup [], .tup [], .tup [], .tup [], .tup [], .tup [], .tup [], .tup [], .tup [], .tup [], .tup []], H⟩) rfl ?_
  repeat (first | refine R_seq ?_ | refine R_block ?_ | refine R_skip ?_)
  refine R_region ?_
  (refine OpsE_do rfl ?_; refine E_assign rfl rfl ?_; refine OpsE_eq (st' := _) (by first | dsimp only [n0, n1, n2, n3, n4, n5, n6, n7, n8, n9, m0, m1, m2, m3, m4, m5, m6, m7, m8, m9, o0, o1, o2, o3, o4, ↓reduceIte] | rfl) ?_)
  refine OpsE_nil ?_
  repeat (first | refine R_seq ?_ | refine R_block ?_ | refine R_skip ?_)
  refine R_region ?_
  iterate 5 ((refine OpsE_do rfl ?_; first | refine E_move rfl ?_ | refine E_len un22 rfl rfl ?_); refine OpsE_eq (st' := _) (by first | dsimp only [n0, n1, n2, n3, n4, n5, n6, n7, n8, n9, m0, m1, m2, m3, m4, m5, m6, m7, m8, m9, o0, o1, o2, o3, o4, ↓reduceIte] | rfl) ?_)
  (refine OpsE_do rfl ?_; refine E_slice3 el22 sz3 rfl rfl (natOf_nat .i64 k) (natOf_nat .i64 (k + 1)) (natOf_nat .i64 l.length) (Nat.lt_succ_self k) (by omega) (Nat.le_refl _) ?_; refine OpsE_eq (st' := _) (by first | dsimp only [n0, n1, n2, n3, n4, n5, n6, n7, n8, n9, m0, m1, m2, m3, m4, m5, m6, m7, m8, m9, o0, o1, o2, o3, o4, ↓reduceIte] | rfl) ?_)
  refine OpsE_nil ?_
  repeat (first | refine R_seq ?_ | refine R_block ?_ | refine R_skip ?_)
  refine R_region ?_
  iterate 3 ((refine OpsE_do rfl ?_; first | refine E_move rfl ?_ | refine E_int rfl rfl rfl rfl ?_); refine OpsE_eq (st' := _) (by first | dsimp only [n0, n1, n2, n3, n4, n5, n6, n7, n8, n9, m0, m1, m2, m3, m4, m5, m6, m7, m8, m9, o0, o1, o2, o3, o4, ↓reduceIte] | rfl) ?_)
  refine OpsE_nil ?_
  rw [show ((k : Int) == ((k + 1 : Nat) : Int)) = false by simp; omega]
  repeat (first | refine R_seq ?_ | refine R_block ?_ | refine R_skip ?_)
  refine R_false rfl ?_
  repeat (first | refine R_seq ?_ | refine R_block ?_ | refine R_skip ?_)
  refine R_region ?_
  iterate 3 ((refine OpsE_do rfl ?_; first | refine E_move rfl ?_ | refine E_len un22 rfl rfl ?_ | refine E_assign rfl rfl ?_); refine OpsE_eq (st' := _) (by first | dsimp only [n0, n1, n2, n3, n4, n5, n6, n7, n8, n9, m0, m1, m2, m3, m4, m5, m6, m7, m8, m9, o0, o1, o2, o3, o4, ↓reduceIte] | rfl) ?_)
  refine OpsE_nil ?_
  repeat (first | refine R_seq ?_ | refine R_block ?_ | refine R_skip ?_)
  refine R_draw ?_
  iterate 2 ((refine DrawE_do rfl ?_; refine E_move rfl ?_); refine DrawE_eq (st' := _) (by first | dsimp only [n0, n1, n2, n3, n4, n5, n6, n7, n8, n9, m0, m1, m2, m3, m4, m5, m6, m7, m8, m9, o0, o1, o2, o3, o4, ↓reduceIte] | rfl) ?_)
  (refine DrawE_do rfl ?_; refine E_sliceMs el22 sz3 rfl rfl (cut_lo (natOf_nat .i64 k) (by omega) hc) ?_; refine DrawE_eq (st' := _) (by first | dsimp only [n0, n1, n2, n3, n4, n5, n6, n7, n8, n9, m0, m1, m2, m3, m4, m5, m6, m7, m8, m9, o0, o1, o2, o3, o4, ↓reduceIte] | rfl) ?_)
  iterate 2 ((refine DrawE_do rfl ?_; refine E_move rfl ?_); refine DrawE_eq (st' := _) (by first | dsimp only [n0, n1, n2, n3, n4, n5, n6, n7, n8, n9, m0, m1, m2, m3, m4, m5, m6, m7, m8, m9, o0, o1, o2, o3, o4, ↓reduceIte] | rfl) ?_)
  (refine DrawE_do rfl ?_; refine E_sliceMs el22 sz3 rfl rfl (cut_hi (natOf_nat .i64 (k + 1)) hk hc) ?_; refine DrawE_eq (st' := _) (by first | dsimp only [n0, n1, n2, n3, n4, n5, n6, n7, n8, n9, m0, m1, m2, m3, m4, m5, m6, m7, m8, m9, o0, o1, o2, o3, o4, ↓reduceIte] | rfl) ?_)
  (refine DrawE_do rfl ?_; refine E_appendMs el22 sz3 by3 zn3 (by decide) rfl rfl hsrc ha ?_; refine DrawE_eq (st' := _) (by first | dsimp only [n0, n1, n2, n3, n4, n5, n6, n7, n8, n9, m0, m1, m2, m3, m4, m5, m6, m7, m8, m9, o0, o1, o2, o3, o4, ↓reduceIte] | rfl) ?_)
  (refine DrawE_do rfl ?_; refine E_assign rfl rfl ?_; refine DrawE_eq (st' := _) (by first | dsimp only [n0, n1, n2, n3, n4, n5, n6, n7, n8, n9, m0, m1, m2, m3, m4, m5, m6, m7, m8, m9, o0, o1, o2, o3, o4, ↓reduceIte] | rfl) ?_)
  refine DrawE_nil ⟨by kernel_rfl, ?_⟩
  repeat (first | refine R_seq ?_ | refine R_block ?_ | refine R_skip ?_)
  refine R_region ?_
  iterate 4 ((refine OpsE_do rfl ?_; first | refine E_move rfl ?_ | refine E_len un22 rfl rfl ?_); refine OpsE_eq (st' := _) (by first | dsimp only [n0, n1, n2, n3, n4, n5, n6, n7, n8, n9, m0, m1, m2, m3, m4, m5, m6, m7, m8, m9, o0, o1, o2, o3, o4, ↓reduceIte] | rfl) ?_)
  (refine OpsE_do rfl ?_; refine E_sliceMs el22 sz3 rfl rfl (cut_mid (natOf_nat .i64 (l.length - 1)) (natOf_nat .i64 l.length) (by omega) hc (by omega)) ?_; refine OpsE_eq (st' := _) (by first | dsimp only [n0, n1, n2, n3, n4, n5, n6, n7, n8, n9, m0, m1, m2, m3, m4, m5, m6, m7, m8, m9, o0, o1, o2, o3, o4, ↓reduceIte] | rfl) ?_)
  (refine OpsE_do rfl ?_; refine E_clearMs el22 sz3 ze3 rfl rfl rfl (mtOf_set ht) (by omega) (by rw [cellsOf_len, List.length_append, hel]; simp; omega) ?_; refine OpsE_eq (st' := _) (by first | dsimp only [n0, n1, n2, n3, n4, n5, n6, n7, n8, n9, m0, m1, m2, m3, m4, m5, m6, m7, m8, m9, o0, o1, o2, o3, o4, ↓reduceIte] | rfl) ?_)
  refine OpsE_nil ?_
  repeat (first | refine R_seq ?_ | refine R_block ?_ | refine R_skip ?_)
  refine R_region ?_
  iterate 2 ((refine OpsE_do rfl ?_; first | refine E_move rfl ?_ | refine E_assign rfl rfl ?_); refine OpsE_eq (st' := _) (by first | dsimp only [n0, n1, n2, n3, n4, n5, n6, n7, n8, n9, m0, m1, m2, m3, m4, m5, m6, m7, m8, m9, o0, o1, o2, o3, o4, ↓reduceIte] | rfl) ?_)
  refine OpsE_nil ?_
  repeat (first | refine R_seq ?_ | refine R_block ?_ | refine R_skip ?_)
  refine R_ret ?_
  refine ⟨trivial, _, rfl, by rw [hel]; rfl, ?_⟩
  rw [List.set_set]
  have e1 : (l.eraseIdx k ++ (l.drop (l.length - 1) ++ List.replicate q 0)).take (l.length - 1) = l.eraseIdx k := List.take_left' hel
  have e2 : (l.eraseIdx k ++ (l.drop (l.length - 1) ++ List.replicate q 0)).drop (l.length - 1 + (l.length - (l.length - 1))) = List.replicate q 0 := by
    rw [List.drop_append, List.drop_eq_nil_of_le (by omega), List.nil_append, hel, List.drop_append, List.drop_eq_nil_of_le (by simp), List.nil_append]
    simp
  have e3 : List.replicate (l.length - (l.length - 1)) (PV.dat (intD 0)) = cellsOf intD [0] := by
    rw [show l.length - (l.length - 1) = 1 by omega]; rfl
  rw [cellsOf_take, cellsOf_drop, e1, e2]
  show H.set t (.mt 3 g (cellsOf intD (l.eraseIdx k ++ List.replicate (q + 1) 0))) = H.set t (.mt 3 g (cellsOf intD (l.eraseIdx k) ++ List.replicate (l.length - (l.length - 1)) (PV.dat (intD 0)) ++ cellsOf intD (List.replicate q 0)))
  rw [e3, cellsOf_append, cellsOf_append, List.append_assoc]; try rfl


/-- a list without its element i -/
def delM (l : List Int) (cap : Nat) (i j : Int) : Option (List Int) := if 0 ≤ i ∧ j = i + 1 ∧ j < (l.length : Int) ∧ l.length ≤ 1048576 ∧ l.length ≤ cap then some (l.eraseIdx i.toNat) else none
theorem w_del {t g cap m : Nat} (H : List Blk) {l r : List Int} {i j : Int} (hlm : l.length = m) (h : delM l cap i j = some r) (hm : mtOf H t = some (3, g, cellsOf intD l)) :
    PC prog env 92 [.ms t g 0 m cap, intPV i, intPV j] H (.ms t g 0 r.length cap) (H.set t (.mt 3 g (cellsOf intD (r ++ [0])))) := by
  subst hlm
  unfold delM at h
  split at h
  · rename_i hc
    obtain ⟨h0, rfl, h1, h2, h3⟩ := hc
    cases h
    obtain ⟨k, rfl⟩ := Int.eq_ofNat_of_zero_le h0
    have e := c53 (q := 0) (k := k) (cap := cap) l H rfl (by simpa using hm) (by omega) h3 h2
    simpa using e
  · cases h
end Go.Proofs.Try
namespace Go.Proofs.Try
open Go Go.Pm
set_option linter.unusedVariables false
set_option maxHeartbeats 2000000
set_option maxRecDepth 2000
structure T_ref17_Access where
  kind : Int
  buffer : Int
  base : Int
  strides : (List Int)
  start : Int
  step : Int
  mod : Int
def T_ref17_Access.toD (x : T_ref17_Access) : Dat := .agg [(intD x.kind), (intD x.buffer), (intD x.base), (.lst ((List.map intD) x.strides)), (intD x.start), (intD x.step), (intD x.mod)]
theorem T_ref17_Access.fit (x : T_ref17_Access) : Dat.fits 7 x.toD = true := rfl
structure T_ref21_Nest where
  dims : (List Int)
  write : Int
  steps : (List Int)
  read : T_ref17_Access
def T_ref21_Nest.toD (x : T_ref21_Nest) : Dat := .agg [(.lst ((List.map intD) x.dims)), (intD x.write), (.lst ((List.map intD) x.steps)), (intD x.read.kind), (intD x.read.buffer), (intD x.read.base), (.lst ((List.map intD) x.read.strides)), (intD x.read.start), (intD x.read.step), (intD x.read.mod)]
theorem T_ref21_Nest.fit (x : T_ref21_Nest) : Dat.fits 10 x.toD = true := rfl
structure T_access_Access where
  kind : Int
  buffer : Int
  base : Int
  strides : (List Int)
  start : Int
  step : Int
  mod : Int
def T_access_Access.toD (x : T_access_Access) : Dat := .agg [(intD x.kind), (intD x.buffer), (intD x.base), (.lst ((List.map intD) x.strides)), (intD x.start), (intD x.step), (intD x.mod)]
theorem T_access_Access.fit (x : T_access_Access) : Dat.fits 7 x.toD = true := rfl
structure T_onf_Nest where
  dims : (List Int)
  write : Int
  steps : (List Int)
  read : T_access_Access
def T_onf_Nest.toD (x : T_onf_Nest) : Dat := .agg [(.lst ((List.map intD) x.dims)), (intD x.write), (.lst ((List.map intD) x.steps)), (intD x.read.kind), (intD x.read.buffer), (intD x.read.base), (.lst ((List.map intD) x.read.strides)), (intD x.read.start), (intD x.read.step), (intD x.read.mod)]
theorem T_onf_Nest.fit (x : T_onf_Nest) : Dat.fits 10 x.toD = true := rfl
structure T_ref21_Event where
  write : Int
  fill : Bool
  buffer : Int
  offset : Int
def T_ref21_Event.toD (x : T_ref21_Event) : Dat := .agg [(intD x.write), (boolD x.fill), (intD x.buffer), (intD x.offset)]
theorem T_ref21_Event.fit (x : T_ref21_Event) : Dat.fits 4 x.toD = true := rfl
end Go.Proofs.Try
namespace Go.Proofs.Try
open Go Go.Pm
set_option linter.unusedVariables false
set_option maxHeartbeats 2000000
set_option maxRecDepth 2000
def m_law21_awake (x : Unit) : Option Bool := some true
def P_law21_awake : Unit → Bool → Prop := fun x r => ∀ H, PC prog env 21 ([].map .dat) H (boolPV r) H
theorem w_law21_awake : ∀ x r, m_law21_awake x = some r → P_law21_awake x r := by
  intro x r hm
  cases hm
  intro H
  exact PC_of (n := 200) (by kernel_rfl)
end Go.Proofs.Try
namespace Go.Proofs.Try
open Go Go.Pm
set_option linter.unusedVariables false
set_option maxHeartbeats 2000000
set_option maxRecDepth 2000
def m_ref17_near (x : (Int × Int)) : Option Bool :=
  match x with
  | (p0, p1) =>
  if p0 ≥ (W (0 - p1)) then
    some (decide (p0 ≤ p1))
  else
  some false
def P_ref17_near : (Int × Int) → Bool → Prop := fun x r => match x, r with
  | (p0, p1), r0 => ∀ H, PC prog env 91 ([(intD p0), (intD p1)].map .dat) H (boolPV r0) H
theorem w_ref17_near : ∀ x r, m_ref17_near x = some r → P_ref17_near x r := by
  intro x r0 hm
  unfold m_ref17_near at hm
  unfold P_ref17_near
  obtain ⟨p0, p1⟩ := x
  intro H
  refine PC_sx (ds := [(intD p0), (intD p1)]) (fn := f91) (by kernel_rfl) (by kernel_rfl) rfl ?_ (by kernel_rfl)
  refine R_seq ?_
  refine R_G ?_
  refine G_run 1 ?_
  refine G_end ?_
  refine R_seq ?_
  refine R_G ?_
  refine G_run 5 ?_
  refine G_split (p := p0 ≥ (W (0 - p1))) 9 (rfl) (fun hc => ?_) (fun hc => ?_)
  · replace hm := pos_inv hc hm
    refine G_run 5 ?_
    refine G_end ?_
    refine R_ret ?_
    obtain rfl := inj1 hm
    exact ⟨trivial, fin_pure (by kernel_rfl)⟩
  replace hm := neg_inv hc hm
  refine G_run 5 ?_
  refine G_end ?_
  refine R_ret ?_
  obtain rfl := inj1 hm
  exact ⟨trivial, fin_pure (by kernel_rfl)⟩
end Go.Proofs.Try
namespace Go.Proofs.Try
open Go Go.Pm
set_option linter.unusedVariables false
set_option maxHeartbeats 2000000
set_option maxRecDepth 2000
def m_ref17_Bounded_L1 (x : (T_ref17_Access × Int × Int)) : Option (Unit ⊕ Unit) :=
  match x with
  | (p0, p1, v201) =>
  if v201 < (p0.strides.length : Int) then
    idx p0.strides v201 >>= fun v601 =>
    m_ref17_near (v601, p1) >>= fun (v602 : Bool) =>
    if v602 = false then
      some (Sum.inl ())
    else
    m_ref17_Bounded_L1 (p0, p1, (W (v201 + 1)))
  else
  some (Sum.inr ())
  partial_fixpoint
def P_ref17_Bounded_L1 : (T_ref17_Access × Int × Int) → (Unit ⊕ Unit) → Prop := fun x r => match x with
  | (p0, p1, v201) => ∀ st, prune 1 ((firstRegion (codeAt [1, 0, 1, 0, 0] (bodyOf f54))).bind (env.hint 54).keepAt) st = ⟨kp 49 [(1, (intPV p1)), (2, (.ptr 0 0)), (5, (intPV v201))], [(.box [(intPV p0.kind), (intPV p0.buffer), (intPV p0.base), (.dat (.lst ((List.map intD) p0.strides))), (intPV p0.start), (intPV p0.step), (intPV p0.mod)])]⟩ →
    RL prog env (env.hint 54) true (codeAt [1, 0, 1, 0, 0] (bodyOf f54)) 1 st (fun e s => match r with | .inl _ => e = .ret ∧ ∃ d, s = ⟨sl d 49 [(4, (boolPV false))], [(.box [(intPV p0.kind), (intPV p0.buffer), (intPV p0.base), (.dat (.lst ((List.map intD) p0.strides))), (intPV p0.start), (intPV p0.step), (intPV p0.mod)])]⟩ | .inr (_) => e = .exit 0 ∧ ∃ d, s = ⟨sl d 49 [(1, (intPV p1)), (2, (.ptr 0 0))], [(.box [(intPV p0.kind), (intPV p0.buffer), (intPV p0.base), (.dat (.lst ((List.map intD) p0.strides))), (intPV p0.start), (intPV p0.step), (intPV p0.mod)])]⟩)
theorem w_ref17_Bounded_L1 : ∀ x r, m_ref17_Bounded_L1 x = some r → P_ref17_Bounded_L1 x r := by
  refine m_ref17_Bounded_L1.partial_correctness _ (fun m_ref17_Bounded_L1 w_ref17_Bounded_L1 x r hm => ?_)
  unfold P_ref17_Bounded_L1
  obtain ⟨p0, p1, v201⟩ := x
  intro st hst
  refine RL_at hst ?_
  clear hst
  refine R_seq ?_
  refine R_seq ?_
  refine R_G ?_
  refine G_run 3 ?_
  refine I_len intD p0.strides (es := (List.map intD) p0.strides) rfl ?_
  refine G_run 1 ?_
  refine G_end ?_
  refine R_ifp (p := v201 < (p0.strides.length : Int)) (rfl) (fun hc => ?_) (fun hc => ?_)
  · replace hm := pos_inv hc hm
    refine R_skip ?_
    refine R_seq ?_
    refine R_block ?_
    refine R_seq ?_
    refine R_G ?_
    refine G_run 3 ?_
    obtain ⟨v601, hx, hm⟩ := bind_inv hm
    refine I_idx 1 intD p0.strides v201 v601 (es := (List.map intD) p0.strides) (d := (intD v601)) rfl hx rfl rfl ?_
    refine G_run 2 ?_
    obtain ⟨v602, hx, hm⟩ := bind_inv hm
    have hq := w_ref17_near _ _ hx []
    refine G_callP hq ?_
    refine G_run 1 ?_
    refine G_end ?_
    refine R_ifp (p := v602 = false) (not_dec _) (fun hc => ?_) (fun hc => ?_)
    · replace hm := pos_inv hc hm
      refine R_seq ?_
      refine R_G ?_
      refine G_run 1 ?_
      refine G_end ?_
      refine R_ret ?_
      obtain rfl := inj1 hm
      exact ⟨rfl, cut_leaf (by kernel_rfl)⟩
    replace hm := neg_inv hc hm
    refine R_skip ?_
    refine R_G ?_
    refine G_run 3 ?_
    refine G_end ?_
    exact w_ref17_Bounded_L1 _ _ hm _ (by kernel_rfl)
  replace hm := neg_inv hc hm
  refine R_exit ?_
  obtain rfl := inj1 hm
  exact ⟨rfl, cut_leaf (by kernel_rfl)⟩
def m_ref17_Bounded (x : (T_ref17_Access × Int)) : Option Bool :=
  match x with
  | (p0, p1) =>
  (
  m_ref17_Bounded_L1 (p0, p1, 0) >>= fun (out : Unit ⊕ Unit) =>
  match out with
  | .inl _ =>
    some false
  | .inr (_) =>
    m_ref17_near (p0.buffer, p1) >>= fun (v603 : Bool) =>
    (if v603 = true then
      m_ref17_near (p0.base, p1) >>= fun (v605 : Bool) =>
      some v605
    else
    some false
    ) >>= fun (v604 : Bool) =>
    (if v604 = true then
      m_ref17_near (p0.start, p1) >>= fun (v607 : Bool) =>
      some v607
    else
    some false
    ) >>= fun (v606 : Bool) =>
    (if v606 = true then
      m_ref17_near (p0.step, p1) >>= fun (v609 : Bool) =>
      some v609
    else
    some false
    ) >>= fun (v608 : Bool) =>
    if v608 = true then
      m_ref17_near (p0.mod, p1) >>= fun (v610 : Bool) =>
      some v610
    else
    some false
  )
def P_ref17_Bounded : (T_ref17_Access × Int) → Bool → Prop := fun x r => match x, r with
  | (p0, p1), r0 => ∀ H, PC prog env 54 ([(T_ref17_Access.toD p0), (intD p1)].map .dat) H (boolPV r0) H
theorem w_ref17_Bounded : ∀ x r, m_ref17_Bounded x = some r → P_ref17_Bounded x r := by
  intro x r0 hm
  unfold m_ref17_Bounded at hm
  unfold P_ref17_Bounded
  obtain ⟨p0, p1⟩ := x
  intro H
  refine PC_sx (ds := [(T_ref17_Access.toD p0), (intD p1)]) (fn := f54) (by kernel_rfl) (by kernel_rfl) rfl ?_ (by kernel_rfl)
  refine R_seq ?_
  refine R_G ?_
  refine G_run 2 ?_
  refine G_end ?_
  refine R_seq ?_
  refine R_seq ?_
  refine R_G ?_
  refine G_run 1 ?_
  refine G_end ?_
  refine R_block ?_
  obtain ⟨out, hs, hm⟩ := bind_inv hm
  refine R_loop ?_
  rcases out with _ | _
  · refine RL_use (w_ref17_Bounded_L1 _ _ hs) (by kernel_rfl) ?_
    clear hs
    intro e s hp
    obtain ⟨rfl, d, rfl⟩ := hp
    obtain rfl := inj1 hm
    exact ⟨trivial, fin_pure (by kernel_rfl)⟩
  · refine RL_use (w_ref17_Bounded_L1 _ _ hs) (by kernel_rfl) ?_
    clear hs
    intro e s hp
    obtain ⟨rfl, d, rfl⟩ := hp
    refine R_seq ?_
    refine R_GN ?_
    refine G_run 3 ?_
    obtain ⟨v603, hx, hm⟩ := bind_inv hm
    have hq := w_ref17_near _ _ hx []
    refine G_callP hq ?_
    refine G_run 1 ?_
    obtain ⟨v604, hs, hm⟩ := bind_inv hm
    refine G_cut (j := 10) (fun d => ⟨sl d 49 [(1, (intPV p1)), (2, (.ptr 0 0)), (21, (.ptr 0 1)), (22, (intPV p0.buffer)), (23, (intPV p1)), (24, (boolPV v603)), (30, (boolPV v604))], [(.box [(intPV p0.kind), (intPV p0.buffer), (intPV p0.base), (.dat (.lst ((List.map intD) p0.strides))), (intPV p0.start), (intPV p0.step), (intPV p0.mod)])]⟩) (fun d => ?_) (fun hJ => ?_)
    · clear hs
      refine G_run 1 ?_
      obtain ⟨v606, hs, hm⟩ := bind_inv hm
      refine G_cut (j := 16) (fun d => ⟨sl d 49 [(1, (intPV p1)), (2, (.ptr 0 0)), (21, (.ptr 0 1)), (22, (intPV p0.buffer)), (23, (intPV p1)), (24, (boolPV v603)), (30, (boolPV v604)), (36, (boolPV v606))], [(.box [(intPV p0.kind), (intPV p0.buffer), (intPV p0.base), (.dat (.lst ((List.map intD) p0.strides))), (intPV p0.start), (intPV p0.step), (intPV p0.mod)])]⟩) (fun d => ?_) (fun hJ => ?_)
      · clear hs
        refine G_run 1 ?_
        obtain ⟨v608, hs, hm⟩ := bind_inv hm
        refine G_cut (j := 22) (fun d => ⟨sl d 49 [(1, (intPV p1)), (2, (.ptr 0 0)), (21, (.ptr 0 1)), (22, (intPV p0.buffer)), (23, (intPV p1)), (24, (boolPV v603)), (30, (boolPV v604)), (36, (boolPV v606)), (42, (boolPV v608))], [(.box [(intPV p0.kind), (intPV p0.buffer), (intPV p0.base), (.dat (.lst ((List.map intD) p0.strides))), (intPV p0.start), (intPV p0.step), (intPV p0.mod)])]⟩) (fun d => ?_) (fun hJ => ?_)
        · clear hs
          refine G_run 1 ?_
          refine G_split (p := v608 = true) 43 (bool_dec _) (fun hc => ?_) (fun hc => ?_)
          · replace hm := pos_inv hc hm
            refine G_run 3 ?_
            obtain ⟨v610, hx, hm⟩ := bind_inv hm
            have hq := w_ref17_near _ _ hx []
            refine G_callP hq ?_
            refine G_run 2 ?_
            refine G_end ⟨by kernel_rfl, ?_⟩
            refine R_ret ?_
            obtain rfl := inj1 hm
            exact ⟨trivial, fin_pure (by kernel_rfl)⟩
          replace hm := neg_inv hc hm
          refine G_run 6 ?_
          refine G_end ⟨by kernel_rfl, ?_⟩
          refine R_ret ?_
          obtain rfl := inj1 hm
          exact ⟨trivial, fin_pure (by kernel_rfl)⟩
        replace hm := hs
        clear hs
        refine G_split (p := v606 = true) 37 (bool_dec _) (fun hc => ?_) (fun hc => ?_)
        · replace hm := pos_inv hc hm
          refine G_run 3 ?_
          obtain ⟨v609, hx, hm⟩ := bind_inv hm
          have hq := w_ref17_near _ _ hx []
          refine G_callP hq ?_
          refine G_run 1 ?_
          obtain rfl := inj1 hm
          exact hJ _ _ (by kernel_rfl) (by kernel_rfl)
        replace hm := neg_inv hc hm
        refine G_run 5 ?_
        obtain rfl := inj1 hm
        exact hJ _ _ (by kernel_rfl) (by kernel_rfl)
      replace hm := hs
      clear hs
      refine G_split (p := v604 = true) 31 (bool_dec _) (fun hc => ?_) (fun hc => ?_)
      · replace hm := pos_inv hc hm
        refine G_run 3 ?_
        obtain ⟨v607, hx, hm⟩ := bind_inv hm
        have hq := w_ref17_near _ _ hx []
        refine G_callP hq ?_
        refine G_run 1 ?_
        obtain rfl := inj1 hm
        exact hJ _ _ (by kernel_rfl) (by kernel_rfl)
      replace hm := neg_inv hc hm
      refine G_run 5 ?_
      obtain rfl := inj1 hm
      exact hJ _ _ (by kernel_rfl) (by kernel_rfl)
    replace hm := hs
    clear hs
    refine G_split (p := v603 = true) 25 (bool_dec _) (fun hc => ?_) (fun hc => ?_)
    · replace hm := pos_inv hc hm
      refine G_run 3 ?_
      obtain ⟨v605, hx, hm⟩ := bind_inv hm
      have hq := w_ref17_near _ _ hx []
      refine G_callP hq ?_
      refine G_run 1 ?_
      obtain rfl := inj1 hm
      exact hJ _ _ (by kernel_rfl) (by kernel_rfl)
    replace hm := neg_inv hc hm
    refine G_run 5 ?_
    obtain rfl := inj1 hm
    exact hJ _ _ (by kernel_rfl) (by kernel_rfl)
end Go.Proofs.Try
namespace Go.Proofs.Try
open Go Go.Pm
set_option linter.unusedVariables false
set_option maxHeartbeats 2000000
set_option maxRecDepth 2000
def m_ref17_Right (x : (T_ref17_Access × Int)) : Option Bool :=
  match x with
  | (p0, p1) =>
  ((if p1 < 0 then
    some true
  else
  some (decide (p1 > 16))
  ) >>= fun (v2 : Bool) =>
  (if v2 = true then
    some true
  else
  m_ref17_Bounded ((⟨p0.kind, p0.buffer, p0.base, p0.strides, p0.start, p0.step, p0.mod⟩ : T_ref17_Access), 1099511627776) >>= fun (v4 : Bool) =>
  some (!v4)
  ) >>= fun (v3 : Bool) =>
  if v3 = true then
    some true
  else
  some (decide (p0.buffer < 0))
  ) >>= fun (v1 : Bool) =>
  if v1 = true then
    some false
  else
  if p0.kind = 1 then
    (if p0.buffer = 0 then
      some (p0.base == 0)
    else
    some false
    ) >>= fun (v5 : Bool) =>
    (if v5 = true then
      some ((p0.strides.length : Int) == 0)
    else
    some false
    ) >>= fun (v6 : Bool) =>
    (if v6 = true then
      some (p0.start == 0)
    else
    some false
    ) >>= fun (v7 : Bool) =>
    (if v7 = true then
      some (p0.step == 0)
    else
    some false
    ) >>= fun (v8 : Bool) =>
    if v8 = true then
      some (p0.mod == 0)
    else
    some false
  else
  if p0.kind = 2 then
    (if (p0.strides.length : Int) = p1 then
      some (p0.start == 0)
    else
    some false
    ) >>= fun (v9 : Bool) =>
    (if v9 = true then
      some (p0.step == 0)
    else
    some false
    ) >>= fun (v10 : Bool) =>
    if v10 = true then
      some (p0.mod == 0)
    else
    some false
  else
  if p0.kind = 3 then
    if (p0.strides.length : Int) = p1 then
      some (decide (p0.mod > 0))
    else
    some false
  else
  some false
def P_ref17_Right : (T_ref17_Access × Int) → Bool → Prop := fun x r => match x, r with
  | (p0, p1), r0 => ∀ H, PC prog env 53 ([(T_ref17_Access.toD p0), (intD p1)].map .dat) H (boolPV r0) H
theorem w_ref17_Right : ∀ x r, m_ref17_Right x = some r → P_ref17_Right x r := by
  intro x r0 hm
  unfold m_ref17_Right at hm
  unfold P_ref17_Right
  obtain ⟨p0, p1⟩ := x
  intro H
  refine PC_sx (ds := [(T_ref17_Access.toD p0), (intD p1)]) (fn := f53) (by kernel_rfl) (by kernel_rfl) rfl ?_ (by kernel_rfl)
  refine R_seq ?_
  refine R_G ?_
  refine G_run 2 ?_
  refine G_end ?_
  refine R_seq ?_
  refine R_seq ?_
  obtain ⟨v1, hs, hm⟩ := bind_inv hm
  refine R_cut (fun d => ⟨sl d 88 [(1, (intPV p1)), (2, (.ptr 0 0)), (20, (boolPV v1))], [(.box [(intPV p0.kind), (intPV p0.buffer), (intPV p0.base), (.dat (.lst ((List.map intD) p0.strides))), (intPV p0.start), (intPV p0.step), (intPV p0.mod)])]⟩) ?_ (fun d => ?_)
  · replace hm := hs
    clear hs
    refine R_GN ?_
    refine G_run 3 ?_
    obtain ⟨v2, hs, hm⟩ := bind_inv hm
    refine G_cut (j := 6) (fun d => ⟨sl d 88 [(0, (.dat (.agg [(intD p0.kind), (intD p0.buffer), (intD p0.base), (.lst ((List.map intD) p0.strides)), (intD p0.start), (intD p0.step), (intD p0.mod)]))), (1, (intPV p1)), (2, (.ptr 0 0)), (4, (boolPV false)), (5, (intPV p1)), (6, (boolPV (decide (p1 < 0)))), (10, (boolPV v2))], [(.box [(intPV p0.kind), (intPV p0.buffer), (intPV p0.base), (.dat (.lst ((List.map intD) p0.strides))), (intPV p0.start), (intPV p0.step), (intPV p0.mod)])]⟩) (fun d => ?_) (fun hJ => ?_)
    · clear hs
      refine G_run 1 ?_
      obtain ⟨v3, hs, hm⟩ := bind_inv hm
      refine G_cut (j := 11) (fun d => ⟨sl d 88 [(0, (.dat (.agg [(intD p0.kind), (intD p0.buffer), (intD p0.base), (.lst ((List.map intD) p0.strides)), (intD p0.start), (intD p0.step), (intD p0.mod)]))), (1, (intPV p1)), (2, (.ptr 0 0)), (4, (boolPV false)), (5, (intPV p1)), (6, (boolPV (decide (p1 < 0)))), (10, (boolPV v2)), (15, (boolPV v3))], [(.box [(intPV p0.kind), (intPV p0.buffer), (intPV p0.base), (.dat (.lst ((List.map intD) p0.strides))), (intPV p0.start), (intPV p0.step), (intPV p0.mod)])]⟩) (fun d => ?_) (fun hJ => ?_)
      · clear hs
        refine G_run 1 ?_
        refine G_split (p := v3 = true) 16 (bool_dec _) (fun hc => ?_) (fun hc => ?_)
        · replace hm := pos_inv hc hm
          refine G_run 4 ?_
          refine G_end ⟨by kernel_rfl, ?_⟩
          obtain rfl := inj1 hm
          exact cut_leaf (by kernel_rfl)
        replace hm := neg_inv hc hm
        refine G_run 4 ?_
        refine G_end ⟨by kernel_rfl, ?_⟩
        obtain rfl := inj1 hm
        exact cut_leaf (by kernel_rfl)
      replace hm := hs
      clear hs
      refine G_split (p := v2 = true) 11 (bool_dec _) (fun hc => ?_) (fun hc => ?_)
      · replace hm := pos_inv hc hm
        refine G_run 4 ?_
        obtain rfl := inj1 hm
        exact hJ _ _ (by kernel_rfl) (by kernel_rfl)
      replace hm := neg_inv hc hm
      refine G_run 1 ?_
      obtain ⟨v4, hx, hm⟩ := bind_inv hm
      have hq := w_ref17_Bounded _ _ hx []
      refine G_callP hq ?_
      refine G_run 2 ?_
      obtain rfl := inj1 hm
      exact hJ _ _ (by kernel_rfl) (by kernel_rfl)
    replace hm := hs
    clear hs
    refine G_split (p := p1 < 0) 7 (rfl) (fun hc => ?_) (fun hc => ?_)
    · replace hm := pos_inv hc hm
      refine G_run 3 ?_
      obtain rfl := inj1 hm
      exact hJ _ _ (by kernel_rfl) (by kernel_rfl)
    replace hm := neg_inv hc hm
    refine G_run 3 ?_
    obtain rfl := inj1 hm
    exact hJ _ _ (by kernel_rfl) (by kernel_rfl)
  clear hs
  refine R_ifp (p := v1 = true) (bool_dec _) (fun hc => ?_) (fun hc => ?_)
  · replace hm := pos_inv hc hm
    refine R_seq ?_
    refine R_G ?_
    refine G_run 1 ?_
    refine G_end ?_
    refine R_ret ?_
    obtain rfl := inj1 hm
    exact ⟨trivial, fin_pure (by kernel_rfl)⟩
  replace hm := neg_inv hc hm
  refine R_skip ?_
  refine R_seq ?_
  refine R_seq ?_
  refine R_G ?_
  refine G_run 2 ?_
  refine G_end ?_
  refine R_block ?_
  refine R_seq ?_
  refine R_G ?_
  refine G_run 2 ?_
  refine G_end ?_
  refine R_ifp (p := p0.kind = 1) (eq_dec _ _) (fun hc => ?_) (fun hc => ?_)
  · replace hm := pos_inv hc hm
    refine R_seq ?_
    refine R_GN ?_
    refine G_run 4 ?_
    obtain ⟨v5, hs, hm⟩ := bind_inv hm
    refine G_cut (j := 8) (fun d => ⟨sl d 88 [(1, (intPV p1)), (2, (.ptr 0 0)), (20, (boolPV v1)), (21, (.ptr 0 0)), (22, (intPV p0.kind)), (23, (boolPV (p0.kind == 1))), (24, (boolPV (p0.kind == 1))), (25, (.ptr 0 1)), (26, (intPV p0.buffer)), (27, (boolPV (p0.buffer == 0))), (32, (boolPV v5))], [(.box [(intPV p0.kind), (intPV p0.buffer), (intPV p0.base), (.dat (.lst ((List.map intD) p0.strides))), (intPV p0.start), (intPV p0.step), (intPV p0.mod)])]⟩) (fun d => ?_) (fun hJ => ?_)
    · clear hs
      refine G_run 1 ?_
      obtain ⟨v6, hs, hm⟩ := bind_inv hm
      refine G_cut (j := 14) (fun d => ⟨sl d 88 [(1, (intPV p1)), (2, (.ptr 0 0)), (20, (boolPV v1)), (21, (.ptr 0 0)), (22, (intPV p0.kind)), (23, (boolPV (p0.kind == 1))), (24, (boolPV (p0.kind == 1))), (25, (.ptr 0 1)), (26, (intPV p0.buffer)), (27, (boolPV (p0.buffer == 0))), (32, (boolPV v5)), (38, (boolPV v6))], [(.box [(intPV p0.kind), (intPV p0.buffer), (intPV p0.base), (.dat (.lst ((List.map intD) p0.strides))), (intPV p0.start), (intPV p0.step), (intPV p0.mod)])]⟩) (fun d => ?_) (fun hJ => ?_)
      · clear hs
        refine G_run 1 ?_
        obtain ⟨v7, hs, hm⟩ := bind_inv hm
        refine G_cut (j := 19) (fun d => ⟨sl d 88 [(1, (intPV p1)), (2, (.ptr 0 0)), (20, (boolPV v1)), (21, (.ptr 0 0)), (22, (intPV p0.kind)), (23, (boolPV (p0.kind == 1))), (24, (boolPV (p0.kind == 1))), (25, (.ptr 0 1)), (26, (intPV p0.buffer)), (27, (boolPV (p0.buffer == 0))), (32, (boolPV v5)), (38, (boolPV v6)), (43, (boolPV v7))], [(.box [(intPV p0.kind), (intPV p0.buffer), (intPV p0.base), (.dat (.lst ((List.map intD) p0.strides))), (intPV p0.start), (intPV p0.step), (intPV p0.mod)])]⟩) (fun d => ?_) (fun hJ => ?_)
        · clear hs
          refine G_run 1 ?_
          obtain ⟨v8, hs, hm⟩ := bind_inv hm
          refine G_cut (j := 24) (fun d => ⟨sl d 88 [(1, (intPV p1)), (2, (.ptr 0 0)), (20, (boolPV v1)), (21, (.ptr 0 0)), (22, (intPV p0.kind)), (23, (boolPV (p0.kind == 1))), (24, (boolPV (p0.kind == 1))), (25, (.ptr 0 1)), (26, (intPV p0.buffer)), (27, (boolPV (p0.buffer == 0))), (32, (boolPV v5)), (38, (boolPV v6)), (43, (boolPV v7)), (48, (boolPV v8))], [(.box [(intPV p0.kind), (intPV p0.buffer), (intPV p0.base), (.dat (.lst ((List.map intD) p0.strides))), (intPV p0.start), (intPV p0.step), (intPV p0.mod)])]⟩) (fun d => ?_) (fun hJ => ?_)
          · clear hs
            refine G_run 1 ?_
            refine G_split (p := v8 = true) 49 (bool_dec _) (fun hc => ?_) (fun hc => ?_)
            · replace hm := pos_inv hc hm
              refine G_run 5 ?_
              refine G_end ⟨by kernel_rfl, ?_⟩
              refine R_ret ?_
              obtain rfl := inj1 hm
              exact ⟨trivial, fin_pure (by kernel_rfl)⟩
            replace hm := neg_inv hc hm
            refine G_run 5 ?_
            refine G_end ⟨by kernel_rfl, ?_⟩
            refine R_ret ?_
            obtain rfl := inj1 hm
            exact ⟨trivial, fin_pure (by kernel_rfl)⟩
          replace hm := hs
          clear hs
          refine G_split (p := v7 = true) 44 (bool_dec _) (fun hc => ?_) (fun hc => ?_)
          · replace hm := pos_inv hc hm
            refine G_run 4 ?_
            obtain rfl := inj1 hm
            exact hJ _ _ (by kernel_rfl) (by kernel_rfl)
          replace hm := neg_inv hc hm
          refine G_run 4 ?_
          obtain rfl := inj1 hm
          exact hJ _ _ (by kernel_rfl) (by kernel_rfl)
        replace hm := hs
        clear hs
        refine G_split (p := v6 = true) 39 (bool_dec _) (fun hc => ?_) (fun hc => ?_)
        · replace hm := pos_inv hc hm
          refine G_run 4 ?_
          obtain rfl := inj1 hm
          exact hJ _ _ (by kernel_rfl) (by kernel_rfl)
        replace hm := neg_inv hc hm
        refine G_run 4 ?_
        obtain rfl := inj1 hm
        exact hJ _ _ (by kernel_rfl) (by kernel_rfl)
      replace hm := hs
      clear hs
      refine G_split (p := v5 = true) 33 (bool_dec _) (fun hc => ?_) (fun hc => ?_)
      · replace hm := pos_inv hc hm
        refine G_run 2 ?_
        refine I_len intD p0.strides (es := (List.map intD) p0.strides) rfl ?_
        refine G_run 2 ?_
        obtain rfl := inj1 hm
        exact hJ _ _ (by kernel_rfl) (by kernel_rfl)
      replace hm := neg_inv hc hm
      refine G_run 5 ?_
      obtain rfl := inj1 hm
      exact hJ _ _ (by kernel_rfl) (by kernel_rfl)
    replace hm := hs
    clear hs
    refine G_split (p := p0.buffer = 0) 28 (eq_dec _ _) (fun hc => ?_) (fun hc => ?_)
    · replace hm := pos_inv hc hm
      refine G_run 4 ?_
      obtain rfl := inj1 hm
      exact hJ _ _ (by kernel_rfl) (by kernel_rfl)
    replace hm := neg_inv hc hm
    refine G_run 4 ?_
    obtain rfl := inj1 hm
    exact hJ _ _ (by kernel_rfl) (by kernel_rfl)
  replace hm := neg_inv hc hm
  refine R_seq ?_
  refine R_G ?_
  refine G_run 2 ?_
  refine G_end ?_
  refine R_ifp (p := p0.kind = 2) (eq_dec _ _) (fun hc => ?_) (fun hc => ?_)
  · replace hm := pos_inv hc hm
    refine R_seq ?_
    refine R_GN ?_
    refine G_run 2 ?_
    refine I_len intD p0.strides (es := (List.map intD) p0.strides) rfl ?_
    refine G_run 3 ?_
    obtain ⟨v9, hs, hm⟩ := bind_inv hm
    refine G_cut (j := 10) (fun d => ⟨sl d 88 [(1, (intPV p1)), (2, (.ptr 0 0)), (20, (boolPV v1)), (21, (.ptr 0 0)), (22, (intPV p0.kind)), (23, (boolPV (p0.kind == 1))), (24, (boolPV (p0.kind == 1))), (54, (boolPV (p0.kind == 2))), (55, (boolPV (p0.kind == 2))), (56, (.ptr 0 3)), (57, (.dat (.lst ((List.map intD) p0.strides)))), (58, (intPV (p0.strides.length : Int))), (59, (intPV p1)), (60, (boolPV ((p0.strides.length : Int) == p1))), (65, (boolPV v9))], [(.box [(intPV p0.kind), (intPV p0.buffer), (intPV p0.base), (.dat (.lst ((List.map intD) p0.strides))), (intPV p0.start), (intPV p0.step), (intPV p0.mod)])]⟩) (fun d => ?_) (fun hJ => ?_)
    · clear hs
      refine G_run 1 ?_
      obtain ⟨v10, hs, hm⟩ := bind_inv hm
      refine G_cut (j := 15) (fun d => ⟨sl d 88 [(1, (intPV p1)), (2, (.ptr 0 0)), (20, (boolPV v1)), (21, (.ptr 0 0)), (22, (intPV p0.kind)), (23, (boolPV (p0.kind == 1))), (24, (boolPV (p0.kind == 1))), (54, (boolPV (p0.kind == 2))), (55, (boolPV (p0.kind == 2))), (56, (.ptr 0 3)), (57, (.dat (.lst ((List.map intD) p0.strides)))), (58, (intPV (p0.strides.length : Int))), (59, (intPV p1)), (60, (boolPV ((p0.strides.length : Int) == p1))), (65, (boolPV v9)), (70, (boolPV v10))], [(.box [(intPV p0.kind), (intPV p0.buffer), (intPV p0.base), (.dat (.lst ((List.map intD) p0.strides))), (intPV p0.start), (intPV p0.step), (intPV p0.mod)])]⟩) (fun d => ?_) (fun hJ => ?_)
      · clear hs
        refine G_run 1 ?_
        refine G_split (p := v10 = true) 71 (bool_dec _) (fun hc => ?_) (fun hc => ?_)
        · replace hm := pos_inv hc hm
          refine G_run 5 ?_
          refine G_end ⟨by kernel_rfl, ?_⟩
          refine R_ret ?_
          obtain rfl := inj1 hm
          exact ⟨trivial, fin_pure (by kernel_rfl)⟩
        replace hm := neg_inv hc hm
        refine G_run 5 ?_
        refine G_end ⟨by kernel_rfl, ?_⟩
        refine R_ret ?_
        obtain rfl := inj1 hm
        exact ⟨trivial, fin_pure (by kernel_rfl)⟩
      replace hm := hs
      clear hs
      refine G_split (p := v9 = true) 66 (bool_dec _) (fun hc => ?_) (fun hc => ?_)
      · replace hm := pos_inv hc hm
        refine G_run 4 ?_
        obtain rfl := inj1 hm
        exact hJ _ _ (by kernel_rfl) (by kernel_rfl)
      replace hm := neg_inv hc hm
      refine G_run 4 ?_
      obtain rfl := inj1 hm
      exact hJ _ _ (by kernel_rfl) (by kernel_rfl)
    replace hm := hs
    clear hs
    refine G_split (p := (p0.strides.length : Int) = p1) 61 (eq_dec _ _) (fun hc => ?_) (fun hc => ?_)
    · replace hm := pos_inv hc hm
      refine G_run 4 ?_
      obtain rfl := inj1 hm
      exact hJ _ _ (by kernel_rfl) (by kernel_rfl)
    replace hm := neg_inv hc hm
    refine G_run 4 ?_
    obtain rfl := inj1 hm
    exact hJ _ _ (by kernel_rfl) (by kernel_rfl)
  replace hm := neg_inv hc hm
  refine R_seq ?_
  refine R_G ?_
  refine G_run 2 ?_
  refine G_end ?_
  refine R_ifp (p := p0.kind = 3) (eq_dec _ _) (fun hc => ?_) (fun hc => ?_)
  · replace hm := pos_inv hc hm
    refine R_seq ?_
    refine R_G ?_
    refine G_run 2 ?_
    refine I_len intD p0.strides (es := (List.map intD) p0.strides) rfl ?_
    refine G_run 3 ?_
    refine G_split (p := (p0.strides.length : Int) = p1) 83 (eq_dec _ _) (fun hc => ?_) (fun hc => ?_)
    · replace hm := pos_inv hc hm
      refine G_run 5 ?_
      refine G_end ?_
      refine R_ret ?_
      obtain rfl := inj1 hm
      exact ⟨trivial, fin_pure (by kernel_rfl)⟩
    replace hm := neg_inv hc hm
    refine G_run 5 ?_
    refine G_end ?_
    refine R_ret ?_
    obtain rfl := inj1 hm
    exact ⟨trivial, fin_pure (by kernel_rfl)⟩
  replace hm := neg_inv hc hm
  refine R_skip ?_
  refine R_seq ?_
  refine R_G ?_
  refine G_run 1 ?_
  refine G_end ?_
  refine R_ret ?_
  obtain rfl := inj1 hm
  exact ⟨trivial, fin_pure (by kernel_rfl)⟩
end Go.Proofs.Try
namespace Go.Proofs.Try
open Go Go.Pm
set_option linter.unusedVariables false
set_option maxHeartbeats 2000000
set_option maxRecDepth 2000
def m_ref21_Small_L1 (x : (T_ref21_Nest × Int × Int × Int)) : Option (Unit ⊕ Unit) :=
  match x with
  | (p0, p1, v208, v209) =>
  if v209 < (p0.dims.length : Int) then
    (idx p0.dims v209 >>= fun v609 =>
    (if v609 < 1 then
      some true
    else
    idx p0.dims v209 >>= fun v611 =>
    some (decide (v611 > p1))
    ) >>= fun (v610 : Bool) =>
    (if v610 = true then
      some true
    else
    idx p0.steps v209 >>= fun v613 =>
    some (decide (v613 < (-1000000)))
    ) >>= fun (v612 : Bool) =>
    if v612 = true then
      some true
    else
    idx p0.steps v209 >>= fun v614 =>
    some (decide (v614 > 1000000))
    ) >>= fun (v608 : Bool) =>
    if v608 = true then
      some (Sum.inl ())
    else
    idx p0.dims v209 >>= fun v615 =>
    if (W (v208 * v615)) > p1 then
      some (Sum.inl ())
    else
    m_ref21_Small_L1 (p0, p1, (W (v208 * v615)), (W (v209 + 1)))
  else
  some (Sum.inr ())
  partial_fixpoint
def P_ref21_Small_L1 : (T_ref21_Nest × Int × Int × Int) → (Unit ⊕ Unit) → Prop := fun x r => match x with
  | (p0, p1, v208, v209) => ∀ st, prune 1 ((firstRegion (codeAt [1, 1, 1, 0, 1, 0, 0] (bodyOf f22))).bind (env.hint 22).keepAt) st = ⟨kp 93 [(1, (intPV p1)), (2, (.ptr 0 0)), (5, (intPV v208)), (6, (intPV v209))], [(.box [(.dat (.lst ((List.map intD) p0.dims))), (intPV p0.write), (.dat (.lst ((List.map intD) p0.steps))), (intPV p0.read.kind), (intPV p0.read.buffer), (intPV p0.read.base), (.dat (.lst ((List.map intD) p0.read.strides))), (intPV p0.read.start), (intPV p0.read.step), (intPV p0.read.mod)])]⟩ →
    RL prog env (env.hint 22) true (codeAt [1, 1, 1, 0, 1, 0, 0] (bodyOf f22)) 1 st (fun e s => match r with | .inl _ => e = .ret ∧ ∃ d, s = ⟨sl d 93 [(4, (boolPV false))], [(.box [(.dat (.lst ((List.map intD) p0.dims))), (intPV p0.write), (.dat (.lst ((List.map intD) p0.steps))), (intPV p0.read.kind), (intPV p0.read.buffer), (intPV p0.read.base), (.dat (.lst ((List.map intD) p0.read.strides))), (intPV p0.read.start), (intPV p0.read.step), (intPV p0.read.mod)])]⟩ | .inr (_) => e = .exit 0 ∧ ∃ d, s = ⟨sl d 93 [], [(.box [(.dat (.lst ((List.map intD) p0.dims))), (intPV p0.write), (.dat (.lst ((List.map intD) p0.steps))), (intPV p0.read.kind), (intPV p0.read.buffer), (intPV p0.read.base), (.dat (.lst ((List.map intD) p0.read.strides))), (intPV p0.read.start), (intPV p0.read.step), (intPV p0.read.mod)])]⟩)
theorem w_ref21_Small_L1 : ∀ x r, m_ref21_Small_L1 x = some r → P_ref21_Small_L1 x r := by
  refine m_ref21_Small_L1.partial_correctness _ (fun m_ref21_Small_L1 w_ref21_Small_L1 x r hm => ?_)
  unfold P_ref21_Small_L1
  obtain ⟨p0, p1, v208, v209⟩ := x
  intro st hst
  refine RL_at hst ?_
  clear hst
  refine R_seq ?_
  refine R_seq ?_
  refine R_G ?_
  refine G_run 3 ?_
  refine I_len intD p0.dims (es := (List.map intD) p0.dims) rfl ?_
  refine G_run 1 ?_
  refine G_end ?_
  refine R_ifp (p := v209 < (p0.dims.length : Int)) (rfl) (fun hc => ?_) (fun hc => ?_)
  · replace hm := pos_inv hc hm
    refine R_skip ?_
    refine R_seq ?_
    refine R_block ?_
    refine R_seq ?_
    refine R_seq ?_
    obtain ⟨v608, hs, hm⟩ := bind_inv hm
    refine R_cut (fun d => ⟨sl d 93 [(1, (intPV p1)), (2, (.ptr 0 0)), (5, (intPV v208)), (6, (intPV v209)), (82, (boolPV v608))], [(.box [(.dat (.lst ((List.map intD) p0.dims))), (intPV p0.write), (.dat (.lst ((List.map intD) p0.steps))), (intPV p0.read.kind), (intPV p0.read.buffer), (intPV p0.read.base), (.dat (.lst ((List.map intD) p0.read.strides))), (intPV p0.read.start), (intPV p0.read.step), (intPV p0.read.mod)])]⟩) ?_ (fun d => ?_)
    · replace hm := hs
      clear hs
      refine R_GN ?_
      refine G_run 3 ?_
      obtain ⟨v609, hx, hm⟩ := bind_inv hm
      refine I_idx 1 intD p0.dims v209 v609 (es := (List.map intD) p0.dims) (d := (intD v609)) rfl hx rfl rfl ?_
      refine G_run 3 ?_
      obtain ⟨v610, hs, hm⟩ := bind_inv hm
      refine G_cut (j := 15) (fun d => ⟨sl d 93 [(1, (intPV p1)), (2, (.ptr 0 0)), (5, (intPV v208)), (6, (intPV v209)), (45, (intPV v209)), (46, (.ptr 0 0)), (47, (.dat (.lst ((List.map intD) p0.dims)))), (48, (intPV (p0.dims.length : Int))), (49, (boolPV (decide (v209 < (p0.dims.length : Int))))), (52, (.ptr 0 0)), (53, (.dat (.lst ((List.map intD) p0.dims)))), (54, (intPV v209)), (55, (.iptr [(intD v609)])), (56, (intPV v609)), (57, (boolPV (decide (v609 < 1)))), (66, (boolPV v610))], [(.box [(.dat (.lst ((List.map intD) p0.dims))), (intPV p0.write), (.dat (.lst ((List.map intD) p0.steps))), (intPV p0.read.kind), (intPV p0.read.buffer), (intPV p0.read.base), (.dat (.lst ((List.map intD) p0.read.strides))), (intPV p0.read.start), (intPV p0.read.step), (intPV p0.read.mod)])]⟩) (fun d => ?_) (fun hJ => ?_)
      · clear hs
        refine G_run 1 ?_
        obtain ⟨v612, hs, hm⟩ := bind_inv hm
        refine G_cut (j := 23) (fun d => ⟨sl d 93 [(1, (intPV p1)), (2, (.ptr 0 0)), (5, (intPV v208)), (6, (intPV v209)), (45, (intPV v209)), (46, (.ptr 0 0)), (47, (.dat (.lst ((List.map intD) p0.dims)))), (48, (intPV (p0.dims.length : Int))), (49, (boolPV (decide (v209 < (p0.dims.length : Int))))), (52, (.ptr 0 0)), (53, (.dat (.lst ((List.map intD) p0.dims)))), (54, (intPV v209)), (55, (.iptr [(intD v609)])), (56, (intPV v609)), (57, (boolPV (decide (v609 < 1)))), (66, (boolPV v610)), (74, (boolPV v612))], [(.box [(.dat (.lst ((List.map intD) p0.dims))), (intPV p0.write), (.dat (.lst ((List.map intD) p0.steps))), (intPV p0.read.kind), (intPV p0.read.buffer), (intPV p0.read.base), (.dat (.lst ((List.map intD) p0.read.strides))), (intPV p0.read.start), (intPV p0.read.step), (intPV p0.read.mod)])]⟩) (fun d => ?_) (fun hJ => ?_)
        · clear hs
          refine G_run 1 ?_
          refine G_split (p := v612 = true) 75 (bool_dec _) (fun hc => ?_) (fun hc => ?_)
          · replace hm := pos_inv hc hm
            refine G_run 7 ?_
            refine G_end ⟨by kernel_rfl, ?_⟩
            obtain rfl := inj1 hm
            exact cut_leaf (by kernel_rfl)
          replace hm := neg_inv hc hm
          refine G_run 3 ?_
          obtain ⟨v614, hx, hm⟩ := bind_inv hm
          refine I_idx 1 intD p0.steps v209 v614 (es := (List.map intD) p0.steps) (d := (intD v614)) rfl hx rfl rfl ?_
          refine G_run 3 ?_
          refine G_end ⟨by kernel_rfl, ?_⟩
          obtain rfl := inj1 hm
          exact cut_leaf (by kernel_rfl)
        replace hm := hs
        clear hs
        refine G_split (p := v610 = true) 67 (bool_dec _) (fun hc => ?_) (fun hc => ?_)
        · replace hm := pos_inv hc hm
          refine G_run 7 ?_
          obtain rfl := inj1 hm
          exact hJ _ _ (by kernel_rfl) (by kernel_rfl)
        replace hm := neg_inv hc hm
        refine G_run 3 ?_
        obtain ⟨v613, hx, hm⟩ := bind_inv hm
        refine I_idx 1 intD p0.steps v209 v613 (es := (List.map intD) p0.steps) (d := (intD v613)) rfl hx rfl rfl ?_
        refine G_run 3 ?_
        obtain rfl := inj1 hm
        exact hJ _ _ (by kernel_rfl) (by kernel_rfl)
      replace hm := hs
      clear hs
      refine G_split (p := v609 < 1) 58 (rfl) (fun hc => ?_) (fun hc => ?_)
      · replace hm := pos_inv hc hm
        refine G_run 8 ?_
        obtain rfl := inj1 hm
        exact hJ _ _ (by kernel_rfl) (by kernel_rfl)
      replace hm := neg_inv hc hm
      refine G_run 3 ?_
      obtain ⟨v611, hx, hm⟩ := bind_inv hm
      refine I_idx 1 intD p0.dims v209 v611 (es := (List.map intD) p0.dims) (d := (intD v611)) rfl hx rfl rfl ?_
      refine G_run 4 ?_
      obtain rfl := inj1 hm
      exact hJ _ _ (by kernel_rfl) (by kernel_rfl)
    clear hs
    refine R_ifp (p := v608 = true) (bool_dec _) (fun hc => ?_) (fun hc => ?_)
    · replace hm := pos_inv hc hm
      refine R_seq ?_
      refine R_G ?_
      refine G_run 1 ?_
      refine G_end ?_
      refine R_ret ?_
      obtain rfl := inj1 hm
      exact ⟨rfl, cut_leaf (by kernel_rfl)⟩
    replace hm := neg_inv hc hm
    refine R_skip ?_
    refine R_seq ?_
    refine R_G ?_
    refine G_run 4 ?_
    obtain ⟨v615, hx, hm⟩ := bind_inv hm
    refine I_idx 1 intD p0.dims v209 v615 (es := (List.map intD) p0.dims) (d := (intD v615)) rfl hx rfl rfl ?_
    refine G_run 3 ?_
    refine G_end ?_
    refine R_seq ?_
    refine R_G ?_
    refine G_run 3 ?_
    refine G_end ?_
    refine R_ifp (p := (W (v208 * v615)) > p1) (rfl) (fun hc => ?_) (fun hc => ?_)
    · replace hm := pos_inv hc hm
      refine R_seq ?_
      refine R_G ?_
      refine G_run 1 ?_
      refine G_end ?_
      refine R_ret ?_
      obtain rfl := inj1 hm
      exact ⟨rfl, cut_leaf (by kernel_rfl)⟩
    replace hm := neg_inv hc hm
    refine R_skip ?_
    refine R_G ?_
    refine G_run 3 ?_
    refine G_end ?_
    exact w_ref21_Small_L1 _ _ hm _ (by kernel_rfl)
  replace hm := neg_inv hc hm
  refine R_exit ?_
  obtain rfl := inj1 hm
  exact ⟨rfl, cut_leaf (by kernel_rfl)⟩
def m_ref21_Small (x : (T_ref21_Nest × Int)) : Option Bool :=
  match x with
  | (p0, p1) =>
  ((if (p0.dims.length : Int) > 6 then
    some true
  else
  some ((p0.steps.length : Int) != (p0.dims.length : Int))
  ) >>= fun (v2 : Bool) =>
  (if v2 = true then
    some true
  else
  m_ref17_Right ((⟨p0.read.kind, p0.read.buffer, p0.read.base, p0.read.strides, p0.read.start, p0.read.step, p0.read.mod⟩ : T_ref17_Access), (p0.dims.length : Int)) >>= fun (v4 : Bool) =>
  some (!v4)
  ) >>= fun (v3 : Bool) =>
  (if v3 = true then
    some true
  else
  m_ref17_Bounded ((⟨p0.read.kind, p0.read.buffer, p0.read.base, p0.read.strides, p0.read.start, p0.read.step, p0.read.mod⟩ : T_ref17_Access), 1000000) >>= fun (v6 : Bool) =>
  some (!v6)
  ) >>= fun (v5 : Bool) =>
  (if v5 = true then
    some true
  else
  some (decide (p0.write < (-1000000)))
  ) >>= fun (v7 : Bool) =>
  if v7 = true then
    some true
  else
  some (decide (p0.write > 1000000))
  ) >>= fun (v1 : Bool) =>
  if v1 = true then
    some false
  else
  (
  m_ref21_Small_L1 (p0, p1, 1, 0) >>= fun (out : Unit ⊕ Unit) =>
  match out with
  | .inl _ =>
    some false
  | .inr (_) =>
    some true
  )
def P_ref21_Small : (T_ref21_Nest × Int) → Bool → Prop := fun x r => match x, r with
  | (p0, p1), r0 => ∀ H, PC prog env 22 ([(T_ref21_Nest.toD p0), (intD p1)].map .dat) H (boolPV r0) H
theorem w_ref21_Small : ∀ x r, m_ref21_Small x = some r → P_ref21_Small x r := by
  intro x r0 hm
  unfold m_ref21_Small at hm
  unfold P_ref21_Small
  obtain ⟨p0, p1⟩ := x
  intro H
  refine PC_sx (ds := [(T_ref21_Nest.toD p0), (intD p1)]) (fn := f22) (by kernel_rfl) (by kernel_rfl) rfl ?_ (by kernel_rfl)
  refine R_seq ?_
  refine R_G ?_
  refine G_run 2 ?_
  refine G_end ?_
  refine R_seq ?_
  refine R_seq ?_
  obtain ⟨v1, hs, hm⟩ := bind_inv hm
  refine R_cut (fun d => ⟨sl d 93 [(1, (intPV p1)), (2, (.ptr 0 0)), (44, (boolPV v1))], [(.box [(.dat (.lst ((List.map intD) p0.dims))), (intPV p0.write), (.dat (.lst ((List.map intD) p0.steps))), (intPV p0.read.kind), (intPV p0.read.buffer), (intPV p0.read.base), (.dat (.lst ((List.map intD) p0.read.strides))), (intPV p0.read.start), (intPV p0.read.step), (intPV p0.read.mod)])]⟩) ?_ (fun d => ?_)
  · replace hm := hs
    clear hs
    refine R_GN ?_
    refine G_run 2 ?_
    refine I_len intD p0.dims (es := (List.map intD) p0.dims) rfl ?_
    refine G_run 2 ?_
    obtain ⟨v2, hs, hm⟩ := bind_inv hm
    refine G_cut (j := 13) (fun d => ⟨sl d 93 [(0, (.dat (.agg [(.lst ((List.map intD) p0.dims)), (intD p0.write), (.lst ((List.map intD) p0.steps)), (intD p0.read.kind), (intD p0.read.buffer), (intD p0.read.base), (.lst ((List.map intD) p0.read.strides)), (intD p0.read.start), (intD p0.read.step), (intD p0.read.mod)]))), (1, (intPV p1)), (2, (.ptr 0 0)), (4, (boolPV false)), (7, (.ptr 0 0)), (8, (.dat (.lst ((List.map intD) p0.dims)))), (9, (intPV (p0.dims.length : Int))), (10, (boolPV (decide ((p0.dims.length : Int) > 6)))), (19, (boolPV v2))], [(.box [(.dat (.lst ((List.map intD) p0.dims))), (intPV p0.write), (.dat (.lst ((List.map intD) p0.steps))), (intPV p0.read.kind), (intPV p0.read.buffer), (intPV p0.read.base), (.dat (.lst ((List.map intD) p0.read.strides))), (intPV p0.read.start), (intPV p0.read.step), (intPV p0.read.mod)])]⟩) (fun d => ?_) (fun hJ => ?_)
    · clear hs
      refine G_run 1 ?_
      obtain ⟨v3, hs, hm⟩ := bind_inv hm
      refine G_cut (j := 22) (fun d => ⟨sl d 93 [(0, (.dat (.agg [(.lst ((List.map intD) p0.dims)), (intD p0.write), (.lst ((List.map intD) p0.steps)), (intD p0.read.kind), (intD p0.read.buffer), (intD p0.read.base), (.lst ((List.map intD) p0.read.strides)), (intD p0.read.start), (intD p0.read.step), (intD p0.read.mod)]))), (1, (intPV p1)), (2, (.ptr 0 0)), (4, (boolPV false)), (7, (.ptr 0 0)), (8, (.dat (.lst ((List.map intD) p0.dims)))), (9, (intPV (p0.dims.length : Int))), (10, (boolPV (decide ((p0.dims.length : Int) > 6)))), (19, (boolPV v2)), (28, (boolPV v3))], [(.box [(.dat (.lst ((List.map intD) p0.dims))), (intPV p0.write), (.dat (.lst ((List.map intD) p0.steps))), (intPV p0.read.kind), (intPV p0.read.buffer), (intPV p0.read.base), (.dat (.lst ((List.map intD) p0.read.strides))), (intPV p0.read.start), (intPV p0.read.step), (intPV p0.read.mod)])]⟩) (fun d => ?_) (fun hJ => ?_)
      · clear hs
        refine G_run 1 ?_
        obtain ⟨v5, hs, hm⟩ := bind_inv hm
        refine G_cut (j := 28) (fun d => ⟨sl d 93 [(0, (.dat (.agg [(.lst ((List.map intD) p0.dims)), (intD p0.write), (.lst ((List.map intD) p0.steps)), (intD p0.read.kind), (intD p0.read.buffer), (intD p0.read.base), (.lst ((List.map intD) p0.read.strides)), (intD p0.read.start), (intD p0.read.step), (intD p0.read.mod)]))), (1, (intPV p1)), (2, (.ptr 0 0)), (4, (boolPV false)), (7, (.ptr 0 0)), (8, (.dat (.lst ((List.map intD) p0.dims)))), (9, (intPV (p0.dims.length : Int))), (10, (boolPV (decide ((p0.dims.length : Int) > 6)))), (19, (boolPV v2)), (28, (boolPV v3)), (34, (boolPV v5))], [(.box [(.dat (.lst ((List.map intD) p0.dims))), (intPV p0.write), (.dat (.lst ((List.map intD) p0.steps))), (intPV p0.read.kind), (intPV p0.read.buffer), (intPV p0.read.base), (.dat (.lst ((List.map intD) p0.read.strides))), (intPV p0.read.start), (intPV p0.read.step), (intPV p0.read.mod)])]⟩) (fun d => ?_) (fun hJ => ?_)
        · clear hs
          refine G_run 1 ?_
          obtain ⟨v7, hs, hm⟩ := bind_inv hm
          refine G_cut (j := 33) (fun d => ⟨sl d 93 [(0, (.dat (.agg [(.lst ((List.map intD) p0.dims)), (intD p0.write), (.lst ((List.map intD) p0.steps)), (intD p0.read.kind), (intD p0.read.buffer), (intD p0.read.base), (.lst ((List.map intD) p0.read.strides)), (intD p0.read.start), (intD p0.read.step), (intD p0.read.mod)]))), (1, (intPV p1)), (2, (.ptr 0 0)), (4, (boolPV false)), (7, (.ptr 0 0)), (8, (.dat (.lst ((List.map intD) p0.dims)))), (9, (intPV (p0.dims.length : Int))), (10, (boolPV (decide ((p0.dims.length : Int) > 6)))), (19, (boolPV v2)), (28, (boolPV v3)), (34, (boolPV v5)), (39, (boolPV v7))], [(.box [(.dat (.lst ((List.map intD) p0.dims))), (intPV p0.write), (.dat (.lst ((List.map intD) p0.steps))), (intPV p0.read.kind), (intPV p0.read.buffer), (intPV p0.read.base), (.dat (.lst ((List.map intD) p0.read.strides))), (intPV p0.read.start), (intPV p0.read.step), (intPV p0.read.mod)])]⟩) (fun d => ?_) (fun hJ => ?_)
          · clear hs
            refine G_run 1 ?_
            refine G_split (p := v7 = true) 40 (bool_dec _) (fun hc => ?_) (fun hc => ?_)
            · replace hm := pos_inv hc hm
              refine G_run 4 ?_
              refine G_end ⟨by kernel_rfl, ?_⟩
              obtain rfl := inj1 hm
              exact cut_leaf (by kernel_rfl)
            replace hm := neg_inv hc hm
            refine G_run 4 ?_
            refine G_end ⟨by kernel_rfl, ?_⟩
            obtain rfl := inj1 hm
            exact cut_leaf (by kernel_rfl)
          replace hm := hs
          clear hs
          refine G_split (p := v5 = true) 35 (bool_dec _) (fun hc => ?_) (fun hc => ?_)
          · replace hm := pos_inv hc hm
            refine G_run 4 ?_
            obtain rfl := inj1 hm
            exact hJ _ _ (by kernel_rfl) (by kernel_rfl)
          replace hm := neg_inv hc hm
          refine G_run 4 ?_
          obtain rfl := inj1 hm
          exact hJ _ _ (by kernel_rfl) (by kernel_rfl)
        replace hm := hs
        clear hs
        refine G_split (p := v3 = true) 29 (bool_dec _) (fun hc => ?_) (fun hc => ?_)
        · replace hm := pos_inv hc hm
          refine G_run 5 ?_
          obtain rfl := inj1 hm
          exact hJ _ _ (by kernel_rfl) (by kernel_rfl)
        replace hm := neg_inv hc hm
        refine G_run 2 ?_
        obtain ⟨v6, hx, hm⟩ := bind_inv hm
        have hq := w_ref17_Bounded _ _ hx []
        refine G_callP hq ?_
        refine G_run 2 ?_
        obtain rfl := inj1 hm
        exact hJ _ _ (by kernel_rfl) (by kernel_rfl)
      replace hm := hs
      clear hs
      refine G_split (p := v2 = true) 20 (bool_dec _) (fun hc => ?_) (fun hc => ?_)
      · replace hm := pos_inv hc hm
        refine G_run 8 ?_
        obtain rfl := inj1 hm
        exact hJ _ _ (by kernel_rfl) (by kernel_rfl)
      replace hm := neg_inv hc hm
      refine G_run 4 ?_
      refine I_len intD p0.dims (es := (List.map intD) p0.dims) rfl ?_
      obtain ⟨v4, hx, hm⟩ := bind_inv hm
      have hq := w_ref17_Right _ _ hx []
      refine G_callP hq ?_
      refine G_run 2 ?_
      obtain rfl := inj1 hm
      exact hJ _ _ (by kernel_rfl) (by kernel_rfl)
    replace hm := hs
    clear hs
    refine G_split (p := (p0.dims.length : Int) > 6) 11 (rfl) (fun hc => ?_) (fun hc => ?_)
    · replace hm := pos_inv hc hm
      refine G_run 8 ?_
      obtain rfl := inj1 hm
      exact hJ _ _ (by kernel_rfl) (by kernel_rfl)
    replace hm := neg_inv hc hm
    refine G_run 2 ?_
    refine I_len intD p0.steps (es := (List.map intD) p0.steps) rfl ?_
    refine G_run 2 ?_
    refine I_len intD p0.dims (es := (List.map intD) p0.dims) rfl ?_
    refine G_run 2 ?_
    obtain rfl := inj1 hm
    exact hJ _ _ (by kernel_rfl) (by kernel_rfl)
  clear hs
  refine R_ifp (p := v1 = true) (bool_dec _) (fun hc => ?_) (fun hc => ?_)
  · replace hm := pos_inv hc hm
    refine R_seq ?_
    refine R_G ?_
    refine G_run 1 ?_
    refine G_end ?_
    refine R_ret ?_
    obtain rfl := inj1 hm
    exact ⟨trivial, fin_pure (by kernel_rfl)⟩
  replace hm := neg_inv hc hm
  refine R_skip ?_
  refine R_seq ?_
  refine R_G ?_
  refine G_run 1 ?_
  refine G_end ?_
  refine R_seq ?_
  refine R_seq ?_
  refine R_G ?_
  refine G_run 1 ?_
  refine G_end ?_
  refine R_block ?_
  obtain ⟨out, hs, hm⟩ := bind_inv hm
  refine R_loop ?_
  rcases out with _ | _
  · refine RL_use (w_ref21_Small_L1 _ _ hs) (by kernel_rfl) ?_
    clear hs
    intro e s hp
    obtain ⟨rfl, d, rfl⟩ := hp
    obtain rfl := inj1 hm
    exact ⟨trivial, fin_pure (by kernel_rfl)⟩
  · refine RL_use (w_ref21_Small_L1 _ _ hs) (by kernel_rfl) ?_
    clear hs
    intro e s hp
    obtain ⟨rfl, d, rfl⟩ := hp
    refine R_seq ?_
    refine R_G ?_
    refine G_run 1 ?_
    refine G_end ?_
    refine R_ret ?_
    obtain rfl := inj1 hm
    exact ⟨trivial, fin_pure (by kernel_rfl)⟩
end Go.Proofs.Try
namespace Go.Proofs.Try
open Go Go.Pm
set_option linter.unusedVariables false
set_option maxHeartbeats 2000000
set_option maxRecDepth 2000
def m_law21_Nest (x : T_ref21_Nest) : Option T_onf_Nest :=
  match x with
  | p0 =>
  some (⟨p0.dims, p0.write, p0.steps, (⟨p0.read.kind, p0.read.buffer, p0.read.base, p0.read.strides, p0.read.start, p0.read.step, p0.read.mod⟩ : T_access_Access)⟩ : T_onf_Nest)
def P_law21_Nest : T_ref21_Nest → T_onf_Nest → Prop := fun x r => match x, r with
  | p0, r0 => ∀ H, PC prog env 24 ([(T_ref21_Nest.toD p0)].map .dat) H (.dat (T_onf_Nest.toD r0)) H
theorem w_law21_Nest : ∀ x r, m_law21_Nest x = some r → P_law21_Nest x r := by
  intro p0 r0 hm
  unfold m_law21_Nest at hm
  unfold P_law21_Nest
  intro H
  refine PC_sx (ds := [(T_ref21_Nest.toD p0)]) (fn := f24) (by kernel_rfl) (by kernel_rfl) rfl ?_ (by kernel_rfl)
  refine R_seq ?_
  refine R_G ?_
  refine G_run 2 ?_
  refine G_end ?_
  refine R_seq ?_
  refine R_G ?_
  refine G_run 10 ?_
  refine G_end ?_
  refine R_ret ?_
  obtain rfl := inj1 hm
  exact ⟨trivial, fin_pure (by kernel_rfl)⟩
end Go.Proofs.Try
namespace Go.Proofs.Try
open Go Go.Pm
set_option linter.unusedVariables false
set_option maxHeartbeats 2000000
set_option maxRecDepth 2000
def m_onf_selected_int_b8645_L1 (x : ((List Int) × Nat × (List Int) × Int)) : Option ((Nat × (List Int))) :=
  match x with
  | (q0, v201, v202, v203) =>
  if v203 < (q0.length : Int) then
    idx q0 v203 >>= fun v603 =>
    idx q0 v203 >>= fun v604 =>
    if v604 ≠ 1 then
      app 8 v202 ([v603] : List Int) >>= fun v605 =>
      m_onf_selected_int_b8645_L1 (q0, (gb v201 ([v603] : List Int).isEmpty), v605, (W (v203 + 1)))
    else
    m_onf_selected_int_b8645_L1 (q0, v201, v202, (W (v203 + 1)))
  else
  some (v201, v202)
  partial_fixpoint
def P_onf_selected_int_b8645_L1 : ((List Int) × Nat × (List Int) × Int) → (Nat × (List Int)) → Prop := fun x r => match x with
  | (q0, v201, v202, v203) => ∀ st, prune 1 ((firstRegion (codeAt [1, 1, 0, 1, 0, 0] (bodyOf f55))).bind (env.hint 55).keepAt) st = ⟨kp 26 [(1, (.dat (.lst ((List.map intD) q0)))), (5, (.ms 0 v201 0 v202.length v202.length)), (8, (.dat (.lst ((List.map intD) q0)))), (9, (intPV (q0.length : Int))), (10, (intPV v203))], [(.mt 3 v201 (cellsOf intD v202))]⟩ →
    RL prog env (env.hint 55) true (codeAt [1, 1, 0, 1, 0, 0] (bodyOf f55)) 1 st (fun e s => match r with | (v601, v602) => e = .exit 0 ∧ ∃ d, s = ⟨sl d 26 [(5, (.ms 0 v601 0 v602.length v602.length))], [(.mt 3 v601 (cellsOf intD v602))]⟩)
theorem w_onf_selected_int_b8645_L1 : ∀ x r, m_onf_selected_int_b8645_L1 x = some r → P_onf_selected_int_b8645_L1 x r := by
  refine m_onf_selected_int_b8645_L1.partial_correctness _ (fun m_onf_selected_int_b8645_L1 w_onf_selected_int_b8645_L1 x r hm => ?_)
  unfold P_onf_selected_int_b8645_L1
  obtain ⟨q0, v201, v202, v203⟩ := x
  intro st hst
  refine RL_at hst ?_
  clear hst
  refine R_seq ?_
  refine R_G ?_
  refine G_run 1 ?_
  refine G_end ?_
  refine R_seq ?_
  refine R_ifp (p := v203 < (q0.length : Int)) (rfl) (fun hc => ?_) (fun hc => ?_)
  · replace hm := pos_inv hc hm
    refine R_skip ?_
    refine R_seq ?_
    refine R_block ?_
    refine R_seq ?_
    refine R_G ?_
    refine G_run 1 ?_
    obtain ⟨v603, hx, hm⟩ := bind_inv hm
    refine I_idx 1 intD q0 v203 v603 (es := (List.map intD) q0) (d := (intD v603)) rfl hx rfl rfl ?_
    refine G_run 3 ?_
    refine G_end ?_
    refine R_seq ?_
    refine R_G ?_
    refine G_run 2 ?_
    obtain ⟨v604, hx, hm⟩ := bind_inv hm
    refine I_idx 1 intD q0 v203 v604 (es := (List.map intD) q0) (d := (intD v604)) rfl hx rfl rfl ?_
    refine G_run 2 ?_
    refine G_end ?_
    refine R_ifp (p := v604 ≠ 1) (ne_dec _ _) (fun hc => ?_) (fun hc => ?_)
    · replace hm := pos_inv hc hm
      refine R_G ?_
      refine G_run 3 ?_
      obtain ⟨v605, hx, hm⟩ := bind_inv hm
      refine G_semH (v := .ms 0 (gb v201 ([v603] : List Int).isEmpty) 0 v605.length v605.length) (fun H => H.set 0 (.mt 3 (gb v201 ([v603] : List Int).isEmpty) (cellsOf intD v605))) rfl (by kernel_rfl) (fun _ hk => E_apMs intD (l := v202) (es := ([v603] : List Int)) (bytes := 8) (e := 3) (tt := 0) (g := v201) (m := v202.length) hx (fun _ => rfl) (by kernel_rfl) (by kernel_rfl) (by kernel_rfl) (by kernel_rfl) rfl rfl (by kernel_rfl) rfl (by kernel_rfl) (by kernel_rfl) hk) ?_
      refine G_run 1 ?_
      refine G_end ?_
      refine R_G ?_
      refine G_run 2 ?_
      refine G_end ?_
      exact w_onf_selected_int_b8645_L1 _ _ hm _ (prune_of2 [(.mt 3 (gb v201 ([v603] : List Int).isEmpty) (cellsOf intD v605))] (fun _ => (pg_cons (purge_mt intD _ _ _ _ _) pg_nil)) rfl)
    replace hm := neg_inv hc hm
    refine R_skip ?_
    refine R_G ?_
    refine G_run 2 ?_
    refine G_end ?_
    exact w_onf_selected_int_b8645_L1 _ _ hm _ (prune_of2 [(.mt 3 v201 (cellsOf intD v202))] (fun _ => (pg_cons (purge_mt intD _ _ _ _ _) pg_nil)) rfl)
  replace hm := neg_inv hc hm
  refine R_exit ?_
  obtain rfl := inj1 hm
  exact ⟨rfl, cut_leaf (by kernel_rfl)⟩
def m_onf_selected_int_b8645 (x : (List Int)) : Option ((Nat × (List Int))) :=
  match x with
  | q0 =>
  m_onf_selected_int_b8645_L1 (q0, 0, ([] : List Int), 0) >>= fun ((v601, v602) : (Nat × (List Int))) =>
  some (v601, v602)
def P_onf_selected_int_b8645 : (List Int) → (Nat × (List Int)) → Prop := fun x r => match x with
  | q0 => PC prog env 55 [(.dat (.lst ((List.map intD) q0))), (.dat (.lst ((List.map intD) q0)))] [] (match r with | (v5001, v5002) => (.ms 0 v5001 0 v5002.length v5002.length)) (match r with | (v5001, v5002) => [(.mt 3 v5001 (cellsOf intD v5002))])
theorem w_onf_selected_int_b8645 : ∀ x r, m_onf_selected_int_b8645 x = some r → P_onf_selected_int_b8645 x r := by
  intro q0 r hm
  unfold m_onf_selected_int_b8645 at hm
  unfold P_onf_selected_int_b8645
  refine PC_sxB (fn := f55) (by kernel_rfl) (by kernel_rfl) rfl ?_
  refine R_seq ?_
  refine R_G ?_
  refine G_run 1 ?_
  refine G_end ?_
  refine R_seq ?_
  refine R_G ?_
  refine G_run 1 ?_
  refine G_end ?_
  refine R_seq ?_
  refine R_seq ?_
  refine R_G ?_
  refine G_run 1 ?_
  refine I_len intD q0 (es := (List.map intD) q0) rfl ?_
  refine G_run 1 ?_
  refine G_end ?_
  refine R_block ?_
  obtain ⟨⟨v601, v602⟩, hs, hm⟩ := bind_inv hm
  refine R_loop ?_
  refine RL_use (w_onf_selected_int_b8645_L1 _ _ hs) (prune_of2 [(.mt 3 0 (cellsOf intD ([] : List Int)))] (fun _ => (pg_cons (purge_mt intD _ _ _ _ _) pg_nil)) rfl) ?_
  clear hs
  intro e s hp
  obtain ⟨rfl, d, rfl⟩ := hp
  refine R_seq ?_
  refine R_G ?_
  refine G_run 2 ?_
  refine G_end ?_
  refine R_ret ?_
  obtain rfl := inj1 hm
  exact ⟨trivial, fin_body (by kernel_rfl) (by kernel_rfl)⟩
end Go.Proofs.Try
namespace Go.Proofs.Try
open Go Go.Pm
set_option linter.unusedVariables false
set_option maxHeartbeats 2000000
set_option maxRecDepth 2000
def m_onf_selected_int_b769e_L1 (x : ((List Int) × (List Int) × Nat × (List Int) × Int)) : Option ((Nat × (List Int))) :=
  match x with
  | (q0, q1, v201, v202, v203) =>
  if v203 < (q0.length : Int) then
    idx q0 v203 >>= fun v603 =>
    idx q1 v203 >>= fun v604 =>
    if v604 ≠ 1 then
      app 8 v202 ([v603] : List Int) >>= fun v605 =>
      m_onf_selected_int_b769e_L1 (q0, q1, (gb v201 ([v603] : List Int).isEmpty), v605, (W (v203 + 1)))
    else
    m_onf_selected_int_b769e_L1 (q0, q1, v201, v202, (W (v203 + 1)))
  else
  some (v201, v202)
  partial_fixpoint
def P_onf_selected_int_b769e_L1 : ((List Int) × (List Int) × Nat × (List Int) × Int) → (Nat × (List Int)) → Prop := fun x r => match x with
  | (q0, q1, v201, v202, v203) => ∀ st, prune 1 ((firstRegion (codeAt [1, 1, 0, 1, 0, 0] (bodyOf f55))).bind (env.hint 55).keepAt) st = ⟨kp 26 [(1, (.dat (.lst ((List.map intD) q1)))), (5, (.ms 0 v201 0 v202.length v202.length)), (8, (.dat (.lst ((List.map intD) q0)))), (9, (intPV (q0.length : Int))), (10, (intPV v203))], [(.mt 3 v201 (cellsOf intD v202))]⟩ →
    RL prog env (env.hint 55) true (codeAt [1, 1, 0, 1, 0, 0] (bodyOf f55)) 1 st (fun e s => match r with | (v601, v602) => e = .exit 0 ∧ ∃ d, s = ⟨sl d 26 [(5, (.ms 0 v601 0 v602.length v602.length))], [(.mt 3 v601 (cellsOf intD v602))]⟩)
theorem w_onf_selected_int_b769e_L1 : ∀ x r, m_onf_selected_int_b769e_L1 x = some r → P_onf_selected_int_b769e_L1 x r := by
  refine m_onf_selected_int_b769e_L1.partial_correctness _ (fun m_onf_selected_int_b769e_L1 w_onf_selected_int_b769e_L1 x r hm => ?_)
  unfold P_onf_selected_int_b769e_L1
  obtain ⟨q0, q1, v201, v202, v203⟩ := x
  intro st hst
  refine RL_at hst ?_
  clear hst
  refine R_seq ?_
  refine R_G ?_
  refine G_run 1 ?_
  refine G_end ?_
  refine R_seq ?_
  refine R_ifp (p := v203 < (q0.length : Int)) (rfl) (fun hc => ?_) (fun hc => ?_)
  · replace hm := pos_inv hc hm
    refine R_skip ?_
    refine R_seq ?_
    refine R_block ?_
    refine R_seq ?_
    refine R_G ?_
    refine G_run 1 ?_
    obtain ⟨v603, hx, hm⟩ := bind_inv hm
    refine I_idx 1 intD q0 v203 v603 (es := (List.map intD) q0) (d := (intD v603)) rfl hx rfl rfl ?_
    refine G_run 3 ?_
    refine G_end ?_
    refine R_seq ?_
    refine R_G ?_
    refine G_run 2 ?_
    obtain ⟨v604, hx, hm⟩ := bind_inv hm
    refine I_idx 1 intD q1 v203 v604 (es := (List.map intD) q1) (d := (intD v604)) rfl hx rfl rfl ?_
    refine G_run 2 ?_
    refine G_end ?_
    refine R_ifp (p := v604 ≠ 1) (ne_dec _ _) (fun hc => ?_) (fun hc => ?_)
    · replace hm := pos_inv hc hm
      refine R_G ?_
      refine G_run 3 ?_
      obtain ⟨v605, hx, hm⟩ := bind_inv hm
      refine G_semH (v := .ms 0 (gb v201 ([v603] : List Int).isEmpty) 0 v605.length v605.length) (fun H => H.set 0 (.mt 3 (gb v201 ([v603] : List Int).isEmpty) (cellsOf intD v605))) rfl (by kernel_rfl) (fun _ hk => E_apMs intD (l := v202) (es := ([v603] : List Int)) (bytes := 8) (e := 3) (tt := 0) (g := v201) (m := v202.length) hx (fun _ => rfl) (by kernel_rfl) (by kernel_rfl) (by kernel_rfl) (by kernel_rfl) rfl rfl (by kernel_rfl) rfl (by kernel_rfl) (by kernel_rfl) hk) ?_
      refine G_run 1 ?_
      refine G_end ?_
      refine R_G ?_
      refine G_run 2 ?_
      refine G_end ?_
      exact w_onf_selected_int_b769e_L1 _ _ hm _ (prune_of2 [(.mt 3 (gb v201 ([v603] : List Int).isEmpty) (cellsOf intD v605))] (fun _ => (pg_cons (purge_mt intD _ _ _ _ _) pg_nil)) rfl)
    replace hm := neg_inv hc hm
    refine R_skip ?_
    refine R_G ?_
    refine G_run 2 ?_
    refine G_end ?_
    exact w_onf_selected_int_b769e_L1 _ _ hm _ (prune_of2 [(.mt 3 v201 (cellsOf intD v202))] (fun _ => (pg_cons (purge_mt intD _ _ _ _ _) pg_nil)) rfl)
  replace hm := neg_inv hc hm
  refine R_exit ?_
  obtain rfl := inj1 hm
  exact ⟨rfl, cut_leaf (by kernel_rfl)⟩
def m_onf_selected_int_b769e (x : ((List Int) × (List Int))) : Option ((Nat × (List Int))) :=
  match x with
  | (q0, q1) =>
  m_onf_selected_int_b769e_L1 (q0, q1, 0, ([] : List Int), 0) >>= fun ((v601, v602) : (Nat × (List Int))) =>
  some (v601, v602)
def P_onf_selected_int_b769e : ((List Int) × (List Int)) → (Nat × (List Int)) → Prop := fun x r => match x with
  | (q0, q1) => PC prog env 55 [(.dat (.lst ((List.map intD) q0))), (.dat (.lst ((List.map intD) q1)))] [] (match r with | (v5001, v5002) => (.ms 0 v5001 0 v5002.length v5002.length)) (match r with | (v5001, v5002) => [(.mt 3 v5001 (cellsOf intD v5002))])
theorem w_onf_selected_int_b769e : ∀ x r, m_onf_selected_int_b769e x = some r → P_onf_selected_int_b769e x r := by
  intro x r hm
  unfold m_onf_selected_int_b769e at hm
  unfold P_onf_selected_int_b769e
  obtain ⟨q0, q1⟩ := x
  refine PC_sxB (fn := f55) (by kernel_rfl) (by kernel_rfl) rfl ?_
  refine R_seq ?_
  refine R_G ?_
  refine G_run 1 ?_
  refine G_end ?_
  refine R_seq ?_
  refine R_G ?_
  refine G_run 1 ?_
  refine G_end ?_
  refine R_seq ?_
  refine R_seq ?_
  refine R_G ?_
  refine G_run 1 ?_
  refine I_len intD q0 (es := (List.map intD) q0) rfl ?_
  refine G_run 1 ?_
  refine G_end ?_
  refine R_block ?_
  obtain ⟨⟨v601, v602⟩, hs, hm⟩ := bind_inv hm
  refine R_loop ?_
  refine RL_use (w_onf_selected_int_b769e_L1 _ _ hs) (prune_of2 [(.mt 3 0 (cellsOf intD ([] : List Int)))] (fun _ => (pg_cons (purge_mt intD _ _ _ _ _) pg_nil)) rfl) ?_
  clear hs
  intro e s hp
  obtain ⟨rfl, d, rfl⟩ := hp
  refine R_seq ?_
  refine R_G ?_
  refine G_run 2 ?_
  refine G_end ?_
  refine R_ret ?_
  obtain rfl := inj1 hm
  exact ⟨trivial, fin_body (by kernel_rfl) (by kernel_rfl)⟩
end Go.Proofs.Try
namespace Go.Proofs.Try
open Go Go.Pm
set_option linter.unusedVariables false
set_option maxHeartbeats 2000000
set_option maxRecDepth 2000
def m_onf_Collapse_1_bc850 (x : ((List Int) × Int × (List Int) × Int × (List Int) × Int × Int × Int × (List Int) × Int × Int × Int × (List Int) × (List Int))) : Option (Bool) :=
  match x with
  | (q0, q1, q2, q3, q4, q5, q6, q7, q8, q9, q10, q11, q12, q13) =>
  if (q0.length : Int) = 0 then
    some true
  else
  idx q0 q1 >>= fun v1 =>
  idx q0 q1 >>= fun v2 =>
  idx q12 (W (q1 + 1)) >>= fun v3 =>
  idx q12 (W (q1 + 1)) >>= fun v4 =>
  idx q0 (W (q1 + 1)) >>= fun v5 =>
  idx q0 (W (q1 + 1)) >>= fun v6 =>
  some (v2 == (W (v4 * v6)))
def P_onf_Collapse_1_bc850 : ((List Int) × Int × (List Int) × Int × (List Int) × Int × Int × Int × (List Int) × Int × Int × Int × (List Int) × (List Int)) → Bool → Prop := fun x r => match x with
  | (q0, q1, q2, q3, q4, q5, q6, q7, q8, q9, q10, q11, q12, q13) => PC prog env 56 [(.ms 4 1 0 q0.length q0.length), (intPV q1), (.ptr 2 0)] [(.box [(.dat (.lst ((List.map intD) q2))), (intPV q3), (.dat (.lst ((List.map intD) q4))), (intPV q5), (intPV q6), (intPV q7), (.dat (.lst ((List.map intD) q8))), (intPV q9), (intPV q10), (intPV q11)]), (.box [(.dat (.lst ((List.map intD) []))), (intPV 0), (.dat (.lst ((List.map intD) []))), (intPV 0), (intPV 0), (intPV 0), (.dat (.lst ((List.map intD) []))), (intPV 0), (intPV 0), (intPV 0)]), (.box [(.ms 3 1 0 q12.length q12.length), (intPV q3), (.ms 4 1 0 q0.length q0.length), (intPV q5), (intPV q6), (intPV q7), (.ms 5 1 0 q13.length q13.length), (intPV q9), (intPV q10), (intPV q11)]), (.mt 3 1 (cellsOf intD q12)), (.mt 3 1 (cellsOf intD q0)), (.mt 3 1 (cellsOf intD q13))] (match r with | v5001 => (boolPV v5001)) (match r with | v5001 => [(.box [(.dat (.lst ((List.map intD) q2))), (intPV q3), (.dat (.lst ((List.map intD) q4))), (intPV q5), (intPV q6), (intPV q7), (.dat (.lst ((List.map intD) q8))), (intPV q9), (intPV q10), (intPV q11)]), (.box [(.dat (.lst ((List.map intD) []))), (intPV 0), (.dat (.lst ((List.map intD) []))), (intPV 0), (intPV 0), (intPV 0), (.dat (.lst ((List.map intD) []))), (intPV 0), (intPV 0), (intPV 0)]), (.box [(.ms 3 1 0 q12.length q12.length), (intPV q3), (.ms 4 1 0 q0.length q0.length), (intPV q5), (intPV q6), (intPV q7), (.ms 5 1 0 q13.length q13.length), (intPV q9), (intPV q10), (intPV q11)]), (.mt 3 1 (cellsOf intD q12)), (.mt 3 1 (cellsOf intD q0)), (.mt 3 1 (cellsOf intD q13))])
theorem w_onf_Collapse_1_bc850 : ∀ x r, m_onf_Collapse_1_bc850 x = some r → P_onf_Collapse_1_bc850 x r := by
  intro x r hm
  unfold m_onf_Collapse_1_bc850 at hm
  unfold P_onf_Collapse_1_bc850
  obtain ⟨q0, q1, q2, q3, q4, q5, q6, q7, q8, q9, q10, q11, q12, q13⟩ := x
  refine PC_sxB (fn := f56) (by kernel_rfl) (by kernel_rfl) rfl ?_
  refine R_seq ?_
  refine R_G ?_
  refine G_run 1 ?_
  refine G_end ?_
  refine R_seq ?_
  refine R_GD ?_
  refine G_run 1 ?_
  refine G_run 1 ?_
  refine G_run 2 ?_
  refine G_split (p := (q0.length : Int) = 0) 9 (eq_dec _ _) (fun hc => ?_) (fun hc => ?_)
  · replace hm := pos_inv hc hm
    refine G_run 19 ?_
    refine G_end ⟨by kernel_rfl, ?_⟩
    refine R_ret ?_
    obtain rfl := inj1 hm
    exact ⟨trivial, fin_body (by kernel_rfl) (by kernel_rfl)⟩
  replace hm := neg_inv hc hm
  refine G_run 2 ?_
  obtain ⟨v1, hx, hm⟩ := bind_inv hm
  refine G_semN rfl (by kernel_rfl) (fun _ => E_indexMs (e := 3) (n := q1) (j := (q1).toNat) (tt := 4) (g := 1) (lo := 0) (len := q0.length) (cap := q0.length) (k := .i64) (by kernel_rfl) (by kernel_rfl) rfl (by kernel_rfl) (by kernel_rfl) (idx_nat hx) (Nat.lt_of_lt_of_eq (idx_lt hx) rfl)) ?_
  obtain ⟨v2, hx, hm⟩ := bind_inv hm
  refine G_semN rfl (by kernel_rfl) (fun _ => E_loadMs (tt := 4) (g := 1) (j := (0 + (q1).toNat)) (e := 3) (cs := cellsOf intD q0) (v := .dat (intD v2)) (by kernel_rfl) (by kernel_rfl) rfl (by kernel_rfl) (mtOf_at (by kernel_rfl)) (cells_idx intD hx)) ?_
  refine G_run 4 ?_
  obtain ⟨v3, hx, hm⟩ := bind_inv hm
  refine G_semN rfl (by kernel_rfl) (fun _ => E_indexMs (e := 3) (n := (W (q1 + 1))) (j := ((W (q1 + 1))).toNat) (tt := 3) (g := 1) (lo := 0) (len := q12.length) (cap := q12.length) (k := .i64) (by kernel_rfl) (by kernel_rfl) rfl (by kernel_rfl) (by kernel_rfl) (idx_nat hx) (Nat.lt_of_lt_of_eq (idx_lt hx) rfl)) ?_
  obtain ⟨v4, hx, hm⟩ := bind_inv hm
  refine G_semN rfl (by kernel_rfl) (fun _ => E_loadMs (tt := 3) (g := 1) (j := (0 + ((W (q1 + 1))).toNat)) (e := 3) (cs := cellsOf intD q12) (v := .dat (intD v4)) (by kernel_rfl) (by kernel_rfl) rfl (by kernel_rfl) (mtOf_at (by kernel_rfl)) (cells_idx intD hx)) ?_
  refine G_run 3 ?_
  obtain ⟨v5, hx, hm⟩ := bind_inv hm
  refine G_semN rfl (by kernel_rfl) (fun _ => E_indexMs (e := 3) (n := (W (q1 + 1))) (j := ((W (q1 + 1))).toNat) (tt := 4) (g := 1) (lo := 0) (len := q0.length) (cap := q0.length) (k := .i64) (by kernel_rfl) (by kernel_rfl) rfl (by kernel_rfl) (by kernel_rfl) (idx_nat hx) (Nat.lt_of_lt_of_eq (idx_lt hx) rfl)) ?_
  obtain ⟨v6, hx, hm⟩ := bind_inv hm
  refine G_semN rfl (by kernel_rfl) (fun _ => E_loadMs (tt := 4) (g := 1) (j := (0 + ((W (q1 + 1))).toNat)) (e := 3) (cs := cellsOf intD q0) (v := .dat (intD v6)) (by kernel_rfl) (by kernel_rfl) rfl (by kernel_rfl) (mtOf_at (by kernel_rfl)) (cells_idx intD hx)) ?_
  refine G_run 4 ?_
  refine G_end ⟨by kernel_rfl, ?_⟩
  refine R_ret ?_
  obtain rfl := inj1 hm
  exact ⟨trivial, fin_body (by kernel_rfl) (by kernel_rfl)⟩
end Go.Proofs.Try
namespace Go.Proofs.Try
open Go Go.Pm
set_option linter.unusedVariables false
set_option maxHeartbeats 2000000
set_option maxRecDepth 2000
def m_onf_Collapse_1_b565e (x : ((List Int) × Int × (List Int) × Int × (List Int) × Int × Int × Int × (List Int) × Int × Int × Int × (List Int) × (List Int))) : Option (Bool) :=
  match x with
  | (q0, q1, q2, q3, q4, q5, q6, q7, q8, q9, q10, q11, q12, q13) =>
  if (q0.length : Int) = 0 then
    some true
  else
  idx q0 q1 >>= fun v1 =>
  idx q0 q1 >>= fun v2 =>
  idx q12 (W (q1 + 1)) >>= fun v3 =>
  idx q12 (W (q1 + 1)) >>= fun v4 =>
  idx q0 (W (q1 + 1)) >>= fun v5 =>
  idx q0 (W (q1 + 1)) >>= fun v6 =>
  some (v2 == (W (v4 * v6)))
def P_onf_Collapse_1_b565e : ((List Int) × Int × (List Int) × Int × (List Int) × Int × Int × Int × (List Int) × Int × Int × Int × (List Int) × (List Int)) → Bool → Prop := fun x r => match x with
  | (q0, q1, q2, q3, q4, q5, q6, q7, q8, q9, q10, q11, q12, q13) => PC prog env 56 [(.ms 5 1 0 q0.length q0.length), (intPV q1), (.ptr 2 0)] [(.box [(.dat (.lst ((List.map intD) q2))), (intPV q3), (.dat (.lst ((List.map intD) q4))), (intPV q5), (intPV q6), (intPV q7), (.dat (.lst ((List.map intD) q8))), (intPV q9), (intPV q10), (intPV q11)]), (.box [(.dat (.lst ((List.map intD) []))), (intPV 0), (.dat (.lst ((List.map intD) []))), (intPV 0), (intPV 0), (intPV 0), (.dat (.lst ((List.map intD) []))), (intPV 0), (intPV 0), (intPV 0)]), (.box [(.ms 3 1 0 q12.length q12.length), (intPV q3), (.ms 4 1 0 q13.length q13.length), (intPV q5), (intPV q6), (intPV q7), (.ms 5 1 0 q0.length q0.length), (intPV q9), (intPV q10), (intPV q11)]), (.mt 3 1 (cellsOf intD q12)), (.mt 3 1 (cellsOf intD q13)), (.mt 3 1 (cellsOf intD q0))] (match r with | v5001 => (boolPV v5001)) (match r with | v5001 => [(.box [(.dat (.lst ((List.map intD) q2))), (intPV q3), (.dat (.lst ((List.map intD) q4))), (intPV q5), (intPV q6), (intPV q7), (.dat (.lst ((List.map intD) q8))), (intPV q9), (intPV q10), (intPV q11)]), (.box [(.dat (.lst ((List.map intD) []))), (intPV 0), (.dat (.lst ((List.map intD) []))), (intPV 0), (intPV 0), (intPV 0), (.dat (.lst ((List.map intD) []))), (intPV 0), (intPV 0), (intPV 0)]), (.box [(.ms 3 1 0 q12.length q12.length), (intPV q3), (.ms 4 1 0 q13.length q13.length), (intPV q5), (intPV q6), (intPV q7), (.ms 5 1 0 q0.length q0.length), (intPV q9), (intPV q10), (intPV q11)]), (.mt 3 1 (cellsOf intD q12)), (.mt 3 1 (cellsOf intD q13)), (.mt 3 1 (cellsOf intD q0))])
theorem w_onf_Collapse_1_b565e : ∀ x r, m_onf_Collapse_1_b565e x = some r → P_onf_Collapse_1_b565e x r := by
  intro x r hm
  unfold m_onf_Collapse_1_b565e at hm
  unfold P_onf_Collapse_1_b565e
  obtain ⟨q0, q1, q2, q3, q4, q5, q6, q7, q8, q9, q10, q11, q12, q13⟩ := x
  refine PC_sxB (fn := f56) (by kernel_rfl) (by kernel_rfl) rfl ?_
  refine R_seq ?_
  refine R_G ?_
  refine G_run 1 ?_
  refine G_end ?_
  refine R_seq ?_
  refine R_GD ?_
  refine G_run 1 ?_
  refine G_run 1 ?_
  refine G_run 2 ?_
  refine G_split (p := (q0.length : Int) = 0) 9 (eq_dec _ _) (fun hc => ?_) (fun hc => ?_)
  · replace hm := pos_inv hc hm
    refine G_run 19 ?_
    refine G_end ⟨by kernel_rfl, ?_⟩
    refine R_ret ?_
    obtain rfl := inj1 hm
    exact ⟨trivial, fin_body (by kernel_rfl) (by kernel_rfl)⟩
  replace hm := neg_inv hc hm
  refine G_run 2 ?_
  obtain ⟨v1, hx, hm⟩ := bind_inv hm
  refine G_semN rfl (by kernel_rfl) (fun _ => E_indexMs (e := 3) (n := q1) (j := (q1).toNat) (tt := 5) (g := 1) (lo := 0) (len := q0.length) (cap := q0.length) (k := .i64) (by kernel_rfl) (by kernel_rfl) rfl (by kernel_rfl) (by kernel_rfl) (idx_nat hx) (Nat.lt_of_lt_of_eq (idx_lt hx) rfl)) ?_
  obtain ⟨v2, hx, hm⟩ := bind_inv hm
  refine G_semN rfl (by kernel_rfl) (fun _ => E_loadMs (tt := 5) (g := 1) (j := (0 + (q1).toNat)) (e := 3) (cs := cellsOf intD q0) (v := .dat (intD v2)) (by kernel_rfl) (by kernel_rfl) rfl (by kernel_rfl) (mtOf_at (by kernel_rfl)) (cells_idx intD hx)) ?_
  refine G_run 4 ?_
  obtain ⟨v3, hx, hm⟩ := bind_inv hm
  refine G_semN rfl (by kernel_rfl) (fun _ => E_indexMs (e := 3) (n := (W (q1 + 1))) (j := ((W (q1 + 1))).toNat) (tt := 3) (g := 1) (lo := 0) (len := q12.length) (cap := q12.length) (k := .i64) (by kernel_rfl) (by kernel_rfl) rfl (by kernel_rfl) (by kernel_rfl) (idx_nat hx) (Nat.lt_of_lt_of_eq (idx_lt hx) rfl)) ?_
  obtain ⟨v4, hx, hm⟩ := bind_inv hm
  refine G_semN rfl (by kernel_rfl) (fun _ => E_loadMs (tt := 3) (g := 1) (j := (0 + ((W (q1 + 1))).toNat)) (e := 3) (cs := cellsOf intD q12) (v := .dat (intD v4)) (by kernel_rfl) (by kernel_rfl) rfl (by kernel_rfl) (mtOf_at (by kernel_rfl)) (cells_idx intD hx)) ?_
  refine G_run 3 ?_
  obtain ⟨v5, hx, hm⟩ := bind_inv hm
  refine G_semN rfl (by kernel_rfl) (fun _ => E_indexMs (e := 3) (n := (W (q1 + 1))) (j := ((W (q1 + 1))).toNat) (tt := 5) (g := 1) (lo := 0) (len := q0.length) (cap := q0.length) (k := .i64) (by kernel_rfl) (by kernel_rfl) rfl (by kernel_rfl) (by kernel_rfl) (idx_nat hx) (Nat.lt_of_lt_of_eq (idx_lt hx) rfl)) ?_
  obtain ⟨v6, hx, hm⟩ := bind_inv hm
  refine G_semN rfl (by kernel_rfl) (fun _ => E_loadMs (tt := 5) (g := 1) (j := (0 + ((W (q1 + 1))).toNat)) (e := 3) (cs := cellsOf intD q0) (v := .dat (intD v6)) (by kernel_rfl) (by kernel_rfl) rfl (by kernel_rfl) (mtOf_at (by kernel_rfl)) (cells_idx intD hx)) ?_
  refine G_run 4 ?_
  refine G_end ⟨by kernel_rfl, ?_⟩
  refine R_ret ?_
  obtain rfl := inj1 hm
  exact ⟨trivial, fin_body (by kernel_rfl) (by kernel_rfl)⟩
end Go.Proofs.Try
namespace Go.Proofs.Try
open Go Go.Pm
set_option linter.unusedVariables false
set_option maxHeartbeats 2000000
set_option maxRecDepth 2000
def m_onf_joined_bba74 (x : ((List Int) × Int × (List Int) × Int × Int × Int × (List Int) × Int × Int × Int × Int × (List Int) × (List Int) × (List Int))) : Option (((List Int) × (List Int) × (List Int))) :=
  match x with
  | (q0, q1, q2, q3, q4, q5, q6, q7, q8, q9, q10, q11, q12, q13) =>
  idx q0 (W (q10 + 1)) >>= fun v1 =>
  idx q0 (W (q10 + 1)) >>= fun v2 =>
  idx q0 q10 >>= fun v3 =>
  idx q0 q10 >>= fun v4 =>
  idx q0 (W (q10 + 1)) >>= fun v5 =>
  setM q0 (W (q10 + 1)) (W (v2 * v4)) >>= fun v6 =>
  guardM (v6.length = q0.length) >>= fun (_ : Unit) =>
  delM v6 q0.length q10 (W (q10 + 1)) >>= fun v8 =>
  delM q2 q2.length q10 (W (q10 + 1)) >>= fun v9 =>
  if (q6.length : Int) > 0 then
    delM q6 q6.length q10 (W (q10 + 1)) >>= fun v10 =>
    some (v8, v9, v10)
  else
  some (v8, v9, q6)
def P_onf_joined_bba74 : ((List Int) × Int × (List Int) × Int × Int × Int × (List Int) × Int × Int × Int × Int × (List Int) × (List Int) × (List Int)) → ((List Int) × (List Int) × (List Int)) → Prop := fun x r => match x with
  | (q0, q1, q2, q3, q4, q5, q6, q7, q8, q9, q10, q11, q12, q13) => PC prog env 57 [(.agg [(.ms 3 1 0 q0.length q0.length), (intPV q1), (.ms 4 1 0 q2.length q2.length), (intPV q3), (intPV q4), (intPV q5), (.ms 5 1 0 q6.length q6.length), (intPV q7), (intPV q8), (intPV q9)]), (intPV q10)] [(.box [(.dat (.lst ((List.map intD) q11))), (intPV q1), (.dat (.lst ((List.map intD) q12))), (intPV q3), (intPV q4), (intPV q5), (.dat (.lst ((List.map intD) q13))), (intPV q7), (intPV q8), (intPV q9)]), (.box [(.dat (.lst ((List.map intD) []))), (intPV 0), (.dat (.lst ((List.map intD) []))), (intPV 0), (intPV 0), (intPV 0), (.dat (.lst ((List.map intD) []))), (intPV 0), (intPV 0), (intPV 0)]), (.box [(.ms 3 1 0 q0.length q0.length), (intPV q1), (.ms 4 1 0 q2.length q2.length), (intPV q3), (intPV q4), (intPV q5), (.ms 5 1 0 q6.length q6.length), (intPV q7), (intPV q8), (intPV q9)]), (.mt 3 1 (cellsOf intD q0)), (.mt 3 1 (cellsOf intD q2)), (.mt 3 1 (cellsOf intD q6))] (match r with | (v5001, v5002, v5003) => (.agg [(.ms 3 1 0 v5001.length q0.length), (intPV q1), (.ms 4 1 0 v5002.length q2.length), (intPV q3), (intPV q4), (intPV q5), (.ms 5 1 0 v5003.length q6.length), (intPV q7), (intPV q8), (intPV q9)])) (match r with | (v5001, v5002, v5003) => [(.box [(.dat (.lst ((List.map intD) q11))), (intPV q1), (.dat (.lst ((List.map intD) q12))), (intPV q3), (intPV q4), (intPV q5), (.dat (.lst ((List.map intD) q13))), (intPV q7), (intPV q8), (intPV q9)]), (.box [(.dat (.lst ((List.map intD) []))), (intPV 0), (.dat (.lst ((List.map intD) []))), (intPV 0), (intPV 0), (intPV 0), (.dat (.lst ((List.map intD) []))), (intPV 0), (intPV 0), (intPV 0)]), (.box [(.ms 3 1 0 q0.length q0.length), (intPV q1), (.ms 4 1 0 q2.length q2.length), (intPV q3), (intPV q4), (intPV q5), (.ms 5 1 0 q6.length q6.length), (intPV q7), (intPV q8), (intPV q9)]), (.mt 3 1 (cellsOf intD v5001)), (.mt 3 1 (cellsOf intD v5002)), (.mt 3 1 (cellsOf intD v5003)), (.box [(.ms 3 1 0 v5001.length q0.length), (intPV q1), (.ms 4 1 0 v5002.length q2.length), (intPV q3), (intPV q4), (intPV q5), (.ms 5 1 0 v5003.length q6.length), (intPV q7), (intPV q8), (intPV q9)]), (.box [(.ms 3 1 0 v5001.length q0.length), (intPV q1), (.ms 4 1 0 v5002.length q2.length), (intPV q3), (intPV q4), (intPV q5), (.ms 5 1 0 v5003.length q6.length), (intPV q7), (intPV q8), (intPV q9)])])
theorem w_onf_joined_bba74 : ∀ x r, m_onf_joined_bba74 x = some r → P_onf_joined_bba74 x r := by
  intro x r hm
  unfold m_onf_joined_bba74 at hm
  unfold P_onf_joined_bba74
  obtain ⟨q0, q1, q2, q3, q4, q5, q6, q7, q8, q9, q10, q11, q12, q13⟩ := x
  refine PC_sxB (fn := f57) (by kernel_rfl) (by kernel_rfl) rfl ?_
  refine R_seq ?_
  refine R_G ?_
  refine G_run 2 ?_
  refine G_end ?_
  refine R_seq ?_
  refine R_GD ?_
  refine G_run 4 ?_
  obtain ⟨v1, hx, hm⟩ := bind_inv hm
  refine G_semN rfl (by kernel_rfl) (fun _ => E_indexMs (e := 3) (n := (W (q10 + 1))) (j := ((W (q10 + 1))).toNat) (tt := 3) (g := 1) (lo := 0) (len := q0.length) (cap := q0.length) (k := .i64) (by kernel_rfl) (by kernel_rfl) rfl (by kernel_rfl) (by kernel_rfl) (idx_nat hx) (Nat.lt_of_lt_of_eq (idx_lt hx) rfl)) ?_
  obtain ⟨v2, hx, hm⟩ := bind_inv hm
  refine G_semN rfl (by kernel_rfl) (fun _ => E_loadMs (tt := 3) (g := 1) (j := (0 + ((W (q10 + 1))).toNat)) (e := 3) (cs := cellsOf intD q0) (v := .dat (intD v2)) (by kernel_rfl) (by kernel_rfl) rfl (by kernel_rfl) (mtOf_at (by kernel_rfl)) (cells_idx intD hx)) ?_
  refine G_run 3 ?_
  obtain ⟨v3, hx, hm⟩ := bind_inv hm
  refine G_semN rfl (by kernel_rfl) (fun _ => E_indexMs (e := 3) (n := q10) (j := (q10).toNat) (tt := 3) (g := 1) (lo := 0) (len := q0.length) (cap := q0.length) (k := .i64) (by kernel_rfl) (by kernel_rfl) rfl (by kernel_rfl) (by kernel_rfl) (idx_nat hx) (Nat.lt_of_lt_of_eq (idx_lt hx) rfl)) ?_
  obtain ⟨v4, hx, hm⟩ := bind_inv hm
  refine G_semN rfl (by kernel_rfl) (fun _ => E_loadMs (tt := 3) (g := 1) (j := (0 + (q10).toNat)) (e := 3) (cs := cellsOf intD q0) (v := .dat (intD v4)) (by kernel_rfl) (by kernel_rfl) rfl (by kernel_rfl) (mtOf_at (by kernel_rfl)) (cells_idx intD hx)) ?_
  refine G_run 1 ?_
  obtain ⟨v5, hx, hm⟩ := bind_inv hm
  refine G_semN rfl (by kernel_rfl) (fun _ => E_indexMs (e := 3) (n := (W (q10 + 1))) (j := ((W (q10 + 1))).toNat) (tt := 3) (g := 1) (lo := 0) (len := q0.length) (cap := q0.length) (k := .i64) (by kernel_rfl) (by kernel_rfl) rfl (by kernel_rfl) (by kernel_rfl) (idx_nat hx) (Nat.lt_of_lt_of_eq (idx_lt hx) rfl)) ?_
  obtain ⟨v6, hx, hm⟩ := bind_inv hm
  refine G_semH (fun H => H.set 3 (.mt 3 1 (cellsOf intD v6))) rfl (by kernel_rfl) (fun _ => E_stMs intD (l := q0) (n := (W (q10 + 1))) (y := (W (v2 * v4))) hx (fun _ => rfl) (by kernel_rfl) rfl (by kernel_rfl) (by kernel_rfl) (by kernel_rfl) (by kernel_rfl)) ?_
  refine G_end ⟨by kernel_rfl, ?_⟩
  refine R_seq ?_
  refine R_G ?_
  refine G_run 5 ?_
  obtain ⟨_, hl7, hm⟩ := bind_inv hm
  replace hl7 := guard_inv hl7
  obtain ⟨v8, hx, hm⟩ := bind_inv hm
  have hq := w_del (t := 3) (g := 1) [(.box [(.dat (.lst ((List.map intD) q11))), (intPV q1), (.dat (.lst ((List.map intD) q12))), (intPV q3), (intPV q4), (intPV q5), (.dat (.lst ((List.map intD) q13))), (intPV q7), (intPV q8), (intPV q9)]), (.box [(.dat (.lst ((List.map intD) []))), (intPV 0), (.dat (.lst ((List.map intD) []))), (intPV 0), (intPV 0), (intPV 0), (.dat (.lst ((List.map intD) []))), (intPV 0), (intPV 0), (intPV 0)]), (.box [(.ms 3 1 0 q0.length q0.length), (intPV q1), (.ms 4 1 0 q2.length q2.length), (intPV q3), (intPV q4), (intPV q5), (.ms 5 1 0 q6.length q6.length), (intPV q7), (intPV q8), (intPV q9)]), (.mt 3 1 (cellsOf intD v6)), (.mt 3 1 (cellsOf intD q2)), (.mt 3 1 (cellsOf intD q6)), (.box [(.ms 3 1 0 q0.length q0.length), (intPV q1), (.ms 4 1 0 q2.length q2.length), (intPV q3), (intPV q4), (intPV q5), (.ms 5 1 0 q6.length q6.length), (intPV q7), (intPV q8), (intPV q9)]), (.box [(.dat (.lst ((List.map intD) []))), (intPV 0), (.dat (.lst ((List.map intD) []))), (intPV 0), (intPV 0), (intPV 0), (.dat (.lst ((List.map intD) []))), (intPV 0), (intPV 0), (intPV 0)])] hl7 hx (mtOf_at (by kernel_rfl))
  refine G_callB hq ?_
  refine G_run 1 ?_
  refine G_semH (fun H => (H.set 3 (.mt 3 1 (cellsOf intD v8))).set 6 (.box [(.ms 3 1 0 v8.length q0.length), (intPV q1), (.ms 4 1 0 q2.length q2.length), (intPV q3), (intPV q4), (intPV q5), (.ms 5 1 0 q6.length q6.length), (intPV q7), (intPV q8), (intPV q9)])) rfl (by kernel_rfl) (fun _ => E_stTrim (t := 22) (x := .tmp 24) (j := (0, 3)) (ow' := []) (f := intD) (l := v8) (q := [0]) (tt := 3) (gg := 1) (cap := q0.length) (i := 6) (off := 0) (n := 23) (e := 3) (cs := [(.ms 3 1 0 q0.length q0.length), (intPV q1), (.ms 4 1 0 q2.length q2.length), (intPV q3), (intPV q4), (intPV q5), (.ms 5 1 0 q6.length q6.length), (intPV q7), (intPV q8), (intPV q9)]) (ds := [(.ms 3 1 0 v8.length q0.length), (intPV q1), (.ms 4 1 0 q2.length q2.length), (intPV q3), (intPV q4), (intPV q5), (.ms 5 1 0 q6.length q6.length), (intPV q7), (intPV q8), (intPV q9)]) (by kernel_rfl) (by kernel_rfl) (by kernel_rfl) (by kernel_rfl) (by kernel_rfl) (by kernel_rfl) (by kernel_rfl) (by kernel_rfl)) ?_
  refine G_end ?_
  refine R_seq ?_
  refine R_G ?_
  refine G_run 5 ?_
  obtain ⟨v9, hx, hm⟩ := bind_inv hm
  have hq := w_del (t := 4) (g := 1) [(.box [(.dat (.lst ((List.map intD) q11))), (intPV q1), (.dat (.lst ((List.map intD) q12))), (intPV q3), (intPV q4), (intPV q5), (.dat (.lst ((List.map intD) q13))), (intPV q7), (intPV q8), (intPV q9)]), (.box [(.dat (.lst ((List.map intD) []))), (intPV 0), (.dat (.lst ((List.map intD) []))), (intPV 0), (intPV 0), (intPV 0), (.dat (.lst ((List.map intD) []))), (intPV 0), (intPV 0), (intPV 0)]), (.box [(.ms 3 1 0 q0.length q0.length), (intPV q1), (.ms 4 1 0 q2.length q2.length), (intPV q3), (intPV q4), (intPV q5), (.ms 5 1 0 q6.length q6.length), (intPV q7), (intPV q8), (intPV q9)]), (.mt 3 1 (cellsOf intD v8)), (.mt 3 1 (cellsOf intD q2)), (.mt 3 1 (cellsOf intD q6)), (.box [(.ms 3 1 0 v8.length q0.length), (intPV q1), (.ms 4 1 0 q2.length q2.length), (intPV q3), (intPV q4), (intPV q5), (.ms 5 1 0 q6.length q6.length), (intPV q7), (intPV q8), (intPV q9)]), (.box [(.dat (.lst ((List.map intD) []))), (intPV 0), (.dat (.lst ((List.map intD) []))), (intPV 0), (intPV 0), (intPV 0), (.dat (.lst ((List.map intD) []))), (intPV 0), (intPV 0), (intPV 0)])] rfl hx (mtOf_at (by kernel_rfl))
  refine G_callB hq ?_
  refine G_run 1 ?_
  refine G_semH (fun H => (H.set 4 (.mt 3 1 (cellsOf intD v9))).set 6 (.box [(.ms 3 1 0 v8.length q0.length), (intPV q1), (.ms 4 1 0 v9.length q2.length), (intPV q3), (intPV q4), (intPV q5), (.ms 5 1 0 q6.length q6.length), (intPV q7), (intPV q8), (intPV q9)])) rfl (by kernel_rfl) (fun _ => E_stTrim (t := 22) (x := .tmp 31) (j := (0, 3)) (ow' := []) (f := intD) (l := v9) (q := [0]) (tt := 4) (gg := 1) (cap := q2.length) (i := 6) (off := 2) (n := 30) (e := 3) (cs := [(.ms 3 1 0 v8.length q0.length), (intPV q1), (.ms 4 1 0 q2.length q2.length), (intPV q3), (intPV q4), (intPV q5), (.ms 5 1 0 q6.length q6.length), (intPV q7), (intPV q8), (intPV q9)]) (ds := [(.ms 3 1 0 v8.length q0.length), (intPV q1), (.ms 4 1 0 v9.length q2.length), (intPV q3), (intPV q4), (intPV q5), (.ms 5 1 0 q6.length q6.length), (intPV q7), (intPV q8), (intPV q9)]) (by kernel_rfl) (by kernel_rfl) (by kernel_rfl) (by kernel_rfl) (by kernel_rfl) (by kernel_rfl) (by kernel_rfl) (by kernel_rfl)) ?_
  refine G_end ?_
  refine R_seq ?_
  refine R_seq ?_
  refine R_G ?_
  refine G_run 3 ?_
  refine G_run 1 ?_
  refine G_run 1 ?_
  refine G_end ?_
  refine R_ifp (p := (q6.length : Int) > 0) (rfl) (fun hc => ?_) (fun hc => ?_)
  · replace hm := pos_inv hc hm
    refine R_G ?_
    refine G_run 6 ?_
    obtain ⟨v10, hx, hm⟩ := bind_inv hm
    have hq := w_del (t := 5) (g := 1) [(.box [(.dat (.lst ((List.map intD) q11))), (intPV q1), (.dat (.lst ((List.map intD) q12))), (intPV q3), (intPV q4), (intPV q5), (.dat (.lst ((List.map intD) q13))), (intPV q7), (intPV q8), (intPV q9)]), (.box [(.dat (.lst ((List.map intD) []))), (intPV 0), (.dat (.lst ((List.map intD) []))), (intPV 0), (intPV 0), (intPV 0), (.dat (.lst ((List.map intD) []))), (intPV 0), (intPV 0), (intPV 0)]), (.box [(.ms 3 1 0 q0.length q0.length), (intPV q1), (.ms 4 1 0 q2.length q2.length), (intPV q3), (intPV q4), (intPV q5), (.ms 5 1 0 q6.length q6.length), (intPV q7), (intPV q8), (intPV q9)]), (.mt 3 1 (cellsOf intD v8)), (.mt 3 1 (cellsOf intD v9)), (.mt 3 1 (cellsOf intD q6)), (.box [(.ms 3 1 0 v8.length q0.length), (intPV q1), (.ms 4 1 0 v9.length q2.length), (intPV q3), (intPV q4), (intPV q5), (.ms 5 1 0 q6.length q6.length), (intPV q7), (intPV q8), (intPV q9)]), (.box [(.dat (.lst ((List.map intD) []))), (intPV 0), (.dat (.lst ((List.map intD) []))), (intPV 0), (intPV 0), (intPV 0), (.dat (.lst ((List.map intD) []))), (intPV 0), (intPV 0), (intPV 0)])] rfl hx (mtOf_at (by kernel_rfl))
    refine G_callB hq ?_
    refine G_run 2 ?_
    refine G_semH (fun H => (H.set 5 (.mt 3 1 (cellsOf intD v10))).set 6 (.box [(.ms 3 1 0 v8.length q0.length), (intPV q1), (.ms 4 1 0 v9.length q2.length), (intPV q3), (intPV q4), (intPV q5), (.ms 5 1 0 v10.length q6.length), (intPV q7), (intPV q8), (intPV q9)])) rfl (by kernel_rfl) (fun _ => E_stTrim (t := 22) (x := .tmp 45) (j := (0, 3)) (ow' := []) (f := intD) (l := v10) (q := [0]) (tt := 5) (gg := 1) (cap := q6.length) (i := 6) (off := 6) (n := 43) (e := 3) (cs := [(.ms 3 1 0 v8.length q0.length), (intPV q1), (.ms 4 1 0 v9.length q2.length), (intPV q3), (intPV q4), (intPV q5), (.ms 5 1 0 q6.length q6.length), (intPV q7), (intPV q8), (intPV q9)]) (ds := [(.ms 3 1 0 v8.length q0.length), (intPV q1), (.ms 4 1 0 v9.length q2.length), (intPV q3), (intPV q4), (intPV q5), (.ms 5 1 0 v10.length q6.length), (intPV q7), (intPV q8), (intPV q9)]) (by kernel_rfl) (by kernel_rfl) (by kernel_rfl) (by kernel_rfl) (by kernel_rfl) (by kernel_rfl) (by kernel_rfl) (by kernel_rfl)) ?_
    refine G_end ?_
    refine R_seq ?_
    refine R_G ?_
    refine G_run 2 ?_
    refine G_end ?_
    refine R_ret ?_
    obtain rfl := inj1 hm
    exact ⟨trivial, fin_body (by kernel_rfl) (by kernel_rfl)⟩
  replace hm := neg_inv hc hm
  refine R_skip ?_
  refine R_seq ?_
  refine R_G ?_
  refine G_run 2 ?_
  refine G_end ?_
  refine R_ret ?_
  obtain rfl := inj1 hm
  exact ⟨trivial, fin_body (by kernel_rfl) (by kernel_rfl)⟩
end Go.Proofs.Try
namespace Go.Proofs.Try
open Go Go.Pm
set_option linter.unusedVariables false
set_option maxHeartbeats 2000000
set_option maxRecDepth 2000
def m_onf_Collapse_1_b5b98 (x : ((List Int) × Nat × Int × (List Int) × Int × (List Int) × Int × Int × Int × (List Int) × Int × Int × Int × (List Int) × Nat × (List Int) × Nat)) : Option (Bool) :=
  match x with
  | (q0, q1, q2, q3, q4, q5, q6, q7, q8, q9, q10, q11, q12, q13, q14, q15, q16) =>
  if (q0.length : Int) = 0 then
    some true
  else
  idx q0 q2 >>= fun v1 =>
  idx q0 q2 >>= fun v2 =>
  idx q13 (W (q2 + 1)) >>= fun v3 =>
  idx q13 (W (q2 + 1)) >>= fun v4 =>
  idx q0 (W (q2 + 1)) >>= fun v5 =>
  idx q0 (W (q2 + 1)) >>= fun v6 =>
  some (v2 == (W (v4 * v6)))
def P_onf_Collapse_1_b5b98 : ((List Int) × Nat × Int × (List Int) × Int × (List Int) × Int × Int × Int × (List Int) × Int × Int × Int × (List Int) × Nat × (List Int) × Nat) → Bool → Prop := fun x r => match x with
  | (q0, q1, q2, q3, q4, q5, q6, q7, q8, q9, q10, q11, q12, q13, q14, q15, q16) => PC prog env 56 [(.ms 4 1 0 q0.length q1), (intPV q2), (.ptr 2 0)] [(.box [(.dat (.lst ((List.map intD) q3))), (intPV q4), (.dat (.lst ((List.map intD) q5))), (intPV q6), (intPV q7), (intPV q8), (.dat (.lst ((List.map intD) q9))), (intPV q10), (intPV q11), (intPV q12)]), (.box [(.dat (.lst ((List.map intD) []))), (intPV 0), (.dat (.lst ((List.map intD) []))), (intPV 0), (intPV 0), (intPV 0), (.dat (.lst ((List.map intD) []))), (intPV 0), (intPV 0), (intPV 0)]), (.box [(.ms 3 1 0 q13.length q14), (intPV q4), (.ms 4 1 0 q0.length q1), (intPV q6), (intPV q7), (intPV q8), (.ms 5 1 0 q15.length q16), (intPV q10), (intPV q11), (intPV q12)]), (.mt 3 1 (cellsOf intD q13)), (.mt 3 1 (cellsOf intD q0)), (.mt 3 1 (cellsOf intD q15))] (match r with | v5001 => (boolPV v5001)) (match r with | v5001 => [(.box [(.dat (.lst ((List.map intD) q3))), (intPV q4), (.dat (.lst ((List.map intD) q5))), (intPV q6), (intPV q7), (intPV q8), (.dat (.lst ((List.map intD) q9))), (intPV q10), (intPV q11), (intPV q12)]), (.box [(.dat (.lst ((List.map intD) []))), (intPV 0), (.dat (.lst ((List.map intD) []))), (intPV 0), (intPV 0), (intPV 0), (.dat (.lst ((List.map intD) []))), (intPV 0), (intPV 0), (intPV 0)]), (.box [(.ms 3 1 0 q13.length q14), (intPV q4), (.ms 4 1 0 q0.length q1), (intPV q6), (intPV q7), (intPV q8), (.ms 5 1 0 q15.length q16), (intPV q10), (intPV q11), (intPV q12)]), (.mt 3 1 (cellsOf intD q13)), (.mt 3 1 (cellsOf intD q0)), (.mt 3 1 (cellsOf intD q15))])
theorem w_onf_Collapse_1_b5b98 : ∀ x r, m_onf_Collapse_1_b5b98 x = some r → P_onf_Collapse_1_b5b98 x r := by
  intro x r hm
  unfold m_onf_Collapse_1_b5b98 at hm
  unfold P_onf_Collapse_1_b5b98
  obtain ⟨q0, q1, q2, q3, q4, q5, q6, q7, q8, q9, q10, q11, q12, q13, q14, q15, q16⟩ := x
  refine PC_sxB (fn := f56) (by kernel_rfl) (by kernel_rfl) rfl ?_
  refine R_seq ?_
  refine R_G ?_
  refine G_run 1 ?_
  refine G_end ?_
  refine R_seq ?_
  refine R_GD ?_
  refine G_run 1 ?_
  refine G_run 1 ?_
  refine G_run 2 ?_
  refine G_split (p := (q0.length : Int) = 0) 9 (eq_dec _ _) (fun hc => ?_) (fun hc => ?_)
  · replace hm := pos_inv hc hm
    refine G_run 19 ?_
    refine G_end ⟨by kernel_rfl, ?_⟩
    refine R_ret ?_
    obtain rfl := inj1 hm
    exact ⟨trivial, fin_body (by kernel_rfl) (by kernel_rfl)⟩
  replace hm := neg_inv hc hm
  refine G_run 2 ?_
  obtain ⟨v1, hx, hm⟩ := bind_inv hm
  refine G_semN rfl (by kernel_rfl) (fun _ => E_indexMs (e := 3) (n := q2) (j := (q2).toNat) (tt := 4) (g := 1) (lo := 0) (len := q0.length) (cap := q1) (k := .i64) (by kernel_rfl) (by kernel_rfl) rfl (by kernel_rfl) (by kernel_rfl) (idx_nat hx) (Nat.lt_of_lt_of_eq (idx_lt hx) rfl)) ?_
  obtain ⟨v2, hx, hm⟩ := bind_inv hm
  refine G_semN rfl (by kernel_rfl) (fun _ => E_loadMs (tt := 4) (g := 1) (j := (0 + (q2).toNat)) (e := 3) (cs := cellsOf intD q0) (v := .dat (intD v2)) (by kernel_rfl) (by kernel_rfl) rfl (by kernel_rfl) (mtOf_at (by kernel_rfl)) (cells_idx intD hx)) ?_
  refine G_run 4 ?_
  obtain ⟨v3, hx, hm⟩ := bind_inv hm
  refine G_semN rfl (by kernel_rfl) (fun _ => E_indexMs (e := 3) (n := (W (q2 + 1))) (j := ((W (q2 + 1))).toNat) (tt := 3) (g := 1) (lo := 0) (len := q13.length) (cap := q14) (k := .i64) (by kernel_rfl) (by kernel_rfl) rfl (by kernel_rfl) (by kernel_rfl) (idx_nat hx) (Nat.lt_of_lt_of_eq (idx_lt hx) rfl)) ?_
  obtain ⟨v4, hx, hm⟩ := bind_inv hm
  refine G_semN rfl (by kernel_rfl) (fun _ => E_loadMs (tt := 3) (g := 1) (j := (0 + ((W (q2 + 1))).toNat)) (e := 3) (cs := cellsOf intD q13) (v := .dat (intD v4)) (by kernel_rfl) (by kernel_rfl) rfl (by kernel_rfl) (mtOf_at (by kernel_rfl)) (cells_idx intD hx)) ?_
  refine G_run 3 ?_
  obtain ⟨v5, hx, hm⟩ := bind_inv hm
  refine G_semN rfl (by kernel_rfl) (fun _ => E_indexMs (e := 3) (n := (W (q2 + 1))) (j := ((W (q2 + 1))).toNat) (tt := 4) (g := 1) (lo := 0) (len := q0.length) (cap := q1) (k := .i64) (by kernel_rfl) (by kernel_rfl) rfl (by kernel_rfl) (by kernel_rfl) (idx_nat hx) (Nat.lt_of_lt_of_eq (idx_lt hx) rfl)) ?_
  obtain ⟨v6, hx, hm⟩ := bind_inv hm
  refine G_semN rfl (by kernel_rfl) (fun _ => E_loadMs (tt := 4) (g := 1) (j := (0 + ((W (q2 + 1))).toNat)) (e := 3) (cs := cellsOf intD q0) (v := .dat (intD v6)) (by kernel_rfl) (by kernel_rfl) rfl (by kernel_rfl) (mtOf_at (by kernel_rfl)) (cells_idx intD hx)) ?_
  refine G_run 4 ?_
  refine G_end ⟨by kernel_rfl, ?_⟩
  refine R_ret ?_
  obtain rfl := inj1 hm
  exact ⟨trivial, fin_body (by kernel_rfl) (by kernel_rfl)⟩
end Go.Proofs.Try
namespace Go.Proofs.Try
open Go Go.Pm
set_option linter.unusedVariables false
set_option maxHeartbeats 2000000
set_option maxRecDepth 2000
def m_onf_Collapse_1_bad34 (x : ((List Int) × Nat × Int × (List Int) × Int × (List Int) × Int × Int × Int × (List Int) × Int × Int × Int × (List Int) × Nat × (List Int) × Nat)) : Option (Bool) :=
  match x with
  | (q0, q1, q2, q3, q4, q5, q6, q7, q8, q9, q10, q11, q12, q13, q14, q15, q16) =>
  if (q0.length : Int) = 0 then
    some true
  else
  idx q0 q2 >>= fun v1 =>
  idx q0 q2 >>= fun v2 =>
  idx q13 (W (q2 + 1)) >>= fun v3 =>
  idx q13 (W (q2 + 1)) >>= fun v4 =>
  idx q0 (W (q2 + 1)) >>= fun v5 =>
  idx q0 (W (q2 + 1)) >>= fun v6 =>
  some (v2 == (W (v4 * v6)))
def P_onf_Collapse_1_bad34 : ((List Int) × Nat × Int × (List Int) × Int × (List Int) × Int × Int × Int × (List Int) × Int × Int × Int × (List Int) × Nat × (List Int) × Nat) → Bool → Prop := fun x r => match x with
  | (q0, q1, q2, q3, q4, q5, q6, q7, q8, q9, q10, q11, q12, q13, q14, q15, q16) => PC prog env 56 [(.ms 5 1 0 q0.length q1), (intPV q2), (.ptr 2 0)] [(.box [(.dat (.lst ((List.map intD) q3))), (intPV q4), (.dat (.lst ((List.map intD) q5))), (intPV q6), (intPV q7), (intPV q8), (.dat (.lst ((List.map intD) q9))), (intPV q10), (intPV q11), (intPV q12)]), (.box [(.dat (.lst ((List.map intD) []))), (intPV 0), (.dat (.lst ((List.map intD) []))), (intPV 0), (intPV 0), (intPV 0), (.dat (.lst ((List.map intD) []))), (intPV 0), (intPV 0), (intPV 0)]), (.box [(.ms 3 1 0 q13.length q14), (intPV q4), (.ms 4 1 0 q15.length q16), (intPV q6), (intPV q7), (intPV q8), (.ms 5 1 0 q0.length q1), (intPV q10), (intPV q11), (intPV q12)]), (.mt 3 1 (cellsOf intD q13)), (.mt 3 1 (cellsOf intD q15)), (.mt 3 1 (cellsOf intD q0))] (match r with | v5001 => (boolPV v5001)) (match r with | v5001 => [(.box [(.dat (.lst ((List.map intD) q3))), (intPV q4), (.dat (.lst ((List.map intD) q5))), (intPV q6), (intPV q7), (intPV q8), (.dat (.lst ((List.map intD) q9))), (intPV q10), (intPV q11), (intPV q12)]), (.box [(.dat (.lst ((List.map intD) []))), (intPV 0), (.dat (.lst ((List.map intD) []))), (intPV 0), (intPV 0), (intPV 0), (.dat (.lst ((List.map intD) []))), (intPV 0), (intPV 0), (intPV 0)]), (.box [(.ms 3 1 0 q13.length q14), (intPV q4), (.ms 4 1 0 q15.length q16), (intPV q6), (intPV q7), (intPV q8), (.ms 5 1 0 q0.length q1), (intPV q10), (intPV q11), (intPV q12)]), (.mt 3 1 (cellsOf intD q13)), (.mt 3 1 (cellsOf intD q15)), (.mt 3 1 (cellsOf intD q0))])
theorem w_onf_Collapse_1_bad34 : ∀ x r, m_onf_Collapse_1_bad34 x = some r → P_onf_Collapse_1_bad34 x r := by
  intro x r hm
  unfold m_onf_Collapse_1_bad34 at hm
  unfold P_onf_Collapse_1_bad34
  obtain ⟨q0, q1, q2, q3, q4, q5, q6, q7, q8, q9, q10, q11, q12, q13, q14, q15, q16⟩ := x
  refine PC_sxB (fn := f56) (by kernel_rfl) (by kernel_rfl) rfl ?_
  refine R_seq ?_
  refine R_G ?_
  refine G_run 1 ?_
  refine G_end ?_
  refine R_seq ?_
  refine R_GD ?_
  refine G_run 1 ?_
  refine G_run 1 ?_
  refine G_run 2 ?_
  refine G_split (p := (q0.length : Int) = 0) 9 (eq_dec _ _) (fun hc => ?_) (fun hc => ?_)
  · replace hm := pos_inv hc hm
    refine G_run 19 ?_
    refine G_end ⟨by kernel_rfl, ?_⟩
    refine R_ret ?_
    obtain rfl := inj1 hm
    exact ⟨trivial, fin_body (by kernel_rfl) (by kernel_rfl)⟩
  replace hm := neg_inv hc hm
  refine G_run 2 ?_
  obtain ⟨v1, hx, hm⟩ := bind_inv hm
  refine G_semN rfl (by kernel_rfl) (fun _ => E_indexMs (e := 3) (n := q2) (j := (q2).toNat) (tt := 5) (g := 1) (lo := 0) (len := q0.length) (cap := q1) (k := .i64) (by kernel_rfl) (by kernel_rfl) rfl (by kernel_rfl) (by kernel_rfl) (idx_nat hx) (Nat.lt_of_lt_of_eq (idx_lt hx) rfl)) ?_
  obtain ⟨v2, hx, hm⟩ := bind_inv hm
  refine G_semN rfl (by kernel_rfl) (fun _ => E_loadMs (tt := 5) (g := 1) (j := (0 + (q2).toNat)) (e := 3) (cs := cellsOf intD q0) (v := .dat (intD v2)) (by kernel_rfl) (by kernel_rfl) rfl (by kernel_rfl) (mtOf_at (by kernel_rfl)) (cells_idx intD hx)) ?_
  refine G_run 4 ?_
  obtain ⟨v3, hx, hm⟩ := bind_inv hm
  refine G_semN rfl (by kernel_rfl) (fun _ => E_indexMs (e := 3) (n := (W (q2 + 1))) (j := ((W (q2 + 1))).toNat) (tt := 3) (g := 1) (lo := 0) (len := q13.length) (cap := q14) (k := .i64) (by kernel_rfl) (by kernel_rfl) rfl (by kernel_rfl) (by kernel_rfl) (idx_nat hx) (Nat.lt_of_lt_of_eq (idx_lt hx) rfl)) ?_
  obtain ⟨v4, hx, hm⟩ := bind_inv hm
  refine G_semN rfl (by kernel_rfl) (fun _ => E_loadMs (tt := 3) (g := 1) (j := (0 + ((W (q2 + 1))).toNat)) (e := 3) (cs := cellsOf intD q13) (v := .dat (intD v4)) (by kernel_rfl) (by kernel_rfl) rfl (by kernel_rfl) (mtOf_at (by kernel_rfl)) (cells_idx intD hx)) ?_
  refine G_run 3 ?_
  obtain ⟨v5, hx, hm⟩ := bind_inv hm
  refine G_semN rfl (by kernel_rfl) (fun _ => E_indexMs (e := 3) (n := (W (q2 + 1))) (j := ((W (q2 + 1))).toNat) (tt := 5) (g := 1) (lo := 0) (len := q0.length) (cap := q1) (k := .i64) (by kernel_rfl) (by kernel_rfl) rfl (by kernel_rfl) (by kernel_rfl) (idx_nat hx) (Nat.lt_of_lt_of_eq (idx_lt hx) rfl)) ?_
  obtain ⟨v6, hx, hm⟩ := bind_inv hm
  refine G_semN rfl (by kernel_rfl) (fun _ => E_loadMs (tt := 5) (g := 1) (j := (0 + ((W (q2 + 1))).toNat)) (e := 3) (cs := cellsOf intD q0) (v := .dat (intD v6)) (by kernel_rfl) (by kernel_rfl) rfl (by kernel_rfl) (mtOf_at (by kernel_rfl)) (cells_idx intD hx)) ?_
  refine G_run 4 ?_
  refine G_end ⟨by kernel_rfl, ?_⟩
  refine R_ret ?_
  obtain rfl := inj1 hm
  exact ⟨trivial, fin_body (by kernel_rfl) (by kernel_rfl)⟩
end Go.Proofs.Try
namespace Go.Proofs.Try
open Go Go.Pm
set_option linter.unusedVariables false
set_option maxHeartbeats 2000000
set_option maxRecDepth 2000
def m_onf_joined_b6e98 (x : ((List Int) × Nat × Int × (List Int) × Nat × Int × Int × Int × (List Int) × Nat × Int × Int × Int × Int × (List Int) × (List Int) × (List Int))) : Option (((List Int) × (List Int) × (List Int))) :=
  match x with
  | (q0, q1, q2, q3, q4, q5, q6, q7, q8, q9, q10, q11, q12, q13, q14, q15, q16) =>
  idx q0 (W (q13 + 1)) >>= fun v1 =>
  idx q0 (W (q13 + 1)) >>= fun v2 =>
  idx q0 q13 >>= fun v3 =>
  idx q0 q13 >>= fun v4 =>
  idx q0 (W (q13 + 1)) >>= fun v5 =>
  setM q0 (W (q13 + 1)) (W (v2 * v4)) >>= fun v6 =>
  guardM (v6.length = q0.length) >>= fun (_ : Unit) =>
  delM v6 q1 q13 (W (q13 + 1)) >>= fun v8 =>
  delM q3 q4 q13 (W (q13 + 1)) >>= fun v9 =>
  if (q8.length : Int) > 0 then
    delM q8 q9 q13 (W (q13 + 1)) >>= fun v10 =>
    some (v8, v9, v10)
  else
  some (v8, v9, q8)
def P_onf_joined_b6e98 : ((List Int) × Nat × Int × (List Int) × Nat × Int × Int × Int × (List Int) × Nat × Int × Int × Int × Int × (List Int) × (List Int) × (List Int)) → ((List Int) × (List Int) × (List Int)) → Prop := fun x r => match x with
  | (q0, q1, q2, q3, q4, q5, q6, q7, q8, q9, q10, q11, q12, q13, q14, q15, q16) => PC prog env 57 [(.agg [(.ms 3 1 0 q0.length q1), (intPV q2), (.ms 4 1 0 q3.length q4), (intPV q5), (intPV q6), (intPV q7), (.ms 5 1 0 q8.length q9), (intPV q10), (intPV q11), (intPV q12)]), (intPV q13)] [(.box [(.dat (.lst ((List.map intD) q14))), (intPV q2), (.dat (.lst ((List.map intD) q15))), (intPV q5), (intPV q6), (intPV q7), (.dat (.lst ((List.map intD) q16))), (intPV q10), (intPV q11), (intPV q12)]), (.box [(.dat (.lst ((List.map intD) []))), (intPV 0), (.dat (.lst ((List.map intD) []))), (intPV 0), (intPV 0), (intPV 0), (.dat (.lst ((List.map intD) []))), (intPV 0), (intPV 0), (intPV 0)]), (.box [(.ms 3 1 0 q0.length q1), (intPV q2), (.ms 4 1 0 q3.length q4), (intPV q5), (intPV q6), (intPV q7), (.ms 5 1 0 q8.length q9), (intPV q10), (intPV q11), (intPV q12)]), (.mt 3 1 (cellsOf intD q0)), (.mt 3 1 (cellsOf intD q3)), (.mt 3 1 (cellsOf intD q8))] (match r with | (v5001, v5002, v5003) => (.agg [(.ms 3 1 0 v5001.length q1), (intPV q2), (.ms 4 1 0 v5002.length q4), (intPV q5), (intPV q6), (intPV q7), (.ms 5 1 0 v5003.length q9), (intPV q10), (intPV q11), (intPV q12)])) (match r with | (v5001, v5002, v5003) => [(.box [(.dat (.lst ((List.map intD) q14))), (intPV q2), (.dat (.lst ((List.map intD) q15))), (intPV q5), (intPV q6), (intPV q7), (.dat (.lst ((List.map intD) q16))), (intPV q10), (intPV q11), (intPV q12)]), (.box [(.dat (.lst ((List.map intD) []))), (intPV 0), (.dat (.lst ((List.map intD) []))), (intPV 0), (intPV 0), (intPV 0), (.dat (.lst ((List.map intD) []))), (intPV 0), (intPV 0), (intPV 0)]), (.box [(.ms 3 1 0 q0.length q1), (intPV q2), (.ms 4 1 0 q3.length q4), (intPV q5), (intPV q6), (intPV q7), (.ms 5 1 0 q8.length q9), (intPV q10), (intPV q11), (intPV q12)]), (.mt 3 1 (cellsOf intD v5001)), (.mt 3 1 (cellsOf intD v5002)), (.mt 3 1 (cellsOf intD v5003)), (.box [(.ms 3 1 0 v5001.length q1), (intPV q2), (.ms 4 1 0 v5002.length q4), (intPV q5), (intPV q6), (intPV q7), (.ms 5 1 0 v5003.length q9), (intPV q10), (intPV q11), (intPV q12)]), (.box [(.ms 3 1 0 v5001.length q1), (intPV q2), (.ms 4 1 0 v5002.length q4), (intPV q5), (intPV q6), (intPV q7), (.ms 5 1 0 v5003.length q9), (intPV q10), (intPV q11), (intPV q12)])])
theorem w_onf_joined_b6e98 : ∀ x r, m_onf_joined_b6e98 x = some r → P_onf_joined_b6e98 x r := by
  intro x r hm
  unfold m_onf_joined_b6e98 at hm
  unfold P_onf_joined_b6e98
  obtain ⟨q0, q1, q2, q3, q4, q5, q6, q7, q8, q9, q10, q11, q12, q13, q14, q15, q16⟩ := x
  refine PC_sxB (fn := f57) (by kernel_rfl) (by kernel_rfl) rfl ?_
  refine R_seq ?_
  refine R_G ?_
  refine G_run 2 ?_
  refine G_end ?_
  refine R_seq ?_
  refine R_GD ?_
  refine G_run 4 ?_
  obtain ⟨v1, hx, hm⟩ := bind_inv hm
  refine G_semN rfl (by kernel_rfl) (fun _ => E_indexMs (e := 3) (n := (W (q13 + 1))) (j := ((W (q13 + 1))).toNat) (tt := 3) (g := 1) (lo := 0) (len := q0.length) (cap := q1) (k := .i64) (by kernel_rfl) (by kernel_rfl) rfl (by kernel_rfl) (by kernel_rfl) (idx_nat hx) (Nat.lt_of_lt_of_eq (idx_lt hx) rfl)) ?_
  obtain ⟨v2, hx, hm⟩ := bind_inv hm
  refine G_semN rfl (by kernel_rfl) (fun _ => E_loadMs (tt := 3) (g := 1) (j := (0 + ((W (q13 + 1))).toNat)) (e := 3) (cs := cellsOf intD q0) (v := .dat (intD v2)) (by kernel_rfl) (by kernel_rfl) rfl (by kernel_rfl) (mtOf_at (by kernel_rfl)) (cells_idx intD hx)) ?_
  refine G_run 3 ?_
  obtain ⟨v3, hx, hm⟩ := bind_inv hm
  refine G_semN rfl (by kernel_rfl) (fun _ => E_indexMs (e := 3) (n := q13) (j := (q13).toNat) (tt := 3) (g := 1) (lo := 0) (len := q0.length) (cap := q1) (k := .i64) (by kernel_rfl) (by kernel_rfl) rfl (by kernel_rfl) (by kernel_rfl) (idx_nat hx) (Nat.lt_of_lt_of_eq (idx_lt hx) rfl)) ?_
  obtain ⟨v4, hx, hm⟩ := bind_inv hm
  refine G_semN rfl (by kernel_rfl) (fun _ => E_loadMs (tt := 3) (g := 1) (j := (0 + (q13).toNat)) (e := 3) (cs := cellsOf intD q0) (v := .dat (intD v4)) (by kernel_rfl) (by kernel_rfl) rfl (by kernel_rfl) (mtOf_at (by kernel_rfl)) (cells_idx intD hx)) ?_
  refine G_run 1 ?_
  obtain ⟨v5, hx, hm⟩ := bind_inv hm
  refine G_semN rfl (by kernel_rfl) (fun _ => E_indexMs (e := 3) (n := (W (q13 + 1))) (j := ((W (q13 + 1))).toNat) (tt := 3) (g := 1) (lo := 0) (len := q0.length) (cap := q1) (k := .i64) (by kernel_rfl) (by kernel_rfl) rfl (by kernel_rfl) (by kernel_rfl) (idx_nat hx) (Nat.lt_of_lt_of_eq (idx_lt hx) rfl)) ?_
  obtain ⟨v6, hx, hm⟩ := bind_inv hm
  refine G_semH (fun H => H.set 3 (.mt 3 1 (cellsOf intD v6))) rfl (by kernel_rfl) (fun _ => E_stMs intD (l := q0) (n := (W (q13 + 1))) (y := (W (v2 * v4))) hx (fun _ => rfl) (by kernel_rfl) rfl (by kernel_rfl) (by kernel_rfl) (by kernel_rfl) (by kernel_rfl)) ?_
  refine G_end ⟨by kernel_rfl, ?_⟩
  refine R_seq ?_
  refine R_G ?_
  refine G_run 5 ?_
  obtain ⟨_, hl7, hm⟩ := bind_inv hm
  replace hl7 := guard_inv hl7
  obtain ⟨v8, hx, hm⟩ := bind_inv hm
  have hq := w_del (t := 3) (g := 1) [(.box [(.dat (.lst ((List.map intD) q14))), (intPV q2), (.dat (.lst ((List.map intD) q15))), (intPV q5), (intPV q6), (intPV q7), (.dat (.lst ((List.map intD) q16))), (intPV q10), (intPV q11), (intPV q12)]), (.box [(.dat (.lst ((List.map intD) []))), (intPV 0), (.dat (.lst ((List.map intD) []))), (intPV 0), (intPV 0), (intPV 0), (.dat (.lst ((List.map intD) []))), (intPV 0), (intPV 0), (intPV 0)]), (.box [(.ms 3 1 0 q0.length q1), (intPV q2), (.ms 4 1 0 q3.length q4), (intPV q5), (intPV q6), (intPV q7), (.ms 5 1 0 q8.length q9), (intPV q10), (intPV q11), (intPV q12)]), (.mt 3 1 (cellsOf intD v6)), (.mt 3 1 (cellsOf intD q3)), (.mt 3 1 (cellsOf intD q8)), (.box [(.ms 3 1 0 q0.length q1), (intPV q2), (.ms 4 1 0 q3.length q4), (intPV q5), (intPV q6), (intPV q7), (.ms 5 1 0 q8.length q9), (intPV q10), (intPV q11), (intPV q12)]), (.box [(.dat (.lst ((List.map intD) []))), (intPV 0), (.dat (.lst ((List.map intD) []))), (intPV 0), (intPV 0), (intPV 0), (.dat (.lst ((List.map intD) []))), (intPV 0), (intPV 0), (intPV 0)])] hl7 hx (mtOf_at (by kernel_rfl))
  refine G_callB hq ?_
  refine G_run 1 ?_
  refine G_semH (fun H => (H.set 3 (.mt 3 1 (cellsOf intD v8))).set 6 (.box [(.ms 3 1 0 v8.length q1), (intPV q2), (.ms 4 1 0 q3.length q4), (intPV q5), (intPV q6), (intPV q7), (.ms 5 1 0 q8.length q9), (intPV q10), (intPV q11), (intPV q12)])) rfl (by kernel_rfl) (fun _ => E_stTrim (t := 22) (x := .tmp 24) (j := (0, 3)) (ow' := []) (f := intD) (l := v8) (q := [0]) (tt := 3) (gg := 1) (cap := q1) (i := 6) (off := 0) (n := 23) (e := 3) (cs := [(.ms 3 1 0 q0.length q1), (intPV q2), (.ms 4 1 0 q3.length q4), (intPV q5), (intPV q6), (intPV q7), (.ms 5 1 0 q8.length q9), (intPV q10), (intPV q11), (intPV q12)]) (ds := [(.ms 3 1 0 v8.length q1), (intPV q2), (.ms 4 1 0 q3.length q4), (intPV q5), (intPV q6), (intPV q7), (.ms 5 1 0 q8.length q9), (intPV q10), (intPV q11), (intPV q12)]) (by kernel_rfl) (by kernel_rfl) (by kernel_rfl) (by kernel_rfl) (by kernel_rfl) (by kernel_rfl) (by kernel_rfl) (by kernel_rfl)) ?_
  refine G_end ?_
  refine R_seq ?_
  refine R_G ?_
  refine G_run 5 ?_
  obtain ⟨v9, hx, hm⟩ := bind_inv hm
  have hq := w_del (t := 4) (g := 1) [(.box [(.dat (.lst ((List.map intD) q14))), (intPV q2), (.dat (.lst ((List.map intD) q15))), (intPV q5), (intPV q6), (intPV q7), (.dat (.lst ((List.map intD) q16))), (intPV q10), (intPV q11), (intPV q12)]), (.box [(.dat (.lst ((List.map intD) []))), (intPV 0), (.dat (.lst ((List.map intD) []))), (intPV 0), (intPV 0), (intPV 0), (.dat (.lst ((List.map intD) []))), (intPV 0), (intPV 0), (intPV 0)]), (.box [(.ms 3 1 0 q0.length q1), (intPV q2), (.ms 4 1 0 q3.length q4), (intPV q5), (intPV q6), (intPV q7), (.ms 5 1 0 q8.length q9), (intPV q10), (intPV q11), (intPV q12)]), (.mt 3 1 (cellsOf intD v8)), (.mt 3 1 (cellsOf intD q3)), (.mt 3 1 (cellsOf intD q8)), (.box [(.ms 3 1 0 v8.length q1), (intPV q2), (.ms 4 1 0 q3.length q4), (intPV q5), (intPV q6), (intPV q7), (.ms 5 1 0 q8.length q9), (intPV q10), (intPV q11), (intPV q12)]), (.box [(.dat (.lst ((List.map intD) []))), (intPV 0), (.dat (.lst ((List.map intD) []))), (intPV 0), (intPV 0), (intPV 0), (.dat (.lst ((List.map intD) []))), (intPV 0), (intPV 0), (intPV 0)])] rfl hx (mtOf_at (by kernel_rfl))
  refine G_callB hq ?_
  refine G_run 1 ?_
  refine G_semH (fun H => (H.set 4 (.mt 3 1 (cellsOf intD v9))).set 6 (.box [(.ms 3 1 0 v8.length q1), (intPV q2), (.ms 4 1 0 v9.length q4), (intPV q5), (intPV q6), (intPV q7), (.ms 5 1 0 q8.length q9), (intPV q10), (intPV q11), (intPV q12)])) rfl (by kernel_rfl) (fun _ => E_stTrim (t := 22) (x := .tmp 31) (j := (0, 3)) (ow' := []) (f := intD) (l := v9) (q := [0]) (tt := 4) (gg := 1) (cap := q4) (i := 6) (off := 2) (n := 30) (e := 3) (cs := [(.ms 3 1 0 v8.length q1), (intPV q2), (.ms 4 1 0 q3.length q4), (intPV q5), (intPV q6), (intPV q7), (.ms 5 1 0 q8.length q9), (intPV q10), (intPV q11), (intPV q12)]) (ds := [(.ms 3 1 0 v8.length q1), (intPV q2), (.ms 4 1 0 v9.length q4), (intPV q5), (intPV q6), (intPV q7), (.ms 5 1 0 q8.length q9), (intPV q10), (intPV q11), (intPV q12)]) (by kernel_rfl) (by kernel_rfl) (by kernel_rfl) (by kernel_rfl) (by kernel_rfl) (by kernel_rfl) (by kernel_rfl) (by kernel_rfl)) ?_
  refine G_end ?_
  refine R_seq ?_
  refine R_seq ?_
  refine R_G ?_
  refine G_run 3 ?_
  refine G_run 1 ?_
  refine G_run 1 ?_
  refine G_end ?_
  refine R_ifp (p := (q8.length : Int) > 0) (rfl) (fun hc => ?_) (fun hc => ?_)
  · replace hm := pos_inv hc hm
    refine R_G ?_
    refine G_run 6 ?_
    obtain ⟨v10, hx, hm⟩ := bind_inv hm
    have hq := w_del (t := 5) (g := 1) [(.box [(.dat (.lst ((List.map intD) q14))), (intPV q2), (.dat (.lst ((List.map intD) q15))), (intPV q5), (intPV q6), (intPV q7), (.dat (.lst ((List.map intD) q16))), (intPV q10), (intPV q11), (intPV q12)]), (.box [(.dat (.lst ((List.map intD) []))), (intPV 0), (.dat (.lst ((List.map intD) []))), (intPV 0), (intPV 0), (intPV 0), (.dat (.lst ((List.map intD) []))), (intPV 0), (intPV 0), (intPV 0)]), (.box [(.ms 3 1 0 q0.length q1), (intPV q2), (.ms 4 1 0 q3.length q4), (intPV q5), (intPV q6), (intPV q7), (.ms 5 1 0 q8.length q9), (intPV q10), (intPV q11), (intPV q12)]), (.mt 3 1 (cellsOf intD v8)), (.mt 3 1 (cellsOf intD v9)), (.mt 3 1 (cellsOf intD q8)), (.box [(.ms 3 1 0 v8.length q1), (intPV q2), (.ms 4 1 0 v9.length q4), (intPV q5), (intPV q6), (intPV q7), (.ms 5 1 0 q8.length q9), (intPV q10), (intPV q11), (intPV q12)]), (.box [(.dat (.lst ((List.map intD) []))), (intPV 0), (.dat (.lst ((List.map intD) []))), (intPV 0), (intPV 0), (intPV 0), (.dat (.lst ((List.map intD) []))), (intPV 0), (intPV 0), (intPV 0)])] rfl hx (mtOf_at (by kernel_rfl))
    refine G_callB hq ?_
    refine G_run 2 ?_
    refine G_semH (fun H => (H.set 5 (.mt 3 1 (cellsOf intD v10))).set 6 (.box [(.ms 3 1 0 v8.length q1), (intPV q2), (.ms 4 1 0 v9.length q4), (intPV q5), (intPV q6), (intPV q7), (.ms 5 1 0 v10.length q9), (intPV q10), (intPV q11), (intPV q12)])) rfl (by kernel_rfl) (fun _ => E_stTrim (t := 22) (x := .tmp 45) (j := (0, 3)) (ow' := []) (f := intD) (l := v10) (q := [0]) (tt := 5) (gg := 1) (cap := q9) (i := 6) (off := 6) (n := 43) (e := 3) (cs := [(.ms 3 1 0 v8.length q1), (intPV q2), (.ms 4 1 0 v9.length q4), (intPV q5), (intPV q6), (intPV q7), (.ms 5 1 0 q8.length q9), (intPV q10), (intPV q11), (intPV q12)]) (ds := [(.ms 3 1 0 v8.length q1), (intPV q2), (.ms 4 1 0 v9.length q4), (intPV q5), (intPV q6), (intPV q7), (.ms 5 1 0 v10.length q9), (intPV q10), (intPV q11), (intPV q12)]) (by kernel_rfl) (by kernel_rfl) (by kernel_rfl) (by kernel_rfl) (by kernel_rfl) (by kernel_rfl) (by kernel_rfl) (by kernel_rfl)) ?_
    refine G_end ?_
    refine R_seq ?_
    refine R_G ?_
    refine G_run 2 ?_
    refine G_end ?_
    refine R_ret ?_
    obtain rfl := inj1 hm
    exact ⟨trivial, fin_body (by kernel_rfl) (by kernel_rfl)⟩
  replace hm := neg_inv hc hm
  refine R_skip ?_
  refine R_seq ?_
  refine R_G ?_
  refine G_run 2 ?_
  refine G_end ?_
  refine R_ret ?_
  obtain rfl := inj1 hm
  exact ⟨trivial, fin_body (by kernel_rfl) (by kernel_rfl)⟩
end Go.Proofs.Try
namespace Go.Proofs.Try
open Go Go.Pm
set_option linter.unusedVariables false
set_option maxHeartbeats 2000000
set_option maxRecDepth 2000
def m_onf_Collapse_L1 (x : ((List Int) × T_onf_Nest × (List Int) × (List Int) × (List Int) × (List Int) × (List Int) × Int)) : Option (((List Int) × (List Int) × (List Int))) :=
  match x with
  | (v4, p0, v2, v6, v207, v208, v209, v210) =>
  if v210 ≥ 0 then
    (m_onf_Collapse_1_b5b98 (v208, v4.length, v210, p0.dims, p0.write, p0.steps, p0.read.kind, p0.read.buffer, p0.read.base, p0.read.strides, p0.read.start, p0.read.step, p0.read.mod, v207, v2.length, v209, v6.length) >>= fun (v611 : Bool) =>
    if v611 = true then
      m_onf_Collapse_1_bad34 (v209, v6.length, v210, p0.dims, p0.write, p0.steps, p0.read.kind, p0.read.buffer, p0.read.base, p0.read.strides, p0.read.start, p0.read.step, p0.read.mod, v207, v2.length, v208, v4.length) >>= fun (v612 : Bool) =>
      some v612
    else
    some false
    ) >>= fun (v610 : Bool) =>
    if v610 = true then
      m_onf_joined_b6e98 (v207, v2.length, p0.write, v208, v4.length, p0.read.kind, p0.read.buffer, p0.read.base, v209, v6.length, p0.read.start, p0.read.step, p0.read.mod, v210, p0.dims, p0.steps, p0.read.strides) >>= fun ((v613, v614, v615) : ((List Int) × (List Int) × (List Int))) =>
      m_onf_Collapse_L1 (v4, p0, v2, v6, v613, v614, v615, (W (v210 - 1)))
    else
    m_onf_Collapse_L1 (v4, p0, v2, v6, v207, v208, v209, (W (v210 - 1)))
  else
  some (v207, v208, v209)
  partial_fixpoint
def P_onf_Collapse_L1 : ((List Int) × T_onf_Nest × (List Int) × (List Int) × (List Int) × (List Int) × (List Int) × Int) → ((List Int) × (List Int) × (List Int)) → Prop := fun x r => match x with
  | (v4, p0, v2, v6, v207, v208, v209, v210) => ∀ st, prune 6 ((firstRegion (codeAt [1, 1, 1, 1, 0, 1, 0, 0] (bodyOf f23))).bind (env.hint 23).keepAt) st = ⟨kp 53 [(2, (.ptr 1 0)), (3, (.ptr 2 0)), (4, (.fn 56 [(.ptr 2 0)])), (5, (intPV v210))], [(.box [(.dat (.lst ((List.map intD) p0.dims))), (intPV p0.write), (.dat (.lst ((List.map intD) p0.steps))), (intPV p0.read.kind), (intPV p0.read.buffer), (intPV p0.read.base), (.dat (.lst ((List.map intD) p0.read.strides))), (intPV p0.read.start), (intPV p0.read.step), (intPV p0.read.mod)]), (.box [(.dat (.lst ((List.map intD) []))), (intPV 0), (.dat (.lst ((List.map intD) []))), (intPV 0), (intPV 0), (intPV 0), (.dat (.lst ((List.map intD) []))), (intPV 0), (intPV 0), (intPV 0)]), (.box [(.ms 3 1 0 v207.length v2.length), (intPV p0.write), (.ms 4 1 0 v208.length v4.length), (intPV p0.read.kind), (intPV p0.read.buffer), (intPV p0.read.base), (.ms 5 1 0 v209.length v6.length), (intPV p0.read.start), (intPV p0.read.step), (intPV p0.read.mod)]), (.mt 3 1 (cellsOf intD v207)), (.mt 3 1 (cellsOf intD v208)), (.mt 3 1 (cellsOf intD v209))]⟩ →
    RL prog env (env.hint 23) true (codeAt [1, 1, 1, 1, 0, 1, 0, 0] (bodyOf f23)) 6 st (fun e s => match r with | (v607, v608, v609) => e = .exit 0 ∧ ∃ d, s = ⟨sl d 53 [(2, (.ptr 1 0)), (3, (.ptr 2 0))], [(.box [(.dat (.lst ((List.map intD) p0.dims))), (intPV p0.write), (.dat (.lst ((List.map intD) p0.steps))), (intPV p0.read.kind), (intPV p0.read.buffer), (intPV p0.read.base), (.dat (.lst ((List.map intD) p0.read.strides))), (intPV p0.read.start), (intPV p0.read.step), (intPV p0.read.mod)]), (.box [(.dat (.lst ((List.map intD) []))), (intPV 0), (.dat (.lst ((List.map intD) []))), (intPV 0), (intPV 0), (intPV 0), (.dat (.lst ((List.map intD) []))), (intPV 0), (intPV 0), (intPV 0)]), (.box [(.ms 3 1 0 v607.length v2.length), (intPV p0.write), (.ms 4 1 0 v608.length v4.length), (intPV p0.read.kind), (intPV p0.read.buffer), (intPV p0.read.base), (.ms 5 1 0 v609.length v6.length), (intPV p0.read.start), (intPV p0.read.step), (intPV p0.read.mod)]), (.mt 3 1 (cellsOf intD v607)), (.mt 3 1 (cellsOf intD v608)), (.mt 3 1 (cellsOf intD v609))]⟩)
theorem w_onf_Collapse_L1 : ∀ x r, m_onf_Collapse_L1 x = some r → P_onf_Collapse_L1 x r := by
  refine m_onf_Collapse_L1.partial_correctness _ (fun m_onf_Collapse_L1 w_onf_Collapse_L1 x r hm => ?_)
  unfold P_onf_Collapse_L1
  obtain ⟨v4, p0, v2, v6, v207, v208, v209, v210⟩ := x
  intro st hst
  refine RL_at hst ?_
  clear hst
  refine R_seq ?_
  refine R_seq ?_
  refine R_G ?_
  refine G_run 2 ?_
  refine G_end ?_
  refine R_ifp (p := v210 ≥ 0) (rfl) (fun hc => ?_) (fun hc => ?_)
  · replace hm := pos_inv hc hm
    refine R_skip ?_
    refine R_seq ?_
    refine R_block ?_
    refine R_seq ?_
    obtain ⟨v610, hs, hm⟩ := bind_inv hm
    refine R_cut (fun d => ⟨sl d 53 [(2, (.ptr 1 0)), (3, (.ptr 2 0)), (4, (.fn 56 [(.ptr 2 0)])), (5, (intPV v210)), (48, (boolPV v610))], [(.box [(.dat (.lst ((List.map intD) p0.dims))), (intPV p0.write), (.dat (.lst ((List.map intD) p0.steps))), (intPV p0.read.kind), (intPV p0.read.buffer), (intPV p0.read.base), (.dat (.lst ((List.map intD) p0.read.strides))), (intPV p0.read.start), (intPV p0.read.step), (intPV p0.read.mod)]), (.box [(.dat (.lst ((List.map intD) []))), (intPV 0), (.dat (.lst ((List.map intD) []))), (intPV 0), (intPV 0), (intPV 0), (.dat (.lst ((List.map intD) []))), (intPV 0), (intPV 0), (intPV 0)]), (.box [(.ms 3 1 0 v207.length v2.length), (intPV p0.write), (.ms 4 1 0 v208.length v4.length), (intPV p0.read.kind), (intPV p0.read.buffer), (intPV p0.read.base), (.ms 5 1 0 v209.length v6.length), (intPV p0.read.start), (intPV p0.read.step), (intPV p0.read.mod)]), (.mt 3 1 (cellsOf intD v207)), (.mt 3 1 (cellsOf intD v208)), (.mt 3 1 (cellsOf intD v209))]⟩) ?_ (fun d => ?_)
    · replace hm := hs
      clear hs
      refine R_G ?_
      refine G_run 4 ?_
      obtain ⟨v611, hx, hm⟩ := bind_inv hm
      have hq := w_onf_Collapse_1_b5b98 _ _ hx
      dsimp only [P_onf_Collapse_1_b5b98] at hq
      refine G_callB hq ?_
      refine G_run 1 ?_
      refine G_split (p := v611 = true) 41 (bool_dec _) (fun hc => ?_) (fun hc => ?_)
      · replace hm := pos_inv hc hm
        refine G_run 5 ?_
        obtain ⟨v612, hx, hm⟩ := bind_inv hm
        have hq := w_onf_Collapse_1_bad34 _ _ hx
        dsimp only [P_onf_Collapse_1_bad34] at hq
        refine G_callB hq ?_
        refine G_run 1 ?_
        refine G_end ?_
        obtain rfl := inj1 hm
        exact cut_leaf (by kernel_rfl)
      replace hm := neg_inv hc hm
      refine G_run 7 ?_
      refine G_end ?_
      obtain rfl := inj1 hm
      exact cut_leaf (by kernel_rfl)
    clear hs
    refine R_ifp (p := v610 = true) (bool_dec _) (fun hc => ?_) (fun hc => ?_)
    · replace hm := pos_inv hc hm
      refine R_G ?_
      refine G_run 2 ?_
      obtain ⟨⟨v613, v614, v615⟩, hx, hm⟩ := bind_inv hm
      have hq := w_onf_joined_b6e98 _ _ hx
      dsimp only [P_onf_joined_b6e98] at hq
      refine G_callB hq ?_
      refine G_run 1 ?_
      refine G_end ?_
      refine R_G ?_
      refine G_run 3 ?_
      refine G_end ?_
      exact w_onf_Collapse_L1 _ _ hm _ (prune_of2 [(.box [(.dat (.lst ((List.map intD) p0.dims))), (intPV p0.write), (.dat (.lst ((List.map intD) p0.steps))), (intPV p0.read.kind), (intPV p0.read.buffer), (intPV p0.read.base), (.dat (.lst ((List.map intD) p0.read.strides))), (intPV p0.read.start), (intPV p0.read.step), (intPV p0.read.mod)]), (.box [(.dat (.lst ((List.map intD) []))), (intPV 0), (.dat (.lst ((List.map intD) []))), (intPV 0), (intPV 0), (intPV 0), (.dat (.lst ((List.map intD) []))), (intPV 0), (intPV 0), (intPV 0)]), (.box [(.ms 3 1 0 v613.length v2.length), (intPV p0.write), (.ms 4 1 0 v614.length v4.length), (intPV p0.read.kind), (intPV p0.read.buffer), (intPV p0.read.base), (.ms 5 1 0 v615.length v6.length), (intPV p0.read.start), (intPV p0.read.step), (intPV p0.read.mod)]), (.mt 3 1 (cellsOf intD v613)), (.mt 3 1 (cellsOf intD v614)), (.mt 3 1 (cellsOf intD v615))] (fun _ => (pg_cons (by kernel_rfl) (pg_cons (by kernel_rfl) (pg_cons (by kernel_rfl) (pg_cons (purge_mt intD _ _ _ _ _) (pg_cons (purge_mt intD _ _ _ _ _) (pg_cons (purge_mt intD _ _ _ _ _) pg_nil))))))) rfl)
    replace hm := neg_inv hc hm
    refine R_skip ?_
    refine R_G ?_
    refine G_run 3 ?_
    refine G_end ?_
    exact w_onf_Collapse_L1 _ _ hm _ (prune_of2 [(.box [(.dat (.lst ((List.map intD) p0.dims))), (intPV p0.write), (.dat (.lst ((List.map intD) p0.steps))), (intPV p0.read.kind), (intPV p0.read.buffer), (intPV p0.read.base), (.dat (.lst ((List.map intD) p0.read.strides))), (intPV p0.read.start), (intPV p0.read.step), (intPV p0.read.mod)]), (.box [(.dat (.lst ((List.map intD) []))), (intPV 0), (.dat (.lst ((List.map intD) []))), (intPV 0), (intPV 0), (intPV 0), (.dat (.lst ((List.map intD) []))), (intPV 0), (intPV 0), (intPV 0)]), (.box [(.ms 3 1 0 v207.length v2.length), (intPV p0.write), (.ms 4 1 0 v208.length v4.length), (intPV p0.read.kind), (intPV p0.read.buffer), (intPV p0.read.base), (.ms 5 1 0 v209.length v6.length), (intPV p0.read.start), (intPV p0.read.step), (intPV p0.read.mod)]), (.mt 3 1 (cellsOf intD v207)), (.mt 3 1 (cellsOf intD v208)), (.mt 3 1 (cellsOf intD v209))] (fun _ => (pg_cons (by kernel_rfl) (pg_cons (by kernel_rfl) (pg_cons (by kernel_rfl) (pg_cons (purge_mt intD _ _ _ _ _) (pg_cons (purge_mt intD _ _ _ _ _) (pg_cons (purge_mt intD _ _ _ _ _) pg_nil))))))) rfl)
  replace hm := neg_inv hc hm
  refine R_exit ?_
  obtain rfl := inj1 hm
  exact ⟨rfl, cut_leaf (by kernel_rfl)⟩
def m_onf_Collapse (x : T_onf_Nest) : Option T_onf_Nest :=
  match x with
  | p0 =>
  m_onf_selected_int_b8645 p0.dims >>= fun ((v1, v2) : (Nat × (List Int))) =>
  m_onf_selected_int_b769e (p0.steps, p0.dims) >>= fun ((v3, v4) : (Nat × (List Int))) =>
  m_onf_selected_int_b769e (p0.read.strides, p0.dims) >>= fun ((v5, v6) : (Nat × (List Int))) =>
  m_onf_Collapse_L1 (v4, p0, v2, v6, v2, v4, v6, (W ((v2.length : Int) - 2))) >>= fun ((v607, v608, v609) : ((List Int) × (List Int) × (List Int))) =>
  some (⟨v607, p0.write, v608, (⟨p0.read.kind, p0.read.buffer, p0.read.base, v609, p0.read.start, p0.read.step, p0.read.mod⟩ : T_access_Access)⟩ : T_onf_Nest)
def P_onf_Collapse : T_onf_Nest → T_onf_Nest → Prop := fun x r => match x, r with
  | p0, r0 => ∀ H, PC prog env 23 ([(T_onf_Nest.toD p0)].map .dat) H (.dat (T_onf_Nest.toD r0)) H
theorem w_onf_Collapse : ∀ x r, m_onf_Collapse x = some r → P_onf_Collapse x r := by
  intro p0 r0 hm
  unfold m_onf_Collapse at hm
  unfold P_onf_Collapse
  intro H
  refine PC_sx (ds := [(T_onf_Nest.toD p0)]) (fn := f23) (by kernel_rfl) (by kernel_rfl) rfl ?_ (by kernel_rfl)
  refine R_seq ?_
  refine R_G ?_
  refine G_run 2 ?_
  refine G_end ?_
  refine R_seq ?_
  refine R_G ?_
  refine G_run 3 ?_
  refine G_end ?_
  refine R_seq ?_
  refine R_GD ?_
  refine G_run 4 ?_
  obtain ⟨⟨v1, v2⟩, hx, hm⟩ := bind_inv hm
  have hq := w_onf_selected_int_b8645 _ _ hx
  dsimp only [P_onf_selected_int_b8645] at hq
  have hl9 : mtOf [(.mt 3 v1 (cellsOf intD v2))] 0 = some (3, v1, cellsOf intD v2) := mtOf_at (by kernel_rfl)
  refine G_semH (v := .ms 3 1 0 v2.length v2.length) (fun H => H ++ [.mt 3 1 (cellsOf intD v2)]) rfl (by kernel_rfl) ?_ ?_
  · intro K hk
    refine E_callOwnN 3 (first := #[]) (cap := #[]) (j := (0, 3)) (ow' := []) (f0 := intD) (l := v2) rfl ?_ ?_ ?_ (ds := [(.lst ((List.map intD) p0.dims)), (.lst ((List.map intD) p0.dims))]) ?_ hq hl9 ?_ ?_ ?_
    · kernel_rfl
    · kernel_rfl
    · kernel_rfl
    · kernel_rfl
    · exact hk
    · kernel_rfl
    · decide
  refine G_run 4 ?_
  obtain ⟨⟨v3, v4⟩, hx, hm⟩ := bind_inv hm
  have hq := w_onf_selected_int_b769e _ _ hx
  dsimp only [P_onf_selected_int_b769e] at hq
  have hl9 : mtOf [(.mt 3 v3 (cellsOf intD v4))] 0 = some (3, v3, cellsOf intD v4) := mtOf_at (by kernel_rfl)
  refine G_semH (v := .ms 4 1 0 v4.length v4.length) (fun H => H ++ [.mt 3 1 (cellsOf intD v4)]) rfl (by kernel_rfl) ?_ ?_
  · intro K hk
    refine E_callOwnN 4 (first := #[]) (cap := #[]) (j := (0, 3)) (ow' := []) (f0 := intD) (l := v4) rfl ?_ ?_ ?_ (ds := [(.lst ((List.map intD) p0.steps)), (.lst ((List.map intD) p0.dims))]) ?_ hq hl9 ?_ ?_ ?_
    · kernel_rfl
    · kernel_rfl
    · kernel_rfl
    · kernel_rfl
    · exact hk
    · kernel_rfl
    · decide
  refine G_run 5 ?_
  obtain ⟨⟨v5, v6⟩, hx, hm⟩ := bind_inv hm
  have hq := w_onf_selected_int_b769e _ _ hx
  dsimp only [P_onf_selected_int_b769e] at hq
  have hl9 : mtOf [(.mt 3 v5 (cellsOf intD v6))] 0 = some (3, v5, cellsOf intD v6) := mtOf_at (by kernel_rfl)
  refine G_semH (v := .ms 5 1 0 v6.length v6.length) (fun H => H ++ [.mt 3 1 (cellsOf intD v6)]) rfl (by kernel_rfl) ?_ ?_
  · intro K hk
    refine E_callOwnN 5 (first := #[]) (cap := #[]) (j := (0, 3)) (ow' := []) (f0 := intD) (l := v6) rfl ?_ ?_ ?_ (ds := [(.lst ((List.map intD) p0.read.strides)), (.lst ((List.map intD) p0.dims))]) ?_ hq hl9 ?_ ?_ ?_
    · kernel_rfl
    · kernel_rfl
    · kernel_rfl
    · kernel_rfl
    · exact hk
    · kernel_rfl
    · decide
  refine G_run 7 ?_
  refine G_end ⟨by kernel_rfl, ?_⟩
  refine R_seq ?_
  refine R_G ?_
  refine G_run 2 ?_
  refine G_end ?_
  refine R_seq ?_
  refine R_seq ?_
  refine R_G ?_
  refine G_run 2 ?_
  refine G_run 1 ?_
  refine G_run 2 ?_
  refine G_end ?_
  refine R_block ?_
  obtain ⟨⟨v607, v608, v609⟩, hs, hm⟩ := bind_inv hm
  refine R_loop ?_
  refine RL_use (w_onf_Collapse_L1 _ _ hs) (prune_of2 [(.box [(.dat (.lst ((List.map intD) p0.dims))), (intPV p0.write), (.dat (.lst ((List.map intD) p0.steps))), (intPV p0.read.kind), (intPV p0.read.buffer), (intPV p0.read.base), (.dat (.lst ((List.map intD) p0.read.strides))), (intPV p0.read.start), (intPV p0.read.step), (intPV p0.read.mod)]), (.box [(.dat (.lst ((List.map intD) []))), (intPV 0), (.dat (.lst ((List.map intD) []))), (intPV 0), (intPV 0), (intPV 0), (.dat (.lst ((List.map intD) []))), (intPV 0), (intPV 0), (intPV 0)]), (.box [(.ms 3 1 0 v2.length v2.length), (intPV p0.write), (.ms 4 1 0 v4.length v4.length), (intPV p0.read.kind), (intPV p0.read.buffer), (intPV p0.read.base), (.ms 5 1 0 v6.length v6.length), (intPV p0.read.start), (intPV p0.read.step), (intPV p0.read.mod)]), (.mt 3 1 (cellsOf intD v2)), (.mt 3 1 (cellsOf intD v4)), (.mt 3 1 (cellsOf intD v6))] (fun _ => (pg_cons (by kernel_rfl) (pg_cons (by kernel_rfl) (pg_cons (by kernel_rfl) (pg_cons (purge_mt intD _ _ _ _ _) (pg_cons (purge_mt intD _ _ _ _ _) (pg_cons (purge_mt intD _ _ _ _ _) pg_nil))))))) rfl) ?_
  clear hs
  intro e s hp
  obtain ⟨rfl, d, rfl⟩ := hp
  refine R_seq ?_
  refine R_G ?_
  refine G_run 2 ?_
  refine G_end ?_
  refine R_ret ?_
  obtain rfl := inj1 hm
  exact ⟨trivial, fin_pureX [(.agg [(.ms 3 1 0 v607.length v2.length), (intPV p0.write), (.ms 4 1 0 v608.length v4.length), (intPV p0.read.kind), (intPV p0.read.buffer), (intPV p0.read.base), (.ms 5 1 0 v609.length v6.length), (intPV p0.read.start), (intPV p0.read.step), (intPV p0.read.mod)])] (by kernel_rfl) (po_agg (pc_cons (pc_ms (e := 3) intD v607 rfl (fun _ => rfl) (by kernel_rfl)) (pc_cons (by kernel_rfl) (pc_cons (pc_ms (e := 3) intD v608 rfl (fun _ => rfl) (by kernel_rfl)) (pc_cons (by kernel_rfl) (pc_cons (by kernel_rfl) (pc_cons (by kernel_rfl) (pc_cons (pc_ms (e := 3) intD v609 rfl (fun _ => rfl) (by kernel_rfl)) (pc_cons (by kernel_rfl) (pc_cons (by kernel_rfl) (pc_cons (by kernel_rfl) pc_nil)))))))))))⟩
end Go.Proofs.Try
namespace Go.Proofs.Try
open Go Go.Pm
set_option linter.unusedVariables false
set_option maxHeartbeats 2000000
set_option maxRecDepth 2000
def m_ref21_drop_b714d_L1 (x : ((List Int) × Int × Nat × (List Int) × Int)) : Option ((Nat × (List Int))) :=
  match x with
  | (q0, q1, v201, v202, v203) =>
  if v203 < (q0.length : Int) then
    if v203 ≠ q1 then
      idx q0 v203 >>= fun v603 =>
      app 8 v202 ([v603] : List Int) >>= fun v604 =>
      m_ref21_drop_b714d_L1 (q0, q1, (gb v201 ([v603] : List Int).isEmpty), v604, (W (v203 + 1)))
    else
    m_ref21_drop_b714d_L1 (q0, q1, v201, v202, (W (v203 + 1)))
  else
  some (v201, v202)
  partial_fixpoint
def P_ref21_drop_b714d_L1 : ((List Int) × Int × Nat × (List Int) × Int) → (Nat × (List Int)) → Prop := fun x r => match x with
  | (q0, q1, v201, v202, v203) => ∀ st, prune 1 ((firstRegion (codeAt [1, 1, 0, 1, 0, 0] (bodyOf f93))).bind (env.hint 93).keepAt) st = ⟨kp 24 [(0, (.dat (.lst ((List.map intD) q0)))), (1, (intPV q1)), (5, (.ms 0 v201 0 v202.length v202.length)), (6, (intPV v203))], [(.mt 3 v201 (cellsOf intD v202))]⟩ →
    RL prog env (env.hint 93) true (codeAt [1, 1, 0, 1, 0, 0] (bodyOf f93)) 1 st (fun e s => match r with | (v601, v602) => e = .exit 0 ∧ ∃ d, s = ⟨sl d 24 [(5, (.ms 0 v601 0 v602.length v602.length))], [(.mt 3 v601 (cellsOf intD v602))]⟩)
theorem w_ref21_drop_b714d_L1 : ∀ x r, m_ref21_drop_b714d_L1 x = some r → P_ref21_drop_b714d_L1 x r := by
  refine m_ref21_drop_b714d_L1.partial_correctness _ (fun m_ref21_drop_b714d_L1 w_ref21_drop_b714d_L1 x r hm => ?_)
  unfold P_ref21_drop_b714d_L1
  obtain ⟨q0, q1, v201, v202, v203⟩ := x
  intro st hst
  refine RL_at hst ?_
  clear hst
  refine R_seq ?_
  refine R_seq ?_
  refine R_G ?_
  refine G_run 2 ?_
  refine I_len intD q0 (es := (List.map intD) q0) rfl ?_
  refine G_run 1 ?_
  refine G_end ?_
  refine R_ifp (p := v203 < (q0.length : Int)) (rfl) (fun hc => ?_) (fun hc => ?_)
  · replace hm := pos_inv hc hm
    refine R_skip ?_
    refine R_seq ?_
    refine R_block ?_
    refine R_seq ?_
    refine R_G ?_
    refine G_run 3 ?_
    refine G_end ?_
    refine R_ifp (p := v203 ≠ q1) (ne_dec _ _) (fun hc => ?_) (fun hc => ?_)
    · replace hm := pos_inv hc hm
      refine R_G ?_
      refine G_run 3 ?_
      obtain ⟨v603, hx, hm⟩ := bind_inv hm
      refine I_idx 1 intD q0 v203 v603 (es := (List.map intD) q0) (d := (intD v603)) rfl hx rfl rfl ?_
      refine G_run 2 ?_
      obtain ⟨v604, hx, hm⟩ := bind_inv hm
      refine G_semH (v := .ms 0 (gb v201 ([v603] : List Int).isEmpty) 0 v604.length v604.length) (fun H => H.set 0 (.mt 3 (gb v201 ([v603] : List Int).isEmpty) (cellsOf intD v604))) rfl (by kernel_rfl) (fun _ hk => E_apMs intD (l := v202) (es := ([v603] : List Int)) (bytes := 8) (e := 3) (tt := 0) (g := v201) (m := v202.length) hx (fun _ => rfl) (by kernel_rfl) (by kernel_rfl) (by kernel_rfl) (by kernel_rfl) rfl rfl (by kernel_rfl) rfl (by kernel_rfl) (by kernel_rfl) hk) ?_
      refine G_run 1 ?_
      refine G_end ?_
      refine R_G ?_
      refine G_run 3 ?_
      refine G_end ?_
      exact w_ref21_drop_b714d_L1 _ _ hm _ (prune_of2 [(.mt 3 (gb v201 ([v603] : List Int).isEmpty) (cellsOf intD v604))] (fun _ => (pg_cons (purge_mt intD _ _ _ _ _) pg_nil)) rfl)
    replace hm := neg_inv hc hm
    refine R_skip ?_
    refine R_G ?_
    refine G_run 3 ?_
    refine G_end ?_
    exact w_ref21_drop_b714d_L1 _ _ hm _ (prune_of2 [(.mt 3 v201 (cellsOf intD v202))] (fun _ => (pg_cons (purge_mt intD _ _ _ _ _) pg_nil)) rfl)
  replace hm := neg_inv hc hm
  refine R_exit ?_
  obtain rfl := inj1 hm
  exact ⟨rfl, cut_leaf (by kernel_rfl)⟩
def m_ref21_drop_b714d (x : ((List Int) × Int)) : Option ((Nat × (List Int))) :=
  match x with
  | (q0, q1) =>
  m_ref21_drop_b714d_L1 (q0, q1, 0, ([] : List Int), 0) >>= fun ((v601, v602) : (Nat × (List Int))) =>
  some (v601, v602)
def P_ref21_drop_b714d : ((List Int) × Int) → (Nat × (List Int)) → Prop := fun x r => match x with
  | (q0, q1) => PC prog env 93 [(.dat (.lst ((List.map intD) q0))), (intPV q1)] [] (match r with | (v5001, v5002) => (.ms 0 v5001 0 v5002.length v5002.length)) (match r with | (v5001, v5002) => [(.mt 3 v5001 (cellsOf intD v5002))])
theorem w_ref21_drop_b714d : ∀ x r, m_ref21_drop_b714d x = some r → P_ref21_drop_b714d x r := by
  intro x r hm
  unfold m_ref21_drop_b714d at hm
  unfold P_ref21_drop_b714d
  obtain ⟨q0, q1⟩ := x
  refine PC_sxB (fn := f93) (by kernel_rfl) (by kernel_rfl) rfl ?_
  refine R_seq ?_
  refine R_G ?_
  refine G_run 1 ?_
  refine G_end ?_
  refine R_seq ?_
  refine R_G ?_
  refine G_run 1 ?_
  refine G_end ?_
  refine R_seq ?_
  refine R_seq ?_
  refine R_G ?_
  refine G_run 1 ?_
  refine G_end ?_
  refine R_block ?_
  obtain ⟨⟨v601, v602⟩, hs, hm⟩ := bind_inv hm
  refine R_loop ?_
  refine RL_use (w_ref21_drop_b714d_L1 _ _ hs) (prune_of2 [(.mt 3 0 (cellsOf intD ([] : List Int)))] (fun _ => (pg_cons (purge_mt intD _ _ _ _ _) pg_nil)) rfl) ?_
  clear hs
  intro e s hp
  obtain ⟨rfl, d, rfl⟩ := hp
  refine R_seq ?_
  refine R_G ?_
  refine G_run 2 ?_
  refine G_end ?_
  refine R_ret ?_
  obtain rfl := inj1 hm
  exact ⟨trivial, fin_body (by kernel_rfl) (by kernel_rfl)⟩
end Go.Proofs.Try
namespace Go.Proofs.Try
open Go Go.Pm
set_option linter.unusedVariables false
set_option maxHeartbeats 2000000
set_option maxRecDepth 2000
def m_ref21_without_b7c21 (x : ((List Int) × Int × (List Int) × Int × Int × Int × (List Int) × Int × Int × Int × Int)) : Option (((List Int) × (List Int) × (List Int))) :=
  match x with
  | (q0, q1, q2, q3, q4, q5, q6, q7, q8, q9, q10) =>
  m_ref21_drop_b714d (q0, q10) >>= fun ((v1, v2) : (Nat × (List Int))) =>
  m_ref21_drop_b714d (q2, q10) >>= fun ((v3, v4) : (Nat × (List Int))) =>
  m_ref21_drop_b714d (q6, q10) >>= fun ((v5, v6) : (Nat × (List Int))) =>
  some (v2, v4, v6)
def P_ref21_without_b7c21 : ((List Int) × Int × (List Int) × Int × Int × Int × (List Int) × Int × Int × Int × Int) → ((List Int) × (List Int) × (List Int)) → Prop := fun x r => match x with
  | (q0, q1, q2, q3, q4, q5, q6, q7, q8, q9, q10) => PC prog env 58 [(.dat (.agg [(.lst ((List.map intD) q0)), (intD q1), (.lst ((List.map intD) q2)), (intD q3), (intD q4), (intD q5), (.lst ((List.map intD) q6)), (intD q7), (intD q8), (intD q9)])), (intPV q10)] [(.box [(.dat (.lst ((List.map intD) q0))), (intPV q1), (.dat (.lst ((List.map intD) q2))), (intPV q3), (intPV q4), (intPV q5), (.dat (.lst ((List.map intD) q6))), (intPV q7), (intPV q8), (intPV q9)]), (.box [(.dat (.lst ((List.map intD) []))), (intPV 0), (.dat (.lst ((List.map intD) []))), (intPV 0), (intPV 0), (intPV 0), (.dat (.lst ((List.map intD) []))), (intPV 0), (intPV 0), (intPV 0)])] (match r with | (v5001, v5002, v5003) => (.agg [(.ms 4 1 0 v5001.length v5001.length), (intPV q1), (.ms 5 1 0 v5002.length v5002.length), (intPV q3), (intPV q4), (intPV q5), (.ms 6 1 0 v5003.length v5003.length), (intPV q7), (intPV q8), (intPV q9)])) (match r with | (v5001, v5002, v5003) => [(.box [(.dat (.lst ((List.map intD) q0))), (intPV q1), (.dat (.lst ((List.map intD) q2))), (intPV q3), (intPV q4), (intPV q5), (.dat (.lst ((List.map intD) q6))), (intPV q7), (intPV q8), (intPV q9)]), (.box [(.dat (.lst ((List.map intD) []))), (intPV 0), (.dat (.lst ((List.map intD) []))), (intPV 0), (intPV 0), (intPV 0), (.dat (.lst ((List.map intD) []))), (intPV 0), (intPV 0), (intPV 0)]), (.box [(.ms 4 1 0 v5001.length v5001.length), (intPV q1), (.ms 5 1 0 v5002.length v5002.length), (intPV q3), (intPV q4), (intPV q5), (.ms 6 1 0 v5003.length v5003.length), (intPV q7), (intPV q8), (intPV q9)]), (.box [(.ms 4 1 0 v5001.length v5001.length), (intPV q1), (.ms 5 1 0 v5002.length v5002.length), (intPV q3), (intPV q4), (intPV q5), (.ms 6 1 0 v5003.length v5003.length), (intPV q7), (intPV q8), (intPV q9)]), (.mt 3 1 (cellsOf intD v5001)), (.mt 3 1 (cellsOf intD v5002)), (.mt 3 1 (cellsOf intD v5003))])
theorem w_ref21_without_b7c21 : ∀ x r, m_ref21_without_b7c21 x = some r → P_ref21_without_b7c21 x r := by
  intro x r hm
  unfold m_ref21_without_b7c21 at hm
  unfold P_ref21_without_b7c21
  obtain ⟨q0, q1, q2, q3, q4, q5, q6, q7, q8, q9, q10⟩ := x
  refine PC_sxB (fn := f58) (by kernel_rfl) (by kernel_rfl) rfl ?_
  refine R_seq ?_
  refine R_G ?_
  refine G_run 2 ?_
  refine G_end ?_
  refine R_seq ?_
  refine R_G ?_
  refine G_run 3 ?_
  obtain ⟨⟨v1, v2⟩, hx, hm⟩ := bind_inv hm
  have hq := w_ref21_drop_b714d _ _ hx
  dsimp only [P_ref21_drop_b714d] at hq
  have hl9 : mtOf [(.mt 3 v1 (cellsOf intD v2))] 0 = some (3, v1, cellsOf intD v2) := mtOf_at (by kernel_rfl)
  refine G_semH (v := .ms 4 1 0 v2.length v2.length) (fun H => H ++ [.mt 3 1 (cellsOf intD v2)]) rfl (by kernel_rfl) ?_ ?_
  · intro K hk
    refine E_callOwnN 4 (first := #[]) (cap := #[]) (j := (0, 3)) (ow' := []) (f0 := intD) (l := v2) rfl ?_ ?_ ?_ (ds := [(.lst ((List.map intD) q0)), (intD q10)]) ?_ hq hl9 ?_ ?_ ?_
    · kernel_rfl
    · kernel_rfl
    · kernel_rfl
    · kernel_rfl
    · exact hk
    · kernel_rfl
    · decide
  refine G_run 2 ?_
  refine G_end ?_
  refine R_seq ?_
  refine R_G ?_
  refine G_run 3 ?_
  obtain ⟨⟨v3, v4⟩, hx, hm⟩ := bind_inv hm
  have hq := w_ref21_drop_b714d _ _ hx
  dsimp only [P_ref21_drop_b714d] at hq
  have hl9 : mtOf [(.mt 3 v3 (cellsOf intD v4))] 0 = some (3, v3, cellsOf intD v4) := mtOf_at (by kernel_rfl)
  refine G_semH (v := .ms 5 1 0 v4.length v4.length) (fun H => H ++ [.mt 3 1 (cellsOf intD v4)]) rfl (by kernel_rfl) ?_ ?_
  · intro K hk
    refine E_callOwnN 5 (first := #[]) (cap := #[]) (j := (0, 3)) (ow' := []) (f0 := intD) (l := v4) rfl ?_ ?_ ?_ (ds := [(.lst ((List.map intD) q2)), (intD q10)]) ?_ hq hl9 ?_ ?_ ?_
    · kernel_rfl
    · kernel_rfl
    · kernel_rfl
    · kernel_rfl
    · exact hk
    · kernel_rfl
    · decide
  refine G_run 2 ?_
  refine G_end ?_
  refine R_seq ?_
  refine R_G ?_
  refine G_run 4 ?_
  obtain ⟨⟨v5, v6⟩, hx, hm⟩ := bind_inv hm
  have hq := w_ref21_drop_b714d _ _ hx
  dsimp only [P_ref21_drop_b714d] at hq
  have hl9 : mtOf [(.mt 3 v5 (cellsOf intD v6))] 0 = some (3, v5, cellsOf intD v6) := mtOf_at (by kernel_rfl)
  refine G_semH (v := .ms 6 1 0 v6.length v6.length) (fun H => H ++ [.mt 3 1 (cellsOf intD v6)]) rfl (by kernel_rfl) ?_ ?_
  · intro K hk
    refine E_callOwnN 6 (first := #[]) (cap := #[]) (j := (0, 3)) (ow' := []) (f0 := intD) (l := v6) rfl ?_ ?_ ?_ (ds := [(.lst ((List.map intD) q6)), (intD q10)]) ?_ hq hl9 ?_ ?_ ?_
    · kernel_rfl
    · kernel_rfl
    · kernel_rfl
    · kernel_rfl
    · exact hk
    · kernel_rfl
    · decide
  refine G_run 3 ?_
  refine G_end ?_
  refine R_seq ?_
  refine R_G ?_
  refine G_run 2 ?_
  refine G_end ?_
  refine R_ret ?_
  obtain rfl := inj1 hm
  exact ⟨trivial, fin_body (by kernel_rfl) (by kernel_rfl)⟩
end Go.Proofs.Try
namespace Go.Proofs.Try
open Go Go.Pm
set_option linter.unusedVariables false
set_option maxHeartbeats 2000000
set_option maxRecDepth 2000
def m_ref21_Collapse_L1 (x : (T_ref21_Nest × (List Int) × (List Int) × (List Int) × Int)) : Option (((List Int) × (List Int) × (List Int))) :=
  match x with
  | (p0, v201, v202, v203, v204) =>
  if v204 ≥ 0 then
    idx v201 v204 >>= fun v604 =>
    if v604 = 1 then
      m_ref21_without_b7c21 (v201, p0.write, v202, p0.read.kind, p0.read.buffer, p0.read.base, v203, p0.read.start, p0.read.step, p0.read.mod, v204) >>= fun ((v605, v606, v607) : ((List Int) × (List Int) × (List Int))) =>
      m_ref21_Collapse_L1 (p0, v605, v606, v607, (W (v204 - 1)))
    else
    m_ref21_Collapse_L1 (p0, v201, v202, v203, (W (v204 - 1)))
  else
  some (v201, v202, v203)
  partial_fixpoint
def P_ref21_Collapse_L1 : (T_ref21_Nest × (List Int) × (List Int) × (List Int) × Int) → ((List Int) × (List Int) × (List Int)) → Prop := fun x r => match x with
  | (p0, v201, v202, v203, v204) => ∀ st, prune 2 ((firstRegion (codeAt [1, 0, 1, 0, 0] (bodyOf f25))).bind (env.hint 25).keepAt) st = ⟨kp 92 [(1, (.ptr 0 0)), (2, (.ptr 1 0)), (3, (intPV v204))], [(.box [(.dat (.lst ((List.map intD) v201))), (intPV p0.write), (.dat (.lst ((List.map intD) v202))), (intPV p0.read.kind), (intPV p0.read.buffer), (intPV p0.read.base), (.dat (.lst ((List.map intD) v203))), (intPV p0.read.start), (intPV p0.read.step), (intPV p0.read.mod)]), (.box [(.dat (.lst ((List.map intD) []))), (intPV 0), (.dat (.lst ((List.map intD) []))), (intPV 0), (intPV 0), (intPV 0), (.dat (.lst ((List.map intD) []))), (intPV 0), (intPV 0), (intPV 0)])]⟩ →
    RL prog env (env.hint 25) true (codeAt [1, 0, 1, 0, 0] (bodyOf f25)) 2 st (fun e s => match r with | (v601, v602, v603) => e = .exit 0 ∧ ∃ d, s = ⟨sl d 92 [(1, (.ptr 0 0)), (2, (.ptr 1 0))], [(.box [(.dat (.lst ((List.map intD) v601))), (intPV p0.write), (.dat (.lst ((List.map intD) v602))), (intPV p0.read.kind), (intPV p0.read.buffer), (intPV p0.read.base), (.dat (.lst ((List.map intD) v603))), (intPV p0.read.start), (intPV p0.read.step), (intPV p0.read.mod)]), (.box [(.dat (.lst ((List.map intD) []))), (intPV 0), (.dat (.lst ((List.map intD) []))), (intPV 0), (intPV 0), (intPV 0), (.dat (.lst ((List.map intD) []))), (intPV 0), (intPV 0), (intPV 0)])]⟩)
theorem w_ref21_Collapse_L1 : ∀ x r, m_ref21_Collapse_L1 x = some r → P_ref21_Collapse_L1 x r := by
  refine m_ref21_Collapse_L1.partial_correctness _ (fun m_ref21_Collapse_L1 w_ref21_Collapse_L1 x r hm => ?_)
  unfold P_ref21_Collapse_L1
  obtain ⟨p0, v201, v202, v203, v204⟩ := x
  intro st hst
  refine RL_at hst ?_
  clear hst
  refine R_seq ?_
  refine R_seq ?_
  refine R_G ?_
  refine G_run 2 ?_
  refine G_end ?_
  refine R_ifp (p := v204 ≥ 0) (rfl) (fun hc => ?_) (fun hc => ?_)
  · replace hm := pos_inv hc hm
    refine R_skip ?_
    refine R_seq ?_
    refine R_block ?_
    refine R_seq ?_
    refine R_G ?_
    refine G_run 3 ?_
    obtain ⟨v604, hx, hm⟩ := bind_inv hm
    refine I_idx 1 intD v201 v204 v604 (es := (List.map intD) v201) (d := (intD v604)) rfl hx rfl rfl ?_
    refine G_run 2 ?_
    refine G_end ?_
    refine R_ifp (p := v604 = 1) (eq_dec _ _) (fun hc => ?_) (fun hc => ?_)
    · replace hm := pos_inv hc hm
      refine R_G ?_
      refine G_run 2 ?_
      obtain ⟨⟨v605, v606, v607⟩, hx, hm⟩ := bind_inv hm
      have hq := w_ref21_without_b7c21 _ _ hx
      dsimp only [P_ref21_without_b7c21] at hq
      refine G_callB hq ?_
      refine G_run 1 ?_
      refine G_end ?_
      refine R_G ?_
      refine G_run 3 ?_
      refine G_end ?_
      exact w_ref21_Collapse_L1 _ _ hm _ (prune_of4 (HH := [(.box [(.ms 4 1 0 v605.length v605.length), (intPV p0.write), (.ms 5 1 0 v606.length v606.length), (intPV p0.read.kind), (intPV p0.read.buffer), (intPV p0.read.base), (.ms 6 1 0 v607.length v607.length), (intPV p0.read.start), (intPV p0.read.step), (intPV p0.read.mod)]), (.box [(.dat (.lst ((List.map intD) []))), (intPV 0), (.dat (.lst ((List.map intD) []))), (intPV 0), (intPV 0), (intPV 0), (.dat (.lst ((List.map intD) []))), (intPV 0), (intPV 0), (intPV 0)]), (.box [(.ms 4 1 0 v605.length v605.length), (intPV p0.write), (.ms 5 1 0 v606.length v606.length), (intPV p0.read.kind), (intPV p0.read.buffer), (intPV p0.read.base), (.ms 6 1 0 v607.length v607.length), (intPV p0.read.start), (intPV p0.read.step), (intPV p0.read.mod)]), (.box [(.ms 4 1 0 v605.length v605.length), (intPV p0.write), (.ms 5 1 0 v606.length v606.length), (intPV p0.read.kind), (intPV p0.read.buffer), (intPV p0.read.base), (.ms 6 1 0 v607.length v607.length), (intPV p0.read.start), (intPV p0.read.step), (intPV p0.read.mod)]), (.mt 3 1 (cellsOf intD v605)), (.mt 3 1 (cellsOf intD v606)), (.mt 3 1 (cellsOf intD v607))]) rfl (pg_cons (pgb_box (pgc_cons (pgc_ms (by kernel_rfl) (pc_ms (e := 3) intD v605 rfl (fun _ => rfl) (by kernel_rfl))) (pgc_cons (by kernel_rfl) (pgc_cons (pgc_ms (by kernel_rfl) (pc_ms (e := 3) intD v606 rfl (fun _ => rfl) (by kernel_rfl))) (pgc_cons (by kernel_rfl) (pgc_cons (by kernel_rfl) (pgc_cons (by kernel_rfl) (pgc_cons (pgc_ms (by kernel_rfl) (pc_ms (e := 3) intD v607 rfl (fun _ => rfl) (by kernel_rfl))) (pgc_cons (by kernel_rfl) (pgc_cons (by kernel_rfl) (pgc_cons (by kernel_rfl) pgc_nil))))))))))) (pg_cons (pgb_box (pgc_cons (by kernel_rfl) (pgc_cons (by kernel_rfl) (pgc_cons (by kernel_rfl) (pgc_cons (by kernel_rfl) (pgc_cons (by kernel_rfl) (pgc_cons (by kernel_rfl) (pgc_cons (by kernel_rfl) (pgc_cons (by kernel_rfl) (pgc_cons (by kernel_rfl) (pgc_cons (by kernel_rfl) pgc_nil))))))))))) pg_nil)))
    replace hm := neg_inv hc hm
    refine R_skip ?_
    refine R_G ?_
    refine G_run 3 ?_
    refine G_end ?_
    exact w_ref21_Collapse_L1 _ _ hm _ (by kernel_rfl)
  replace hm := neg_inv hc hm
  refine R_exit ?_
  obtain rfl := inj1 hm
  exact ⟨rfl, cut_leaf (by kernel_rfl)⟩
def m_ref21_Collapse_L2 (x : (T_ref21_Nest × (List Int) × (List Int) × (List Int) × Int)) : Option (((List Int) × (List Int) × (List Int))) :=
  match x with
  | (p0, v808, v809, v810, v811) =>
  if v811 ≥ 0 then
    idx v808 (W (v811 + 1)) >>= fun v1211 =>
    (idx v809 v811 >>= fun v1213 =>
    idx v809 (W (v811 + 1)) >>= fun v1214 =>
    if v1213 ≠ (W (v1211 * v1214)) then
      some true
    else
    if p0.read.kind ≠ 1 then
      idx v810 v811 >>= fun v1215 =>
      idx v810 (W (v811 + 1)) >>= fun v1216 =>
      some (v1215 != (W (v1211 * v1216)))
    else
    some false
    ) >>= fun (v1212 : Bool) =>
    if v1212 = true then
      m_ref21_Collapse_L2 (p0, v808, v809, v810, (W (v811 - 1)))
    else
    idx v808 v811 >>= fun v1217 =>
    m_ref21_without_b7c21 (v808, p0.write, v809, p0.read.kind, p0.read.buffer, p0.read.base, v810, p0.read.start, p0.read.step, p0.read.mod, v811) >>= fun ((v1218, v1219, v1220) : ((List Int) × (List Int) × (List Int))) =>
    idx v1218 v811 >>= fun v1221 =>
    setM v1218 v811 (W (v1217 * v1211)) >>= fun v1222 =>
    guardM (v1222.length = v1218.length) >>= fun (_ : Unit) =>
    m_ref21_Collapse_L2 (p0, v1222, v1219, v1220, (W (v811 - 1)))
  else
  some (v808, v809, v810)
  partial_fixpoint
def P_ref21_Collapse_L2 : (T_ref21_Nest × (List Int) × (List Int) × (List Int) × Int) → ((List Int) × (List Int) × (List Int)) → Prop := fun x r => match x with
  | (p0, v808, v809, v810, v811) => ∀ st, prune 2 ((firstRegion (codeAt [1, 1, 0, 1, 0, 0] (bodyOf f25))).bind (env.hint 25).keepAt) st = ⟨kp 92 [(1, (.ptr 0 0)), (2, (.ptr 1 0)), (4, (intPV v811))], [(.box [(.dat (.lst ((List.map intD) v808))), (intPV p0.write), (.dat (.lst ((List.map intD) v809))), (intPV p0.read.kind), (intPV p0.read.buffer), (intPV p0.read.base), (.dat (.lst ((List.map intD) v810))), (intPV p0.read.start), (intPV p0.read.step), (intPV p0.read.mod)]), (.box [(.dat (.lst ((List.map intD) []))), (intPV 0), (.dat (.lst ((List.map intD) []))), (intPV 0), (intPV 0), (intPV 0), (.dat (.lst ((List.map intD) []))), (intPV 0), (intPV 0), (intPV 0)])]⟩ →
    RL prog env (env.hint 25) true (codeAt [1, 1, 0, 1, 0, 0] (bodyOf f25)) 2 st (fun e s => match r with | (v1208, v1209, v1210) => e = .exit 2 ∧ ∃ d, s = ⟨sl d 92 [(1, (.ptr 0 0)), (2, (.ptr 1 0))], [(.box [(.dat (.lst ((List.map intD) v1208))), (intPV p0.write), (.dat (.lst ((List.map intD) v1209))), (intPV p0.read.kind), (intPV p0.read.buffer), (intPV p0.read.base), (.dat (.lst ((List.map intD) v1210))), (intPV p0.read.start), (intPV p0.read.step), (intPV p0.read.mod)]), (.box [(.dat (.lst ((List.map intD) []))), (intPV 0), (.dat (.lst ((List.map intD) []))), (intPV 0), (intPV 0), (intPV 0), (.dat (.lst ((List.map intD) []))), (intPV 0), (intPV 0), (intPV 0)])]⟩)
theorem w_ref21_Collapse_L2 : ∀ x r, m_ref21_Collapse_L2 x = some r → P_ref21_Collapse_L2 x r := by
  refine m_ref21_Collapse_L2.partial_correctness _ (fun m_ref21_Collapse_L2 w_ref21_Collapse_L2 x r hm => ?_)
  unfold P_ref21_Collapse_L2
  obtain ⟨p0, v808, v809, v810, v811⟩ := x
  intro st hst
  refine RL_at hst ?_
  clear hst
  refine R_seq ?_
  refine R_seq ?_
  refine R_G ?_
  refine G_run 2 ?_
  refine G_end ?_
  refine R_ifp (p := v811 ≥ 0) (rfl) (fun hc => ?_) (fun hc => ?_)
  · replace hm := pos_inv hc hm
    refine R_skip ?_
    refine R_seq ?_
    refine R_block ?_
    refine R_seq ?_
    refine R_G ?_
    refine G_run 4 ?_
    obtain ⟨v1211, hx, hm⟩ := bind_inv hm
    refine I_idx 1 intD v808 (W (v811 + 1)) v1211 (es := (List.map intD) v808) (d := (intD v1211)) rfl hx rfl rfl ?_
    refine G_run 2 ?_
    refine G_end ?_
    refine R_seq ?_
    refine R_seq ?_
    obtain ⟨v1212, hs, hm⟩ := bind_inv hm
    refine R_cut (fun d => ⟨sl d 92 [(1, (.ptr 0 0)), (2, (.ptr 1 0)), (4, (intPV v811)), (5, (intPV v1211)), (75, (boolPV v1212))], [(.box [(.dat (.lst ((List.map intD) v808))), (intPV p0.write), (.dat (.lst ((List.map intD) v809))), (intPV p0.read.kind), (intPV p0.read.buffer), (intPV p0.read.base), (.dat (.lst ((List.map intD) v810))), (intPV p0.read.start), (intPV p0.read.step), (intPV p0.read.mod)]), (.box [(.dat (.lst ((List.map intD) []))), (intPV 0), (.dat (.lst ((List.map intD) []))), (intPV 0), (intPV 0), (intPV 0), (.dat (.lst ((List.map intD) []))), (intPV 0), (intPV 0), (intPV 0)])]⟩) ?_ (fun d => ?_)
    · replace hm := hs
      clear hs
      refine R_GD ?_
      refine G_run 3 ?_
      obtain ⟨v1213, hx, hm⟩ := bind_inv hm
      refine I_idx 1 intD v809 v811 v1213 (es := (List.map intD) v809) (d := (intD v1213)) rfl hx rfl rfl ?_
      refine G_run 6 ?_
      obtain ⟨v1214, hx, hm⟩ := bind_inv hm
      refine I_idx 1 intD v809 (W (v811 + 1)) v1214 (es := (List.map intD) v809) (d := (intD v1214)) rfl hx rfl rfl ?_
      refine G_run 4 ?_
      refine G_split (p := v1213 ≠ (W (v1211 * v1214))) 52 (ne_dec _ _) (fun hc => ?_) (fun hc => ?_)
      · replace hm := pos_inv hc hm
        refine G_run 23 ?_
        refine G_end ⟨by kernel_rfl, ?_⟩
        obtain rfl := inj1 hm
        exact cut_leaf (by kernel_rfl)
      replace hm := neg_inv hc hm
      refine G_run 5 ?_
      refine G_split (p := p0.read.kind ≠ 1) 57 (ne_dec _ _) (fun hc => ?_) (fun hc => ?_)
      · replace hm := pos_inv hc hm
        refine G_run 4 ?_
        obtain ⟨v1215, hx, hm⟩ := bind_inv hm
        refine I_idx 1 intD v810 v811 v1215 (es := (List.map intD) v810) (d := (intD v1215)) rfl hx rfl rfl ?_
        refine G_run 7 ?_
        obtain ⟨v1216, hx, hm⟩ := bind_inv hm
        refine I_idx 1 intD v810 (W (v811 + 1)) v1216 (es := (List.map intD) v810) (d := (intD v1216)) rfl hx rfl rfl ?_
        refine G_run 5 ?_
        refine G_end ⟨by kernel_rfl, ?_⟩
        obtain rfl := inj1 hm
        exact cut_leaf (by kernel_rfl)
      replace hm := neg_inv hc hm
      refine G_run 18 ?_
      refine G_end ⟨by kernel_rfl, ?_⟩
      obtain rfl := inj1 hm
      exact cut_leaf (by kernel_rfl)
    clear hs
    refine R_ifp (p := v1212 = true) (bool_dec _) (fun hc => ?_) (fun hc => ?_)
    · replace hm := pos_inv hc hm
      refine R_exit ?_
      refine R_G ?_
      refine G_run 3 ?_
      refine G_end ?_
      exact w_ref21_Collapse_L2 _ _ hm _ (by kernel_rfl)
    replace hm := neg_inv hc hm
    refine R_skip ?_
    refine R_seq ?_
    refine R_G ?_
    refine G_run 3 ?_
    obtain ⟨v1217, hx, hm⟩ := bind_inv hm
    refine I_idx 1 intD v808 v811 v1217 (es := (List.map intD) v808) (d := (intD v1217)) rfl hx rfl rfl ?_
    refine G_run 2 ?_
    refine G_end ?_
    refine R_seq ?_
    refine R_G ?_
    refine G_run 2 ?_
    obtain ⟨⟨v1218, v1219, v1220⟩, hx, hm⟩ := bind_inv hm
    have hq := w_ref21_without_b7c21 _ _ hx
    dsimp only [P_ref21_without_b7c21] at hq
    refine G_callB hq ?_
    refine G_run 1 ?_
    refine G_end ?_
    refine R_G ?_
    refine G_run 6 ?_
    obtain ⟨v1221, hx, hm⟩ := bind_inv hm
    refine G_semN rfl (by kernel_rfl) (fun _ => E_indexMs (e := 3) (n := v811) (j := (v811).toNat) (tt := 4) (g := 1) (lo := 0) (len := v1218.length) (cap := v1218.length) (k := .i64) (by kernel_rfl) (by kernel_rfl) rfl (by kernel_rfl) (by kernel_rfl) (idx_nat hx) (Nat.lt_of_lt_of_eq (idx_lt hx) rfl)) ?_
    obtain ⟨v1222, hx, hm⟩ := bind_inv hm
    refine G_semH (fun H => H.set 4 (.mt 3 1 (cellsOf intD v1222))) rfl (by kernel_rfl) (fun _ => E_stMs intD (l := v1218) (n := v811) (y := (W (v1217 * v1211))) hx (fun _ => rfl) (by kernel_rfl) rfl (by kernel_rfl) (by kernel_rfl) (by kernel_rfl) (by kernel_rfl)) ?_
    refine G_end ?_
    refine R_G ?_
    refine G_run 3 ?_
    refine G_end ?_
    obtain ⟨_, hl1223, hm⟩ := bind_inv hm
    replace hl1223 := guard_inv hl1223
    exact w_ref21_Collapse_L2 _ _ hm _ (prune_of4 (HH := [(.box [(.ms 4 1 0 v1218.length v1218.length), (intPV p0.write), (.ms 5 1 0 v1219.length v1219.length), (intPV p0.read.kind), (intPV p0.read.buffer), (intPV p0.read.base), (.ms 6 1 0 v1220.length v1220.length), (intPV p0.read.start), (intPV p0.read.step), (intPV p0.read.mod)]), (.box [(.dat (.lst ((List.map intD) []))), (intPV 0), (.dat (.lst ((List.map intD) []))), (intPV 0), (intPV 0), (intPV 0), (.dat (.lst ((List.map intD) []))), (intPV 0), (intPV 0), (intPV 0)]), (.box [(.ms 4 1 0 v1218.length v1218.length), (intPV p0.write), (.ms 5 1 0 v1219.length v1219.length), (intPV p0.read.kind), (intPV p0.read.buffer), (intPV p0.read.base), (.ms 6 1 0 v1220.length v1220.length), (intPV p0.read.start), (intPV p0.read.step), (intPV p0.read.mod)]), (.box [(.ms 4 1 0 v1218.length v1218.length), (intPV p0.write), (.ms 5 1 0 v1219.length v1219.length), (intPV p0.read.kind), (intPV p0.read.buffer), (intPV p0.read.base), (.ms 6 1 0 v1220.length v1220.length), (intPV p0.read.start), (intPV p0.read.step), (intPV p0.read.mod)]), (.mt 3 1 (cellsOf intD v1222)), (.mt 3 1 (cellsOf intD v1219)), (.mt 3 1 (cellsOf intD v1220))]) rfl (pg_cons (pgb_box (pgc_cons (pgc_ms (by kernel_rfl) (pc_ms (e := 3) intD v1222 hl1223 (fun _ => rfl) (by kernel_rfl))) (pgc_cons (by kernel_rfl) (pgc_cons (pgc_ms (by kernel_rfl) (pc_ms (e := 3) intD v1219 rfl (fun _ => rfl) (by kernel_rfl))) (pgc_cons (by kernel_rfl) (pgc_cons (by kernel_rfl) (pgc_cons (by kernel_rfl) (pgc_cons (pgc_ms (by kernel_rfl) (pc_ms (e := 3) intD v1220 rfl (fun _ => rfl) (by kernel_rfl))) (pgc_cons (by kernel_rfl) (pgc_cons (by kernel_rfl) (pgc_cons (by kernel_rfl) pgc_nil))))))))))) (pg_cons (pgb_box (pgc_cons (by kernel_rfl) (pgc_cons (by kernel_rfl) (pgc_cons (by kernel_rfl) (pgc_cons (by kernel_rfl) (pgc_cons (by kernel_rfl) (pgc_cons (by kernel_rfl) (pgc_cons (by kernel_rfl) (pgc_cons (by kernel_rfl) (pgc_cons (by kernel_rfl) (pgc_cons (by kernel_rfl) pgc_nil))))))))))) pg_nil)))
  replace hm := neg_inv hc hm
  refine R_exit ?_
  obtain rfl := inj1 hm
  exact ⟨rfl, cut_leaf (by kernel_rfl)⟩
def m_ref21_Collapse (x : T_ref21_Nest) : Option T_ref21_Nest :=
  match x with
  | p0 =>
  m_ref21_Collapse_L1 (p0, p0.dims, p0.steps, p0.read.strides, (W ((p0.dims.length : Int) - 1))) >>= fun ((v601, v602, v603) : ((List Int) × (List Int) × (List Int))) =>
  m_ref21_Collapse_L2 (p0, v601, v602, v603, (W ((v601.length : Int) - 2))) >>= fun ((v1208, v1209, v1210) : ((List Int) × (List Int) × (List Int))) =>
  some (⟨v1208, p0.write, v1209, (⟨p0.read.kind, p0.read.buffer, p0.read.base, v1210, p0.read.start, p0.read.step, p0.read.mod⟩ : T_ref17_Access)⟩ : T_ref21_Nest)
def P_ref21_Collapse : T_ref21_Nest → T_ref21_Nest → Prop := fun x r => match x, r with
  | p0, r0 => ∀ H, PC prog env 25 ([(T_ref21_Nest.toD p0)].map .dat) H (.dat (T_ref21_Nest.toD r0)) H
theorem w_ref21_Collapse : ∀ x r, m_ref21_Collapse x = some r → P_ref21_Collapse x r := by
  intro p0 r0 hm
  unfold m_ref21_Collapse at hm
  unfold P_ref21_Collapse
  intro H
  refine PC_sx (ds := [(T_ref21_Nest.toD p0)]) (fn := f25) (by kernel_rfl) (by kernel_rfl) rfl ?_ (by kernel_rfl)
  refine R_seq ?_
  refine R_G ?_
  refine G_run 2 ?_
  refine G_end ?_
  refine R_seq ?_
  refine R_seq ?_
  refine R_G ?_
  refine G_run 2 ?_
  refine I_len intD p0.dims (es := (List.map intD) p0.dims) rfl ?_
  refine G_run 2 ?_
  refine G_end ?_
  refine R_block ?_
  obtain ⟨⟨v601, v602, v603⟩, hs, hm⟩ := bind_inv hm
  refine R_loop ?_
  refine RL_use (w_ref21_Collapse_L1 _ _ hs) (by kernel_rfl) ?_
  clear hs
  intro e s hp
  obtain ⟨rfl, d, rfl⟩ := hp
  refine R_seq ?_
  refine R_seq ?_
  refine R_G ?_
  refine G_run 2 ?_
  refine I_len intD v601 (es := (List.map intD) v601) rfl ?_
  refine G_run 2 ?_
  refine G_end ?_
  refine R_block ?_
  obtain ⟨⟨v1208, v1209, v1210⟩, hs, hm⟩ := bind_inv hm
  refine R_loop ?_
  refine RL_use (w_ref21_Collapse_L2 _ _ hs) (by kernel_rfl) ?_
  clear hs
  intro e s hp
  obtain ⟨rfl, d, rfl⟩ := hp
  refine R_seq ?_
  refine R_G ?_
  refine G_run 2 ?_
  refine G_end ?_
  refine R_ret ?_
  obtain rfl := inj1 hm
  exact ⟨trivial, fin_pure (by kernel_rfl)⟩
end Go.Proofs.Try
namespace Go.Proofs.Try
open Go Go.Pm
set_option linter.unusedVariables false
set_option maxHeartbeats 2000000
set_option maxRecDepth 2000
def m_law21_Back (x : T_onf_Nest) : Option T_ref21_Nest :=
  match x with
  | p0 =>
  some (⟨p0.dims, p0.write, p0.steps, (⟨p0.read.kind, p0.read.buffer, p0.read.base, p0.read.strides, p0.read.start, p0.read.step, p0.read.mod⟩ : T_ref17_Access)⟩ : T_ref21_Nest)
def P_law21_Back : T_onf_Nest → T_ref21_Nest → Prop := fun x r => match x, r with
  | p0, r0 => ∀ H, PC prog env 27 ([(T_onf_Nest.toD p0)].map .dat) H (.dat (T_ref21_Nest.toD r0)) H
theorem w_law21_Back : ∀ x r, m_law21_Back x = some r → P_law21_Back x r := by
  intro p0 r0 hm
  unfold m_law21_Back at hm
  unfold P_law21_Back
  intro H
  refine PC_sx (ds := [(T_onf_Nest.toD p0)]) (fn := f27) (by kernel_rfl) (by kernel_rfl) rfl ?_ (by kernel_rfl)
  refine R_seq ?_
  refine R_G ?_
  refine G_run 2 ?_
  refine G_end ?_
  refine R_seq ?_
  refine R_G ?_
  refine G_run 10 ?_
  refine G_end ?_
  refine R_ret ?_
  obtain rfl := inj1 hm
  exact ⟨trivial, fin_pure (by kernel_rfl)⟩
end Go.Proofs.Try
namespace Go.Proofs.Try
open Go Go.Pm
set_option linter.unusedVariables false
set_option maxHeartbeats 2000000
set_option maxRecDepth 2000
def m_ref02_Equal_L1 (x : ((List Int) × (List Int) × Int)) : Option (Unit ⊕ Unit) :=
  match x with
  | (p0, p1, v201) =>
  if v201 < (p0.length : Int) then
    idx p0 v201 >>= fun v601 =>
    idx p1 v201 >>= fun v602 =>
    if v601 ≠ v602 then
      some (Sum.inl ())
    else
    m_ref02_Equal_L1 (p0, p1, (W (v201 + 1)))
  else
  some (Sum.inr ())
  partial_fixpoint
def P_ref02_Equal_L1 : ((List Int) × (List Int) × Int) → (Unit ⊕ Unit) → Prop := fun x r => match x with
  | (p0, p1, v201) => ∀ st, prune 0 ((firstRegion (codeAt [1, 1, 0, 1, 0, 0] (bodyOf f13))).bind (env.hint 13).keepAt) st = ⟨kp 26 [(0, (.dat (.lst ((List.map intD) p0)))), (1, (.dat (.lst ((List.map intD) p1)))), (5, (intPV v201))], []⟩ →
    RL prog env (env.hint 13) true (codeAt [1, 1, 0, 1, 0, 0] (bodyOf f13)) 0 st (fun e s => match r with | .inl _ => e = .ret ∧ ∃ d, s = ⟨sl d 26 [(4, (boolPV false))], []⟩ | .inr (_) => e = .exit 0 ∧ ∃ d, s = ⟨sl d 26 [], []⟩)
theorem w_ref02_Equal_L1 : ∀ x r, m_ref02_Equal_L1 x = some r → P_ref02_Equal_L1 x r := by
  refine m_ref02_Equal_L1.partial_correctness _ (fun m_ref02_Equal_L1 w_ref02_Equal_L1 x r hm => ?_)
  unfold P_ref02_Equal_L1
  obtain ⟨p0, p1, v201⟩ := x
  intro st hst
  refine RL_at hst ?_
  clear hst
  refine R_seq ?_
  refine R_seq ?_
  refine R_G ?_
  refine G_run 2 ?_
  refine I_len intD p0 (es := (List.map intD) p0) rfl ?_
  refine G_run 1 ?_
  refine G_end ?_
  refine R_ifp (p := v201 < (p0.length : Int)) (rfl) (fun hc => ?_) (fun hc => ?_)
  · replace hm := pos_inv hc hm
    refine R_skip ?_
    refine R_seq ?_
    refine R_block ?_
    refine R_seq ?_
    refine R_GD ?_
    refine G_run 2 ?_
    obtain ⟨v601, hx, hm⟩ := bind_inv hm
    refine I_idx 1 intD p0 v201 v601 (es := (List.map intD) p0) (d := (intD v601)) rfl hx rfl rfl ?_
    refine G_run 3 ?_
    obtain ⟨v602, hx, hm⟩ := bind_inv hm
    refine I_idx 1 intD p1 v201 v602 (es := (List.map intD) p1) (d := (intD v602)) rfl hx rfl rfl ?_
    refine G_run 2 ?_
    refine G_end ⟨by kernel_rfl, ?_⟩
    refine R_ifp (p := v601 ≠ v602) (ne_dec _ _) (fun hc => ?_) (fun hc => ?_)
    · replace hm := pos_inv hc hm
      refine R_seq ?_
      refine R_G ?_
      refine G_run 1 ?_
      refine G_end ?_
      refine R_ret ?_
      obtain rfl := inj1 hm
      exact ⟨rfl, cut_leaf (by kernel_rfl)⟩
    replace hm := neg_inv hc hm
    refine R_skip ?_
    refine R_G ?_
    refine G_run 3 ?_
    refine G_end ?_
    exact w_ref02_Equal_L1 _ _ hm _ (by kernel_rfl)
  replace hm := neg_inv hc hm
  refine R_exit ?_
  obtain rfl := inj1 hm
  exact ⟨rfl, cut_leaf (by kernel_rfl)⟩
def m_ref02_Equal (x : ((List Int) × (List Int))) : Option Bool :=
  match x with
  | (p0, p1) =>
  if (p0.length : Int) ≠ (p1.length : Int) then
    some false
  else
  (
  m_ref02_Equal_L1 (p0, p1, 0) >>= fun (out : Unit ⊕ Unit) =>
  match out with
  | .inl _ =>
    some false
  | .inr (_) =>
    some true
  )
def P_ref02_Equal : ((List Int) × (List Int)) → Bool → Prop := fun x r => match x, r with
  | (p0, p1), r0 => ∀ H, PC prog env 13 ([(.lst ((List.map intD) p0)), (.lst ((List.map intD) p1))].map .dat) H (boolPV r0) H
theorem w_ref02_Equal : ∀ x r, m_ref02_Equal x = some r → P_ref02_Equal x r := by
  intro x r0 hm
  unfold m_ref02_Equal at hm
  unfold P_ref02_Equal
  obtain ⟨p0, p1⟩ := x
  intro H
  refine PC_sx (ds := [(.lst ((List.map intD) p0)), (.lst ((List.map intD) p1))]) (fn := f13) (by kernel_rfl) (by kernel_rfl) rfl ?_ (by kernel_rfl)
  refine R_seq ?_
  refine R_G ?_
  refine G_run 1 ?_
  refine G_end ?_
  refine R_seq ?_
  refine R_seq ?_
  refine R_G ?_
  refine G_run 1 ?_
  refine I_len intD p0 (es := (List.map intD) p0) rfl ?_
  refine G_run 1 ?_
  refine I_len intD p1 (es := (List.map intD) p1) rfl ?_
  refine G_run 1 ?_
  refine G_end ?_
  refine R_ifp (p := (p0.length : Int) ≠ (p1.length : Int)) (ne_dec _ _) (fun hc => ?_) (fun hc => ?_)
  · replace hm := pos_inv hc hm
    refine R_seq ?_
    refine R_G ?_
    refine G_run 1 ?_
    refine G_end ?_
    refine R_ret ?_
    obtain rfl := inj1 hm
    exact ⟨trivial, fin_pure (by kernel_rfl)⟩
  replace hm := neg_inv hc hm
  refine R_skip ?_
  refine R_seq ?_
  refine R_seq ?_
  refine R_G ?_
  refine G_run 1 ?_
  refine G_end ?_
  refine R_block ?_
  obtain ⟨out, hs, hm⟩ := bind_inv hm
  refine R_loop ?_
  rcases out with _ | _
  · refine RL_use (w_ref02_Equal_L1 _ _ hs) (by kernel_rfl) ?_
    clear hs
    intro e s hp
    obtain ⟨rfl, d, rfl⟩ := hp
    obtain rfl := inj1 hm
    exact ⟨trivial, fin_pure (by kernel_rfl)⟩
  · refine RL_use (w_ref02_Equal_L1 _ _ hs) (by kernel_rfl) ?_
    clear hs
    intro e s hp
    obtain ⟨rfl, d, rfl⟩ := hp
    refine R_seq ?_
    refine R_G ?_
    refine G_run 1 ?_
    refine G_end ?_
    refine R_ret ?_
    obtain rfl := inj1 hm
    exact ⟨trivial, fin_pure (by kernel_rfl)⟩
end Go.Proofs.Try
namespace Go.Proofs.Try
open Go Go.Pm
set_option linter.unusedVariables false
set_option maxHeartbeats 2000000
set_option maxRecDepth 2000
def m_ref17_Same (x : (T_ref17_Access × T_ref17_Access)) : Option Bool :=
  match x with
  | (p0, p1) =>
  (if p0.kind = p1.kind then
    some (p0.buffer == p1.buffer)
  else
  some false
  ) >>= fun (v1 : Bool) =>
  (if v1 = true then
    some (p0.base == p1.base)
  else
  some false
  ) >>= fun (v2 : Bool) =>
  (if v2 = true then
    some (p0.start == p1.start)
  else
  some false
  ) >>= fun (v3 : Bool) =>
  (if v3 = true then
    some (p0.step == p1.step)
  else
  some false
  ) >>= fun (v4 : Bool) =>
  (if v4 = true then
    some (p0.mod == p1.mod)
  else
  some false
  ) >>= fun (v5 : Bool) =>
  if v5 = true then
    m_ref02_Equal (p0.strides, p1.strides) >>= fun (v6 : Bool) =>
    some v6
  else
  some false
def P_ref17_Same : (T_ref17_Access × T_ref17_Access) → Bool → Prop := fun x r => match x, r with
  | (p0, p1), r0 => ∀ H, PC prog env 59 ([(T_ref17_Access.toD p0), (T_ref17_Access.toD p1)].map .dat) H (boolPV r0) H
theorem w_ref17_Same : ∀ x r, m_ref17_Same x = some r → P_ref17_Same x r := by
  intro x r0 hm
  unfold m_ref17_Same at hm
  unfold P_ref17_Same
  obtain ⟨p0, p1⟩ := x
  intro H
  refine PC_sx (ds := [(T_ref17_Access.toD p0), (T_ref17_Access.toD p1)]) (fn := f59) (by kernel_rfl) (by kernel_rfl) rfl ?_ (by kernel_rfl)
  refine R_seq ?_
  refine R_G ?_
  refine G_run 3 ?_
  refine G_end ?_
  refine R_seq ?_
  refine R_GN ?_
  refine G_run 6 ?_
  obtain ⟨v1, hs, hm⟩ := bind_inv hm
  refine G_cut (j := 12) (fun d => ⟨sl d 52 [(0, (.dat (.agg [(intD p0.kind), (intD p0.buffer), (intD p0.base), (.lst ((List.map intD) p0.strides)), (intD p0.start), (intD p0.step), (intD p0.mod)]))), (1, (.dat (.agg [(intD p1.kind), (intD p1.buffer), (intD p1.base), (.lst ((List.map intD) p1.strides)), (intD p1.start), (intD p1.step), (intD p1.mod)]))), (2, (.ptr 0 0)), (3, (.ptr 1 0)), (4, (boolPV false)), (5, (.ptr 0 0)), (6, (intPV p0.kind)), (7, (.ptr 1 0)), (8, (intPV p1.kind)), (9, (boolPV (p0.kind == p1.kind))), (16, (boolPV v1))], [(.box [(intPV p0.kind), (intPV p0.buffer), (intPV p0.base), (.dat (.lst ((List.map intD) p0.strides))), (intPV p0.start), (intPV p0.step), (intPV p0.mod)]), (.box [(intPV p1.kind), (intPV p1.buffer), (intPV p1.base), (.dat (.lst ((List.map intD) p1.strides))), (intPV p1.start), (intPV p1.step), (intPV p1.mod)])]⟩) (fun d => ?_) (fun hJ => ?_)
  · clear hs
    refine G_run 1 ?_
    obtain ⟨v2, hs, hm⟩ := bind_inv hm
    refine G_cut (j := 19) (fun d => ⟨sl d 52 [(0, (.dat (.agg [(intD p0.kind), (intD p0.buffer), (intD p0.base), (.lst ((List.map intD) p0.strides)), (intD p0.start), (intD p0.step), (intD p0.mod)]))), (1, (.dat (.agg [(intD p1.kind), (intD p1.buffer), (intD p1.base), (.lst ((List.map intD) p1.strides)), (intD p1.start), (intD p1.step), (intD p1.mod)]))), (2, (.ptr 0 0)), (3, (.ptr 1 0)), (4, (boolPV false)), (5, (.ptr 0 0)), (6, (intPV p0.kind)), (7, (.ptr 1 0)), (8, (intPV p1.kind)), (9, (boolPV (p0.kind == p1.kind))), (16, (boolPV v1)), (23, (boolPV v2))], [(.box [(intPV p0.kind), (intPV p0.buffer), (intPV p0.base), (.dat (.lst ((List.map intD) p0.strides))), (intPV p0.start), (intPV p0.step), (intPV p0.mod)]), (.box [(intPV p1.kind), (intPV p1.buffer), (intPV p1.base), (.dat (.lst ((List.map intD) p1.strides))), (intPV p1.start), (intPV p1.step), (intPV p1.mod)])]⟩) (fun d => ?_) (fun hJ => ?_)
    · clear hs
      refine G_run 1 ?_
      obtain ⟨v3, hs, hm⟩ := bind_inv hm
      refine G_cut (j := 26) (fun d => ⟨sl d 52 [(0, (.dat (.agg [(intD p0.kind), (intD p0.buffer), (intD p0.base), (.lst ((List.map intD) p0.strides)), (intD p0.start), (intD p0.step), (intD p0.mod)]))), (1, (.dat (.agg [(intD p1.kind), (intD p1.buffer), (intD p1.base), (.lst ((List.map intD) p1.strides)), (intD p1.start), (intD p1.step), (intD p1.mod)]))), (2, (.ptr 0 0)), (3, (.ptr 1 0)), (4, (boolPV false)), (5, (.ptr 0 0)), (6, (intPV p0.kind)), (7, (.ptr 1 0)), (8, (intPV p1.kind)), (9, (boolPV (p0.kind == p1.kind))), (16, (boolPV v1)), (23, (boolPV v2)), (30, (boolPV v3))], [(.box [(intPV p0.kind), (intPV p0.buffer), (intPV p0.base), (.dat (.lst ((List.map intD) p0.strides))), (intPV p0.start), (intPV p0.step), (intPV p0.mod)]), (.box [(intPV p1.kind), (intPV p1.buffer), (intPV p1.base), (.dat (.lst ((List.map intD) p1.strides))), (intPV p1.start), (intPV p1.step), (intPV p1.mod)])]⟩) (fun d => ?_) (fun hJ => ?_)
      · clear hs
        refine G_run 1 ?_
        obtain ⟨v4, hs, hm⟩ := bind_inv hm
        refine G_cut (j := 33) (fun d => ⟨sl d 52 [(0, (.dat (.agg [(intD p0.kind), (intD p0.buffer), (intD p0.base), (.lst ((List.map intD) p0.strides)), (intD p0.start), (intD p0.step), (intD p0.mod)]))), (1, (.dat (.agg [(intD p1.kind), (intD p1.buffer), (intD p1.base), (.lst ((List.map intD) p1.strides)), (intD p1.start), (intD p1.step), (intD p1.mod)]))), (2, (.ptr 0 0)), (3, (.ptr 1 0)), (4, (boolPV false)), (5, (.ptr 0 0)), (6, (intPV p0.kind)), (7, (.ptr 1 0)), (8, (intPV p1.kind)), (9, (boolPV (p0.kind == p1.kind))), (16, (boolPV v1)), (23, (boolPV v2)), (30, (boolPV v3)), (37, (boolPV v4))], [(.box [(intPV p0.kind), (intPV p0.buffer), (intPV p0.base), (.dat (.lst ((List.map intD) p0.strides))), (intPV p0.start), (intPV p0.step), (intPV p0.mod)]), (.box [(intPV p1.kind), (intPV p1.buffer), (intPV p1.base), (.dat (.lst ((List.map intD) p1.strides))), (intPV p1.start), (intPV p1.step), (intPV p1.mod)])]⟩) (fun d => ?_) (fun hJ => ?_)
        · clear hs
          refine G_run 1 ?_
          obtain ⟨v5, hs, hm⟩ := bind_inv hm
          refine G_cut (j := 40) (fun d => ⟨sl d 52 [(0, (.dat (.agg [(intD p0.kind), (intD p0.buffer), (intD p0.base), (.lst ((List.map intD) p0.strides)), (intD p0.start), (intD p0.step), (intD p0.mod)]))), (1, (.dat (.agg [(intD p1.kind), (intD p1.buffer), (intD p1.base), (.lst ((List.map intD) p1.strides)), (intD p1.start), (intD p1.step), (intD p1.mod)]))), (2, (.ptr 0 0)), (3, (.ptr 1 0)), (4, (boolPV false)), (5, (.ptr 0 0)), (6, (intPV p0.kind)), (7, (.ptr 1 0)), (8, (intPV p1.kind)), (9, (boolPV (p0.kind == p1.kind))), (16, (boolPV v1)), (23, (boolPV v2)), (30, (boolPV v3)), (37, (boolPV v4)), (44, (boolPV v5))], [(.box [(intPV p0.kind), (intPV p0.buffer), (intPV p0.base), (.dat (.lst ((List.map intD) p0.strides))), (intPV p0.start), (intPV p0.step), (intPV p0.mod)]), (.box [(intPV p1.kind), (intPV p1.buffer), (intPV p1.base), (.dat (.lst ((List.map intD) p1.strides))), (intPV p1.start), (intPV p1.step), (intPV p1.mod)])]⟩) (fun d => ?_) (fun hJ => ?_)
          · clear hs
            refine G_run 1 ?_
            refine G_split (p := v5 = true) 45 (bool_dec _) (fun hc => ?_) (fun hc => ?_)
            · replace hm := pos_inv hc hm
              refine G_run 4 ?_
              obtain ⟨v6, hx, hm⟩ := bind_inv hm
              have hq := w_ref02_Equal _ _ hx []
              refine G_callP hq ?_
              refine G_run 2 ?_
              refine G_end ⟨by kernel_rfl, ?_⟩
              refine R_ret ?_
              obtain rfl := inj1 hm
              exact ⟨trivial, fin_pure (by kernel_rfl)⟩
            replace hm := neg_inv hc hm
            refine G_run 7 ?_
            refine G_end ⟨by kernel_rfl, ?_⟩
            refine R_ret ?_
            obtain rfl := inj1 hm
            exact ⟨trivial, fin_pure (by kernel_rfl)⟩
          replace hm := hs
          clear hs
          refine G_split (p := v4 = true) 38 (bool_dec _) (fun hc => ?_) (fun hc => ?_)
          · replace hm := pos_inv hc hm
            refine G_run 6 ?_
            obtain rfl := inj1 hm
            exact hJ _ _ (by kernel_rfl) (by kernel_rfl)
          replace hm := neg_inv hc hm
          refine G_run 6 ?_
          obtain rfl := inj1 hm
          exact hJ _ _ (by kernel_rfl) (by kernel_rfl)
        replace hm := hs
        clear hs
        refine G_split (p := v3 = true) 31 (bool_dec _) (fun hc => ?_) (fun hc => ?_)
        · replace hm := pos_inv hc hm
          refine G_run 6 ?_
          obtain rfl := inj1 hm
          exact hJ _ _ (by kernel_rfl) (by kernel_rfl)
        replace hm := neg_inv hc hm
        refine G_run 6 ?_
        obtain rfl := inj1 hm
        exact hJ _ _ (by kernel_rfl) (by kernel_rfl)
      replace hm := hs
      clear hs
      refine G_split (p := v2 = true) 24 (bool_dec _) (fun hc => ?_) (fun hc => ?_)
      · replace hm := pos_inv hc hm
        refine G_run 6 ?_
        obtain rfl := inj1 hm
        exact hJ _ _ (by kernel_rfl) (by kernel_rfl)
      replace hm := neg_inv hc hm
      refine G_run 6 ?_
      obtain rfl := inj1 hm
      exact hJ _ _ (by kernel_rfl) (by kernel_rfl)
    replace hm := hs
    clear hs
    refine G_split (p := v1 = true) 17 (bool_dec _) (fun hc => ?_) (fun hc => ?_)
    · replace hm := pos_inv hc hm
      refine G_run 6 ?_
      obtain rfl := inj1 hm
      exact hJ _ _ (by kernel_rfl) (by kernel_rfl)
    replace hm := neg_inv hc hm
    refine G_run 6 ?_
    obtain rfl := inj1 hm
    exact hJ _ _ (by kernel_rfl) (by kernel_rfl)
  replace hm := hs
  clear hs
  refine G_split (p := p0.kind = p1.kind) 10 (eq_dec _ _) (fun hc => ?_) (fun hc => ?_)
  · replace hm := pos_inv hc hm
    refine G_run 6 ?_
    obtain rfl := inj1 hm
    exact hJ _ _ (by kernel_rfl) (by kernel_rfl)
  replace hm := neg_inv hc hm
  refine G_run 6 ?_
  obtain rfl := inj1 hm
  exact hJ _ _ (by kernel_rfl) (by kernel_rfl)
end Go.Proofs.Try
namespace Go.Proofs.Try
open Go Go.Pm
set_option linter.unusedVariables false
set_option maxHeartbeats 2000000
set_option maxRecDepth 2000
def m_ref21_Same (x : (T_ref21_Nest × T_ref21_Nest)) : Option Bool :=
  match x with
  | (p0, p1) =>
  m_ref02_Equal (p0.dims, p1.dims) >>= fun (v1 : Bool) =>
  (if v1 = true then
    some (p0.write == p1.write)
  else
  some false
  ) >>= fun (v2 : Bool) =>
  (if v2 = true then
    m_ref02_Equal (p0.steps, p1.steps) >>= fun (v4 : Bool) =>
    some v4
  else
  some false
  ) >>= fun (v3 : Bool) =>
  if v3 = true then
    m_ref17_Same ((⟨p0.read.kind, p0.read.buffer, p0.read.base, p0.read.strides, p0.read.start, p0.read.step, p0.read.mod⟩ : T_ref17_Access), (⟨p1.read.kind, p1.read.buffer, p1.read.base, p1.read.strides, p1.read.start, p1.read.step, p1.read.mod⟩ : T_ref17_Access)) >>= fun (v5 : Bool) =>
    some v5
  else
  some false
def P_ref21_Same : (T_ref21_Nest × T_ref21_Nest) → Bool → Prop := fun x r => match x, r with
  | (p0, p1), r0 => ∀ H, PC prog env 26 ([(T_ref21_Nest.toD p0), (T_ref21_Nest.toD p1)].map .dat) H (boolPV r0) H
theorem w_ref21_Same : ∀ x r, m_ref21_Same x = some r → P_ref21_Same x r := by
  intro x r0 hm
  unfold m_ref21_Same at hm
  unfold P_ref21_Same
  obtain ⟨p0, p1⟩ := x
  intro H
  refine PC_sx (ds := [(T_ref21_Nest.toD p0), (T_ref21_Nest.toD p1)]) (fn := f26) (by kernel_rfl) (by kernel_rfl) rfl ?_ (by kernel_rfl)
  refine R_seq ?_
  refine R_G ?_
  refine G_run 3 ?_
  refine G_end ?_
  refine R_seq ?_
  refine R_GN ?_
  refine G_run 4 ?_
  obtain ⟨v1, hx, hm⟩ := bind_inv hm
  have hq := w_ref02_Equal _ _ hx []
  refine G_callP hq ?_
  refine G_run 1 ?_
  obtain ⟨v2, hs, hm⟩ := bind_inv hm
  refine G_cut (j := 12) (fun d => ⟨sl d 31 [(0, (.dat (.agg [(.lst ((List.map intD) p0.dims)), (intD p0.write), (.lst ((List.map intD) p0.steps)), (intD p0.read.kind), (intD p0.read.buffer), (intD p0.read.base), (.lst ((List.map intD) p0.read.strides)), (intD p0.read.start), (intD p0.read.step), (intD p0.read.mod)]))), (1, (.dat (.agg [(.lst ((List.map intD) p1.dims)), (intD p1.write), (.lst ((List.map intD) p1.steps)), (intD p1.read.kind), (intD p1.read.buffer), (intD p1.read.base), (.lst ((List.map intD) p1.read.strides)), (intD p1.read.start), (intD p1.read.step), (intD p1.read.mod)]))), (2, (.ptr 0 0)), (3, (.ptr 1 0)), (4, (boolPV false)), (5, (.ptr 0 0)), (6, (.dat (.lst ((List.map intD) p0.dims)))), (7, (.ptr 1 0)), (8, (.dat (.lst ((List.map intD) p1.dims)))), (9, (boolPV v1)), (16, (boolPV v2))], [(.box [(.dat (.lst ((List.map intD) p0.dims))), (intPV p0.write), (.dat (.lst ((List.map intD) p0.steps))), (intPV p0.read.kind), (intPV p0.read.buffer), (intPV p0.read.base), (.dat (.lst ((List.map intD) p0.read.strides))), (intPV p0.read.start), (intPV p0.read.step), (intPV p0.read.mod)]), (.box [(.dat (.lst ((List.map intD) p1.dims))), (intPV p1.write), (.dat (.lst ((List.map intD) p1.steps))), (intPV p1.read.kind), (intPV p1.read.buffer), (intPV p1.read.base), (.dat (.lst ((List.map intD) p1.read.strides))), (intPV p1.read.start), (intPV p1.read.step), (intPV p1.read.mod)])]⟩) (fun d => ?_) (fun hJ => ?_)
  · clear hs
    refine G_run 1 ?_
    obtain ⟨v3, hs, hm⟩ := bind_inv hm
    refine G_cut (j := 19) (fun d => ⟨sl d 31 [(0, (.dat (.agg [(.lst ((List.map intD) p0.dims)), (intD p0.write), (.lst ((List.map intD) p0.steps)), (intD p0.read.kind), (intD p0.read.buffer), (intD p0.read.base), (.lst ((List.map intD) p0.read.strides)), (intD p0.read.start), (intD p0.read.step), (intD p0.read.mod)]))), (1, (.dat (.agg [(.lst ((List.map intD) p1.dims)), (intD p1.write), (.lst ((List.map intD) p1.steps)), (intD p1.read.kind), (intD p1.read.buffer), (intD p1.read.base), (.lst ((List.map intD) p1.read.strides)), (intD p1.read.start), (intD p1.read.step), (intD p1.read.mod)]))), (2, (.ptr 0 0)), (3, (.ptr 1 0)), (4, (boolPV false)), (5, (.ptr 0 0)), (6, (.dat (.lst ((List.map intD) p0.dims)))), (7, (.ptr 1 0)), (8, (.dat (.lst ((List.map intD) p1.dims)))), (9, (boolPV v1)), (16, (boolPV v2)), (23, (boolPV v3))], [(.box [(.dat (.lst ((List.map intD) p0.dims))), (intPV p0.write), (.dat (.lst ((List.map intD) p0.steps))), (intPV p0.read.kind), (intPV p0.read.buffer), (intPV p0.read.base), (.dat (.lst ((List.map intD) p0.read.strides))), (intPV p0.read.start), (intPV p0.read.step), (intPV p0.read.mod)]), (.box [(.dat (.lst ((List.map intD) p1.dims))), (intPV p1.write), (.dat (.lst ((List.map intD) p1.steps))), (intPV p1.read.kind), (intPV p1.read.buffer), (intPV p1.read.base), (.dat (.lst ((List.map intD) p1.read.strides))), (intPV p1.read.start), (intPV p1.read.step), (intPV p1.read.mod)])]⟩) (fun d => ?_) (fun hJ => ?_)
    · clear hs
      refine G_run 1 ?_
      refine G_split (p := v3 = true) 24 (bool_dec _) (fun hc => ?_) (fun hc => ?_)
      · replace hm := pos_inv hc hm
        refine G_run 4 ?_
        obtain ⟨v5, hx, hm⟩ := bind_inv hm
        have hq := w_ref17_Same _ _ hx []
        refine G_callP hq ?_
        refine G_run 2 ?_
        refine G_end ⟨by kernel_rfl, ?_⟩
        refine R_ret ?_
        obtain rfl := inj1 hm
        exact ⟨trivial, fin_pure (by kernel_rfl)⟩
      replace hm := neg_inv hc hm
      refine G_run 7 ?_
      refine G_end ⟨by kernel_rfl, ?_⟩
      refine R_ret ?_
      obtain rfl := inj1 hm
      exact ⟨trivial, fin_pure (by kernel_rfl)⟩
    replace hm := hs
    clear hs
    refine G_split (p := v2 = true) 17 (bool_dec _) (fun hc => ?_) (fun hc => ?_)
    · replace hm := pos_inv hc hm
      refine G_run 4 ?_
      obtain ⟨v4, hx, hm⟩ := bind_inv hm
      have hq := w_ref02_Equal _ _ hx []
      refine G_callP hq ?_
      refine G_run 1 ?_
      obtain rfl := inj1 hm
      exact hJ _ _ (by kernel_rfl) (by kernel_rfl)
    replace hm := neg_inv hc hm
    refine G_run 6 ?_
    obtain rfl := inj1 hm
    exact hJ _ _ (by kernel_rfl) (by kernel_rfl)
  replace hm := hs
  clear hs
  refine G_split (p := v1 = true) 10 (bool_dec _) (fun hc => ?_) (fun hc => ?_)
  · replace hm := pos_inv hc hm
    refine G_run 6 ?_
    obtain rfl := inj1 hm
    exact hJ _ _ (by kernel_rfl) (by kernel_rfl)
  replace hm := neg_inv hc hm
  refine G_run 6 ?_
  obtain rfl := inj1 hm
  exact hJ _ _ (by kernel_rfl) (by kernel_rfl)
end Go.Proofs.Try
namespace Go.Proofs.Try
open Go Go.Pm
set_option linter.unusedVariables false
set_option maxHeartbeats 2000000
set_option maxRecDepth 2000
def m_slices_Equal_int_int_L1 (x : ((List Int) × (List Int) × Int)) : Option (Unit ⊕ Unit) :=
  match x with
  | (p0, p1, v201) =>
  if v201 < (p0.length : Int) then
    idx p0 v201 >>= fun v601 =>
    idx p1 v201 >>= fun v602 =>
    if v601 ≠ v602 then
      some (Sum.inl ())
    else
    m_slices_Equal_int_int_L1 (p0, p1, (W (v201 + 1)))
  else
  some (Sum.inr ())
  partial_fixpoint
def P_slices_Equal_int_int_L1 : ((List Int) × (List Int) × Int) → (Unit ⊕ Unit) → Prop := fun x r => match x with
  | (p0, p1, v201) => ∀ st, prune 0 ((firstRegion (codeAt [1, 1, 0, 1, 0, 0] (bodyOf f60))).bind (env.hint 60).keepAt) st = ⟨kp 26 [(0, (.dat (.lst ((List.map intD) p0)))), (1, (.dat (.lst ((List.map intD) p1)))), (12, (intPV (p0.length : Int))), (13, (intPV v201))], []⟩ →
    RL prog env (env.hint 60) true (codeAt [1, 1, 0, 1, 0, 0] (bodyOf f60)) 0 st (fun e s => match r with | .inl _ => e = .ret ∧ ∃ d, s = ⟨sl d 26 [(4, (boolPV false))], []⟩ | .inr (_) => e = .exit 0 ∧ ∃ d, s = ⟨sl d 26 [], []⟩)
theorem w_slices_Equal_int_int_L1 : ∀ x r, m_slices_Equal_int_int_L1 x = some r → P_slices_Equal_int_int_L1 x r := by
  refine m_slices_Equal_int_int_L1.partial_correctness _ (fun m_slices_Equal_int_int_L1 w_slices_Equal_int_int_L1 x r hm => ?_)
  unfold P_slices_Equal_int_int_L1
  obtain ⟨p0, p1, v201⟩ := x
  intro st hst
  refine RL_at hst ?_
  clear hst
  refine R_seq ?_
  refine R_G ?_
  refine G_run 1 ?_
  refine G_end ?_
  refine R_seq ?_
  refine R_ifp (p := v201 < (p0.length : Int)) (rfl) (fun hc => ?_) (fun hc => ?_)
  · replace hm := pos_inv hc hm
    refine R_skip ?_
    refine R_seq ?_
    refine R_block ?_
    refine R_seq ?_
    refine R_G ?_
    refine G_run 2 ?_
    refine G_end ?_
    refine R_seq ?_
    refine R_GD ?_
    refine G_run 2 ?_
    obtain ⟨v601, hx, hm⟩ := bind_inv hm
    refine I_idx 1 intD p0 v201 v601 (es := (List.map intD) p0) (d := (intD v601)) rfl hx rfl rfl ?_
    refine G_run 3 ?_
    obtain ⟨v602, hx, hm⟩ := bind_inv hm
    refine I_idx 1 intD p1 v201 v602 (es := (List.map intD) p1) (d := (intD v602)) rfl hx rfl rfl ?_
    refine G_run 2 ?_
    refine G_end ⟨by kernel_rfl, ?_⟩
    refine R_ifp (p := v601 ≠ v602) (ne_dec _ _) (fun hc => ?_) (fun hc => ?_)
    · replace hm := pos_inv hc hm
      refine R_seq ?_
      refine R_G ?_
      refine G_run 1 ?_
      refine G_end ?_
      refine R_ret ?_
      obtain rfl := inj1 hm
      exact ⟨rfl, cut_leaf (by kernel_rfl)⟩
    replace hm := neg_inv hc hm
    refine R_skip ?_
    refine R_G ?_
    refine G_run 2 ?_
    refine G_end ?_
    exact w_slices_Equal_int_int_L1 _ _ hm _ (by kernel_rfl)
  replace hm := neg_inv hc hm
  refine R_exit ?_
  obtain rfl := inj1 hm
  exact ⟨rfl, cut_leaf (by kernel_rfl)⟩
def m_slices_Equal_int_int (x : ((List Int) × (List Int))) : Option Bool :=
  match x with
  | (p0, p1) =>
  if (p0.length : Int) ≠ (p1.length : Int) then
    some false
  else
  (
  m_slices_Equal_int_int_L1 (p0, p1, 0) >>= fun (out : Unit ⊕ Unit) =>
  match out with
  | .inl _ =>
    some false
  | .inr (_) =>
    some true
  )
def P_slices_Equal_int_int : ((List Int) × (List Int)) → Bool → Prop := fun x r => match x, r with
  | (p0, p1), r0 => ∀ H, PC prog env 60 ([(.lst ((List.map intD) p0)), (.lst ((List.map intD) p1))].map .dat) H (boolPV r0) H
theorem w_slices_Equal_int_int : ∀ x r, m_slices_Equal_int_int x = some r → P_slices_Equal_int_int x r := by
  intro x r0 hm
  unfold m_slices_Equal_int_int at hm
  unfold P_slices_Equal_int_int
  obtain ⟨p0, p1⟩ := x
  intro H
  refine PC_sx (ds := [(.lst ((List.map intD) p0)), (.lst ((List.map intD) p1))]) (fn := f60) (by kernel_rfl) (by kernel_rfl) rfl ?_ (by kernel_rfl)
  refine R_seq ?_
  refine R_G ?_
  refine G_run 1 ?_
  refine G_end ?_
  refine R_seq ?_
  refine R_seq ?_
  refine R_G ?_
  refine G_run 1 ?_
  refine I_len intD p0 (es := (List.map intD) p0) rfl ?_
  refine G_run 1 ?_
  refine I_len intD p1 (es := (List.map intD) p1) rfl ?_
  refine G_run 1 ?_
  refine G_end ?_
  refine R_ifp (p := (p0.length : Int) ≠ (p1.length : Int)) (ne_dec _ _) (fun hc => ?_) (fun hc => ?_)
  · replace hm := pos_inv hc hm
    refine R_seq ?_
    refine R_G ?_
    refine G_run 1 ?_
    refine G_end ?_
    refine R_ret ?_
    obtain rfl := inj1 hm
    exact ⟨trivial, fin_pure (by kernel_rfl)⟩
  replace hm := neg_inv hc hm
  refine R_skip ?_
  refine R_seq ?_
  refine R_seq ?_
  refine R_G ?_
  refine G_run 1 ?_
  refine I_len intD p0 (es := (List.map intD) p0) rfl ?_
  refine G_run 1 ?_
  refine G_end ?_
  refine R_block ?_
  obtain ⟨out, hs, hm⟩ := bind_inv hm
  refine R_loop ?_
  rcases out with _ | _
  · refine RL_use (w_slices_Equal_int_int_L1 _ _ hs) (by kernel_rfl) ?_
    clear hs
    intro e s hp
    obtain ⟨rfl, d, rfl⟩ := hp
    obtain rfl := inj1 hm
    exact ⟨trivial, fin_pure (by kernel_rfl)⟩
  · refine RL_use (w_slices_Equal_int_int_L1 _ _ hs) (by kernel_rfl) ?_
    clear hs
    intro e s hp
    obtain ⟨rfl, d, rfl⟩ := hp
    refine R_seq ?_
    refine R_G ?_
    refine G_run 1 ?_
    refine G_end ?_
    refine R_ret ?_
    obtain rfl := inj1 hm
    exact ⟨trivial, fin_pure (by kernel_rfl)⟩
end Go.Proofs.Try
namespace Go.Proofs.Try
open Go Go.Pm
set_option linter.unusedVariables false
set_option maxHeartbeats 2000000
set_option maxRecDepth 2000
def m_access_Same (x : (T_access_Access × T_access_Access)) : Option Bool :=
  match x with
  | (p0, p1) =>
  m_slices_Equal_int_int (p0.strides, p1.strides) >>= fun (v1 : Bool) =>
  (if v1 = true then
    some (p0.kind == p1.kind)
  else
  some false
  ) >>= fun (v2 : Bool) =>
  (if v2 = true then
    some (p0.buffer == p1.buffer)
  else
  some false
  ) >>= fun (v3 : Bool) =>
  (if v3 = true then
    some (p0.base == p1.base)
  else
  some false
  ) >>= fun (v4 : Bool) =>
  (if v4 = true then
    some (p0.start == p1.start)
  else
  some false
  ) >>= fun (v5 : Bool) =>
  (if v5 = true then
    some (p0.step == p1.step)
  else
  some false
  ) >>= fun (v6 : Bool) =>
  if v6 = true then
    some (p0.mod == p1.mod)
  else
  some false
def P_access_Same : (T_access_Access × T_access_Access) → Bool → Prop := fun x r => match x, r with
  | (p0, p1), r0 => ∀ H, PC prog env 61 ([(T_access_Access.toD p0), (T_access_Access.toD p1)].map .dat) H (boolPV r0) H
theorem w_access_Same : ∀ x r, m_access_Same x = some r → P_access_Same x r := by
  intro x r0 hm
  unfold m_access_Same at hm
  unfold P_access_Same
  obtain ⟨p0, p1⟩ := x
  intro H
  refine PC_sx (ds := [(T_access_Access.toD p0), (T_access_Access.toD p1)]) (fn := f61) (by kernel_rfl) (by kernel_rfl) rfl ?_ (by kernel_rfl)
  refine R_seq ?_
  refine R_G ?_
  refine G_run 3 ?_
  refine G_end ?_
  refine R_seq ?_
  refine R_GD ?_
  refine G_run 6 ?_
  refine G_end ⟨by kernel_rfl, ?_⟩
  refine R_seq ?_
  refine R_G ?_
  refine G_run 4 ?_
  refine G_end ?_
  refine R_seq ?_
  refine R_GN ?_
  refine G_run 4 ?_
  obtain ⟨v1, hx, hm⟩ := bind_inv hm
  have hq := w_slices_Equal_int_int _ _ hx []
  refine G_callP hq ?_
  refine G_run 1 ?_
  obtain ⟨v2, hs, hm⟩ := bind_inv hm
  refine G_cut (j := 12) (fun d => ⟨sl d 58 [(0, (.dat (.agg [(intD p0.kind), (intD p0.buffer), (intD p0.base), (.lst ((List.map intD) p0.strides)), (intD p0.start), (intD p0.step), (intD p0.mod)]))), (1, (.dat (.agg [(intD p1.kind), (intD p1.buffer), (intD p1.base), (.lst ((List.map intD) p1.strides)), (intD p1.start), (intD p1.step), (intD p1.mod)]))), (2, (.iptr [(intD p0.kind), (intD p0.buffer), (intD p0.base), (.lst ((List.map intD) p0.strides)), (intD p0.start), (intD p0.step), (intD p0.mod)])), (3, (.iptr [(intD p1.kind), (intD p1.buffer), (intD p1.base), (.lst ((List.map intD) p1.strides)), (intD p1.start), (intD p1.step), (intD p1.mod)])), (4, (boolPV false)), (5, (.ptr 0 0)), (6, (.ptr 1 0)), (7, (.dat (.agg [(intD p0.kind), (intD p0.buffer), (intD p0.base), (.lst ((List.map intD) p0.strides)), (intD p0.start), (intD p0.step), (intD p0.mod)]))), (8, (.dat (.agg [(intD p1.kind), (intD p1.buffer), (intD p1.base), (.lst ((List.map intD) p1.strides)), (intD p1.start), (intD p1.step), (intD p1.mod)]))), (9, (.ptr 0 3)), (10, (.ptr 1 3)), (11, (.iptr [(.lst ((List.map intD) p0.strides)), (intD p0.start), (intD p0.step), (intD p0.mod)])), (12, (.dat (.lst ((List.map intD) p0.strides)))), (13, (.iptr [(.lst ((List.map intD) p1.strides)), (intD p1.start), (intD p1.step), (intD p1.mod)])), (14, (.dat (.lst ((List.map intD) p1.strides)))), (15, (boolPV v1)), (22, (boolPV v2))], [(.box [(intPV p0.kind), (intPV p0.buffer), (intPV p0.base), (.dat (.lst ((List.map intD) []))), (intPV p0.start), (intPV p0.step), (intPV p0.mod)]), (.box [(intPV p1.kind), (intPV p1.buffer), (intPV p1.base), (.dat (.lst ((List.map intD) []))), (intPV p1.start), (intPV p1.step), (intPV p1.mod)])]⟩) (fun d => ?_) (fun hJ => ?_)
  · clear hs
    refine G_run 1 ?_
    obtain ⟨v3, hs, hm⟩ := bind_inv hm
    refine G_cut (j := 19) (fun d => ⟨sl d 58 [(0, (.dat (.agg [(intD p0.kind), (intD p0.buffer), (intD p0.base), (.lst ((List.map intD) p0.strides)), (intD p0.start), (intD p0.step), (intD p0.mod)]))), (1, (.dat (.agg [(intD p1.kind), (intD p1.buffer), (intD p1.base), (.lst ((List.map intD) p1.strides)), (intD p1.start), (intD p1.step), (intD p1.mod)]))), (2, (.iptr [(intD p0.kind), (intD p0.buffer), (intD p0.base), (.lst ((List.map intD) p0.strides)), (intD p0.start), (intD p0.step), (intD p0.mod)])), (3, (.iptr [(intD p1.kind), (intD p1.buffer), (intD p1.base), (.lst ((List.map intD) p1.strides)), (intD p1.start), (intD p1.step), (intD p1.mod)])), (4, (boolPV false)), (5, (.ptr 0 0)), (6, (.ptr 1 0)), (7, (.dat (.agg [(intD p0.kind), (intD p0.buffer), (intD p0.base), (.lst ((List.map intD) p0.strides)), (intD p0.start), (intD p0.step), (intD p0.mod)]))), (8, (.dat (.agg [(intD p1.kind), (intD p1.buffer), (intD p1.base), (.lst ((List.map intD) p1.strides)), (intD p1.start), (intD p1.step), (intD p1.mod)]))), (9, (.ptr 0 3)), (10, (.ptr 1 3)), (11, (.iptr [(.lst ((List.map intD) p0.strides)), (intD p0.start), (intD p0.step), (intD p0.mod)])), (12, (.dat (.lst ((List.map intD) p0.strides)))), (13, (.iptr [(.lst ((List.map intD) p1.strides)), (intD p1.start), (intD p1.step), (intD p1.mod)])), (14, (.dat (.lst ((List.map intD) p1.strides)))), (15, (boolPV v1)), (22, (boolPV v2)), (29, (boolPV v3))], [(.box [(intPV p0.kind), (intPV p0.buffer), (intPV p0.base), (.dat (.lst ((List.map intD) []))), (intPV p0.start), (intPV p0.step), (intPV p0.mod)]), (.box [(intPV p1.kind), (intPV p1.buffer), (intPV p1.base), (.dat (.lst ((List.map intD) []))), (intPV p1.start), (intPV p1.step), (intPV p1.mod)])]⟩) (fun d => ?_) (fun hJ => ?_)
    · clear hs
      refine G_run 1 ?_
      obtain ⟨v4, hs, hm⟩ := bind_inv hm
      refine G_cut (j := 26) (fun d => ⟨sl d 58 [(0, (.dat (.agg [(intD p0.kind), (intD p0.buffer), (intD p0.base), (.lst ((List.map intD) p0.strides)), (intD p0.start), (intD p0.step), (intD p0.mod)]))), (1, (.dat (.agg [(intD p1.kind), (intD p1.buffer), (intD p1.base), (.lst ((List.map intD) p1.strides)), (intD p1.start), (intD p1.step), (intD p1.mod)]))), (2, (.iptr [(intD p0.kind), (intD p0.buffer), (intD p0.base), (.lst ((List.map intD) p0.strides)), (intD p0.start), (intD p0.step), (intD p0.mod)])), (3, (.iptr [(intD p1.kind), (intD p1.buffer), (intD p1.base), (.lst ((List.map intD) p1.strides)), (intD p1.start), (intD p1.step), (intD p1.mod)])), (4, (boolPV false)), (5, (.ptr 0 0)), (6, (.ptr 1 0)), (7, (.dat (.agg [(intD p0.kind), (intD p0.buffer), (intD p0.base), (.lst ((List.map intD) p0.strides)), (intD p0.start), (intD p0.step), (intD p0.mod)]))), (8, (.dat (.agg [(intD p1.kind), (intD p1.buffer), (intD p1.base), (.lst ((List.map intD) p1.strides)), (intD p1.start), (intD p1.step), (intD p1.mod)]))), (9, (.ptr 0 3)), (10, (.ptr 1 3)), (11, (.iptr [(.lst ((List.map intD) p0.strides)), (intD p0.start), (intD p0.step), (intD p0.mod)])), (12, (.dat (.lst ((List.map intD) p0.strides)))), (13, (.iptr [(.lst ((List.map intD) p1.strides)), (intD p1.start), (intD p1.step), (intD p1.mod)])), (14, (.dat (.lst ((List.map intD) p1.strides)))), (15, (boolPV v1)), (22, (boolPV v2)), (29, (boolPV v3)), (36, (boolPV v4))], [(.box [(intPV p0.kind), (intPV p0.buffer), (intPV p0.base), (.dat (.lst ((List.map intD) []))), (intPV p0.start), (intPV p0.step), (intPV p0.mod)]), (.box [(intPV p1.kind), (intPV p1.buffer), (intPV p1.base), (.dat (.lst ((List.map intD) []))), (intPV p1.start), (intPV p1.step), (intPV p1.mod)])]⟩) (fun d => ?_) (fun hJ => ?_)
      · clear hs
        refine G_run 1 ?_
        obtain ⟨v5, hs, hm⟩ := bind_inv hm
        refine G_cut (j := 33) (fun d => ⟨sl d 58 [(0, (.dat (.agg [(intD p0.kind), (intD p0.buffer), (intD p0.base), (.lst ((List.map intD) p0.strides)), (intD p0.start), (intD p0.step), (intD p0.mod)]))), (1, (.dat (.agg [(intD p1.kind), (intD p1.buffer), (intD p1.base), (.lst ((List.map intD) p1.strides)), (intD p1.start), (intD p1.step), (intD p1.mod)]))), (2, (.iptr [(intD p0.kind), (intD p0.buffer), (intD p0.base), (.lst ((List.map intD) p0.strides)), (intD p0.start), (intD p0.step), (intD p0.mod)])), (3, (.iptr [(intD p1.kind), (intD p1.buffer), (intD p1.base), (.lst ((List.map intD) p1.strides)), (intD p1.start), (intD p1.step), (intD p1.mod)])), (4, (boolPV false)), (5, (.ptr 0 0)), (6, (.ptr 1 0)), (7, (.dat (.agg [(intD p0.kind), (intD p0.buffer), (intD p0.base), (.lst ((List.map intD) p0.strides)), (intD p0.start), (intD p0.step), (intD p0.mod)]))), (8, (.dat (.agg [(intD p1.kind), (intD p1.buffer), (intD p1.base), (.lst ((List.map intD) p1.strides)), (intD p1.start), (intD p1.step), (intD p1.mod)]))), (9, (.ptr 0 3)), (10, (.ptr 1 3)), (11, (.iptr [(.lst ((List.map intD) p0.strides)), (intD p0.start), (intD p0.step), (intD p0.mod)])), (12, (.dat (.lst ((List.map intD) p0.strides)))), (13, (.iptr [(.lst ((List.map intD) p1.strides)), (intD p1.start), (intD p1.step), (intD p1.mod)])), (14, (.dat (.lst ((List.map intD) p1.strides)))), (15, (boolPV v1)), (22, (boolPV v2)), (29, (boolPV v3)), (36, (boolPV v4)), (43, (boolPV v5))], [(.box [(intPV p0.kind), (intPV p0.buffer), (intPV p0.base), (.dat (.lst ((List.map intD) []))), (intPV p0.start), (intPV p0.step), (intPV p0.mod)]), (.box [(intPV p1.kind), (intPV p1.buffer), (intPV p1.base), (.dat (.lst ((List.map intD) []))), (intPV p1.start), (intPV p1.step), (intPV p1.mod)])]⟩) (fun d => ?_) (fun hJ => ?_)
        · clear hs
          refine G_run 1 ?_
          obtain ⟨v6, hs, hm⟩ := bind_inv hm
          refine G_cut (j := 40) (fun d => ⟨sl d 58 [(0, (.dat (.agg [(intD p0.kind), (intD p0.buffer), (intD p0.base), (.lst ((List.map intD) p0.strides)), (intD p0.start), (intD p0.step), (intD p0.mod)]))), (1, (.dat (.agg [(intD p1.kind), (intD p1.buffer), (intD p1.base), (.lst ((List.map intD) p1.strides)), (intD p1.start), (intD p1.step), (intD p1.mod)]))), (2, (.iptr [(intD p0.kind), (intD p0.buffer), (intD p0.base), (.lst ((List.map intD) p0.strides)), (intD p0.start), (intD p0.step), (intD p0.mod)])), (3, (.iptr [(intD p1.kind), (intD p1.buffer), (intD p1.base), (.lst ((List.map intD) p1.strides)), (intD p1.start), (intD p1.step), (intD p1.mod)])), (4, (boolPV false)), (5, (.ptr 0 0)), (6, (.ptr 1 0)), (7, (.dat (.agg [(intD p0.kind), (intD p0.buffer), (intD p0.base), (.lst ((List.map intD) p0.strides)), (intD p0.start), (intD p0.step), (intD p0.mod)]))), (8, (.dat (.agg [(intD p1.kind), (intD p1.buffer), (intD p1.base), (.lst ((List.map intD) p1.strides)), (intD p1.start), (intD p1.step), (intD p1.mod)]))), (9, (.ptr 0 3)), (10, (.ptr 1 3)), (11, (.iptr [(.lst ((List.map intD) p0.strides)), (intD p0.start), (intD p0.step), (intD p0.mod)])), (12, (.dat (.lst ((List.map intD) p0.strides)))), (13, (.iptr [(.lst ((List.map intD) p1.strides)), (intD p1.start), (intD p1.step), (intD p1.mod)])), (14, (.dat (.lst ((List.map intD) p1.strides)))), (15, (boolPV v1)), (22, (boolPV v2)), (29, (boolPV v3)), (36, (boolPV v4)), (43, (boolPV v5)), (50, (boolPV v6))], [(.box [(intPV p0.kind), (intPV p0.buffer), (intPV p0.base), (.dat (.lst ((List.map intD) []))), (intPV p0.start), (intPV p0.step), (intPV p0.mod)]), (.box [(intPV p1.kind), (intPV p1.buffer), (intPV p1.base), (.dat (.lst ((List.map intD) []))), (intPV p1.start), (intPV p1.step), (intPV p1.mod)])]⟩) (fun d => ?_) (fun hJ => ?_)
          · clear hs
            refine G_run 1 ?_
            refine G_split (p := v6 = true) 51 (bool_dec _) (fun hc => ?_) (fun hc => ?_)
            · replace hm := pos_inv hc hm
              refine G_run 7 ?_
              refine G_end ⟨by kernel_rfl, ?_⟩
              refine R_ret ?_
              obtain rfl := inj1 hm
              exact ⟨trivial, fin_pure (by kernel_rfl)⟩
            replace hm := neg_inv hc hm
            refine G_run 7 ?_
            refine G_end ⟨by kernel_rfl, ?_⟩
            refine R_ret ?_
            obtain rfl := inj1 hm
            exact ⟨trivial, fin_pure (by kernel_rfl)⟩
          replace hm := hs
          clear hs
          refine G_split (p := v5 = true) 44 (bool_dec _) (fun hc => ?_) (fun hc => ?_)
          · replace hm := pos_inv hc hm
            refine G_run 6 ?_
            obtain rfl := inj1 hm
            exact hJ _ _ (by kernel_rfl) (by kernel_rfl)
          replace hm := neg_inv hc hm
          refine G_run 6 ?_
          obtain rfl := inj1 hm
          exact hJ _ _ (by kernel_rfl) (by kernel_rfl)
        replace hm := hs
        clear hs
        refine G_split (p := v4 = true) 37 (bool_dec _) (fun hc => ?_) (fun hc => ?_)
        · replace hm := pos_inv hc hm
          refine G_run 6 ?_
          obtain rfl := inj1 hm
          exact hJ _ _ (by kernel_rfl) (by kernel_rfl)
        replace hm := neg_inv hc hm
        refine G_run 6 ?_
        obtain rfl := inj1 hm
        exact hJ _ _ (by kernel_rfl) (by kernel_rfl)
      replace hm := hs
      clear hs
      refine G_split (p := v3 = true) 30 (bool_dec _) (fun hc => ?_) (fun hc => ?_)
      · replace hm := pos_inv hc hm
        refine G_run 6 ?_
        obtain rfl := inj1 hm
        exact hJ _ _ (by kernel_rfl) (by kernel_rfl)
      replace hm := neg_inv hc hm
      refine G_run 6 ?_
      obtain rfl := inj1 hm
      exact hJ _ _ (by kernel_rfl) (by kernel_rfl)
    replace hm := hs
    clear hs
    refine G_split (p := v2 = true) 23 (bool_dec _) (fun hc => ?_) (fun hc => ?_)
    · replace hm := pos_inv hc hm
      refine G_run 6 ?_
      obtain rfl := inj1 hm
      exact hJ _ _ (by kernel_rfl) (by kernel_rfl)
    replace hm := neg_inv hc hm
    refine G_run 6 ?_
    obtain rfl := inj1 hm
    exact hJ _ _ (by kernel_rfl) (by kernel_rfl)
  replace hm := hs
  clear hs
  refine G_split (p := v1 = true) 16 (bool_dec _) (fun hc => ?_) (fun hc => ?_)
  · replace hm := pos_inv hc hm
    refine G_run 6 ?_
    obtain rfl := inj1 hm
    exact hJ _ _ (by kernel_rfl) (by kernel_rfl)
  replace hm := neg_inv hc hm
  refine G_run 6 ?_
  obtain rfl := inj1 hm
  exact hJ _ _ (by kernel_rfl) (by kernel_rfl)
end Go.Proofs.Try
namespace Go.Proofs.Try
open Go Go.Pm
set_option linter.unusedVariables false
set_option maxHeartbeats 2000000
set_option maxRecDepth 2000
def m_onf_Same (x : (T_onf_Nest × T_onf_Nest)) : Option Bool :=
  match x with
  | (p0, p1) =>
  m_slices_Equal_int_int (p0.dims, p1.dims) >>= fun (v1 : Bool) =>
  (if v1 = true then
    some (p0.write == p1.write)
  else
  some false
  ) >>= fun (v2 : Bool) =>
  (if v2 = true then
    m_slices_Equal_int_int (p0.steps, p1.steps) >>= fun (v4 : Bool) =>
    some v4
  else
  some false
  ) >>= fun (v3 : Bool) =>
  if v3 = true then
    m_access_Same ((⟨p0.read.kind, p0.read.buffer, p0.read.base, p0.read.strides, p0.read.start, p0.read.step, p0.read.mod⟩ : T_access_Access), (⟨p1.read.kind, p1.read.buffer, p1.read.base, p1.read.strides, p1.read.start, p1.read.step, p1.read.mod⟩ : T_access_Access)) >>= fun (v5 : Bool) =>
    some v5
  else
  some false
def P_onf_Same : (T_onf_Nest × T_onf_Nest) → Bool → Prop := fun x r => match x, r with
  | (p0, p1), r0 => ∀ H, PC prog env 28 ([(T_onf_Nest.toD p0), (T_onf_Nest.toD p1)].map .dat) H (boolPV r0) H
theorem w_onf_Same : ∀ x r, m_onf_Same x = some r → P_onf_Same x r := by
  intro x r0 hm
  unfold m_onf_Same at hm
  unfold P_onf_Same
  obtain ⟨p0, p1⟩ := x
  intro H
  refine PC_sx (ds := [(T_onf_Nest.toD p0), (T_onf_Nest.toD p1)]) (fn := f28) (by kernel_rfl) (by kernel_rfl) rfl ?_ (by kernel_rfl)
  refine R_seq ?_
  refine R_G ?_
  refine G_run 3 ?_
  refine G_end ?_
  refine R_seq ?_
  refine R_GN ?_
  refine G_run 4 ?_
  obtain ⟨v1, hx, hm⟩ := bind_inv hm
  have hq := w_slices_Equal_int_int _ _ hx []
  refine G_callP hq ?_
  refine G_run 1 ?_
  obtain ⟨v2, hs, hm⟩ := bind_inv hm
  refine G_cut (j := 12) (fun d => ⟨sl d 31 [(0, (.dat (.agg [(.lst ((List.map intD) p0.dims)), (intD p0.write), (.lst ((List.map intD) p0.steps)), (intD p0.read.kind), (intD p0.read.buffer), (intD p0.read.base), (.lst ((List.map intD) p0.read.strides)), (intD p0.read.start), (intD p0.read.step), (intD p0.read.mod)]))), (1, (.dat (.agg [(.lst ((List.map intD) p1.dims)), (intD p1.write), (.lst ((List.map intD) p1.steps)), (intD p1.read.kind), (intD p1.read.buffer), (intD p1.read.base), (.lst ((List.map intD) p1.read.strides)), (intD p1.read.start), (intD p1.read.step), (intD p1.read.mod)]))), (2, (.ptr 0 0)), (3, (.ptr 1 0)), (4, (boolPV false)), (5, (.ptr 0 0)), (6, (.dat (.lst ((List.map intD) p0.dims)))), (7, (.ptr 1 0)), (8, (.dat (.lst ((List.map intD) p1.dims)))), (9, (boolPV v1)), (16, (boolPV v2))], [(.box [(.dat (.lst ((List.map intD) p0.dims))), (intPV p0.write), (.dat (.lst ((List.map intD) p0.steps))), (intPV p0.read.kind), (intPV p0.read.buffer), (intPV p0.read.base), (.dat (.lst ((List.map intD) p0.read.strides))), (intPV p0.read.start), (intPV p0.read.step), (intPV p0.read.mod)]), (.box [(.dat (.lst ((List.map intD) p1.dims))), (intPV p1.write), (.dat (.lst ((List.map intD) p1.steps))), (intPV p1.read.kind), (intPV p1.read.buffer), (intPV p1.read.base), (.dat (.lst ((List.map intD) p1.read.strides))), (intPV p1.read.start), (intPV p1.read.step), (intPV p1.read.mod)])]⟩) (fun d => ?_) (fun hJ => ?_)
  · clear hs
    refine G_run 1 ?_
    obtain ⟨v3, hs, hm⟩ := bind_inv hm
    refine G_cut (j := 19) (fun d => ⟨sl d 31 [(0, (.dat (.agg [(.lst ((List.map intD) p0.dims)), (intD p0.write), (.lst ((List.map intD) p0.steps)), (intD p0.read.kind), (intD p0.read.buffer), (intD p0.read.base), (.lst ((List.map intD) p0.read.strides)), (intD p0.read.start), (intD p0.read.step), (intD p0.read.mod)]))), (1, (.dat (.agg [(.lst ((List.map intD) p1.dims)), (intD p1.write), (.lst ((List.map intD) p1.steps)), (intD p1.read.kind), (intD p1.read.buffer), (intD p1.read.base), (.lst ((List.map intD) p1.read.strides)), (intD p1.read.start), (intD p1.read.step), (intD p1.read.mod)]))), (2, (.ptr 0 0)), (3, (.ptr 1 0)), (4, (boolPV false)), (5, (.ptr 0 0)), (6, (.dat (.lst ((List.map intD) p0.dims)))), (7, (.ptr 1 0)), (8, (.dat (.lst ((List.map intD) p1.dims)))), (9, (boolPV v1)), (16, (boolPV v2)), (23, (boolPV v3))], [(.box [(.dat (.lst ((List.map intD) p0.dims))), (intPV p0.write), (.dat (.lst ((List.map intD) p0.steps))), (intPV p0.read.kind), (intPV p0.read.buffer), (intPV p0.read.base), (.dat (.lst ((List.map intD) p0.read.strides))), (intPV p0.read.start), (intPV p0.read.step), (intPV p0.read.mod)]), (.box [(.dat (.lst ((List.map intD) p1.dims))), (intPV p1.write), (.dat (.lst ((List.map intD) p1.steps))), (intPV p1.read.kind), (intPV p1.read.buffer), (intPV p1.read.base), (.dat (.lst ((List.map intD) p1.read.strides))), (intPV p1.read.start), (intPV p1.read.step), (intPV p1.read.mod)])]⟩) (fun d => ?_) (fun hJ => ?_)
    · clear hs
      refine G_run 1 ?_
      refine G_split (p := v3 = true) 24 (bool_dec _) (fun hc => ?_) (fun hc => ?_)
      · replace hm := pos_inv hc hm
        refine G_run 4 ?_
        obtain ⟨v5, hx, hm⟩ := bind_inv hm
        have hq := w_access_Same _ _ hx []
        refine G_callP hq ?_
        refine G_run 2 ?_
        refine G_end ⟨by kernel_rfl, ?_⟩
        refine R_ret ?_
        obtain rfl := inj1 hm
        exact ⟨trivial, fin_pure (by kernel_rfl)⟩
      replace hm := neg_inv hc hm
      refine G_run 7 ?_
      refine G_end ⟨by kernel_rfl, ?_⟩
      refine R_ret ?_
      obtain rfl := inj1 hm
      exact ⟨trivial, fin_pure (by kernel_rfl)⟩
    replace hm := hs
    clear hs
    refine G_split (p := v2 = true) 17 (bool_dec _) (fun hc => ?_) (fun hc => ?_)
    · replace hm := pos_inv hc hm
      refine G_run 4 ?_
      obtain ⟨v4, hx, hm⟩ := bind_inv hm
      have hq := w_slices_Equal_int_int _ _ hx []
      refine G_callP hq ?_
      refine G_run 1 ?_
      obtain rfl := inj1 hm
      exact hJ _ _ (by kernel_rfl) (by kernel_rfl)
    replace hm := neg_inv hc hm
    refine G_run 6 ?_
    obtain rfl := inj1 hm
    exact hJ _ _ (by kernel_rfl) (by kernel_rfl)
  replace hm := hs
  clear hs
  refine G_split (p := v1 = true) 10 (bool_dec _) (fun hc => ?_) (fun hc => ?_)
  · replace hm := pos_inv hc hm
    refine G_run 6 ?_
    obtain rfl := inj1 hm
    exact hJ _ _ (by kernel_rfl) (by kernel_rfl)
  replace hm := neg_inv hc hm
  refine G_run 6 ?_
  obtain rfl := inj1 hm
  exact hJ _ _ (by kernel_rfl) (by kernel_rfl)
end Go.Proofs.Try
namespace Go.Proofs.Try
open Go Go.Pm
set_option linter.unusedVariables false
set_option maxHeartbeats 2000000
set_option maxRecDepth 2000
def m_ref03_All_L3 (x : ((List Int) × Int × (List (List Int)) × Int × (List (List Int)) × Int)) : Option ((List (List Int))) :=
  match x with
  | (p0, v202, v201, v803, v1403, v1404) =>
  idx p0 v202 >>= fun v1804 =>
  if v1404 < v1804 then
    idx v201 v803 >>= fun v1805 =>
    app 8 ([] : List Int) v1805 >>= fun v1806 =>
    app 8 v1806 ([v1404] : List Int) >>= fun v1807 =>
    app 24 v1403 ([v1807] : List (List Int)) >>= fun v1808 =>
    m_ref03_All_L3 (p0, v202, v201, v803, v1808, (W (v1404 + 1)))
  else
  some v1403
  partial_fixpoint
def P_ref03_All_L3 : ((List Int) × Int × (List (List Int)) × Int × (List (List Int)) × Int) → (List (List Int)) → Prop := fun x r => match x with
  | (p0, v202, v201, v803, v1403, v1404) => ∀ st, prune 1 ((firstRegion (codeAt [1, 1, 0, 1, 0, 0, 1, 0, 0, 1, 0, 1, 0, 0, 1, 0, 0, 1, 0, 0] (bodyOf f30))).bind (env.hint 30).keepAt) st = ⟨kp 44 [(0, (.dat (.lst ((List.map intD) p0)))), (3, (.dat (.lst ((List.map (fun l => Dat.lst ((List.map intD) l))) v201)))), (4, (intPV v202)), (5, (.vec 0 ((List.map (fun l => Dat.lst ((List.map intD) l))) v1403))), (6, (intPV v803)), (7, (intPV v1404))], [(.tok 22 v1403.length)]⟩ →
    RL prog env (env.hint 30) true (codeAt [1, 1, 0, 1, 0, 0, 1, 0, 0, 1, 0, 1, 0, 0, 1, 0, 0, 1, 0, 0] (bodyOf f30)) 1 st (fun e s => match r with | v1803 => e = .exit 4 ∧ ∃ d, s = ⟨sl d 44 [(0, (.dat (.lst ((List.map intD) p0)))), (3, (.dat (.lst ((List.map (fun l => Dat.lst ((List.map intD) l))) v201)))), (4, (intPV v202)), (5, (.vec 0 ((List.map (fun l => Dat.lst ((List.map intD) l))) v1803))), (6, (intPV v803))], [(.tok 22 v1803.length)]⟩)
theorem w_ref03_All_L3 : ∀ x r, m_ref03_All_L3 x = some r → P_ref03_All_L3 x r := by
  refine m_ref03_All_L3.partial_correctness _ (fun m_ref03_All_L3 w_ref03_All_L3 x r hm => ?_)
  unfold P_ref03_All_L3
  obtain ⟨p0, v202, v201, v803, v1403, v1404⟩ := x
  intro st hst
  refine RL_at hst ?_
  clear hst
  refine R_seq ?_
  refine R_seq ?_
  refine R_G ?_
  refine G_run 3 ?_
  obtain ⟨v1804, hx, hm⟩ := bind_inv hm
  refine I_idx 1 intD p0 v202 v1804 (es := (List.map intD) p0) (d := (intD v1804)) rfl hx rfl rfl ?_
  refine G_run 2 ?_
  refine G_end ?_
  refine R_ifp (p := v1404 < v1804) (rfl) (fun hc => ?_) (fun hc => ?_)
  · replace hm := pos_inv hc hm
    refine R_skip ?_
    refine R_seq ?_
    refine R_block ?_
    refine R_G ?_
    refine G_run 4 ?_
    obtain ⟨v1805, hx, hm⟩ := bind_inv hm
    refine I_idx 1 (fun l => Dat.lst ((List.map intD) l)) v201 v803 v1805 (es := (List.map (fun l => Dat.lst ((List.map intD) l))) v201) (d := (.lst ((List.map intD) v1805))) rfl hx rfl rfl ?_
    refine G_run 1 ?_
    obtain ⟨v1806, hx, hm⟩ := bind_inv hm
    refine I_app 3 1 8 1 intD ([] : List Int) v1805 v1806 (xs := (List.map intD) ([] : List Int)) (es := (List.map intD) v1805) (L := (List.map intD)) (fun _ => rfl) rfl rfl (fun _ => rfl) hx ?_
    refine G_run 2 ?_
    obtain ⟨v1807, hx, hm⟩ := bind_inv hm
    refine I_app 3 1 8 1 intD v1806 ([v1404] : List Int) v1807 (xs := (List.map intD) v1806) (es := (List.map intD) ([v1404] : List Int)) (L := (List.map intD)) (fun _ => rfl) rfl rfl (fun _ => rfl) hx ?_
    refine G_run 1 ?_
    obtain ⟨v1808, hx, hm⟩ := bind_inv hm
    refine I_app 22 1 24 0 (fun l => Dat.lst ((List.map intD) l)) v1403 ([v1807] : List (List Int)) v1808 (xs := (List.map (fun l => Dat.lst ((List.map intD) l))) v1403) (es := (List.map (fun l => Dat.lst ((List.map intD) l))) ([v1807] : List (List Int))) (L := (List.map (fun l => Dat.lst ((List.map intD) l)))) (fun _ => rfl) rfl rfl (fun _ => rfl) hx ?_
    refine G_run 1 ?_
    refine G_end ?_
    refine R_G ?_
    refine G_run 3 ?_
    refine G_end ?_
    exact w_ref03_All_L3 _ _ hm _ (by kernel_rfl)
  replace hm := neg_inv hc hm
  refine R_exit ?_
  obtain rfl := inj1 hm
  exact ⟨rfl, cut_leaf (by kernel_rfl)⟩
def m_ref03_All_L2 (x : ((List (List Int)) × (List Int) × Int × (List (List Int)) × Int)) : Option ((List (List Int))) :=
  match x with
  | (v201, p0, v202, v802, v803) =>
  if v803 < (v201.length : Int) then
    m_ref03_All_L3 (p0, v202, v201, v803, v802, 0) >>= fun (v1803 : (List (List Int))) =>
    m_ref03_All_L2 (v201, p0, v202, v1803, (W (v803 + 1)))
  else
  some v802
  partial_fixpoint
def P_ref03_All_L2 : ((List (List Int)) × (List Int) × Int × (List (List Int)) × Int) → (List (List Int)) → Prop := fun x r => match x with
  | (v201, p0, v202, v802, v803) => ∀ st, prune 1 ((firstRegion (codeAt [1, 1, 0, 1, 0, 0, 1, 0, 0, 1, 0, 1, 0, 0] (bodyOf f30))).bind (env.hint 30).keepAt) st = ⟨kp 44 [(0, (.dat (.lst ((List.map intD) p0)))), (3, (.dat (.lst ((List.map (fun l => Dat.lst ((List.map intD) l))) v201)))), (4, (intPV v202)), (5, (.vec 0 ((List.map (fun l => Dat.lst ((List.map intD) l))) v802))), (6, (intPV v803))], [(.tok 22 v802.length)]⟩ →
    RL prog env (env.hint 30) true (codeAt [1, 1, 0, 1, 0, 0, 1, 0, 0, 1, 0, 1, 0, 0] (bodyOf f30)) 1 st (fun e s => match r with | v1202 => e = .exit 2 ∧ ∃ d, s = ⟨sl d 44 [(0, (.dat (.lst ((List.map intD) p0)))), (4, (intPV v202)), (5, (.vec 0 ((List.map (fun l => Dat.lst ((List.map intD) l))) v1202)))], [(.tok 22 v1202.length)]⟩)
theorem w_ref03_All_L2 : ∀ x r, m_ref03_All_L2 x = some r → P_ref03_All_L2 x r := by
  refine m_ref03_All_L2.partial_correctness _ (fun m_ref03_All_L2 w_ref03_All_L2 x r hm => ?_)
  unfold P_ref03_All_L2
  obtain ⟨v201, p0, v202, v802, v803⟩ := x
  intro st hst
  refine RL_at hst ?_
  clear hst
  refine R_seq ?_
  refine R_seq ?_
  refine R_G ?_
  refine G_run 2 ?_
  refine I_len (fun l => Dat.lst ((List.map intD) l)) v201 (es := (List.map (fun l => Dat.lst ((List.map intD) l))) v201) rfl ?_
  refine G_run 1 ?_
  refine G_end ?_
  refine R_ifp (p := v803 < (v201.length : Int)) (rfl) (fun hc => ?_) (fun hc => ?_)
  · replace hm := pos_inv hc hm
    refine R_skip ?_
    refine R_seq ?_
    refine R_block ?_
    refine R_seq ?_
    refine R_G ?_
    refine G_run 1 ?_
    refine G_end ?_
    refine R_block ?_
    obtain ⟨v1803, hs, hm⟩ := bind_inv hm
    refine R_loop ?_
    refine RL_use (w_ref03_All_L3 _ _ hs) (by kernel_rfl) ?_
    clear hs
    intro e s hp
    obtain ⟨rfl, d, rfl⟩ := hp
    refine R_G ?_
    refine G_run 3 ?_
    refine G_end ?_
    exact w_ref03_All_L2 _ _ hm _ (by kernel_rfl)
  replace hm := neg_inv hc hm
  refine R_exit ?_
  obtain rfl := inj1 hm
  exact ⟨rfl, cut_leaf (by kernel_rfl)⟩
def m_ref03_All_L1 (x : ((List Int) × (List (List Int)) × Int)) : Option ((List (List Int))) :=
  match x with
  | (p0, v201, v202) =>
  if v202 < (p0.length : Int) then
    m_ref03_All_L2 (v201, p0, v202, ([] : List (List Int)), 0) >>= fun (v1202 : (List (List Int))) =>
    m_ref03_All_L1 (p0, v1202, (W (v202 + 1)))
  else
  some v201
  partial_fixpoint
def P_ref03_All_L1 : ((List Int) × (List (List Int)) × Int) → (List (List Int)) → Prop := fun x r => match x with
  | (p0, v201, v202) => ∀ st, prune 0 ((firstRegion (codeAt [1, 1, 0, 1, 0, 0] (bodyOf f30))).bind (env.hint 30).keepAt) st = ⟨kp 44 [(0, (.dat (.lst ((List.map intD) p0)))), (3, (.dat (.lst ((List.map (fun l => Dat.lst ((List.map intD) l))) v201)))), (4, (intPV v202))], []⟩ →
    RL prog env (env.hint 30) true (codeAt [1, 1, 0, 1, 0, 0] (bodyOf f30)) 0 st (fun e s => match r with | v601 => e = .exit 0 ∧ ∃ d, s = ⟨sl d 44 [(3, (.dat (.lst ((List.map (fun l => Dat.lst ((List.map intD) l))) v601))))], []⟩)
theorem w_ref03_All_L1 : ∀ x r, m_ref03_All_L1 x = some r → P_ref03_All_L1 x r := by
  refine m_ref03_All_L1.partial_correctness _ (fun m_ref03_All_L1 w_ref03_All_L1 x r hm => ?_)
  unfold P_ref03_All_L1
  obtain ⟨p0, v201, v202⟩ := x
  intro st hst
  refine RL_at hst ?_
  clear hst
  refine R_seq ?_
  refine R_seq ?_
  refine R_G ?_
  refine G_run 2 ?_
  refine I_len intD p0 (es := (List.map intD) p0) rfl ?_
  refine G_run 1 ?_
  refine G_end ?_
  refine R_ifp (p := v202 < (p0.length : Int)) (rfl) (fun hc => ?_) (fun hc => ?_)
  · replace hm := pos_inv hc hm
    refine R_skip ?_
    refine R_seq ?_
    refine R_block ?_
    refine R_seq ?_
    refine R_G ?_
    refine G_run 1 ?_
    refine G_end ?_
    refine R_seq ?_
    refine R_seq ?_
    refine R_G ?_
    refine G_run 1 ?_
    refine G_end ?_
    refine R_block ?_
    obtain ⟨v1202, hs, hm⟩ := bind_inv hm
    refine R_loop ?_
    refine RL_use (w_ref03_All_L2 _ _ hs) (by kernel_rfl) ?_
    clear hs
    intro e s hp
    obtain ⟨rfl, d, rfl⟩ := hp
    refine R_G ?_
    refine G_run 2 ?_
    refine G_end ?_
    refine R_G ?_
    refine G_run 3 ?_
    refine G_end ?_
    exact w_ref03_All_L1 _ _ hm _ (by kernel_rfl)
  replace hm := neg_inv hc hm
  refine R_exit ?_
  obtain rfl := inj1 hm
  exact ⟨rfl, cut_leaf (by kernel_rfl)⟩
def m_ref03_All (x : (List Int)) : Option (List (List Int)) :=
  match x with
  | p0 =>
  m_ref03_All_L1 (p0, ([([] : (List Int))] : List (List Int)), 0) >>= fun (v601 : (List (List Int))) =>
  some v601
def P_ref03_All : (List Int) → (List (List Int)) → Prop := fun x r => match x, r with
  | p0, r0 => ∀ H, PC prog env 30 ([(.lst ((List.map intD) p0))].map .dat) H (.dat (.lst ((List.map (fun l => Dat.lst ((List.map intD) l))) r0))) H
theorem w_ref03_All : ∀ x r, m_ref03_All x = some r → P_ref03_All x r := by
  intro p0 r0 hm
  unfold m_ref03_All at hm
  unfold P_ref03_All
  intro H
  refine PC_sx (ds := [(.lst ((List.map intD) p0))]) (fn := f30) (by kernel_rfl) (by kernel_rfl) rfl ?_ (by kernel_rfl)
  refine R_seq ?_
  refine R_G ?_
  refine G_run 1 ?_
  refine G_end ?_
  refine R_seq ?_
  refine R_G ?_
  refine G_run 3 ?_
  refine G_end ?_
  refine R_seq ?_
  refine R_seq ?_
  refine R_G ?_
  refine G_run 1 ?_
  refine G_end ?_
  refine R_block ?_
  obtain ⟨v601, hs, hm⟩ := bind_inv hm
  refine R_loop ?_
  refine RL_use (w_ref03_All_L1 _ _ hs) (by kernel_rfl) ?_
  clear hs
  intro e s hp
  obtain ⟨rfl, d, rfl⟩ := hp
  refine R_seq ?_
  refine R_G ?_
  refine G_run 2 ?_
  refine G_end ?_
  refine R_ret ?_
  obtain rfl := inj1 hm
  exact ⟨trivial, fin_pure (by kernel_rfl)⟩
end Go.Proofs.Try
namespace Go.Proofs.Try
open Go Go.Pm
set_option linter.unusedVariables false
set_option maxHeartbeats 2000000
set_option maxRecDepth 2000
def m_ref03_Dot_L1 (x : ((List Int) × (List Int) × Int × Int)) : Option (Int) :=
  match x with
  | (p0, p1, v201, v202) =>
  (if v202 < (p0.length : Int) then
    some (decide (v202 < (p1.length : Int)))
  else
  some false
  ) >>= fun (v602 : Bool) =>
  if v602 = true then
    idx p0 v202 >>= fun v603 =>
    idx p1 v202 >>= fun v604 =>
    m_ref03_Dot_L1 (p0, p1, (W (v201 + (W (v603 * v604)))), (W (v202 + 1)))
  else
  some v201
  partial_fixpoint
def P_ref03_Dot_L1 : ((List Int) × (List Int) × Int × Int) → Int → Prop := fun x r => match x with
  | (p0, p1, v201, v202) => ∀ st, prune 0 ((firstRegion (codeAt [1, 1, 0, 1, 0, 0] (bodyOf f62))).bind (env.hint 62).keepAt) st = ⟨kp 31 [(0, (.dat (.lst ((List.map intD) p0)))), (1, (.dat (.lst ((List.map intD) p1)))), (5, (intPV v201)), (6, (intPV v202))], []⟩ →
    RL prog env (env.hint 62) true (codeAt [1, 1, 0, 1, 0, 0] (bodyOf f62)) 0 st (fun e s => match r with | v601 => e = .exit 0 ∧ ∃ d, s = ⟨sl d 31 [(5, (intPV v601))], []⟩)
theorem w_ref03_Dot_L1 : ∀ x r, m_ref03_Dot_L1 x = some r → P_ref03_Dot_L1 x r := by
  refine m_ref03_Dot_L1.partial_correctness _ (fun m_ref03_Dot_L1 w_ref03_Dot_L1 x r hm => ?_)
  unfold P_ref03_Dot_L1
  obtain ⟨p0, p1, v201, v202⟩ := x
  intro st hst
  refine RL_at hst ?_
  clear hst
  refine R_seq ?_
  refine R_seq ?_
  obtain ⟨v602, hs, hm⟩ := bind_inv hm
  refine R_cut (fun d => ⟨sl d 31 [(0, (.dat (.lst ((List.map intD) p0)))), (1, (.dat (.lst ((List.map intD) p1)))), (5, (intPV v201)), (6, (intPV v202)), (16, (boolPV v602))], []⟩) ?_ (fun d => ?_)
  · replace hm := hs
    clear hs
    refine R_G ?_
    refine G_run 2 ?_
    refine I_len intD p0 (es := (List.map intD) p0) rfl ?_
    refine G_run 2 ?_
    refine G_split (p := v202 < (p0.length : Int)) 11 (rfl) (fun hc => ?_) (fun hc => ?_)
    · replace hm := pos_inv hc hm
      refine G_run 2 ?_
      refine I_len intD p1 (es := (List.map intD) p1) rfl ?_
      refine G_run 2 ?_
      refine G_end ?_
      obtain rfl := inj1 hm
      exact cut_leaf (by kernel_rfl)
    replace hm := neg_inv hc hm
    refine G_run 5 ?_
    refine G_end ?_
    obtain rfl := inj1 hm
    exact cut_leaf (by kernel_rfl)
  clear hs
  refine R_ifp (p := v602 = true) (bool_dec _) (fun hc => ?_) (fun hc => ?_)
  · replace hm := pos_inv hc hm
    refine R_skip ?_
    refine R_seq ?_
    refine R_block ?_
    refine R_GD ?_
    refine G_run 3 ?_
    obtain ⟨v603, hx, hm⟩ := bind_inv hm
    refine I_idx 1 intD p0 v202 v603 (es := (List.map intD) p0) (d := (intD v603)) rfl hx rfl rfl ?_
    refine G_run 3 ?_
    obtain ⟨v604, hx, hm⟩ := bind_inv hm
    refine I_idx 1 intD p1 v202 v604 (es := (List.map intD) p1) (d := (intD v604)) rfl hx rfl rfl ?_
    refine G_run 4 ?_
    refine G_end ⟨by kernel_rfl, ?_⟩
    refine R_G ?_
    refine G_run 3 ?_
    refine G_end ?_
    exact w_ref03_Dot_L1 _ _ hm _ (by kernel_rfl)
  replace hm := neg_inv hc hm
  refine R_exit ?_
  obtain rfl := inj1 hm
  exact ⟨rfl, cut_leaf (by kernel_rfl)⟩
def m_ref03_Dot (x : ((List Int) × (List Int))) : Option Int :=
  match x with
  | (p0, p1) =>
  m_ref03_Dot_L1 (p0, p1, 0, 0) >>= fun (v601 : Int) =>
  some v601
def P_ref03_Dot : ((List Int) × (List Int)) → Int → Prop := fun x r => match x, r with
  | (p0, p1), r0 => ∀ H, PC prog env 62 ([(.lst ((List.map intD) p0)), (.lst ((List.map intD) p1))].map .dat) H (intPV r0) H
theorem w_ref03_Dot : ∀ x r, m_ref03_Dot x = some r → P_ref03_Dot x r := by
  intro x r0 hm
  unfold m_ref03_Dot at hm
  unfold P_ref03_Dot
  obtain ⟨p0, p1⟩ := x
  intro H
  refine PC_sx (ds := [(.lst ((List.map intD) p0)), (.lst ((List.map intD) p1))]) (fn := f62) (by kernel_rfl) (by kernel_rfl) rfl ?_ (by kernel_rfl)
  refine R_seq ?_
  refine R_G ?_
  refine G_run 1 ?_
  refine G_end ?_
  refine R_seq ?_
  refine R_G ?_
  refine G_run 1 ?_
  refine G_end ?_
  refine R_seq ?_
  refine R_seq ?_
  refine R_G ?_
  refine G_run 1 ?_
  refine G_end ?_
  refine R_block ?_
  obtain ⟨v601, hs, hm⟩ := bind_inv hm
  refine R_loop ?_
  refine RL_use (w_ref03_Dot_L1 _ _ hs) (by kernel_rfl) ?_
  clear hs
  intro e s hp
  obtain ⟨rfl, d, rfl⟩ := hp
  refine R_seq ?_
  refine R_G ?_
  refine G_run 2 ?_
  refine G_end ?_
  refine R_ret ?_
  obtain rfl := inj1 hm
  exact ⟨trivial, fin_pure (by kernel_rfl)⟩
end Go.Proofs.Try
namespace Go.Proofs.Try
open Go Go.Pm
set_option linter.unusedVariables false
set_option maxHeartbeats 2000000
set_option maxRecDepth 2000
def m_ref17_At (x : (T_ref17_Access × (List Int))) : Option (Int × Bool) :=
  match x with
  | (p0, p1) =>
  m_ref03_Dot (p0.strides, p1) >>= fun (v1 : Int) =>
  if p0.kind = 1 then
    some (0, false)
  else
  if p0.kind = 2 then
    some ((W (p0.base + v1)), true)
  else
  remM (W (p0.start + v1)) p0.mod >>= fun v2 =>
  (if v2 < 0 then
    some (W (v2 + p0.mod))
  else
  some v2
  ) >>= fun (v3 : Int) =>
  some ((W (p0.base + (W (p0.step * v3)))), true)
def P_ref17_At : (T_ref17_Access × (List Int)) → (Int × Bool) → Prop := fun x r => match x, r with
  | (p0, p1), (r0, r1) => ∀ H, PC prog env 63 ([(T_ref17_Access.toD p0), (.lst ((List.map intD) p1))].map .dat) H (.tup [(intPV r0), (boolPV r1)]) H
theorem w_ref17_At : ∀ x r, m_ref17_At x = some r → P_ref17_At x r := by
  intro x r hm
  unfold m_ref17_At at hm
  unfold P_ref17_At
  obtain ⟨p0, p1⟩ := x
  obtain ⟨r0, r1⟩ := r
  intro H
  refine PC_sx (ds := [(T_ref17_Access.toD p0), (.lst ((List.map intD) p1))]) (fn := f63) (by kernel_rfl) (by kernel_rfl) rfl ?_ (by kernel_rfl)
  refine R_seq ?_
  refine R_G ?_
  refine G_run 3 ?_
  refine G_end ?_
  refine R_seq ?_
  refine R_G ?_
  refine G_run 3 ?_
  obtain ⟨v1, hx, hm⟩ := bind_inv hm
  have hq := w_ref03_Dot _ _ hx []
  refine G_callP hq ?_
  refine G_run 1 ?_
  refine G_end ?_
  refine R_seq ?_
  refine R_seq ?_
  refine R_G ?_
  refine G_run 3 ?_
  refine G_end ?_
  refine R_ifp (p := p0.kind = 1) (eq_dec _ _) (fun hc => ?_) (fun hc => ?_)
  · replace hm := pos_inv hc hm
    refine R_seq ?_
    refine R_G ?_
    refine G_run 2 ?_
    refine G_end ?_
    refine R_ret ?_
    obtain ⟨rfl, rfl⟩ := inj2 hm
    exact ⟨trivial, fin_pure (by kernel_rfl)⟩
  replace hm := neg_inv hc hm
  refine R_skip ?_
  refine R_seq ?_
  refine R_seq ?_
  refine R_G ?_
  refine G_run 3 ?_
  refine G_end ?_
  refine R_ifp (p := p0.kind = 2) (eq_dec _ _) (fun hc => ?_) (fun hc => ?_)
  · replace hm := pos_inv hc hm
    refine R_seq ?_
    refine R_G ?_
    refine G_run 6 ?_
    refine G_end ?_
    refine R_ret ?_
    obtain ⟨rfl, rfl⟩ := inj2 hm
    exact ⟨trivial, fin_pure (by kernel_rfl)⟩
  replace hm := neg_inv hc hm
  refine R_skip ?_
  refine R_seq ?_
  refine R_G ?_
  refine G_run 6 ?_
  obtain ⟨v2, hx, hm⟩ := bind_inv hm
  refine G_semN rfl (by kernel_rfl) (fun _ => E_rem (a := (W (p0.start + v1))) (b := p0.mod) hx rfl (by kernel_rfl) (by kernel_rfl)) ?_
  refine G_run 1 ?_
  refine G_end ?_
  refine R_seq ?_
  refine R_seq ?_
  refine R_G ?_
  refine G_run 2 ?_
  refine G_end ?_
  obtain ⟨v3, hs, hm⟩ := bind_inv hm
  refine R_cut (fun d => ⟨sl d 42 [(2, (.ptr 0 0)), (7, (intPV v3))], [(.box [(intPV p0.kind), (intPV p0.buffer), (intPV p0.base), (.dat (.lst ((List.map intD) p0.strides))), (intPV p0.start), (intPV p0.step), (intPV p0.mod)])]⟩) ?_ (fun d => ?_)
  · replace hm := hs
    clear hs
    refine R_ifp (p := v2 < 0) (rfl) (fun hc => ?_) (fun hc => ?_)
    · replace hm := pos_inv hc hm
      refine R_G ?_
      refine G_run 5 ?_
      refine G_end ?_
      obtain rfl := inj1 hm
      exact cut_leaf (by kernel_rfl)
    replace hm := neg_inv hc hm
    refine R_skip ?_
    obtain rfl := inj1 hm
    exact cut_leaf (by kernel_rfl)
  clear hs
  refine R_seq ?_
  refine R_G ?_
  refine G_run 9 ?_
  refine G_end ?_
  refine R_ret ?_
  obtain ⟨rfl, rfl⟩ := inj2 hm
  exact ⟨trivial, fin_pure (by kernel_rfl)⟩
end Go.Proofs.Try
namespace Go.Proofs.Try
open Go Go.Pm
set_option linter.unusedVariables false
set_option maxHeartbeats 2000000
set_option maxRecDepth 2000
def m_ref21_Events_L1 (x : ((List (List Int)) × T_ref21_Nest × (List T_ref21_Event) × Int)) : Option ((List T_ref21_Event)) :=
  match x with
  | (v1, p0, v202, v203) =>
  if v203 < (v1.length : Int) then
    idx v1 v203 >>= fun v603 =>
    m_ref03_Dot (p0.steps, v603) >>= fun (v604 : Int) =>
    idx v1 v203 >>= fun v605 =>
    m_ref17_At ((⟨p0.read.kind, p0.read.buffer, p0.read.base, p0.read.strides, p0.read.start, p0.read.step, p0.read.mod⟩ : T_ref17_Access), v605) >>= fun ((v606, v607) : (Int × Bool)) =>
    (if v607 = true then
      some (p0.read.buffer, v606)
    else
    some (0, 0)
    ) >>= fun ((v608, v609) : (Int × Int)) =>
    app 32 v202 ([(⟨(W (p0.write + v604)), (!v607), v608, v609⟩ : T_ref21_Event)] : List T_ref21_Event) >>= fun v610 =>
    m_ref21_Events_L1 (v1, p0, v610, (W (v203 + 1)))
  else
  some v202
  partial_fixpoint
def P_ref21_Events_L1 : ((List (List Int)) × T_ref21_Nest × (List T_ref21_Event) × Int) → (List T_ref21_Event) → Prop := fun x r => match x with
  | (v1, p0, v202, v203) => ∀ st, prune 2 ((firstRegion (codeAt [1, 1, 1, 0, 1, 0, 0] (bodyOf f29))).bind (env.hint 29).keepAt) st = ⟨kp 54 [(1, (.ptr 0 0)), (3, (.vec 1 ((List.map T_ref21_Event.toD) v202))), (4, (.dat (.lst ((List.map (fun l => Dat.lst ((List.map intD) l))) v1)))), (5, (intPV v203))], [(.box [(.dat (.lst ((List.map intD) p0.dims))), (intPV p0.write), (.dat (.lst ((List.map intD) p0.steps))), (intPV p0.read.kind), (intPV p0.read.buffer), (intPV p0.read.base), (.dat (.lst ((List.map intD) p0.read.strides))), (intPV p0.read.start), (intPV p0.read.step), (intPV p0.read.mod)]), (.tok 60 v202.length)]⟩ →
    RL prog env (env.hint 29) true (codeAt [1, 1, 1, 0, 1, 0, 0] (bodyOf f29)) 2 st (fun e s => match r with | v602 => e = .exit 0 ∧ ∃ d, s = ⟨sl d 54 [(3, (.vec 1 ((List.map T_ref21_Event.toD) v602)))], [(.box [(.dat (.lst ((List.map intD) p0.dims))), (intPV p0.write), (.dat (.lst ((List.map intD) p0.steps))), (intPV p0.read.kind), (intPV p0.read.buffer), (intPV p0.read.base), (.dat (.lst ((List.map intD) p0.read.strides))), (intPV p0.read.start), (intPV p0.read.step), (intPV p0.read.mod)]), (.tok 60 v602.length)]⟩)
theorem w_ref21_Events_L1 : ∀ x r, m_ref21_Events_L1 x = some r → P_ref21_Events_L1 x r := by
  refine m_ref21_Events_L1.partial_correctness _ (fun m_ref21_Events_L1 w_ref21_Events_L1 x r hm => ?_)
  unfold P_ref21_Events_L1
  obtain ⟨v1, p0, v202, v203⟩ := x
  intro st hst
  refine RL_at hst ?_
  clear hst
  refine R_seq ?_
  refine R_seq ?_
  refine R_G ?_
  refine G_run 2 ?_
  refine I_len (fun l => Dat.lst ((List.map intD) l)) v1 (es := (List.map (fun l => Dat.lst ((List.map intD) l))) v1) rfl ?_
  refine G_run 1 ?_
  refine G_end ?_
  refine R_ifp (p := v203 < (v1.length : Int)) (rfl) (fun hc => ?_) (fun hc => ?_)
  · replace hm := pos_inv hc hm
    refine R_skip ?_
    refine R_seq ?_
    refine R_block ?_
    refine R_seq ?_
    refine R_GD ?_
    refine G_run 6 ?_
    obtain ⟨v603, hx, hm⟩ := bind_inv hm
    refine I_idx 1 (fun l => Dat.lst ((List.map intD) l)) v1 v203 v603 (es := (List.map (fun l => Dat.lst ((List.map intD) l))) v1) (d := (.lst ((List.map intD) v603))) rfl hx rfl rfl ?_
    refine G_run 1 ?_
    obtain ⟨v604, hx, hm⟩ := bind_inv hm
    have hq := w_ref03_Dot _ _ hx []
    refine G_callP hq ?_
    refine G_run 4 ?_
    refine G_end ⟨by kernel_rfl, ?_⟩
    refine R_seq ?_
    refine R_GD ?_
    refine G_run 4 ?_
    obtain ⟨v605, hx, hm⟩ := bind_inv hm
    refine I_idx 1 (fun l => Dat.lst ((List.map intD) l)) v1 v203 v605 (es := (List.map (fun l => Dat.lst ((List.map intD) l))) v1) (d := (.lst ((List.map intD) v605))) rfl hx rfl rfl ?_
    refine G_run 1 ?_
    obtain ⟨⟨v606, v607⟩, hx, hm⟩ := bind_inv hm
    have hq := w_ref17_At _ _ hx []
    refine G_callP hq ?_
    refine G_run 5 ?_
    refine G_end ⟨by kernel_rfl, ?_⟩
    refine R_seq ?_
    refine R_G ?_
    refine G_run 4 ?_
    refine G_end ?_
    refine R_seq ?_
    refine R_seq ?_
    refine R_G ?_
    refine G_run 1 ?_
    refine G_end ?_
    obtain ⟨⟨v608, v609⟩, hs, hm⟩ := bind_inv hm
    refine R_cut (fun d => ⟨sl d 54 [(1, (.ptr 0 0)), (3, (.vec 1 ((List.map T_ref21_Event.toD) v202))), (4, (.dat (.lst ((List.map (fun l => Dat.lst ((List.map intD) l))) v1)))), (5, (intPV v203)), (6, (.ptr 2 0))], [(.box [(.dat (.lst ((List.map intD) p0.dims))), (intPV p0.write), (.dat (.lst ((List.map intD) p0.steps))), (intPV p0.read.kind), (intPV p0.read.buffer), (intPV p0.read.base), (.dat (.lst ((List.map intD) p0.read.strides))), (intPV p0.read.start), (intPV p0.read.step), (intPV p0.read.mod)]), (.tok 60 v202.length), (.box [(intPV (W (p0.write + v604))), (boolPV (!v607)), (intPV v608), (intPV v609)])]⟩) ?_ (fun d => ?_)
    · replace hm := hs
      clear hs
      refine R_ifp (p := v607 = true) (bool_dec _) (fun hc => ?_) (fun hc => ?_)
      · replace hm := pos_inv hc hm
        refine R_seq ?_
        refine R_G ?_
        refine G_run 5 ?_
        refine G_end ?_
        refine R_G ?_
        refine G_run 3 ?_
        refine G_end ?_
        obtain ⟨rfl, rfl⟩ := inj2 hm
        exact cut_leaf (by kernel_rfl)
      replace hm := neg_inv hc hm
      refine R_skip ?_
      obtain ⟨rfl, rfl⟩ := inj2 hm
      exact cut_leaf (by kernel_rfl)
    clear hs
    refine R_G ?_
    refine G_run 3 ?_
    obtain ⟨v610, hx, hm⟩ := bind_inv hm
    refine I_app 60 4 32 1 T_ref21_Event.toD v202 ([(⟨(W (p0.write + v604)), (!v607), v608, v609⟩ : T_ref21_Event)] : List T_ref21_Event) v610 (xs := (List.map T_ref21_Event.toD) v202) (es := (List.map T_ref21_Event.toD) ([(⟨(W (p0.write + v604)), (!v607), v608, v609⟩ : T_ref21_Event)] : List T_ref21_Event)) (L := (List.map T_ref21_Event.toD)) (fun _ => rfl) rfl rfl T_ref21_Event.fit hx ?_
    refine G_run 1 ?_
    refine G_end ?_
    refine R_G ?_
    refine G_run 3 ?_
    refine G_end ?_
    exact w_ref21_Events_L1 _ _ hm _ (by kernel_rfl)
  replace hm := neg_inv hc hm
  refine R_exit ?_
  obtain rfl := inj1 hm
  exact ⟨rfl, cut_leaf (by kernel_rfl)⟩
def m_ref21_Events (x : T_ref21_Nest) : Option (List T_ref21_Event) :=
  match x with
  | p0 =>
  m_ref03_All p0.dims >>= fun (v1 : (List (List Int))) =>
  m_ref21_Events_L1 (v1, p0, ([] : List T_ref21_Event), 0) >>= fun (v602 : (List T_ref21_Event)) =>
  some v602
def P_ref21_Events : T_ref21_Nest → (List T_ref21_Event) → Prop := fun x r => match x, r with
  | p0, r0 => ∀ H, PC prog env 29 ([(T_ref21_Nest.toD p0)].map .dat) H (.dat (.lst ((List.map T_ref21_Event.toD) r0))) H
theorem w_ref21_Events : ∀ x r, m_ref21_Events x = some r → P_ref21_Events x r := by
  intro p0 r0 hm
  unfold m_ref21_Events at hm
  unfold P_ref21_Events
  intro H
  refine PC_sx (ds := [(T_ref21_Nest.toD p0)]) (fn := f29) (by kernel_rfl) (by kernel_rfl) rfl ?_ (by kernel_rfl)
  refine R_seq ?_
  refine R_G ?_
  refine G_run 2 ?_
  refine G_end ?_
  refine R_seq ?_
  refine R_G ?_
  refine G_run 1 ?_
  refine G_end ?_
  refine R_seq ?_
  refine R_G ?_
  refine G_run 2 ?_
  obtain ⟨v1, hx, hm⟩ := bind_inv hm
  have hq := w_ref03_All _ _ hx []
  refine G_callP hq ?_
  refine G_run 1 ?_
  refine G_end ?_
  refine R_seq ?_
  refine R_seq ?_
  refine R_G ?_
  refine G_run 1 ?_
  refine G_end ?_
  refine R_block ?_
  obtain ⟨v602, hs, hm⟩ := bind_inv hm
  refine R_loop ?_
  refine RL_use (w_ref21_Events_L1 _ _ hs) (by kernel_rfl) ?_
  clear hs
  intro e s hp
  obtain ⟨rfl, d, rfl⟩ := hp
  refine R_seq ?_
  refine R_G ?_
  refine G_run 2 ?_
  refine G_end ?_
  refine R_ret ?_
  obtain rfl := inj1 hm
  exact ⟨trivial, fin_pure (by kernel_rfl)⟩
end Go.Proofs.Try
