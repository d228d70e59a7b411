/-
  Models of functions, their walks, and plain laws.
-/
import Derived.Test.YtieiegplecaomaaPmSx
import Derived.Test.YtieiegplecaomaaProg
import Derived.Test.YtieiegplecaomaaPmStr
import Derived.Test.YtieiegplecaomaaPmMs
import Derived.KernelRfl
import Derived.Test.YtieiegplecaomaaPmLaw
namespace Go.Proofs.Try
open Go Go.Pm
set_option linter.unusedVariables false
set_option linter.unusedSimpArgs false
set_option maxRecDepth 2000
/-- lists that a machine can hold -/
def Sm (n : Nat) : Prop := n ≤ 9223372036854775807
theorem Sm_of {n m : Nat} (h : n ≤ m) (hm : m ≤ 9223372036854775807 := by decide) : Sm n := Nat.le_trans h hm
theorem idx_ok {α : Type} {l : List α} {j : Nat} (h : j < l.length) : idx l (j : Int) = some l[j] := by simp [idx, h]
theorem app_ok {α : Type} {b : Nat} {l es : List α} (h : (l.length + es.length) * b ≤ room) : app b l es = some (l ++ es) := if_pos h
theorem W_ok {n : Int} (h1 : -9223372036854775808 ≤ n) (h2 : n < 9223372036854775808) : W n = n := by
  simp only [W, IntKind.wrap, IntKind.bits, IntKind.signed]; simp; split <;> omega
theorem W_succ {j : Nat} (h : j < 9223372036854775807) : W ((j : Int) + 1) = ((j + 1 : Nat) : Int) := by rw [W_ok (by omega) (by omega)]; omega
/-! a loop over a list: what lies behind, what lies ahead -/
section
variable {α : Type} {p s : List α} {x : α}
theorem mid_lt : ((p.length : Int) < ((p ++ x :: s).length : Int)) := by simp; omega
theorem end_lt : ¬ ((p.length : Int) < ((p ++ ([] : List α)).length : Int)) := by simp
theorem mid_idx : idx (p ++ x :: s) (p.length : Int) = some x := by simp [idx]
theorem mid_app : p ++ x :: s = (p ++ [x]) ++ s := by simp
theorem mid_W (hs : Sm (p ++ x :: s).length) : W ((p.length : Int) + 1) = ((p ++ [x]).length : Int) := by
  unfold Sm at hs
  rw [W_ok (by omega) (by simp at hs; omega)]; simp
end
theorem bind_ok {α β : Type} (a : α) (f : α → Option β) : (some a >>= f) = f a := rfl
end Go.Proofs.Try
namespace Go.Proofs.Try
open Go Go.Pm
set_option linter.unusedVariables false
set_option maxHeartbeats 2000000
set_option maxRecDepth 2000
def hintOf : FuncId → Hint
  | 4 => { own := [((3, 0), [(0, 2)])], keep := [(5, [0, 1, 5, 6]), (15, [0, 1, 7, 9, 11])] }
  | 6 => { own := [], keep := [(12, [5, 6, 7])] }
  | 7 => { own := [], keep := [(6, [1, 3, 4, 5])] }
  | 8 => { own := [((4, 0), [(0, 3)]), ((5, 0), [(0, 3)]), ((6, 0), [(0, 3)])], keep := [(9, [2, 3, 5, 6, 7]), (13, [2, 3, 5, 6, 8]), (17, [2, 3, 5, 6, 9])] }
  | 10 => { own := [], keep := [(2, [0, 3])] }
  | 12 => { own := [((13, 5), [(0, 78)])], keep := [] }
  | 13 => { own := [], keep := [(4, [0, 1, 5])] }
  | 17 => { own := [((6, 0), [(0, 3)]), ((6, 1), [(0, 3)]), ((18, 4), [(0, 78)])], keep := [(8, [4, 6, 8, 9, 38, 39, 40])] }
  | 18 => { own := [((6, 1), [(0, 3)]), ((12, 4), [(0, 78)])], keep := [(8, [4, 6, 8, 9, 41, 42, 43])] }
  | 22 => { own := [], keep := [(5, [1, 2, 5, 6])] }
  | 23 => { own := [((2, 4), [(0, 3)]), ((2, 9), [(0, 3)]), ((2, 15), [(0, 3)])], keep := [(5, [2, 3, 4, 5])] }
  | 25 => { own := [], keep := [(2, [1, 2, 3]), (7, [1, 2, 4])] }
  | 29 => { own := [((1, 0), [(0, 60)])], keep := [(4, [1, 3, 4, 5])] }
  | 30 => { own := [((5, 0), [(0, 22)]), ((12, 1), [(0, 3)])], keep := [(3, [0, 3, 4]), (7, [0, 3, 4, 5, 6]), (10, [0, 3, 4, 5, 6, 7])] }
  | 32 => { own := [], keep := [(3, [3, 7, 8, 9])] }
  | 33 => { own := [((4, 4), [(0, 78)])], keep := [] }
  | 34 => { own := [((9, 10), [(0, 78)])], keep := [] }
  | 36 => { own := [], keep := [(3, [0, 4, 5]), (9, [0, 4, 6]), (17, [0, 7, 8])] }
  | 38 => { own := [((3, 1), [(0, 3)])], keep := [] }
  | 40 => { own := [((4, 1), [(0, 3)]), ((4, 3), [(0, 3)])], keep := [(6, [6, 9, 23, 24, 25])] }
  | 44 => { own := [((1, 0), [(1000, 3)]), ((9, 3), [(0, 78)])], keep := [(3, [1, 2, 4, 6, 9, 10, 11]), (5, [1, 2, 4, 6, 7, 8, 9, 10, 11])] }
  | 48 => { own := [((2, 0), [(1000, 3)]), ((3, 0), [(1000, 3)])], keep := [] }
  | 51 => { own := [((1, 0), [(0, 50)])], keep := [(3, [1, 5, 8, 9, 10])] }
  | 54 => { own := [], keep := [(2, [1, 2, 5])] }
  | 55 => { own := [((1, 0), [(1000, 3)])], keep := [(3, [1, 5, 8, 9, 10])] }
  | 60 => { own := [], keep := [(4, [0, 1, 12, 13])] }
  | 61 => { own := [((0, 0), [(9000, 3)]), ((0, 1), [(9000, 3)])], keep := [] }
  | 62 => { own := [], keep := [(3, [0, 1, 5, 6])] }
  | 65 => { own := [], keep := [(3, [0, 1, 5, 11, 12])] }
  | 77 => { own := [((3, 2), [(0, 2)])], keep := [] }
  | 78 => { own := [((1, 2), [(0, 3)])], keep := [(3, [1, 6, 14, 15, 16])] }
  | 80 => { own := [], keep := [(5, [0, 3, 4])] }
  | 87 => { own := [((2, 5), [(0, 3)]), ((2, 6), [(0, 3)])], keep := [(4, [2, 4, 7, 26, 27, 28])] }
  | 89 => { own := [((1, 2), [(8000, 3)]), ((1, 4), [(0, 3)])], keep := [] }
  | 93 => { own := [((1, 0), [(0, 3)])], keep := [(3, [0, 1, 5, 6])] }
  | 94 => { own := [((1, 4), [(0, 3)])], keep := [] }
  | 102 => { own := [((2, 0), [(1000, 2)]), ((3, 0), [(1000, 2)])], keep := [] }
  | 103 => { own := [], keep := [(8, [7, 8])] }
  | 104 => { own := [], keep := [(2, [0, 1, 7, 8])] }
  | 106 => { own := [], keep := [(8, [0, 3, 4, 18, 19])] }
  | 108 => { own := [((1, 0), [(0, 123)])], keep := [(3, [1, 5, 8, 9, 10])] }
  | 117 => { own := [((9, 1), [(2000, 3)])], keep := [(3, [0, 3, 9, 10, 11]), (11, [6, 25, 26, 27])] }
  | 119 => { own := [], keep := [(3, [2, 8, 13, 14, 15])] }
  | 121 => { own := [], keep := [(4, [0, 12, 13, 14])] }
  | 127 => { own := [], keep := [(3, [0, 1, 5, 9, 10]), (9, [0, 1, 5, 24, 25])] }
  | 128 => { own := [], keep := [(2, [0, 1, 2, 3, 4, 10, 11])] }
  | 130 => { own := [], keep := [(2, [0, 1, 9, 10, 11])] }
  | 134 => { own := [], keep := [(2, [0, 1, 7, 8])] }
  | 139 => { own := [], keep := [(1, [0, 1, 2, 3, 8]), (4, [0, 1, 2, 3, 8, 9])] }
  | 140 => { own := [], keep := [(4, [0, 3, 8, 9, 10, 11]), (8, [0, 3, 8, 9, 12])] }
  | 141 => { own := [], keep := [(5, [0, 1, 8, 9, 10, 11])] }
  | 143 => { own := [], keep := [(2, [0, 8, 9])] }
  | 144 => { own := [], keep := [(3, [0, 1, 2, 3, 9, 10]), (5, [0, 1, 2, 3, 9, 10]), (14, [0, 1, 2, 3, 9, 10, 11]), (20, [0, 1, 2, 3, 9, 10, 12])] }
  | 145 => { own := [], keep := [(3, [0, 1, 4, 11, 12]), (5, [0, 1, 4, 11, 12])] }
  | 146 => { own := [], keep := [(3, [0, 1, 4, 12, 13]), (5, [0, 1, 4, 12, 13]), (13, [0, 1, 4, 12, 13]), (15, [0, 1, 4, 12, 13])] }
  | 150 => { own := [], keep := [(2, [0, 1, 7, 8])] }
  | 151 => { own := [], keep := [(1, [0, 2, 3, 4, 10])] }
  | _ => {}
def env : Env where
  summ := fun _ => none
  hint := hintOf
  pure := fun f => f != 40 && f != 42 && f != 47 && f != 48 && f != 55 && f != 56 && f != 57 && f != 76 && f != 78 && f != 79 && f != 81 && f != 83 && f != 92 && f != 94 && f != 97 && f != 102 && f != 103 && f != 118 && f != 124 && f != 125 && f != 126 && f != 135 && f != 138
  split := fun f => f == 48 || f == 102

end Go.Proofs.Try
namespace Go.Proofs.Try
open Go Go.Pm
theorem ag22 : aggT prog 22 = some false := by kernel_rfl
theorem by3 : bytesOf prog 3 = some 8 := by kernel_rfl
theorem el22 : elemOfSlice prog 22 = some 3 := by kernel_rfl
theorem el62 : elemOfSlice prog 62 = some 22 := by kernel_rfl
theorem sz22 : szOf prog 22 = some 1 := by kernel_rfl
theorem sz3 : szOf prog 3 = some 1 := by kernel_rfl
theorem un22 : prog.underlying 22 = some (TypeDesc.slice 3) := by kernel_rfl
theorem un3 : prog.underlying 3 = some (TypeDesc.int IntKind.i64) := by kernel_rfl
theorem un62 : prog.underlying 62 = some (TypeDesc.slice 22) := by kernel_rfl
theorem ze3 : zeroOf prog 3 = some (Dat.raw (Value.int IntKind.i64 (0))) := by kernel_rfl
theorem zn3 : (zeroOf prog 3).map Dat.num = some 1 := by kernel_rfl
end Go.Proofs.Try
namespace Go.Proofs.Try
open Go Go.Pm
set_option linter.unusedVariables false
set_option linter.unusedSimpArgs false
set_option maxRecDepth 2000
theorem wrap_i64 {n : Int} (h1 : -9223372036854775808 ≤ n) (h2 : n < 9223372036854775808) : IntKind.i64.wrap n = n := by
  simp only [IntKind.wrap, IntKind.bits, IntKind.signed]; simp; split <;> omega
theorem wrap_succ {j : Nat} (h : j < 9223372036854775807) : IntKind.i64.wrap ((j : Int) + 1) = ((j + 1 : Nat) : Int) := by rw [wrap_i64 (by omega) (by omega)]; omega

def intsD (l : List Int) : Dat := .lst (l.map intD)
theorem ints_get {l : List Int} {j : Nat} (h : j < l.length) : (l.map intD)[j]? = some (intD l[j]) := by simp [h]
theorem map_fit {α : Type} {f : α → Dat} {k : Nat} (h : ∀ a, Dat.fits k (f a) = true) (l : List α) : (l.map f).all (Dat.fits k) = true := by
  simp only [List.all_map, List.all_eq_true]; intro x _; exact h x
theorem getD_eq {l : List Int} {j : Nat} (h : j < l.length) : l.getD j 0 = l[j] := by simp [h]
theorem take_next {α : Type} {l : List α} {j : Nat} (h : j < l.length) : l.take (j + 1) = l.take j ++ [l[j]] := List.take_succ_eq_append_getElem h
def zg (n : Nat) : Nat := if n = 0 then 0 else 1
theorem c_Grow (n : Nat) (hn : n ≤ 1000000) : PC prog env 135 [.ms 0 0 0 0 0, .dat (intD (n : Int))] [.mt 3 0 []] (.ms 0 (zg n) 0 0 n) [.mt 3 (zg n) (cellsOf intD (List.replicate n 0))] := by
  refine PC_body (fn := f135) (by kernel_rfl) rfl rfl (by kernel_rfl) rfl ?_
  refine R_eq (st' := ⟨[.ms 0 0 0 0 0, .dat (intD (n : Int)), .tup [], .tup [], .tup [], .tup [], .tup [], .tup [], .tup [], .tup [], .tup [], .tup [], .tup [], .tup [], .tup [], .tup [], .tup [], .tup [], .tup [], .tup [], .tup [], .tup [], .tup [], .tup [], .tup [], .tup [], .tup []], [.mt 3 0 []]⟩) rfl ?_
  repeat (first | refine R_seq ?_ | refine R_block ?_ | refine R_skip ?_)
  refine R_region ?_
  (refine OpsE_do rfl ?_; refine E_assign rfl rfl ?_; refine OpsE_eq (st' := _) (by first | dsimp only [n0, n1, n2, n3, n4, n5, n6, n7, n8, n9, m0, m1, m2, m3, m4, m5, m6, m7, m8, m9, o0, o1, o2, o3, o4, ↓reduceIte] | rfl) ?_)
  refine OpsE_nil ?_
  have h0 : ¬ ((n : Int) < 0) := by omega
  repeat (first | refine R_seq ?_ | refine R_block ?_ | refine R_skip ?_)
  refine R_region ?_
  iterate 2 ((refine OpsE_do rfl ?_; first | refine E_move rfl ?_ | refine E_int rfl rfl rfl rfl ?_); refine OpsE_eq (st' := _) (by first | (simp only [n0, n1, n2, n3, n4, n5, n6, n7, n8, n9, m0, m1, m2, m3, m4, m5, m6, m7, m8, m9, o0, o1, o2, o3, o4, ↓reduceIte, decide_eq_false h0] <;> rfl) | rfl) ?_)
  refine OpsE_nil ?_
  repeat (first | refine R_seq ?_ | refine R_block ?_ | refine R_skip ?_)
  refine R_false rfl ?_
  have w1 : IntKind.i64.wrap ((n : Int) - IntKind.i64.wrap (0 - ((0 : Nat) : Int))) = (n : Int) := by rw [wrap_i64 (n := 0 - ((0 : Nat) : Int)) (by omega) (by omega), wrap_i64 (by omega) (by omega)]; omega
  repeat (first | refine R_seq ?_ | refine R_block ?_ | refine R_skip ?_)
  refine R_region ?_
  iterate 2 ((refine OpsE_do rfl ?_; refine E_move rfl ?_); refine OpsE_eq (st' := _) (by first | dsimp only [n0, n1, n2, n3, n4, n5, n6, n7, n8, n9, m0, m1, m2, m3, m4, m5, m6, m7, m8, m9, o0, o1, o2, o3, o4, ↓reduceIte] | rfl) ?_)
  (refine OpsE_do rfl ?_; refine E_cap un22 rfl rfl (mtOf_at rfl) ?_; refine OpsE_eq (st' := _) (by first | dsimp only [n0, n1, n2, n3, n4, n5, n6, n7, n8, n9, m0, m1, m2, m3, m4, m5, m6, m7, m8, m9, o0, o1, o2, o3, o4, ↓reduceIte] | rfl) ?_)
  iterate 5 ((refine OpsE_do rfl ?_; first | refine E_move rfl ?_ | refine E_len un22 rfl rfl ?_ | refine E_int rfl rfl rfl rfl ?_ | refine E_assign rfl rfl ?_); refine OpsE_eq (st' := _) (by first | dsimp only [n0, n1, n2, n3, n4, n5, n6, n7, n8, n9, m0, m1, m2, m3, m4, m5, m6, m7, m8, m9, o0, o1, o2, o3, o4, ↓reduceIte] | rfl) ?_)
  refine OpsE_nil ?_
  rw [w1]
  by_cases hz : n = 0
  · subst hz
    repeat (first | refine R_seq ?_ | refine R_block ?_ | refine R_skip ?_)
    refine R_region ?_
    iterate 2 ((refine OpsE_do rfl ?_; first | refine E_move rfl ?_ | refine E_int rfl rfl rfl rfl ?_); refine OpsE_eq (st' := _) (by first | dsimp only [n0, n1, n2, n3, n4, n5, n6, n7, n8, n9, m0, m1, m2, m3, m4, m5, m6, m7, m8, m9, o0, o1, o2, o3, o4, ↓reduceIte] | rfl) ?_)
    refine OpsE_nil ?_
    repeat (first | refine R_seq ?_ | refine R_block ?_ | refine R_skip ?_)
    refine R_false rfl ?_
    repeat (first | refine R_seq ?_ | refine R_block ?_ | refine R_skip ?_)
    refine R_region ?_
    iterate 2 ((refine OpsE_do rfl ?_; first | refine E_move rfl ?_ | refine E_assign rfl rfl ?_); refine OpsE_eq (st' := _) (by first | dsimp only [n0, n1, n2, n3, n4, n5, n6, n7, n8, n9, m0, m1, m2, m3, m4, m5, m6, m7, m8, m9, o0, o1, o2, o3, o4, ↓reduceIte] | rfl) ?_)
    refine OpsE_nil ?_
    repeat (first | refine R_seq ?_ | refine R_block ?_ | refine R_skip ?_)
    refine R_ret ?_
    exact ⟨trivial, _, rfl, rfl, rfl⟩
  · have hp : ((n : Int)) > 0 := by omega
    repeat (first | refine R_seq ?_ | refine R_block ?_ | refine R_skip ?_)
    refine R_region ?_
    iterate 2 ((refine OpsE_do rfl ?_; first | refine E_move rfl ?_ | refine E_int rfl rfl rfl rfl ?_); refine OpsE_eq (st' := _) (by first | (simp only [n0, n1, n2, n3, n4, n5, n6, n7, n8, n9, m0, m1, m2, m3, m4, m5, m6, m7, m8, m9, o0, o1, o2, o3, o4, ↓reduceIte, decide_eq_true hp] <;> rfl) | rfl) ?_)
    refine OpsE_nil ?_
    repeat (first | refine R_seq ?_ | refine R_block ?_ | refine R_skip ?_)
    refine R_true rfl ?_
    repeat (first | refine R_seq ?_ | refine R_block ?_ | refine R_skip ?_)
    refine R_region ?_
    iterate 2 ((refine OpsE_do rfl ?_; refine E_move rfl ?_); refine OpsE_eq (st' := _) (by first | dsimp only [n0, n1, n2, n3, n4, n5, n6, n7, n8, n9, m0, m1, m2, m3, m4, m5, m6, m7, m8, m9, o0, o1, o2, o3, o4, ↓reduceIte] | rfl) ?_)
    (refine OpsE_do rfl ?_; refine E_cap un22 rfl rfl (mtOf_at rfl) ?_; refine OpsE_eq (st' := _) (by first | dsimp only [n0, n1, n2, n3, n4, n5, n6, n7, n8, n9, m0, m1, m2, m3, m4, m5, m6, m7, m8, m9, o0, o1, o2, o3, o4, ↓reduceIte] | rfl) ?_)
    (refine OpsE_do rfl ?_; refine E_sliceMs el22 sz3 rfl rfl (cutMs_of (l := 0) (h := 0) rfl rfl (Nat.le_refl _) (Nat.zero_le _) (Or.inl rfl)) ?_; refine OpsE_eq (st' := _) (by first | dsimp only [n0, n1, n2, n3, n4, n5, n6, n7, n8, n9, m0, m1, m2, m3, m4, m5, m6, m7, m8, m9, o0, o1, o2, o3, o4, ↓reduceIte] | rfl) ?_)
    (refine OpsE_do rfl ?_; refine E_move rfl ?_; refine OpsE_eq (st' := _) (by first | dsimp only [n0, n1, n2, n3, n4, n5, n6, n7, n8, n9, m0, m1, m2, m3, m4, m5, m6, m7, m8, m9, o0, o1, o2, o3, o4, ↓reduceIte] | rfl) ?_)
    (refine OpsE_do rfl ?_; refine E_appendZeros (n := n) el22 un3 sz3 by3 ze3 rfl (by decide) rfl rfl rfl (mtOf_at rfl) (by omega) (by simp [room]; omega) ?_; refine OpsE_eq (st' := _) (by first | dsimp only [n0, n1, n2, n3, n4, n5, n6, n7, n8, n9, m0, m1, m2, m3, m4, m5, m6, m7, m8, m9, o0, o1, o2, o3, o4, ↓reduceIte] | rfl) ?_)
    iterate 2 ((refine OpsE_do rfl ?_; first | refine E_move rfl ?_ | refine E_len un22 rfl rfl ?_); refine OpsE_eq (st' := _) (by first | dsimp only [n0, n1, n2, n3, n4, n5, n6, n7, n8, n9, m0, m1, m2, m3, m4, m5, m6, m7, m8, m9, o0, o1, o2, o3, o4, ↓reduceIte] | rfl) ?_)
    (refine OpsE_do rfl ?_; refine E_sliceMs el22 sz3 rfl rfl (cutMs_of (l := 0) (h := 0) rfl rfl (Nat.le_refl _) (Nat.zero_le _) (Or.inl rfl)) ?_; refine OpsE_eq (st' := _) (by first | dsimp only [n0, n1, n2, n3, n4, n5, n6, n7, n8, n9, m0, m1, m2, m3, m4, m5, m6, m7, m8, m9, o0, o1, o2, o3, o4, ↓reduceIte] | rfl) ?_)
    (refine OpsE_do rfl ?_; refine E_assign rfl rfl ?_; refine OpsE_eq (st' := _) (by first | dsimp only [n0, n1, n2, n3, n4, n5, n6, n7, n8, n9, m0, m1, m2, m3, m4, m5, m6, m7, m8, m9, o0, o1, o2, o3, o4, ↓reduceIte] | rfl) ?_)
    refine OpsE_nil ?_
    repeat (first | refine R_seq ?_ | refine R_block ?_ | refine R_skip ?_)
    refine R_region ?_
    iterate 2 ((refine OpsE_do rfl ?_; first | refine E_move rfl ?_ | refine E_assign rfl rfl ?_); refine OpsE_eq (st' := _) (by first | dsimp only [n0, n1, n2, n3, n4, n5, n6, n7, n8, n9, m0, m1, m2, m3, m4, m5, m6, m7, m8, m9, o0, o1, o2, o3, o4, ↓reduceIte] | rfl) ?_)
    refine OpsE_nil ?_
    repeat (first | refine R_seq ?_ | refine R_block ?_ | refine R_skip ?_)
    refine R_ret ?_
    refine ⟨trivial, _, rfl, ?_, ?_⟩
    · simp [zg, hz, tupOf]
    · simp [zg, hz, cellsOf, intD]
def intssD (ls : List (List Int)) : Dat := .lst (ls.map intsD)
theorem flat_next {ls : List (List Int)} {j : Nat} (h : j < ls.length) : (ls.take (j + 1)).flatten = (ls.take j).flatten ++ ls[j] := by
  rw [take_next h, List.flatten_append]; simp
theorem flat_le {ls : List (List Int)} (j : Nat) : (ls.take j).flatten.length ≤ ls.flatten.length := by
  have : ls.flatten = (ls.take j).flatten ++ (ls.drop j).flatten := by rw [← List.flatten_append, List.take_append_drop]
  rw [this, List.length_append]; omega

theorem c_Concat (ls : List (List Int)) (H : List Blk) (hls : ls.length ≤ 1000) (hfl : ls.flatten.length ≤ 1000000) : PC prog env 117 [.dat (intssD ls)] H (.dat (intsD ls.flatten)) H := by
  refine PC_pure (fn := f117) (by kernel_rfl) rfl rfl (by kernel_rfl) rfl rfl ?_ (by simp [PV.lends])
  refine R_eq (st' := ⟨[.dat (intssD ls), .tup [], .tup [], .tup [], .tup [], .tup [], .tup [], .tup [], .tup [], .tup [], .tup [], .tup [], .tup [], .tup [], .tup [], .tup [], .tup [], .tup [], .tup [], .tup [], .tup [], .tup [], .tup [], .tup [], .tup [], .tup [], .tup [], .tup [], .tup [], .tup [], .tup [], .tup [], .tup [], .tup [], .tup [], .tup []], []⟩) rfl ?_
  repeat (first | refine R_seq ?_ | refine R_block ?_ | refine R_skip ?_)
  refine R_region ?_
  (refine OpsE_do rfl ?_; refine E_assign rfl rfl ?_; refine OpsE_eq (st' := _) (by first | dsimp only [n0, n1, n2, n3, n4, n5, n6, n7, n8, n9, m0, m1, m2, m3, m4, m5, m6, m7, m8, m9, o0, o1, o2, o3, o4, ↓reduceIte] | rfl) ?_)
  refine OpsE_nil ?_
  repeat (first | refine R_seq ?_ | refine R_block ?_ | refine R_skip ?_)
  refine R_region ?_
  (refine OpsE_do rfl ?_; refine E_assign rfl rfl ?_; refine OpsE_eq (st' := _) (by first | dsimp only [n0, n1, n2, n3, n4, n5, n6, n7, n8, n9, m0, m1, m2, m3, m4, m5, m6, m7, m8, m9, o0, o1, o2, o3, o4, ↓reduceIte] | rfl) ?_)
  refine OpsE_nil ?_
  repeat (first | refine R_seq ?_ | refine R_block ?_ | refine R_skip ?_)
  refine R_region ?_
  iterate 3 ((refine OpsE_do rfl ?_; first | refine E_move rfl ?_ | refine E_len un62 rfl rfl ?_); refine OpsE_eq (st' := _) (by first | dsimp only [n0, n1, n2, n3, n4, n5, n6, n7, n8, n9, m0, m1, m2, m3, m4, m5, m6, m7, m8, m9, o0, o1, o2, o3, o4, ↓reduceIte] | rfl) ?_)
  refine OpsE_nil ?_
  repeat (first | refine R_seq ?_ | refine R_block ?_ | refine R_skip ?_)
  refine R_loop ?_
  refine RL_ind (fun (j : Nat) => ⟨[.dat (intssD ls), .undef, .undef, intPV ((ls.take j).flatten.length : Int), .undef, .undef, .undef, .undef, .undef, .dat (intssD ls), intPV (ls.length : Int), intPV (j : Int), .undef, .undef, .undef, .undef, .undef, .undef, .undef, .undef, .undef, .undef, .undef, .undef, .undef, .undef, .undef, .undef, .undef, .undef, .undef, .undef, .undef, .undef, .undef, .undef], []⟩)
    (fun j => j ≤ ls.length) (fun j => ls.length - j) (fun j hj => ?_) _ 0 _ (Nat.lt_succ_self _) (Nat.zero_le _) (by simp only [intssD, List.length_map]; rfl)
  repeat (first | refine R_seq ?_ | refine R_block ?_ | refine R_skip ?_)
  refine R_region ?_
  (refine OpsE_do rfl ?_; (first | refine E_int rfl rfl rfl rfl ?_ | refine E_bin rfl rfl rfl rfl ?_); refine OpsE_eq (st' := _) (by first | dsimp only [n0, n1, n2, n3, n4, n5, n6, n7, n8, n9, m0, m1, m2, m3, m4, m5, m6, m7, m8, m9, o0, o1, o2, o3, o4, ↓reduceIte] | rfl) ?_)
  refine OpsE_nil ?_
  repeat (first | refine R_seq ?_ | refine R_block ?_ | refine R_skip ?_)
  refine R_if rfl (fun h => ?_) (fun h => ?_)
  · have hj' : j < ls.length := by simpa using h
    have hf := flat_le (ls := ls) (j + 1)
    rw [flat_next hj', List.length_append] at hf
    repeat (first | refine R_seq ?_ | refine R_block ?_ | refine R_skip ?_)
    refine R_region ?_
    (refine OpsE_do rfl ?_; (first | refine E_index el62 sz22 rfl rfl rfl rfl (map_get _ (by first | assumption | omega)) rfl ?_ | refine E_index0 el62 sz22 rfl rfl rfl rfl (map_get _ (by first | assumption | omega)) ?_ | refine E_indexArr el62 sz22 rfl rfl rfl rfl (map_get _ (by first | assumption | omega)) ?_); refine OpsE_eq (st' := _) (by first | dsimp only [n0, n1, n2, n3, n4, n5, n6, n7, n8, n9, m0, m1, m2, m3, m4, m5, m6, m7, m8, m9, o0, o1, o2, o3, o4, ↓reduceIte] | rfl) ?_)
    iterate 2 ((refine OpsE_do rfl ?_; first | refine E_loadi (ds := [_]) ag22 sz22 rfl rfl rfl rfl ?_ | refine E_loadp (ds := [_]) ag22 sz22 rfl rfl rfl rfl rfl ?_ | refine E_assign rfl rfl ?_); refine OpsE_eq (st' := _) (by first | dsimp only [n0, n1, n2, n3, n4, n5, n6, n7, n8, n9, m0, m1, m2, m3, m4, m5, m6, m7, m8, m9, o0, o1, o2, o3, o4, ↓reduceIte] | rfl) ?_)
    refine OpsE_nil ?_
    have w1 : IntKind.i64.wrap (((ls.take j).flatten.length : Int) + ((ls[j].map intD).length : Int)) = ((ls.take (j + 1)).flatten.length : Int) := by
      rw [flat_next hj', List.length_append, List.length_map, wrap_i64 (by omega) (by omega)]; omega
    have h0 : ¬ (((ls.take (j + 1)).flatten.length : Int) < 0) := by omega
    repeat (first | refine R_seq ?_ | refine R_block ?_ | refine R_skip ?_)
    refine R_region ?_
    iterate 5 ((refine OpsE_do rfl ?_; first | refine E_move rfl ?_ | refine E_len un22 rfl rfl ?_ | refine E_int rfl rfl rfl rfl ?_ | refine E_assign rfl rfl ?_); refine OpsE_eq (st' := _) (by first | (simp only [n0, n1, n2, n3, n4, n5, n6, n7, n8, n9, m0, m1, m2, m3, m4, m5, m6, m7, m8, m9, o0, o1, o2, o3, o4, ↓reduceIte, w1] <;> rfl) | rfl) ?_)
    refine OpsE_nil ?_
    repeat (first | refine R_seq ?_ | refine R_block ?_ | refine R_skip ?_)
    refine R_region ?_
    iterate 2 ((refine OpsE_do rfl ?_; first | refine E_move rfl ?_ | refine E_int rfl rfl rfl rfl ?_); refine OpsE_eq (st' := _) (by first | (simp only [n0, n1, n2, n3, n4, n5, n6, n7, n8, n9, m0, m1, m2, m3, m4, m5, m6, m7, m8, m9, o0, o1, o2, o3, o4, ↓reduceIte, decide_eq_false h0] <;> rfl) | rfl) ?_)
    refine OpsE_nil ?_
    repeat (first | refine R_seq ?_ | refine R_block ?_ | refine R_skip ?_)
    refine R_false rfl ?_
    repeat (first | refine R_seq ?_ | refine R_block ?_ | refine R_skip ?_)
    refine R_region ?_
    iterate 2 ((refine OpsE_do rfl ?_; first | refine E_int rfl rfl rfl rfl ?_ | refine E_move rfl ?_); refine OpsE_eq (st' := _) (by first | dsimp only [n0, n1, n2, n3, n4, n5, n6, n7, n8, n9, m0, m1, m2, m3, m4, m5, m6, m7, m8, m9, o0, o1, o2, o3, o4, ↓reduceIte] | rfl) ?_)
    refine OpsE_nil ?_
    refine ⟨j + 1, ?_, by omega, hj'⟩
    rw [wrap_succ (by omega)]
    rfl
  · have hj' : j = ls.length := by simp at h; omega
    subst hj'
    rw [List.take_length]
    repeat (first | refine R_seq ?_ | refine R_block ?_ | refine R_skip ?_)
    refine R_exit ?_
    repeat (first | refine R_seq ?_ | refine R_block ?_ | refine R_skip ?_)
    refine R_region ?_
    (refine OpsE_do rfl ?_; refine E_move rfl ?_; refine OpsE_eq (st' := _) (by first | dsimp only [n0, n1, n2, n3, n4, n5, n6, n7, n8, n9, m0, m1, m2, m3, m4, m5, m6, m7, m8, m9, o0, o1, o2, o3, o4, ↓reduceIte] | rfl) ?_)
    (refine OpsE_do rfl ?_; refine E_callNil rfl rfl rfl rfl (c_Grow ls.flatten.length hfl) ?_; refine OpsE_eq (st' := _) (by first | dsimp only [n0, n1, n2, n3, n4, n5, n6, n7, n8, n9, m0, m1, m2, m3, m4, m5, m6, m7, m8, m9, o0, o1, o2, o3, o4, ↓reduceIte] | rfl) ?_)
    (refine OpsE_do rfl ?_; refine E_assign rfl rfl ?_; refine OpsE_eq (st' := _) (by first | dsimp only [n0, n1, n2, n3, n4, n5, n6, n7, n8, n9, m0, m1, m2, m3, m4, m5, m6, m7, m8, m9, o0, o1, o2, o3, o4, ↓reduceIte] | rfl) ?_)
    refine OpsE_nil ?_
    repeat (first | refine R_seq ?_ | refine R_block ?_ | refine R_skip ?_)
    refine R_region ?_
    iterate 3 ((refine OpsE_do rfl ?_; first | refine E_move rfl ?_ | refine E_len un62 rfl rfl ?_); refine OpsE_eq (st' := _) (by first | dsimp only [n0, n1, n2, n3, n4, n5, n6, n7, n8, n9, m0, m1, m2, m3, m4, m5, m6, m7, m8, m9, o0, o1, o2, o3, o4, ↓reduceIte] | rfl) ?_)
    refine OpsE_nil ?_
    repeat (first | refine R_seq ?_ | refine R_block ?_ | refine R_skip ?_)
    refine R_loop ?_
    refine RL_h0 (h1 := 1) rfl ?_
    refine RL_ind (fun (j : Nat) => ⟨[.undef, .undef, .undef, .undef, .undef, .undef, .ms 0 (zg ls.flatten.length) 0 (ls.take j).flatten.length ls.flatten.length, .undef, .undef, .undef, .undef, .undef, .undef, .undef, .undef, .undef, .undef, .undef, .undef, .undef, .undef, .undef, .undef, .undef, .undef, .dat (intssD ls), intPV (ls.length : Int), intPV (j : Int), .undef, .undef, .undef, .undef, .undef, .undef, .undef, .undef], [.mt 3 (zg ls.flatten.length) (cellsOf intD ((ls.take j).flatten ++ List.replicate (ls.flatten.length - (ls.take j).flatten.length) 0))]⟩)
      (fun j => j ≤ ls.length) (fun j => ls.length - j) (fun j hj => ?_) _ 0 _ (Nat.lt_succ_self _) (Nat.zero_le _) ?_
    · repeat (first | refine R_seq ?_ | refine R_block ?_ | refine R_skip ?_)
      refine R_region ?_
      (refine OpsE_do rfl ?_; (first | refine E_int rfl rfl rfl rfl ?_ | refine E_bin rfl rfl rfl rfl ?_); refine OpsE_eq (st' := _) (by first | dsimp only [n0, n1, n2, n3, n4, n5, n6, n7, n8, n9, m0, m1, m2, m3, m4, m5, m6, m7, m8, m9, o0, o1, o2, o3, o4, ↓reduceIte] | rfl) ?_)
      refine OpsE_nil ?_
      repeat (first | refine R_seq ?_ | refine R_block ?_ | refine R_skip ?_)
      refine R_if rfl (fun h => ?_) (fun h => ?_)
      · have hj' : j < ls.length := by simpa using h
        have hf := flat_le (ls := ls) (j + 1)
        rw [flat_next hj', List.length_append] at hf
        repeat (first | refine R_seq ?_ | refine R_block ?_ | refine R_skip ?_)
        refine R_region ?_
        (refine OpsE_do rfl ?_; (first | refine E_index el62 sz22 rfl rfl rfl rfl (map_get _ (by first | assumption | omega)) rfl ?_ | refine E_index0 el62 sz22 rfl rfl rfl rfl (map_get _ (by first | assumption | omega)) ?_ | refine E_indexArr el62 sz22 rfl rfl rfl rfl (map_get _ (by first | assumption | omega)) ?_); refine OpsE_eq (st' := _) (by first | dsimp only [n0, n1, n2, n3, n4, n5, n6, n7, n8, n9, m0, m1, m2, m3, m4, m5, m6, m7, m8, m9, o0, o1, o2, o3, o4, ↓reduceIte] | rfl) ?_)
        iterate 2 ((refine OpsE_do rfl ?_; first | refine E_loadi (ds := [_]) ag22 sz22 rfl rfl rfl rfl ?_ | refine E_loadp (ds := [_]) ag22 sz22 rfl rfl rfl rfl rfl ?_ | refine E_assign rfl rfl ?_); refine OpsE_eq (st' := _) (by first | dsimp only [n0, n1, n2, n3, n4, n5, n6, n7, n8, n9, m0, m1, m2, m3, m4, m5, m6, m7, m8, m9, o0, o1, o2, o3, o4, ↓reduceIte] | rfl) ?_)
        refine OpsE_nil ?_
        have ha : appendMs [.mt 3 (zg ls.flatten.length) (cellsOf intD ((ls.take j).flatten ++ List.replicate (ls.flatten.length - (ls.take j).flatten.length) 0))] 3 8 0 (zg ls.flatten.length) 0 (ls.take j).flatten.length ls.flatten.length (cellsOf intD ls[j]) =
            some (.ms 0 (zg ls.flatten.length) 0 (ls.take (j + 1)).flatten.length ls.flatten.length, [.mt 3 (zg ls.flatten.length) (cellsOf intD ((ls.take (j + 1)).flatten ++ List.replicate (ls.flatten.length - (ls.take (j + 1)).flatten.length) 0))]) := by
          rw [flat_next hj']
          generalize (ls.take j).flatten = A at hf ⊢
          generalize ls[j] = B at hf ⊢
          generalize ls.flatten.length = m at hf ⊢
          cases B with
          | nil => simp only [List.append_nil]; exact appendMs_nil
          | cons x B =>
            rw [ms_append_in (H := [.mt 3 (zg m) (cellsOf intD (A ++ List.replicate (m - A.length) 0))]) (t := 0) (len := A.length) (es := x :: B) (f := intD) (l := A ++ List.replicate (m - A.length) 0) (fun _ => rfl) (mtOf_at rfl) (Nat.succ_pos _) (by simp only [List.length_append, List.length_replicate]; omega)]
            have e1 : (A ++ List.replicate (m - A.length) (0 : Int)).take A.length = A := List.take_left' rfl
            have e2 : (A ++ List.replicate (m - A.length) (0 : Int)).drop (A.length + (x :: B).length) = List.replicate (m - (A ++ x :: B).length) 0 := by
              rw [List.drop_append, List.drop_of_length_le (by omega), List.nil_append, List.drop_replicate, List.length_append]
              congr 1; omega
            rw [e1, e2, Nat.max_eq_left (by omega), List.length_append]
            rfl
        repeat (first | refine R_seq ?_ | refine R_block ?_ | refine R_skip ?_)
        refine R_region ?_
        iterate 2 ((refine OpsE_do rfl ?_; refine E_move rfl ?_); refine OpsE_eq (st' := _) (by first | dsimp only [n0, n1, n2, n3, n4, n5, n6, n7, n8, n9, m0, m1, m2, m3, m4, m5, m6, m7, m8, m9, o0, o1, o2, o3, o4, ↓reduceIte] | rfl) ?_)
        (refine OpsE_do rfl ?_; refine E_appendMs el22 sz3 by3 zn3 (by decide) rfl rfl (source_lst (f := intD) (fun _ => rfl)) ha ?_; refine OpsE_eq (st' := _) (by first | dsimp only [n0, n1, n2, n3, n4, n5, n6, n7, n8, n9, m0, m1, m2, m3, m4, m5, m6, m7, m8, m9, o0, o1, o2, o3, o4, ↓reduceIte] | rfl) ?_)
        (refine OpsE_do rfl ?_; refine E_assign rfl rfl ?_; refine OpsE_eq (st' := _) (by first | dsimp only [n0, n1, n2, n3, n4, n5, n6, n7, n8, n9, m0, m1, m2, m3, m4, m5, m6, m7, m8, m9, o0, o1, o2, o3, o4, ↓reduceIte] | rfl) ?_)
        refine OpsE_nil ?_
        repeat (first | refine R_seq ?_ | refine R_block ?_ | refine R_skip ?_)
        refine R_region ?_
        iterate 2 ((refine OpsE_do rfl ?_; first | refine E_int rfl rfl rfl rfl ?_ | refine E_move rfl ?_); refine OpsE_eq (st' := _) (by first | dsimp only [n0, n1, n2, n3, n4, n5, n6, n7, n8, n9, m0, m1, m2, m3, m4, m5, m6, m7, m8, m9, o0, o1, o2, o3, o4, ↓reduceIte] | rfl) ?_)
        refine OpsE_nil ?_
        refine ⟨j + 1, ?_, by omega, hj'⟩
        rw [wrap_succ (by omega)]
        refine (prune_some rfl).trans ?_
        dsimp only [m6, m7, o0, o1]
        rw [purge_mt]
        rfl
      · have hj' : j = ls.length := by simp at h; omega
        subst hj'
        rw [List.take_length, Nat.sub_self, List.replicate_zero, List.append_nil]
        repeat (first | refine R_seq ?_ | refine R_block ?_ | refine R_skip ?_)
        refine R_exit ?_
        repeat (first | refine R_seq ?_ | refine R_block ?_ | refine R_skip ?_)
        refine R_region ?_
        iterate 2 ((refine OpsE_do rfl ?_; first | refine E_move rfl ?_ | refine E_assign rfl rfl ?_); refine OpsE_eq (st' := _) (by first | dsimp only [n0, n1, n2, n3, n4, n5, n6, n7, n8, n9, m0, m1, m2, m3, m4, m5, m6, m7, m8, m9, o0, o1, o2, o3, o4, ↓reduceIte] | rfl) ?_)
        refine OpsE_nil ?_
        repeat (first | refine R_seq ?_ | refine R_block ?_ | refine R_skip ?_)
        refine R_ret ?_
        refine ⟨trivial, _, rfl, ?_⟩
        have r1 := pure_ms (H := [.mt 3 (zg ls.flatten.length) (cellsOf intD ls.flatten)]) (g := zg ls.flatten.length) (t := 0) (cap := ls.flatten.length) (f := intD) (fun _ => rfl) (mtOf_at rfl) (Nat.le_refl _)
        rw [List.take_length] at r1
        show (pureC [.mt 3 (zg ls.flatten.length) (cellsOf intD ls.flatten)] (.ms 0 (zg ls.flatten.length) 0 ls.flatten.length ls.flatten.length)).map PV.dat = _
        rw [r1]
        rfl
    · refine (prune_some rfl).trans ?_
      dsimp only [m6, m7, o0, o1]
      rw [purge_mt]
      simp only [intssD, List.length_map]
      rfl

def m_slices_Concat_int_int (x : List (List Int)) : Option (List Int) := if x.length ≤ 1000 ∧ x.flatten.length ≤ 1000000 then some x.flatten else none
def P_slices_Concat_int_int : List (List Int) → List Int → Prop := fun x r => ∀ H, PC prog env 117 ([.lst ((List.map (fun l => Dat.lst ((List.map intD) l))) x)].map .dat) H (.dat (.lst ((List.map intD) r))) H
theorem w_slices_Concat_int_int : ∀ x r, m_slices_Concat_int_int x = some r → P_slices_Concat_int_int x r := by
  intro x r hm
  unfold m_slices_Concat_int_int at hm
  split at hm
  · rename_i h
    cases hm
    intro H
    exact c_Concat x H h.1 h.2
  · cases hm
end Go.Proofs.Try
namespace Go.Proofs.Try
open Go Go.Pm
set_option linter.unusedVariables false
set_option maxHeartbeats 2000000
set_option maxRecDepth 2000
structure T_ref17_Access where
  kind : Int
  buffer : Int
  base : Int
  strides : (List Int)
  start : Int
  step : Int
  mod : Int
def T_ref17_Access.toD (x : T_ref17_Access) : Dat := .agg [(intD x.kind), (intD x.buffer), (intD x.base), (.lst ((List.map intD) x.strides)), (intD x.start), (intD x.step), (intD x.mod)]
theorem T_ref17_Access.fit (x : T_ref17_Access) : Dat.fits 7 x.toD = true := rfl
structure T_ref21_Nest where
  dims : (List Int)
  write : Int
  steps : (List Int)
  read : T_ref17_Access
def T_ref21_Nest.toD (x : T_ref21_Nest) : Dat := .agg [(.lst ((List.map intD) x.dims)), (intD x.write), (.lst ((List.map intD) x.steps)), (intD x.read.kind), (intD x.read.buffer), (intD x.read.base), (.lst ((List.map intD) x.read.strides)), (intD x.read.start), (intD x.read.step), (intD x.read.mod)]
theorem T_ref21_Nest.fit (x : T_ref21_Nest) : Dat.fits 10 x.toD = true := rfl
structure T_ref21_Event where
  write : Int
  fill : Bool
  buffer : Int
  offset : Int
def T_ref21_Event.toD (x : T_ref21_Event) : Dat := .agg [(intD x.write), (boolD x.fill), (intD x.buffer), (intD x.offset)]
theorem T_ref21_Event.fit (x : T_ref21_Event) : Dat.fits 4 x.toD = true := rfl
structure T_access_Access where
  kind : Int
  buffer : Int
  base : Int
  strides : (List Int)
  start : Int
  step : Int
  mod : Int
def T_access_Access.toD (x : T_access_Access) : Dat := .agg [(intD x.kind), (intD x.buffer), (intD x.base), (.lst ((List.map intD) x.strides)), (intD x.start), (intD x.step), (intD x.mod)]
theorem T_access_Access.fit (x : T_access_Access) : Dat.fits 7 x.toD = true := rfl
structure T_onf_Nest where
  dims : (List Int)
  write : Int
  steps : (List Int)
  read : T_access_Access
def T_onf_Nest.toD (x : T_onf_Nest) : Dat := .agg [(.lst ((List.map intD) x.dims)), (intD x.write), (.lst ((List.map intD) x.steps)), (intD x.read.kind), (intD x.read.buffer), (intD x.read.base), (.lst ((List.map intD) x.read.strides)), (intD x.read.start), (intD x.read.step), (intD x.read.mod)]
theorem T_onf_Nest.fit (x : T_onf_Nest) : Dat.fits 10 x.toD = true := rfl
structure T_access_linear where
  first : Int
  strides : (List Int)
def T_access_linear.toD (x : T_access_linear) : Dat := .agg [(intD x.first), (.lst ((List.map intD) x.strides))]
theorem T_access_linear.fit (x : T_access_linear) : Dat.fits 2 x.toD = true := rfl
end Go.Proofs.Try
namespace Go.Proofs.Try
open Go Go.Pm
set_option linter.unusedVariables false
set_option maxHeartbeats 2000000
set_option maxRecDepth 2000
def m_law21_awake (x : Unit) : Option Bool := some true
def P_law21_awake : Unit → Bool → Prop := fun x r => ∀ H, PC prog env 21 ([].map .dat) H (boolPV r) H
theorem w_law21_awake : ∀ x r, m_law21_awake x = some r → P_law21_awake x r := by
  intro x r hm
  cases hm
  intro H
  exact PC_of (n := 200) (by kernel_rfl)
end Go.Proofs.Try
namespace Go.Proofs.Try
open Go Go.Pm
set_option linter.unusedVariables false
set_option maxHeartbeats 2000000
set_option maxRecDepth 2000
def m_ref17_near (x : (Int × Int)) : Option Bool :=
  match x with
  | (p0, p1) =>
  if p0 ≥ (W (0 - p1)) then
    some (decide (p0 ≤ p1))
  else
  some false
def P_ref17_near : (Int × Int) → Bool → Prop := fun x r => match x, r with
  | (p0, p1), r0 => ∀ H, PC prog env 91 ([(intD p0), (intD p1)].map .dat) H (boolPV r0) H
theorem w_ref17_near : ∀ x r, m_ref17_near x = some r → P_ref17_near x r := by
  intro x r0 hm
  unfold m_ref17_near at hm
  unfold P_ref17_near
  obtain ⟨p0, p1⟩ := x
  intro H
  refine PC_sx (ds := [(intD p0), (intD p1)]) (fn := f91) (by kernel_rfl) (by kernel_rfl) rfl ?_ (by kernel_rfl)
  refine R_seq ?_
  refine R_G ?_
  refine G_run 1 ?_
  refine G_end ?_
  refine R_seq ?_
  refine R_G ?_
  refine G_run 5 ?_
  refine G_split (p := p0 ≥ (W (0 - p1))) 9 (rfl) (fun hc => ?_) (fun hc => ?_)
  · replace hm := pos_inv hc hm
    refine G_run 5 ?_
    refine G_end ?_
    refine R_ret ?_
    obtain rfl := inj1 hm
    exact ⟨trivial, fin_pure (by kernel_rfl)⟩
  replace hm := neg_inv hc hm
  refine G_run 5 ?_
  refine G_end ?_
  refine R_ret ?_
  obtain rfl := inj1 hm
  exact ⟨trivial, fin_pure (by kernel_rfl)⟩
end Go.Proofs.Try
namespace Go.Proofs.Try
open Go Go.Pm
set_option linter.unusedVariables false
set_option maxHeartbeats 2000000
set_option maxRecDepth 2000
def m_ref17_Bounded_L1 (x : (T_ref17_Access × Int × Int)) : Option (Unit ⊕ Unit) :=
  match x with
  | (p0, p1, v201) =>
  if v201 < (p0.strides.length : Int) then
    idx p0.strides v201 >>= fun v601 =>
    m_ref17_near (v601, p1) >>= fun (v602 : Bool) =>
    if v602 = false then
      some (Sum.inl ())
    else
    m_ref17_Bounded_L1 (p0, p1, (W (v201 + 1)))
  else
  some (Sum.inr ())
  partial_fixpoint
def P_ref17_Bounded_L1 : (T_ref17_Access × Int × Int) → (Unit ⊕ Unit) → Prop := fun x r => match x with
  | (p0, p1, v201) => ∀ st, prune 1 ((firstRegion (codeAt [1, 0, 1, 0, 0] (bodyOf f54))).bind (env.hint 54).keepAt) st = ⟨kp 49 [(1, (intPV p1)), (2, (.ptr 0 0)), (5, (intPV v201))], [(.box [(intPV p0.kind), (intPV p0.buffer), (intPV p0.base), (.dat (.lst ((List.map intD) p0.strides))), (intPV p0.start), (intPV p0.step), (intPV p0.mod)])]⟩ →
    RL prog env (env.hint 54) true (codeAt [1, 0, 1, 0, 0] (bodyOf f54)) 1 st (fun e s => match r with | .inl _ => e = .ret ∧ ∃ d, s = ⟨sl d 49 [(4, (boolPV false))], [(.box [(intPV p0.kind), (intPV p0.buffer), (intPV p0.base), (.dat (.lst ((List.map intD) p0.strides))), (intPV p0.start), (intPV p0.step), (intPV p0.mod)])]⟩ | .inr (_) => e = .exit 0 ∧ ∃ d, s = ⟨sl d 49 [(1, (intPV p1)), (2, (.ptr 0 0))], [(.box [(intPV p0.kind), (intPV p0.buffer), (intPV p0.base), (.dat (.lst ((List.map intD) p0.strides))), (intPV p0.start), (intPV p0.step), (intPV p0.mod)])]⟩)
theorem w_ref17_Bounded_L1 : ∀ x r, m_ref17_Bounded_L1 x = some r → P_ref17_Bounded_L1 x r := by
  refine m_ref17_Bounded_L1.partial_correctness _ (fun m_ref17_Bounded_L1 w_ref17_Bounded_L1 x r hm => ?_)
  unfold P_ref17_Bounded_L1
  obtain ⟨p0, p1, v201⟩ := x
  intro st hst
  refine RL_at hst ?_
  clear hst
  refine R_seq ?_
  refine R_seq ?_
  refine R_G ?_
  refine G_run 3 ?_
  refine I_len intD p0.strides (es := (List.map intD) p0.strides) rfl ?_
  refine G_run 1 ?_
  refine G_end ?_
  refine R_ifp (p := v201 < (p0.strides.length : Int)) (rfl) (fun hc => ?_) (fun hc => ?_)
  · replace hm := pos_inv hc hm
    refine R_skip ?_
    refine R_seq ?_
    refine R_block ?_
    refine R_seq ?_
    refine R_G ?_
    refine G_run 3 ?_
    obtain ⟨v601, hx, hm⟩ := bind_inv hm
    refine I_idx 1 intD p0.strides v201 v601 (es := (List.map intD) p0.strides) (d := (intD v601)) rfl hx rfl rfl ?_
    refine G_run 2 ?_
    obtain ⟨v602, hx, hm⟩ := bind_inv hm
    have hq := w_ref17_near _ _ hx []
    refine G_callP hq ?_
    refine G_run 1 ?_
    refine G_end ?_
    refine R_ifp (p := v602 = false) (not_dec _) (fun hc => ?_) (fun hc => ?_)
    · replace hm := pos_inv hc hm
      refine R_seq ?_
      refine R_G ?_
      refine G_run 1 ?_
      refine G_end ?_
      refine R_ret ?_
      obtain rfl := inj1 hm
      exact ⟨rfl, cut_leaf (by kernel_rfl)⟩
    replace hm := neg_inv hc hm
    refine R_skip ?_
    refine R_G ?_
    refine G_run 3 ?_
    refine G_end ?_
    exact w_ref17_Bounded_L1 _ _ hm _ (by kernel_rfl)
  replace hm := neg_inv hc hm
  refine R_exit ?_
  obtain rfl := inj1 hm
  exact ⟨rfl, cut_leaf (by kernel_rfl)⟩
def m_ref17_Bounded (x : (T_ref17_Access × Int)) : Option Bool :=
  match x with
  | (p0, p1) =>
  (
  m_ref17_Bounded_L1 (p0, p1, 0) >>= fun (out : Unit ⊕ Unit) =>
  match out with
  | .inl _ =>
    some false
  | .inr (_) =>
    m_ref17_near (p0.buffer, p1) >>= fun (v603 : Bool) =>
    (if v603 = true then
      m_ref17_near (p0.base, p1) >>= fun (v605 : Bool) =>
      some v605
    else
    some false
    ) >>= fun (v604 : Bool) =>
    (if v604 = true then
      m_ref17_near (p0.start, p1) >>= fun (v607 : Bool) =>
      some v607
    else
    some false
    ) >>= fun (v606 : Bool) =>
    (if v606 = true then
      m_ref17_near (p0.step, p1) >>= fun (v609 : Bool) =>
      some v609
    else
    some false
    ) >>= fun (v608 : Bool) =>
    if v608 = true then
      m_ref17_near (p0.mod, p1) >>= fun (v610 : Bool) =>
      some v610
    else
    some false
  )
def P_ref17_Bounded : (T_ref17_Access × Int) → Bool → Prop := fun x r => match x, r with
  | (p0, p1), r0 => ∀ H, PC prog env 54 ([(T_ref17_Access.toD p0), (intD p1)].map .dat) H (boolPV r0) H
theorem w_ref17_Bounded : ∀ x r, m_ref17_Bounded x = some r → P_ref17_Bounded x r := by
  intro x r0 hm
  unfold m_ref17_Bounded at hm
  unfold P_ref17_Bounded
  obtain ⟨p0, p1⟩ := x
  intro H
  refine PC_sx (ds := [(T_ref17_Access.toD p0), (intD p1)]) (fn := f54) (by kernel_rfl) (by kernel_rfl) rfl ?_ (by kernel_rfl)
  refine R_seq ?_
  refine R_G ?_
  refine G_run 2 ?_
  refine G_end ?_
  refine R_seq ?_
  refine R_seq ?_
  refine R_G ?_
  refine G_run 1 ?_
  refine G_end ?_
  refine R_block ?_
  obtain ⟨out, hs, hm⟩ := bind_inv hm
  refine R_loop ?_
  rcases out with _ | _
  · refine RL_use (w_ref17_Bounded_L1 _ _ hs) (by kernel_rfl) ?_
    clear hs
    intro e s hp
    obtain ⟨rfl, d, rfl⟩ := hp
    obtain rfl := inj1 hm
    exact ⟨trivial, fin_pure (by kernel_rfl)⟩
  · refine RL_use (w_ref17_Bounded_L1 _ _ hs) (by kernel_rfl) ?_
    clear hs
    intro e s hp
    obtain ⟨rfl, d, rfl⟩ := hp
    refine R_seq ?_
    refine R_GN ?_
    refine G_run 3 ?_
    obtain ⟨v603, hx, hm⟩ := bind_inv hm
    have hq := w_ref17_near _ _ hx []
    refine G_callP hq ?_
    refine G_run 1 ?_
    obtain ⟨v604, hs, hm⟩ := bind_inv hm
    refine G_cut (j := 10) (fun d => ⟨sl d 49 [(1, (intPV p1)), (2, (.ptr 0 0)), (21, (.ptr 0 1)), (22, (intPV p0.buffer)), (23, (intPV p1)), (24, (boolPV v603)), (30, (boolPV v604))], [(.box [(intPV p0.kind), (intPV p0.buffer), (intPV p0.base), (.dat (.lst ((List.map intD) p0.strides))), (intPV p0.start), (intPV p0.step), (intPV p0.mod)])]⟩) (fun d => ?_) (fun hJ => ?_)
    · clear hs
      refine G_run 1 ?_
      obtain ⟨v606, hs, hm⟩ := bind_inv hm
      refine G_cut (j := 16) (fun d => ⟨sl d 49 [(1, (intPV p1)), (2, (.ptr 0 0)), (21, (.ptr 0 1)), (22, (intPV p0.buffer)), (23, (intPV p1)), (24, (boolPV v603)), (30, (boolPV v604)), (36, (boolPV v606))], [(.box [(intPV p0.kind), (intPV p0.buffer), (intPV p0.base), (.dat (.lst ((List.map intD) p0.strides))), (intPV p0.start), (intPV p0.step), (intPV p0.mod)])]⟩) (fun d => ?_) (fun hJ => ?_)
      · clear hs
        refine G_run 1 ?_
        obtain ⟨v608, hs, hm⟩ := bind_inv hm
        refine G_cut (j := 22) (fun d => ⟨sl d 49 [(1, (intPV p1)), (2, (.ptr 0 0)), (21, (.ptr 0 1)), (22, (intPV p0.buffer)), (23, (intPV p1)), (24, (boolPV v603)), (30, (boolPV v604)), (36, (boolPV v606)), (42, (boolPV v608))], [(.box [(intPV p0.kind), (intPV p0.buffer), (intPV p0.base), (.dat (.lst ((List.map intD) p0.strides))), (intPV p0.start), (intPV p0.step), (intPV p0.mod)])]⟩) (fun d => ?_) (fun hJ => ?_)
        · clear hs
          refine G_run 1 ?_
          refine G_split (p := v608 = true) 43 (bool_dec _) (fun hc => ?_) (fun hc => ?_)
          · replace hm := pos_inv hc hm
            refine G_run 3 ?_
            obtain ⟨v610, hx, hm⟩ := bind_inv hm
            have hq := w_ref17_near _ _ hx []
            refine G_callP hq ?_
            refine G_run 2 ?_
            refine G_end ⟨by kernel_rfl, ?_⟩
            refine R_ret ?_
            obtain rfl := inj1 hm
            exact ⟨trivial, fin_pure (by kernel_rfl)⟩
          replace hm := neg_inv hc hm
          refine G_run 6 ?_
          refine G_end ⟨by kernel_rfl, ?_⟩
          refine R_ret ?_
          obtain rfl := inj1 hm
          exact ⟨trivial, fin_pure (by kernel_rfl)⟩
        replace hm := hs
        clear hs
        refine G_split (p := v606 = true) 37 (bool_dec _) (fun hc => ?_) (fun hc => ?_)
        · replace hm := pos_inv hc hm
          refine G_run 3 ?_
          obtain ⟨v609, hx, hm⟩ := bind_inv hm
          have hq := w_ref17_near _ _ hx []
          refine G_callP hq ?_
          refine G_run 1 ?_
          obtain rfl := inj1 hm
          exact hJ _ _ (by kernel_rfl) (by kernel_rfl)
        replace hm := neg_inv hc hm
        refine G_run 5 ?_
        obtain rfl := inj1 hm
        exact hJ _ _ (by kernel_rfl) (by kernel_rfl)
      replace hm := hs
      clear hs
      refine G_split (p := v604 = true) 31 (bool_dec _) (fun hc => ?_) (fun hc => ?_)
      · replace hm := pos_inv hc hm
        refine G_run 3 ?_
        obtain ⟨v607, hx, hm⟩ := bind_inv hm
        have hq := w_ref17_near _ _ hx []
        refine G_callP hq ?_
        refine G_run 1 ?_
        obtain rfl := inj1 hm
        exact hJ _ _ (by kernel_rfl) (by kernel_rfl)
      replace hm := neg_inv hc hm
      refine G_run 5 ?_
      obtain rfl := inj1 hm
      exact hJ _ _ (by kernel_rfl) (by kernel_rfl)
    replace hm := hs
    clear hs
    refine G_split (p := v603 = true) 25 (bool_dec _) (fun hc => ?_) (fun hc => ?_)
    · replace hm := pos_inv hc hm
      refine G_run 3 ?_
      obtain ⟨v605, hx, hm⟩ := bind_inv hm
      have hq := w_ref17_near _ _ hx []
      refine G_callP hq ?_
      refine G_run 1 ?_
      obtain rfl := inj1 hm
      exact hJ _ _ (by kernel_rfl) (by kernel_rfl)
    replace hm := neg_inv hc hm
    refine G_run 5 ?_
    obtain rfl := inj1 hm
    exact hJ _ _ (by kernel_rfl) (by kernel_rfl)
end Go.Proofs.Try
namespace Go.Proofs.Try
open Go Go.Pm
set_option linter.unusedVariables false
set_option maxHeartbeats 2000000
set_option maxRecDepth 2000
def m_ref17_Right (x : (T_ref17_Access × Int)) : Option Bool :=
  match x with
  | (p0, p1) =>
  ((if p1 < 0 then
    some true
  else
  some (decide (p1 > 16))
  ) >>= fun (v2 : Bool) =>
  (if v2 = true then
    some true
  else
  m_ref17_Bounded ((⟨p0.kind, p0.buffer, p0.base, p0.strides, p0.start, p0.step, p0.mod⟩ : T_ref17_Access), 1099511627776) >>= fun (v4 : Bool) =>
  some (!v4)
  ) >>= fun (v3 : Bool) =>
  if v3 = true then
    some true
  else
  some (decide (p0.buffer < 0))
  ) >>= fun (v1 : Bool) =>
  if v1 = true then
    some false
  else
  if p0.kind = 1 then
    (if p0.buffer = 0 then
      some (p0.base == 0)
    else
    some false
    ) >>= fun (v5 : Bool) =>
    (if v5 = true then
      some ((p0.strides.length : Int) == 0)
    else
    some false
    ) >>= fun (v6 : Bool) =>
    (if v6 = true then
      some (p0.start == 0)
    else
    some false
    ) >>= fun (v7 : Bool) =>
    (if v7 = true then
      some (p0.step == 0)
    else
    some false
    ) >>= fun (v8 : Bool) =>
    if v8 = true then
      some (p0.mod == 0)
    else
    some false
  else
  if p0.kind = 2 then
    (if (p0.strides.length : Int) = p1 then
      some (p0.start == 0)
    else
    some false
    ) >>= fun (v9 : Bool) =>
    (if v9 = true then
      some (p0.step == 0)
    else
    some false
    ) >>= fun (v10 : Bool) =>
    if v10 = true then
      some (p0.mod == 0)
    else
    some false
  else
  if p0.kind = 3 then
    if (p0.strides.length : Int) = p1 then
      some (decide (p0.mod > 0))
    else
    some false
  else
  some false
def P_ref17_Right : (T_ref17_Access × Int) → Bool → Prop := fun x r => match x, r with
  | (p0, p1), r0 => ∀ H, PC prog env 53 ([(T_ref17_Access.toD p0), (intD p1)].map .dat) H (boolPV r0) H
theorem w_ref17_Right : ∀ x r, m_ref17_Right x = some r → P_ref17_Right x r := by
  intro x r0 hm
  unfold m_ref17_Right at hm
  unfold P_ref17_Right
  obtain ⟨p0, p1⟩ := x
  intro H
  refine PC_sx (ds := [(T_ref17_Access.toD p0), (intD p1)]) (fn := f53) (by kernel_rfl) (by kernel_rfl) rfl ?_ (by kernel_rfl)
  refine R_seq ?_
  refine R_G ?_
  refine G_run 2 ?_
  refine G_end ?_
  refine R_seq ?_
  refine R_seq ?_
  obtain ⟨v1, hs, hm⟩ := bind_inv hm
  refine R_cut (fun d => ⟨sl d 88 [(1, (intPV p1)), (2, (.ptr 0 0)), (20, (boolPV v1))], [(.box [(intPV p0.kind), (intPV p0.buffer), (intPV p0.base), (.dat (.lst ((List.map intD) p0.strides))), (intPV p0.start), (intPV p0.step), (intPV p0.mod)])]⟩) ?_ (fun d => ?_)
  · replace hm := hs
    clear hs
    refine R_GN ?_
    refine G_run 3 ?_
    obtain ⟨v2, hs, hm⟩ := bind_inv hm
    refine G_cut (j := 6) (fun d => ⟨sl d 88 [(0, (.dat (.agg [(intD p0.kind), (intD p0.buffer), (intD p0.base), (.lst ((List.map intD) p0.strides)), (intD p0.start), (intD p0.step), (intD p0.mod)]))), (1, (intPV p1)), (2, (.ptr 0 0)), (4, (boolPV false)), (5, (intPV p1)), (6, (boolPV (decide (p1 < 0)))), (10, (boolPV v2))], [(.box [(intPV p0.kind), (intPV p0.buffer), (intPV p0.base), (.dat (.lst ((List.map intD) p0.strides))), (intPV p0.start), (intPV p0.step), (intPV p0.mod)])]⟩) (fun d => ?_) (fun hJ => ?_)
    · clear hs
      refine G_run 1 ?_
      obtain ⟨v3, hs, hm⟩ := bind_inv hm
      refine G_cut (j := 11) (fun d => ⟨sl d 88 [(0, (.dat (.agg [(intD p0.kind), (intD p0.buffer), (intD p0.base), (.lst ((List.map intD) p0.strides)), (intD p0.start), (intD p0.step), (intD p0.mod)]))), (1, (intPV p1)), (2, (.ptr 0 0)), (4, (boolPV false)), (5, (intPV p1)), (6, (boolPV (decide (p1 < 0)))), (10, (boolPV v2)), (15, (boolPV v3))], [(.box [(intPV p0.kind), (intPV p0.buffer), (intPV p0.base), (.dat (.lst ((List.map intD) p0.strides))), (intPV p0.start), (intPV p0.step), (intPV p0.mod)])]⟩) (fun d => ?_) (fun hJ => ?_)
      · clear hs
        refine G_run 1 ?_
        refine G_split (p := v3 = true) 16 (bool_dec _) (fun hc => ?_) (fun hc => ?_)
        · replace hm := pos_inv hc hm
          refine G_run 4 ?_
          refine G_end ⟨by kernel_rfl, ?_⟩
          obtain rfl := inj1 hm
          exact cut_leaf (by kernel_rfl)
        replace hm := neg_inv hc hm
        refine G_run 4 ?_
        refine G_end ⟨by kernel_rfl, ?_⟩
        obtain rfl := inj1 hm
        exact cut_leaf (by kernel_rfl)
      replace hm := hs
      clear hs
      refine G_split (p := v2 = true) 11 (bool_dec _) (fun hc => ?_) (fun hc => ?_)
      · replace hm := pos_inv hc hm
        refine G_run 4 ?_
        obtain rfl := inj1 hm
        exact hJ _ _ (by kernel_rfl) (by kernel_rfl)
      replace hm := neg_inv hc hm
      refine G_run 1 ?_
      obtain ⟨v4, hx, hm⟩ := bind_inv hm
      have hq := w_ref17_Bounded _ _ hx []
      refine G_callP hq ?_
      refine G_run 2 ?_
      obtain rfl := inj1 hm
      exact hJ _ _ (by kernel_rfl) (by kernel_rfl)
    replace hm := hs
    clear hs
    refine G_split (p := p1 < 0) 7 (rfl) (fun hc => ?_) (fun hc => ?_)
    · replace hm := pos_inv hc hm
      refine G_run 3 ?_
      obtain rfl := inj1 hm
      exact hJ _ _ (by kernel_rfl) (by kernel_rfl)
    replace hm := neg_inv hc hm
    refine G_run 3 ?_
    obtain rfl := inj1 hm
    exact hJ _ _ (by kernel_rfl) (by kernel_rfl)
  clear hs
  refine R_ifp (p := v1 = true) (bool_dec _) (fun hc => ?_) (fun hc => ?_)
  · replace hm := pos_inv hc hm
    refine R_seq ?_
    refine R_G ?_
    refine G_run 1 ?_
    refine G_end ?_
    refine R_ret ?_
    obtain rfl := inj1 hm
    exact ⟨trivial, fin_pure (by kernel_rfl)⟩
  replace hm := neg_inv hc hm
  refine R_skip ?_
  refine R_seq ?_
  refine R_seq ?_
  refine R_G ?_
  refine G_run 2 ?_
  refine G_end ?_
  refine R_block ?_
  refine R_seq ?_
  refine R_G ?_
  refine G_run 2 ?_
  refine G_end ?_
  refine R_ifp (p := p0.kind = 1) (eq_dec _ _) (fun hc => ?_) (fun hc => ?_)
  · replace hm := pos_inv hc hm
    refine R_seq ?_
    refine R_GN ?_
    refine G_run 4 ?_
    obtain ⟨v5, hs, hm⟩ := bind_inv hm
    refine G_cut (j := 8) (fun d => ⟨sl d 88 [(1, (intPV p1)), (2, (.ptr 0 0)), (20, (boolPV v1)), (21, (.ptr 0 0)), (22, (intPV p0.kind)), (23, (boolPV (p0.kind == 1))), (24, (boolPV (p0.kind == 1))), (25, (.ptr 0 1)), (26, (intPV p0.buffer)), (27, (boolPV (p0.buffer == 0))), (32, (boolPV v5))], [(.box [(intPV p0.kind), (intPV p0.buffer), (intPV p0.base), (.dat (.lst ((List.map intD) p0.strides))), (intPV p0.start), (intPV p0.step), (intPV p0.mod)])]⟩) (fun d => ?_) (fun hJ => ?_)
    · clear hs
      refine G_run 1 ?_
      obtain ⟨v6, hs, hm⟩ := bind_inv hm
      refine G_cut (j := 14) (fun d => ⟨sl d 88 [(1, (intPV p1)), (2, (.ptr 0 0)), (20, (boolPV v1)), (21, (.ptr 0 0)), (22, (intPV p0.kind)), (23, (boolPV (p0.kind == 1))), (24, (boolPV (p0.kind == 1))), (25, (.ptr 0 1)), (26, (intPV p0.buffer)), (27, (boolPV (p0.buffer == 0))), (32, (boolPV v5)), (38, (boolPV v6))], [(.box [(intPV p0.kind), (intPV p0.buffer), (intPV p0.base), (.dat (.lst ((List.map intD) p0.strides))), (intPV p0.start), (intPV p0.step), (intPV p0.mod)])]⟩) (fun d => ?_) (fun hJ => ?_)
      · clear hs
        refine G_run 1 ?_
        obtain ⟨v7, hs, hm⟩ := bind_inv hm
        refine G_cut (j := 19) (fun d => ⟨sl d 88 [(1, (intPV p1)), (2, (.ptr 0 0)), (20, (boolPV v1)), (21, (.ptr 0 0)), (22, (intPV p0.kind)), (23, (boolPV (p0.kind == 1))), (24, (boolPV (p0.kind == 1))), (25, (.ptr 0 1)), (26, (intPV p0.buffer)), (27, (boolPV (p0.buffer == 0))), (32, (boolPV v5)), (38, (boolPV v6)), (43, (boolPV v7))], [(.box [(intPV p0.kind), (intPV p0.buffer), (intPV p0.base), (.dat (.lst ((List.map intD) p0.strides))), (intPV p0.start), (intPV p0.step), (intPV p0.mod)])]⟩) (fun d => ?_) (fun hJ => ?_)
        · clear hs
          refine G_run 1 ?_
          obtain ⟨v8, hs, hm⟩ := bind_inv hm
          refine G_cut (j := 24) (fun d => ⟨sl d 88 [(1, (intPV p1)), (2, (.ptr 0 0)), (20, (boolPV v1)), (21, (.ptr 0 0)), (22, (intPV p0.kind)), (23, (boolPV (p0.kind == 1))), (24, (boolPV (p0.kind == 1))), (25, (.ptr 0 1)), (26, (intPV p0.buffer)), (27, (boolPV (p0.buffer == 0))), (32, (boolPV v5)), (38, (boolPV v6)), (43, (boolPV v7)), (48, (boolPV v8))], [(.box [(intPV p0.kind), (intPV p0.buffer), (intPV p0.base), (.dat (.lst ((List.map intD) p0.strides))), (intPV p0.start), (intPV p0.step), (intPV p0.mod)])]⟩) (fun d => ?_) (fun hJ => ?_)
          · clear hs
            refine G_run 1 ?_
            refine G_split (p := v8 = true) 49 (bool_dec _) (fun hc => ?_) (fun hc => ?_)
            · replace hm := pos_inv hc hm
              refine G_run 5 ?_
              refine G_end ⟨by kernel_rfl, ?_⟩
              refine R_ret ?_
              obtain rfl := inj1 hm
              exact ⟨trivial, fin_pure (by kernel_rfl)⟩
            replace hm := neg_inv hc hm
            refine G_run 5 ?_
            refine G_end ⟨by kernel_rfl, ?_⟩
            refine R_ret ?_
            obtain rfl := inj1 hm
            exact ⟨trivial, fin_pure (by kernel_rfl)⟩
          replace hm := hs
          clear hs
          refine G_split (p := v7 = true) 44 (bool_dec _) (fun hc => ?_) (fun hc => ?_)
          · replace hm := pos_inv hc hm
            refine G_run 4 ?_
            obtain rfl := inj1 hm
            exact hJ _ _ (by kernel_rfl) (by kernel_rfl)
          replace hm := neg_inv hc hm
          refine G_run 4 ?_
          obtain rfl := inj1 hm
          exact hJ _ _ (by kernel_rfl) (by kernel_rfl)
        replace hm := hs
        clear hs
        refine G_split (p := v6 = true) 39 (bool_dec _) (fun hc => ?_) (fun hc => ?_)
        · replace hm := pos_inv hc hm
          refine G_run 4 ?_
          obtain rfl := inj1 hm
          exact hJ _ _ (by kernel_rfl) (by kernel_rfl)
        replace hm := neg_inv hc hm
        refine G_run 4 ?_
        obtain rfl := inj1 hm
        exact hJ _ _ (by kernel_rfl) (by kernel_rfl)
      replace hm := hs
      clear hs
      refine G_split (p := v5 = true) 33 (bool_dec _) (fun hc => ?_) (fun hc => ?_)
      · replace hm := pos_inv hc hm
        refine G_run 2 ?_
        refine I_len intD p0.strides (es := (List.map intD) p0.strides) rfl ?_
        refine G_run 2 ?_
        obtain rfl := inj1 hm
        exact hJ _ _ (by kernel_rfl) (by kernel_rfl)
      replace hm := neg_inv hc hm
      refine G_run 5 ?_
      obtain rfl := inj1 hm
      exact hJ _ _ (by kernel_rfl) (by kernel_rfl)
    replace hm := hs
    clear hs
    refine G_split (p := p0.buffer = 0) 28 (eq_dec _ _) (fun hc => ?_) (fun hc => ?_)
    · replace hm := pos_inv hc hm
      refine G_run 4 ?_
      obtain rfl := inj1 hm
      exact hJ _ _ (by kernel_rfl) (by kernel_rfl)
    replace hm := neg_inv hc hm
    refine G_run 4 ?_
    obtain rfl := inj1 hm
    exact hJ _ _ (by kernel_rfl) (by kernel_rfl)
  replace hm := neg_inv hc hm
  refine R_seq ?_
  refine R_G ?_
  refine G_run 2 ?_
  refine G_end ?_
  refine R_ifp (p := p0.kind = 2) (eq_dec _ _) (fun hc => ?_) (fun hc => ?_)
  · replace hm := pos_inv hc hm
    refine R_seq ?_
    refine R_GN ?_
    refine G_run 2 ?_
    refine I_len intD p0.strides (es := (List.map intD) p0.strides) rfl ?_
    refine G_run 3 ?_
    obtain ⟨v9, hs, hm⟩ := bind_inv hm
    refine G_cut (j := 10) (fun d => ⟨sl d 88 [(1, (intPV p1)), (2, (.ptr 0 0)), (20, (boolPV v1)), (21, (.ptr 0 0)), (22, (intPV p0.kind)), (23, (boolPV (p0.kind == 1))), (24, (boolPV (p0.kind == 1))), (54, (boolPV (p0.kind == 2))), (55, (boolPV (p0.kind == 2))), (56, (.ptr 0 3)), (57, (.dat (.lst ((List.map intD) p0.strides)))), (58, (intPV (p0.strides.length : Int))), (59, (intPV p1)), (60, (boolPV ((p0.strides.length : Int) == p1))), (65, (boolPV v9))], [(.box [(intPV p0.kind), (intPV p0.buffer), (intPV p0.base), (.dat (.lst ((List.map intD) p0.strides))), (intPV p0.start), (intPV p0.step), (intPV p0.mod)])]⟩) (fun d => ?_) (fun hJ => ?_)
    · clear hs
      refine G_run 1 ?_
      obtain ⟨v10, hs, hm⟩ := bind_inv hm
      refine G_cut (j := 15) (fun d => ⟨sl d 88 [(1, (intPV p1)), (2, (.ptr 0 0)), (20, (boolPV v1)), (21, (.ptr 0 0)), (22, (intPV p0.kind)), (23, (boolPV (p0.kind == 1))), (24, (boolPV (p0.kind == 1))), (54, (boolPV (p0.kind == 2))), (55, (boolPV (p0.kind == 2))), (56, (.ptr 0 3)), (57, (.dat (.lst ((List.map intD) p0.strides)))), (58, (intPV (p0.strides.length : Int))), (59, (intPV p1)), (60, (boolPV ((p0.strides.length : Int) == p1))), (65, (boolPV v9)), (70, (boolPV v10))], [(.box [(intPV p0.kind), (intPV p0.buffer), (intPV p0.base), (.dat (.lst ((List.map intD) p0.strides))), (intPV p0.start), (intPV p0.step), (intPV p0.mod)])]⟩) (fun d => ?_) (fun hJ => ?_)
      · clear hs
        refine G_run 1 ?_
        refine G_split (p := v10 = true) 71 (bool_dec _) (fun hc => ?_) (fun hc => ?_)
        · replace hm := pos_inv hc hm
          refine G_run 5 ?_
          refine G_end ⟨by kernel_rfl, ?_⟩
          refine R_ret ?_
          obtain rfl := inj1 hm
          exact ⟨trivial, fin_pure (by kernel_rfl)⟩
        replace hm := neg_inv hc hm
        refine G_run 5 ?_
        refine G_end ⟨by kernel_rfl, ?_⟩
        refine R_ret ?_
        obtain rfl := inj1 hm
        exact ⟨trivial, fin_pure (by kernel_rfl)⟩
      replace hm := hs
      clear hs
      refine G_split (p := v9 = true) 66 (bool_dec _) (fun hc => ?_) (fun hc => ?_)
      · replace hm := pos_inv hc hm
        refine G_run 4 ?_
        obtain rfl := inj1 hm
        exact hJ _ _ (by kernel_rfl) (by kernel_rfl)
      replace hm := neg_inv hc hm
      refine G_run 4 ?_
      obtain rfl := inj1 hm
      exact hJ _ _ (by kernel_rfl) (by kernel_rfl)
    replace hm := hs
    clear hs
    refine G_split (p := (p0.strides.length : Int) = p1) 61 (eq_dec _ _) (fun hc => ?_) (fun hc => ?_)
    · replace hm := pos_inv hc hm
      refine G_run 4 ?_
      obtain rfl := inj1 hm
      exact hJ _ _ (by kernel_rfl) (by kernel_rfl)
    replace hm := neg_inv hc hm
    refine G_run 4 ?_
    obtain rfl := inj1 hm
    exact hJ _ _ (by kernel_rfl) (by kernel_rfl)
  replace hm := neg_inv hc hm
  refine R_seq ?_
  refine R_G ?_
  refine G_run 2 ?_
  refine G_end ?_
  refine R_ifp (p := p0.kind = 3) (eq_dec _ _) (fun hc => ?_) (fun hc => ?_)
  · replace hm := pos_inv hc hm
    refine R_seq ?_
    refine R_G ?_
    refine G_run 2 ?_
    refine I_len intD p0.strides (es := (List.map intD) p0.strides) rfl ?_
    refine G_run 3 ?_
    refine G_split (p := (p0.strides.length : Int) = p1) 83 (eq_dec _ _) (fun hc => ?_) (fun hc => ?_)
    · replace hm := pos_inv hc hm
      refine G_run 5 ?_
      refine G_end ?_
      refine R_ret ?_
      obtain rfl := inj1 hm
      exact ⟨trivial, fin_pure (by kernel_rfl)⟩
    replace hm := neg_inv hc hm
    refine G_run 5 ?_
    refine G_end ?_
    refine R_ret ?_
    obtain rfl := inj1 hm
    exact ⟨trivial, fin_pure (by kernel_rfl)⟩
  replace hm := neg_inv hc hm
  refine R_skip ?_
  refine R_seq ?_
  refine R_G ?_
  refine G_run 1 ?_
  refine G_end ?_
  refine R_ret ?_
  obtain rfl := inj1 hm
  exact ⟨trivial, fin_pure (by kernel_rfl)⟩
end Go.Proofs.Try
namespace Go.Proofs.Try
open Go Go.Pm
set_option linter.unusedVariables false
set_option maxHeartbeats 2000000
set_option maxRecDepth 2000
def m_ref21_Small_L1 (x : (T_ref21_Nest × Int × Int × Int)) : Option (Unit ⊕ Unit) :=
  match x with
  | (p0, p1, v208, v209) =>
  if v209 < (p0.dims.length : Int) then
    (idx p0.dims v209 >>= fun v609 =>
    (if v609 < 1 then
      some true
    else
    idx p0.dims v209 >>= fun v611 =>
    some (decide (v611 > p1))
    ) >>= fun (v610 : Bool) =>
    (if v610 = true then
      some true
    else
    idx p0.steps v209 >>= fun v613 =>
    some (decide (v613 < (-1000000)))
    ) >>= fun (v612 : Bool) =>
    if v612 = true then
      some true
    else
    idx p0.steps v209 >>= fun v614 =>
    some (decide (v614 > 1000000))
    ) >>= fun (v608 : Bool) =>
    if v608 = true then
      some (Sum.inl ())
    else
    idx p0.dims v209 >>= fun v615 =>
    if (W (v208 * v615)) > p1 then
      some (Sum.inl ())
    else
    m_ref21_Small_L1 (p0, p1, (W (v208 * v615)), (W (v209 + 1)))
  else
  some (Sum.inr ())
  partial_fixpoint
def P_ref21_Small_L1 : (T_ref21_Nest × Int × Int × Int) → (Unit ⊕ Unit) → Prop := fun x r => match x with
  | (p0, p1, v208, v209) => ∀ st, prune 1 ((firstRegion (codeAt [1, 1, 1, 0, 1, 0, 0] (bodyOf f22))).bind (env.hint 22).keepAt) st = ⟨kp 93 [(1, (intPV p1)), (2, (.ptr 0 0)), (5, (intPV v208)), (6, (intPV v209))], [(.box [(.dat (.lst ((List.map intD) p0.dims))), (intPV p0.write), (.dat (.lst ((List.map intD) p0.steps))), (intPV p0.read.kind), (intPV p0.read.buffer), (intPV p0.read.base), (.dat (.lst ((List.map intD) p0.read.strides))), (intPV p0.read.start), (intPV p0.read.step), (intPV p0.read.mod)])]⟩ →
    RL prog env (env.hint 22) true (codeAt [1, 1, 1, 0, 1, 0, 0] (bodyOf f22)) 1 st (fun e s => match r with | .inl _ => e = .ret ∧ ∃ d, s = ⟨sl d 93 [(4, (boolPV false))], [(.box [(.dat (.lst ((List.map intD) p0.dims))), (intPV p0.write), (.dat (.lst ((List.map intD) p0.steps))), (intPV p0.read.kind), (intPV p0.read.buffer), (intPV p0.read.base), (.dat (.lst ((List.map intD) p0.read.strides))), (intPV p0.read.start), (intPV p0.read.step), (intPV p0.read.mod)])]⟩ | .inr (_) => e = .exit 0 ∧ ∃ d, s = ⟨sl d 93 [], [(.box [(.dat (.lst ((List.map intD) p0.dims))), (intPV p0.write), (.dat (.lst ((List.map intD) p0.steps))), (intPV p0.read.kind), (intPV p0.read.buffer), (intPV p0.read.base), (.dat (.lst ((List.map intD) p0.read.strides))), (intPV p0.read.start), (intPV p0.read.step), (intPV p0.read.mod)])]⟩)
theorem w_ref21_Small_L1 : ∀ x r, m_ref21_Small_L1 x = some r → P_ref21_Small_L1 x r := by
  refine m_ref21_Small_L1.partial_correctness _ (fun m_ref21_Small_L1 w_ref21_Small_L1 x r hm => ?_)
  unfold P_ref21_Small_L1
  obtain ⟨p0, p1, v208, v209⟩ := x
  intro st hst
  refine RL_at hst ?_
  clear hst
  refine R_seq ?_
  refine R_seq ?_
  refine R_G ?_
  refine G_run 3 ?_
  refine I_len intD p0.dims (es := (List.map intD) p0.dims) rfl ?_
  refine G_run 1 ?_
  refine G_end ?_
  refine R_ifp (p := v209 < (p0.dims.length : Int)) (rfl) (fun hc => ?_) (fun hc => ?_)
  · replace hm := pos_inv hc hm
    refine R_skip ?_
    refine R_seq ?_
    refine R_block ?_
    refine R_seq ?_
    refine R_seq ?_
    obtain ⟨v608, hs, hm⟩ := bind_inv hm
    refine R_cut (fun d => ⟨sl d 93 [(1, (intPV p1)), (2, (.ptr 0 0)), (5, (intPV v208)), (6, (intPV v209)), (82, (boolPV v608))], [(.box [(.dat (.lst ((List.map intD) p0.dims))), (intPV p0.write), (.dat (.lst ((List.map intD) p0.steps))), (intPV p0.read.kind), (intPV p0.read.buffer), (intPV p0.read.base), (.dat (.lst ((List.map intD) p0.read.strides))), (intPV p0.read.start), (intPV p0.read.step), (intPV p0.read.mod)])]⟩) ?_ (fun d => ?_)
    · replace hm := hs
      clear hs
      refine R_GN ?_
      refine G_run 3 ?_
      obtain ⟨v609, hx, hm⟩ := bind_inv hm
      refine I_idx 1 intD p0.dims v209 v609 (es := (List.map intD) p0.dims) (d := (intD v609)) rfl hx rfl rfl ?_
      refine G_run 3 ?_
      obtain ⟨v610, hs, hm⟩ := bind_inv hm
      refine G_cut (j := 15) (fun d => ⟨sl d 93 [(1, (intPV p1)), (2, (.ptr 0 0)), (5, (intPV v208)), (6, (intPV v209)), (45, (intPV v209)), (46, (.ptr 0 0)), (47, (.dat (.lst ((List.map intD) p0.dims)))), (48, (intPV (p0.dims.length : Int))), (49, (boolPV (decide (v209 < (p0.dims.length : Int))))), (52, (.ptr 0 0)), (53, (.dat (.lst ((List.map intD) p0.dims)))), (54, (intPV v209)), (55, (.iptr [(intD v609)])), (56, (intPV v609)), (57, (boolPV (decide (v609 < 1)))), (66, (boolPV v610))], [(.box [(.dat (.lst ((List.map intD) p0.dims))), (intPV p0.write), (.dat (.lst ((List.map intD) p0.steps))), (intPV p0.read.kind), (intPV p0.read.buffer), (intPV p0.read.base), (.dat (.lst ((List.map intD) p0.read.strides))), (intPV p0.read.start), (intPV p0.read.step), (intPV p0.read.mod)])]⟩) (fun d => ?_) (fun hJ => ?_)
      · clear hs
        refine G_run 1 ?_
        obtain ⟨v612, hs, hm⟩ := bind_inv hm
        refine G_cut (j := 23) (fun d => ⟨sl d 93 [(1, (intPV p1)), (2, (.ptr 0 0)), (5, (intPV v208)), (6, (intPV v209)), (45, (intPV v209)), (46, (.ptr 0 0)), (47, (.dat (.lst ((List.map intD) p0.dims)))), (48, (intPV (p0.dims.length : Int))), (49, (boolPV (decide (v209 < (p0.dims.length : Int))))), (52, (.ptr 0 0)), (53, (.dat (.lst ((List.map intD) p0.dims)))), (54, (intPV v209)), (55, (.iptr [(intD v609)])), (56, (intPV v609)), (57, (boolPV (decide (v609 < 1)))), (66, (boolPV v610)), (74, (boolPV v612))], [(.box [(.dat (.lst ((List.map intD) p0.dims))), (intPV p0.write), (.dat (.lst ((List.map intD) p0.steps))), (intPV p0.read.kind), (intPV p0.read.buffer), (intPV p0.read.base), (.dat (.lst ((List.map intD) p0.read.strides))), (intPV p0.read.start), (intPV p0.read.step), (intPV p0.read.mod)])]⟩) (fun d => ?_) (fun hJ => ?_)
        · clear hs
          refine G_run 1 ?_
          refine G_split (p := v612 = true) 75 (bool_dec _) (fun hc => ?_) (fun hc => ?_)
          · replace hm := pos_inv hc hm
            refine G_run 7 ?_
            refine G_end ⟨by kernel_rfl, ?_⟩
            obtain rfl := inj1 hm
            exact cut_leaf (by kernel_rfl)
          replace hm := neg_inv hc hm
          refine G_run 3 ?_
          obtain ⟨v614, hx, hm⟩ := bind_inv hm
          refine I_idx 1 intD p0.steps v209 v614 (es := (List.map intD) p0.steps) (d := (intD v614)) rfl hx rfl rfl ?_
          refine G_run 3 ?_
          refine G_end ⟨by kernel_rfl, ?_⟩
          obtain rfl := inj1 hm
          exact cut_leaf (by kernel_rfl)
        replace hm := hs
        clear hs
        refine G_split (p := v610 = true) 67 (bool_dec _) (fun hc => ?_) (fun hc => ?_)
        · replace hm := pos_inv hc hm
          refine G_run 7 ?_
          obtain rfl := inj1 hm
          exact hJ _ _ (by kernel_rfl) (by kernel_rfl)
        replace hm := neg_inv hc hm
        refine G_run 3 ?_
        obtain ⟨v613, hx, hm⟩ := bind_inv hm
        refine I_idx 1 intD p0.steps v209 v613 (es := (List.map intD) p0.steps) (d := (intD v613)) rfl hx rfl rfl ?_
        refine G_run 3 ?_
        obtain rfl := inj1 hm
        exact hJ _ _ (by kernel_rfl) (by kernel_rfl)
      replace hm := hs
      clear hs
      refine G_split (p := v609 < 1) 58 (rfl) (fun hc => ?_) (fun hc => ?_)
      · replace hm := pos_inv hc hm
        refine G_run 8 ?_
        obtain rfl := inj1 hm
        exact hJ _ _ (by kernel_rfl) (by kernel_rfl)
      replace hm := neg_inv hc hm
      refine G_run 3 ?_
      obtain ⟨v611, hx, hm⟩ := bind_inv hm
      refine I_idx 1 intD p0.dims v209 v611 (es := (List.map intD) p0.dims) (d := (intD v611)) rfl hx rfl rfl ?_
      refine G_run 4 ?_
      obtain rfl := inj1 hm
      exact hJ _ _ (by kernel_rfl) (by kernel_rfl)
    clear hs
    refine R_ifp (p := v608 = true) (bool_dec _) (fun hc => ?_) (fun hc => ?_)
    · replace hm := pos_inv hc hm
      refine R_seq ?_
      refine R_G ?_
      refine G_run 1 ?_
      refine G_end ?_
      refine R_ret ?_
      obtain rfl := inj1 hm
      exact ⟨rfl, cut_leaf (by kernel_rfl)⟩
    replace hm := neg_inv hc hm
    refine R_skip ?_
    refine R_seq ?_
    refine R_G ?_
    refine G_run 4 ?_
    obtain ⟨v615, hx, hm⟩ := bind_inv hm
    refine I_idx 1 intD p0.dims v209 v615 (es := (List.map intD) p0.dims) (d := (intD v615)) rfl hx rfl rfl ?_
    refine G_run 3 ?_
    refine G_end ?_
    refine R_seq ?_
    refine R_G ?_
    refine G_run 3 ?_
    refine G_end ?_
    refine R_ifp (p := (W (v208 * v615)) > p1) (rfl) (fun hc => ?_) (fun hc => ?_)
    · replace hm := pos_inv hc hm
      refine R_seq ?_
      refine R_G ?_
      refine G_run 1 ?_
      refine G_end ?_
      refine R_ret ?_
      obtain rfl := inj1 hm
      exact ⟨rfl, cut_leaf (by kernel_rfl)⟩
    replace hm := neg_inv hc hm
    refine R_skip ?_
    refine R_G ?_
    refine G_run 3 ?_
    refine G_end ?_
    exact w_ref21_Small_L1 _ _ hm _ (by kernel_rfl)
  replace hm := neg_inv hc hm
  refine R_exit ?_
  obtain rfl := inj1 hm
  exact ⟨rfl, cut_leaf (by kernel_rfl)⟩
def m_ref21_Small (x : (T_ref21_Nest × Int)) : Option Bool :=
  match x with
  | (p0, p1) =>
  ((if (p0.dims.length : Int) > 6 then
    some true
  else
  some ((p0.steps.length : Int) != (p0.dims.length : Int))
  ) >>= fun (v2 : Bool) =>
  (if v2 = true then
    some true
  else
  m_ref17_Right ((⟨p0.read.kind, p0.read.buffer, p0.read.base, p0.read.strides, p0.read.start, p0.read.step, p0.read.mod⟩ : T_ref17_Access), (p0.dims.length : Int)) >>= fun (v4 : Bool) =>
  some (!v4)
  ) >>= fun (v3 : Bool) =>
  (if v3 = true then
    some true
  else
  m_ref17_Bounded ((⟨p0.read.kind, p0.read.buffer, p0.read.base, p0.read.strides, p0.read.start, p0.read.step, p0.read.mod⟩ : T_ref17_Access), 1000000) >>= fun (v6 : Bool) =>
  some (!v6)
  ) >>= fun (v5 : Bool) =>
  (if v5 = true then
    some true
  else
  some (decide (p0.write < (-1000000)))
  ) >>= fun (v7 : Bool) =>
  if v7 = true then
    some true
  else
  some (decide (p0.write > 1000000))
  ) >>= fun (v1 : Bool) =>
  if v1 = true then
    some false
  else
  (
  m_ref21_Small_L1 (p0, p1, 1, 0) >>= fun (out : Unit ⊕ Unit) =>
  match out with
  | .inl _ =>
    some false
  | .inr (_) =>
    some true
  )
def P_ref21_Small : (T_ref21_Nest × Int) → Bool → Prop := fun x r => match x, r with
  | (p0, p1), r0 => ∀ H, PC prog env 22 ([(T_ref21_Nest.toD p0), (intD p1)].map .dat) H (boolPV r0) H
theorem w_ref21_Small : ∀ x r, m_ref21_Small x = some r → P_ref21_Small x r := by
  intro x r0 hm
  unfold m_ref21_Small at hm
  unfold P_ref21_Small
  obtain ⟨p0, p1⟩ := x
  intro H
  refine PC_sx (ds := [(T_ref21_Nest.toD p0), (intD p1)]) (fn := f22) (by kernel_rfl) (by kernel_rfl) rfl ?_ (by kernel_rfl)
  refine R_seq ?_
  refine R_G ?_
  refine G_run 2 ?_
  refine G_end ?_
  refine R_seq ?_
  refine R_seq ?_
  obtain ⟨v1, hs, hm⟩ := bind_inv hm
  refine R_cut (fun d => ⟨sl d 93 [(1, (intPV p1)), (2, (.ptr 0 0)), (44, (boolPV v1))], [(.box [(.dat (.lst ((List.map intD) p0.dims))), (intPV p0.write), (.dat (.lst ((List.map intD) p0.steps))), (intPV p0.read.kind), (intPV p0.read.buffer), (intPV p0.read.base), (.dat (.lst ((List.map intD) p0.read.strides))), (intPV p0.read.start), (intPV p0.read.step), (intPV p0.read.mod)])]⟩) ?_ (fun d => ?_)
  · replace hm := hs
    clear hs
    refine R_GN ?_
    refine G_run 2 ?_
    refine I_len intD p0.dims (es := (List.map intD) p0.dims) rfl ?_
    refine G_run 2 ?_
    obtain ⟨v2, hs, hm⟩ := bind_inv hm
    refine G_cut (j := 13) (fun d => ⟨sl d 93 [(0, (.dat (.agg [(.lst ((List.map intD) p0.dims)), (intD p0.write), (.lst ((List.map intD) p0.steps)), (intD p0.read.kind), (intD p0.read.buffer), (intD p0.read.base), (.lst ((List.map intD) p0.read.strides)), (intD p0.read.start), (intD p0.read.step), (intD p0.read.mod)]))), (1, (intPV p1)), (2, (.ptr 0 0)), (4, (boolPV false)), (7, (.ptr 0 0)), (8, (.dat (.lst ((List.map intD) p0.dims)))), (9, (intPV (p0.dims.length : Int))), (10, (boolPV (decide ((p0.dims.length : Int) > 6)))), (19, (boolPV v2))], [(.box [(.dat (.lst ((List.map intD) p0.dims))), (intPV p0.write), (.dat (.lst ((List.map intD) p0.steps))), (intPV p0.read.kind), (intPV p0.read.buffer), (intPV p0.read.base), (.dat (.lst ((List.map intD) p0.read.strides))), (intPV p0.read.start), (intPV p0.read.step), (intPV p0.read.mod)])]⟩) (fun d => ?_) (fun hJ => ?_)
    · clear hs
      refine G_run 1 ?_
      obtain ⟨v3, hs, hm⟩ := bind_inv hm
      refine G_cut (j := 22) (fun d => ⟨sl d 93 [(0, (.dat (.agg [(.lst ((List.map intD) p0.dims)), (intD p0.write), (.lst ((List.map intD) p0.steps)), (intD p0.read.kind), (intD p0.read.buffer), (intD p0.read.base), (.lst ((List.map intD) p0.read.strides)), (intD p0.read.start), (intD p0.read.step), (intD p0.read.mod)]))), (1, (intPV p1)), (2, (.ptr 0 0)), (4, (boolPV false)), (7, (.ptr 0 0)), (8, (.dat (.lst ((List.map intD) p0.dims)))), (9, (intPV (p0.dims.length : Int))), (10, (boolPV (decide ((p0.dims.length : Int) > 6)))), (19, (boolPV v2)), (28, (boolPV v3))], [(.box [(.dat (.lst ((List.map intD) p0.dims))), (intPV p0.write), (.dat (.lst ((List.map intD) p0.steps))), (intPV p0.read.kind), (intPV p0.read.buffer), (intPV p0.read.base), (.dat (.lst ((List.map intD) p0.read.strides))), (intPV p0.read.start), (intPV p0.read.step), (intPV p0.read.mod)])]⟩) (fun d => ?_) (fun hJ => ?_)
      · clear hs
        refine G_run 1 ?_
        obtain ⟨v5, hs, hm⟩ := bind_inv hm
        refine G_cut (j := 28) (fun d => ⟨sl d 93 [(0, (.dat (.agg [(.lst ((List.map intD) p0.dims)), (intD p0.write), (.lst ((List.map intD) p0.steps)), (intD p0.read.kind), (intD p0.read.buffer), (intD p0.read.base), (.lst ((List.map intD) p0.read.strides)), (intD p0.read.start), (intD p0.read.step), (intD p0.read.mod)]))), (1, (intPV p1)), (2, (.ptr 0 0)), (4, (boolPV false)), (7, (.ptr 0 0)), (8, (.dat (.lst ((List.map intD) p0.dims)))), (9, (intPV (p0.dims.length : Int))), (10, (boolPV (decide ((p0.dims.length : Int) > 6)))), (19, (boolPV v2)), (28, (boolPV v3)), (34, (boolPV v5))], [(.box [(.dat (.lst ((List.map intD) p0.dims))), (intPV p0.write), (.dat (.lst ((List.map intD) p0.steps))), (intPV p0.read.kind), (intPV p0.read.buffer), (intPV p0.read.base), (.dat (.lst ((List.map intD) p0.read.strides))), (intPV p0.read.start), (intPV p0.read.step), (intPV p0.read.mod)])]⟩) (fun d => ?_) (fun hJ => ?_)
        · clear hs
          refine G_run 1 ?_
          obtain ⟨v7, hs, hm⟩ := bind_inv hm
          refine G_cut (j := 33) (fun d => ⟨sl d 93 [(0, (.dat (.agg [(.lst ((List.map intD) p0.dims)), (intD p0.write), (.lst ((List.map intD) p0.steps)), (intD p0.read.kind), (intD p0.read.buffer), (intD p0.read.base), (.lst ((List.map intD) p0.read.strides)), (intD p0.read.start), (intD p0.read.step), (intD p0.read.mod)]))), (1, (intPV p1)), (2, (.ptr 0 0)), (4, (boolPV false)), (7, (.ptr 0 0)), (8, (.dat (.lst ((List.map intD) p0.dims)))), (9, (intPV (p0.dims.length : Int))), (10, (boolPV (decide ((p0.dims.length : Int) > 6)))), (19, (boolPV v2)), (28, (boolPV v3)), (34, (boolPV v5)), (39, (boolPV v7))], [(.box [(.dat (.lst ((List.map intD) p0.dims))), (intPV p0.write), (.dat (.lst ((List.map intD) p0.steps))), (intPV p0.read.kind), (intPV p0.read.buffer), (intPV p0.read.base), (.dat (.lst ((List.map intD) p0.read.strides))), (intPV p0.read.start), (intPV p0.read.step), (intPV p0.read.mod)])]⟩) (fun d => ?_) (fun hJ => ?_)
          · clear hs
            refine G_run 1 ?_
            refine G_split (p := v7 = true) 40 (bool_dec _) (fun hc => ?_) (fun hc => ?_)
            · replace hm := pos_inv hc hm
              refine G_run 4 ?_
              refine G_end ⟨by kernel_rfl, ?_⟩
              obtain rfl := inj1 hm
              exact cut_leaf (by kernel_rfl)
            replace hm := neg_inv hc hm
            refine G_run 4 ?_
            refine G_end ⟨by kernel_rfl, ?_⟩
            obtain rfl := inj1 hm
            exact cut_leaf (by kernel_rfl)
          replace hm := hs
          clear hs
          refine G_split (p := v5 = true) 35 (bool_dec _) (fun hc => ?_) (fun hc => ?_)
          · replace hm := pos_inv hc hm
            refine G_run 4 ?_
            obtain rfl := inj1 hm
            exact hJ _ _ (by kernel_rfl) (by kernel_rfl)
          replace hm := neg_inv hc hm
          refine G_run 4 ?_
          obtain rfl := inj1 hm
          exact hJ _ _ (by kernel_rfl) (by kernel_rfl)
        replace hm := hs
        clear hs
        refine G_split (p := v3 = true) 29 (bool_dec _) (fun hc => ?_) (fun hc => ?_)
        · replace hm := pos_inv hc hm
          refine G_run 5 ?_
          obtain rfl := inj1 hm
          exact hJ _ _ (by kernel_rfl) (by kernel_rfl)
        replace hm := neg_inv hc hm
        refine G_run 2 ?_
        obtain ⟨v6, hx, hm⟩ := bind_inv hm
        have hq := w_ref17_Bounded _ _ hx []
        refine G_callP hq ?_
        refine G_run 2 ?_
        obtain rfl := inj1 hm
        exact hJ _ _ (by kernel_rfl) (by kernel_rfl)
      replace hm := hs
      clear hs
      refine G_split (p := v2 = true) 20 (bool_dec _) (fun hc => ?_) (fun hc => ?_)
      · replace hm := pos_inv hc hm
        refine G_run 8 ?_
        obtain rfl := inj1 hm
        exact hJ _ _ (by kernel_rfl) (by kernel_rfl)
      replace hm := neg_inv hc hm
      refine G_run 4 ?_
      refine I_len intD p0.dims (es := (List.map intD) p0.dims) rfl ?_
      obtain ⟨v4, hx, hm⟩ := bind_inv hm
      have hq := w_ref17_Right _ _ hx []
      refine G_callP hq ?_
      refine G_run 2 ?_
      obtain rfl := inj1 hm
      exact hJ _ _ (by kernel_rfl) (by kernel_rfl)
    replace hm := hs
    clear hs
    refine G_split (p := (p0.dims.length : Int) > 6) 11 (rfl) (fun hc => ?_) (fun hc => ?_)
    · replace hm := pos_inv hc hm
      refine G_run 8 ?_
      obtain rfl := inj1 hm
      exact hJ _ _ (by kernel_rfl) (by kernel_rfl)
    replace hm := neg_inv hc hm
    refine G_run 2 ?_
    refine I_len intD p0.steps (es := (List.map intD) p0.steps) rfl ?_
    refine G_run 2 ?_
    refine I_len intD p0.dims (es := (List.map intD) p0.dims) rfl ?_
    refine G_run 2 ?_
    obtain rfl := inj1 hm
    exact hJ _ _ (by kernel_rfl) (by kernel_rfl)
  clear hs
  refine R_ifp (p := v1 = true) (bool_dec _) (fun hc => ?_) (fun hc => ?_)
  · replace hm := pos_inv hc hm
    refine R_seq ?_
    refine R_G ?_
    refine G_run 1 ?_
    refine G_end ?_
    refine R_ret ?_
    obtain rfl := inj1 hm
    exact ⟨trivial, fin_pure (by kernel_rfl)⟩
  replace hm := neg_inv hc hm
  refine R_skip ?_
  refine R_seq ?_
  refine R_G ?_
  refine G_run 1 ?_
  refine G_end ?_
  refine R_seq ?_
  refine R_seq ?_
  refine R_G ?_
  refine G_run 1 ?_
  refine G_end ?_
  refine R_block ?_
  obtain ⟨out, hs, hm⟩ := bind_inv hm
  refine R_loop ?_
  rcases out with _ | _
  · refine RL_use (w_ref21_Small_L1 _ _ hs) (by kernel_rfl) ?_
    clear hs
    intro e s hp
    obtain ⟨rfl, d, rfl⟩ := hp
    obtain rfl := inj1 hm
    exact ⟨trivial, fin_pure (by kernel_rfl)⟩
  · refine RL_use (w_ref21_Small_L1 _ _ hs) (by kernel_rfl) ?_
    clear hs
    intro e s hp
    obtain ⟨rfl, d, rfl⟩ := hp
    refine R_seq ?_
    refine R_G ?_
    refine G_run 1 ?_
    refine G_end ?_
    refine R_ret ?_
    obtain rfl := inj1 hm
    exact ⟨trivial, fin_pure (by kernel_rfl)⟩
end Go.Proofs.Try
namespace Go.Proofs.Try
open Go Go.Pm
set_option linter.unusedVariables false
set_option maxHeartbeats 2000000
set_option maxRecDepth 2000
def m_ref03_All_L3 (x : ((List Int) × Int × (List (List Int)) × Int × (List (List Int)) × Int)) : Option ((List (List Int))) :=
  match x with
  | (p0, v202, v201, v803, v1403, v1404) =>
  idx p0 v202 >>= fun v1804 =>
  if v1404 < v1804 then
    idx v201 v803 >>= fun v1805 =>
    app 8 ([] : List Int) v1805 >>= fun v1806 =>
    app 8 v1806 ([v1404] : List Int) >>= fun v1807 =>
    app 24 v1403 ([v1807] : List (List Int)) >>= fun v1808 =>
    m_ref03_All_L3 (p0, v202, v201, v803, v1808, (W (v1404 + 1)))
  else
  some v1403
  partial_fixpoint
def P_ref03_All_L3 : ((List Int) × Int × (List (List Int)) × Int × (List (List Int)) × Int) → (List (List Int)) → Prop := fun x r => match x with
  | (p0, v202, v201, v803, v1403, v1404) => ∀ st, prune 1 ((firstRegion (codeAt [1, 1, 0, 1, 0, 0, 1, 0, 0, 1, 0, 1, 0, 0, 1, 0, 0, 1, 0, 0] (bodyOf f30))).bind (env.hint 30).keepAt) st = ⟨kp 44 [(0, (.dat (.lst ((List.map intD) p0)))), (3, (.dat (.lst ((List.map (fun l => Dat.lst ((List.map intD) l))) v201)))), (4, (intPV v202)), (5, (.vec 0 ((List.map (fun l => Dat.lst ((List.map intD) l))) v1403))), (6, (intPV v803)), (7, (intPV v1404))], [(.tok 22 v1403.length)]⟩ →
    RL prog env (env.hint 30) true (codeAt [1, 1, 0, 1, 0, 0, 1, 0, 0, 1, 0, 1, 0, 0, 1, 0, 0, 1, 0, 0] (bodyOf f30)) 1 st (fun e s => match r with | v1803 => e = .exit 4 ∧ ∃ d, s = ⟨sl d 44 [(0, (.dat (.lst ((List.map intD) p0)))), (3, (.dat (.lst ((List.map (fun l => Dat.lst ((List.map intD) l))) v201)))), (4, (intPV v202)), (5, (.vec 0 ((List.map (fun l => Dat.lst ((List.map intD) l))) v1803))), (6, (intPV v803))], [(.tok 22 v1803.length)]⟩)
theorem w_ref03_All_L3 : ∀ x r, m_ref03_All_L3 x = some r → P_ref03_All_L3 x r := by
  refine m_ref03_All_L3.partial_correctness _ (fun m_ref03_All_L3 w_ref03_All_L3 x r hm => ?_)
  unfold P_ref03_All_L3
  obtain ⟨p0, v202, v201, v803, v1403, v1404⟩ := x
  intro st hst
  refine RL_at hst ?_
  clear hst
  refine R_seq ?_
  refine R_seq ?_
  refine R_G ?_
  refine G_run 3 ?_
  obtain ⟨v1804, hx, hm⟩ := bind_inv hm
  refine I_idx 1 intD p0 v202 v1804 (es := (List.map intD) p0) (d := (intD v1804)) rfl hx rfl rfl ?_
  refine G_run 2 ?_
  refine G_end ?_
  refine R_ifp (p := v1404 < v1804) (rfl) (fun hc => ?_) (fun hc => ?_)
  · replace hm := pos_inv hc hm
    refine R_skip ?_
    refine R_seq ?_
    refine R_block ?_
    refine R_G ?_
    refine G_run 4 ?_
    obtain ⟨v1805, hx, hm⟩ := bind_inv hm
    refine I_idx 1 (fun l => Dat.lst ((List.map intD) l)) v201 v803 v1805 (es := (List.map (fun l => Dat.lst ((List.map intD) l))) v201) (d := (.lst ((List.map intD) v1805))) rfl hx rfl rfl ?_
    refine G_run 1 ?_
    obtain ⟨v1806, hx, hm⟩ := bind_inv hm
    refine I_app 3 1 8 1 intD ([] : List Int) v1805 v1806 (xs := (List.map intD) ([] : List Int)) (es := (List.map intD) v1805) (L := (List.map intD)) (fun _ => rfl) rfl rfl (fun _ => rfl) hx ?_
    refine G_run 2 ?_
    obtain ⟨v1807, hx, hm⟩ := bind_inv hm
    refine I_app 3 1 8 1 intD v1806 ([v1404] : List Int) v1807 (xs := (List.map intD) v1806) (es := (List.map intD) ([v1404] : List Int)) (L := (List.map intD)) (fun _ => rfl) rfl rfl (fun _ => rfl) hx ?_
    refine G_run 1 ?_
    obtain ⟨v1808, hx, hm⟩ := bind_inv hm
    refine I_app 22 1 24 0 (fun l => Dat.lst ((List.map intD) l)) v1403 ([v1807] : List (List Int)) v1808 (xs := (List.map (fun l => Dat.lst ((List.map intD) l))) v1403) (es := (List.map (fun l => Dat.lst ((List.map intD) l))) ([v1807] : List (List Int))) (L := (List.map (fun l => Dat.lst ((List.map intD) l)))) (fun _ => rfl) rfl rfl (fun _ => rfl) hx ?_
    refine G_run 1 ?_
    refine G_end ?_
    refine R_G ?_
    refine G_run 3 ?_
    refine G_end ?_
    exact w_ref03_All_L3 _ _ hm _ (by kernel_rfl)
  replace hm := neg_inv hc hm
  refine R_exit ?_
  obtain rfl := inj1 hm
  exact ⟨rfl, cut_leaf (by kernel_rfl)⟩
def m_ref03_All_L2 (x : ((List (List Int)) × (List Int) × Int × (List (List Int)) × Int)) : Option ((List (List Int))) :=
  match x with
  | (v201, p0, v202, v802, v803) =>
  if v803 < (v201.length : Int) then
    m_ref03_All_L3 (p0, v202, v201, v803, v802, 0) >>= fun (v1803 : (List (List Int))) =>
    m_ref03_All_L2 (v201, p0, v202, v1803, (W (v803 + 1)))
  else
  some v802
  partial_fixpoint
def P_ref03_All_L2 : ((List (List Int)) × (List Int) × Int × (List (List Int)) × Int) → (List (List Int)) → Prop := fun x r => match x with
  | (v201, p0, v202, v802, v803) => ∀ st, prune 1 ((firstRegion (codeAt [1, 1, 0, 1, 0, 0, 1, 0, 0, 1, 0, 1, 0, 0] (bodyOf f30))).bind (env.hint 30).keepAt) st = ⟨kp 44 [(0, (.dat (.lst ((List.map intD) p0)))), (3, (.dat (.lst ((List.map (fun l => Dat.lst ((List.map intD) l))) v201)))), (4, (intPV v202)), (5, (.vec 0 ((List.map (fun l => Dat.lst ((List.map intD) l))) v802))), (6, (intPV v803))], [(.tok 22 v802.length)]⟩ →
    RL prog env (env.hint 30) true (codeAt [1, 1, 0, 1, 0, 0, 1, 0, 0, 1, 0, 1, 0, 0] (bodyOf f30)) 1 st (fun e s => match r with | v1202 => e = .exit 2 ∧ ∃ d, s = ⟨sl d 44 [(0, (.dat (.lst ((List.map intD) p0)))), (4, (intPV v202)), (5, (.vec 0 ((List.map (fun l => Dat.lst ((List.map intD) l))) v1202)))], [(.tok 22 v1202.length)]⟩)
theorem w_ref03_All_L2 : ∀ x r, m_ref03_All_L2 x = some r → P_ref03_All_L2 x r := by
  refine m_ref03_All_L2.partial_correctness _ (fun m_ref03_All_L2 w_ref03_All_L2 x r hm => ?_)
  unfold P_ref03_All_L2
  obtain ⟨v201, p0, v202, v802, v803⟩ := x
  intro st hst
  refine RL_at hst ?_
  clear hst
  refine R_seq ?_
  refine R_seq ?_
  refine R_G ?_
  refine G_run 2 ?_
  refine I_len (fun l => Dat.lst ((List.map intD) l)) v201 (es := (List.map (fun l => Dat.lst ((List.map intD) l))) v201) rfl ?_
  refine G_run 1 ?_
  refine G_end ?_
  refine R_ifp (p := v803 < (v201.length : Int)) (rfl) (fun hc => ?_) (fun hc => ?_)
  · replace hm := pos_inv hc hm
    refine R_skip ?_
    refine R_seq ?_
    refine R_block ?_
    refine R_seq ?_
    refine R_G ?_
    refine G_run 1 ?_
    refine G_end ?_
    refine R_block ?_
    obtain ⟨v1803, hs, hm⟩ := bind_inv hm
    refine R_loop ?_
    refine RL_use (w_ref03_All_L3 _ _ hs) (by kernel_rfl) ?_
    clear hs
    intro e s hp
    obtain ⟨rfl, d, rfl⟩ := hp
    refine R_G ?_
    refine G_run 3 ?_
    refine G_end ?_
    exact w_ref03_All_L2 _ _ hm _ (by kernel_rfl)
  replace hm := neg_inv hc hm
  refine R_exit ?_
  obtain rfl := inj1 hm
  exact ⟨rfl, cut_leaf (by kernel_rfl)⟩
def m_ref03_All_L1 (x : ((List Int) × (List (List Int)) × Int)) : Option ((List (List Int))) :=
  match x with
  | (p0, v201, v202) =>
  if v202 < (p0.length : Int) then
    m_ref03_All_L2 (v201, p0, v202, ([] : List (List Int)), 0) >>= fun (v1202 : (List (List Int))) =>
    m_ref03_All_L1 (p0, v1202, (W (v202 + 1)))
  else
  some v201
  partial_fixpoint
def P_ref03_All_L1 : ((List Int) × (List (List Int)) × Int) → (List (List Int)) → Prop := fun x r => match x with
  | (p0, v201, v202) => ∀ st, prune 0 ((firstRegion (codeAt [1, 1, 0, 1, 0, 0] (bodyOf f30))).bind (env.hint 30).keepAt) st = ⟨kp 44 [(0, (.dat (.lst ((List.map intD) p0)))), (3, (.dat (.lst ((List.map (fun l => Dat.lst ((List.map intD) l))) v201)))), (4, (intPV v202))], []⟩ →
    RL prog env (env.hint 30) true (codeAt [1, 1, 0, 1, 0, 0] (bodyOf f30)) 0 st (fun e s => match r with | v601 => e = .exit 0 ∧ ∃ d, s = ⟨sl d 44 [(3, (.dat (.lst ((List.map (fun l => Dat.lst ((List.map intD) l))) v601))))], []⟩)
theorem w_ref03_All_L1 : ∀ x r, m_ref03_All_L1 x = some r → P_ref03_All_L1 x r := by
  refine m_ref03_All_L1.partial_correctness _ (fun m_ref03_All_L1 w_ref03_All_L1 x r hm => ?_)
  unfold P_ref03_All_L1
  obtain ⟨p0, v201, v202⟩ := x
  intro st hst
  refine RL_at hst ?_
  clear hst
  refine R_seq ?_
  refine R_seq ?_
  refine R_G ?_
  refine G_run 2 ?_
  refine I_len intD p0 (es := (List.map intD) p0) rfl ?_
  refine G_run 1 ?_
  refine G_end ?_
  refine R_ifp (p := v202 < (p0.length : Int)) (rfl) (fun hc => ?_) (fun hc => ?_)
  · replace hm := pos_inv hc hm
    refine R_skip ?_
    refine R_seq ?_
    refine R_block ?_
    refine R_seq ?_
    refine R_G ?_
    refine G_run 1 ?_
    refine G_end ?_
    refine R_seq ?_
    refine R_seq ?_
    refine R_G ?_
    refine G_run 1 ?_
    refine G_end ?_
    refine R_block ?_
    obtain ⟨v1202, hs, hm⟩ := bind_inv hm
    refine R_loop ?_
    refine RL_use (w_ref03_All_L2 _ _ hs) (by kernel_rfl) ?_
    clear hs
    intro e s hp
    obtain ⟨rfl, d, rfl⟩ := hp
    refine R_G ?_
    refine G_run 2 ?_
    refine G_end ?_
    refine R_G ?_
    refine G_run 3 ?_
    refine G_end ?_
    exact w_ref03_All_L1 _ _ hm _ (by kernel_rfl)
  replace hm := neg_inv hc hm
  refine R_exit ?_
  obtain rfl := inj1 hm
  exact ⟨rfl, cut_leaf (by kernel_rfl)⟩
def m_ref03_All (x : (List Int)) : Option (List (List Int)) :=
  match x with
  | p0 =>
  m_ref03_All_L1 (p0, ([([] : (List Int))] : List (List Int)), 0) >>= fun (v601 : (List (List Int))) =>
  some v601
def P_ref03_All : (List Int) → (List (List Int)) → Prop := fun x r => match x, r with
  | p0, r0 => ∀ H, PC prog env 30 ([(.lst ((List.map intD) p0))].map .dat) H (.dat (.lst ((List.map (fun l => Dat.lst ((List.map intD) l))) r0))) H
theorem w_ref03_All : ∀ x r, m_ref03_All x = some r → P_ref03_All x r := by
  intro p0 r0 hm
  unfold m_ref03_All at hm
  unfold P_ref03_All
  intro H
  refine PC_sx (ds := [(.lst ((List.map intD) p0))]) (fn := f30) (by kernel_rfl) (by kernel_rfl) rfl ?_ (by kernel_rfl)
  refine R_seq ?_
  refine R_G ?_
  refine G_run 1 ?_
  refine G_end ?_
  refine R_seq ?_
  refine R_G ?_
  refine G_run 3 ?_
  refine G_end ?_
  refine R_seq ?_
  refine R_seq ?_
  refine R_G ?_
  refine G_run 1 ?_
  refine G_end ?_
  refine R_block ?_
  obtain ⟨v601, hs, hm⟩ := bind_inv hm
  refine R_loop ?_
  refine RL_use (w_ref03_All_L1 _ _ hs) (by kernel_rfl) ?_
  clear hs
  intro e s hp
  obtain ⟨rfl, d, rfl⟩ := hp
  refine R_seq ?_
  refine R_G ?_
  refine G_run 2 ?_
  refine G_end ?_
  refine R_ret ?_
  obtain rfl := inj1 hm
  exact ⟨trivial, fin_pure (by kernel_rfl)⟩
end Go.Proofs.Try
namespace Go.Proofs.Try
open Go Go.Pm
set_option linter.unusedVariables false
set_option maxHeartbeats 2000000
set_option maxRecDepth 2000
def m_ref03_Dot_L1 (x : ((List Int) × (List Int) × Int × Int)) : Option (Int) :=
  match x with
  | (p0, p1, v201, v202) =>
  (if v202 < (p0.length : Int) then
    some (decide (v202 < (p1.length : Int)))
  else
  some false
  ) >>= fun (v602 : Bool) =>
  if v602 = true then
    idx p0 v202 >>= fun v603 =>
    idx p1 v202 >>= fun v604 =>
    m_ref03_Dot_L1 (p0, p1, (W (v201 + (W (v603 * v604)))), (W (v202 + 1)))
  else
  some v201
  partial_fixpoint
def P_ref03_Dot_L1 : ((List Int) × (List Int) × Int × Int) → Int → Prop := fun x r => match x with
  | (p0, p1, v201, v202) => ∀ st, prune 0 ((firstRegion (codeAt [1, 1, 0, 1, 0, 0] (bodyOf f62))).bind (env.hint 62).keepAt) st = ⟨kp 31 [(0, (.dat (.lst ((List.map intD) p0)))), (1, (.dat (.lst ((List.map intD) p1)))), (5, (intPV v201)), (6, (intPV v202))], []⟩ →
    RL prog env (env.hint 62) true (codeAt [1, 1, 0, 1, 0, 0] (bodyOf f62)) 0 st (fun e s => match r with | v601 => e = .exit 0 ∧ ∃ d, s = ⟨sl d 31 [(5, (intPV v601))], []⟩)
theorem w_ref03_Dot_L1 : ∀ x r, m_ref03_Dot_L1 x = some r → P_ref03_Dot_L1 x r := by
  refine m_ref03_Dot_L1.partial_correctness _ (fun m_ref03_Dot_L1 w_ref03_Dot_L1 x r hm => ?_)
  unfold P_ref03_Dot_L1
  obtain ⟨p0, p1, v201, v202⟩ := x
  intro st hst
  refine RL_at hst ?_
  clear hst
  refine R_seq ?_
  refine R_seq ?_
  obtain ⟨v602, hs, hm⟩ := bind_inv hm
  refine R_cut (fun d => ⟨sl d 31 [(0, (.dat (.lst ((List.map intD) p0)))), (1, (.dat (.lst ((List.map intD) p1)))), (5, (intPV v201)), (6, (intPV v202)), (16, (boolPV v602))], []⟩) ?_ (fun d => ?_)
  · replace hm := hs
    clear hs
    refine R_G ?_
    refine G_run 2 ?_
    refine I_len intD p0 (es := (List.map intD) p0) rfl ?_
    refine G_run 2 ?_
    refine G_split (p := v202 < (p0.length : Int)) 11 (rfl) (fun hc => ?_) (fun hc => ?_)
    · replace hm := pos_inv hc hm
      refine G_run 2 ?_
      refine I_len intD p1 (es := (List.map intD) p1) rfl ?_
      refine G_run 2 ?_
      refine G_end ?_
      obtain rfl := inj1 hm
      exact cut_leaf (by kernel_rfl)
    replace hm := neg_inv hc hm
    refine G_run 5 ?_
    refine G_end ?_
    obtain rfl := inj1 hm
    exact cut_leaf (by kernel_rfl)
  clear hs
  refine R_ifp (p := v602 = true) (bool_dec _) (fun hc => ?_) (fun hc => ?_)
  · replace hm := pos_inv hc hm
    refine R_skip ?_
    refine R_seq ?_
    refine R_block ?_
    refine R_GD ?_
    refine G_run 3 ?_
    obtain ⟨v603, hx, hm⟩ := bind_inv hm
    refine I_idx 1 intD p0 v202 v603 (es := (List.map intD) p0) (d := (intD v603)) rfl hx rfl rfl ?_
    refine G_run 3 ?_
    obtain ⟨v604, hx, hm⟩ := bind_inv hm
    refine I_idx 1 intD p1 v202 v604 (es := (List.map intD) p1) (d := (intD v604)) rfl hx rfl rfl ?_
    refine G_run 4 ?_
    refine G_end ⟨by kernel_rfl, ?_⟩
    refine R_G ?_
    refine G_run 3 ?_
    refine G_end ?_
    exact w_ref03_Dot_L1 _ _ hm _ (by kernel_rfl)
  replace hm := neg_inv hc hm
  refine R_exit ?_
  obtain rfl := inj1 hm
  exact ⟨rfl, cut_leaf (by kernel_rfl)⟩
def m_ref03_Dot (x : ((List Int) × (List Int))) : Option Int :=
  match x with
  | (p0, p1) =>
  m_ref03_Dot_L1 (p0, p1, 0, 0) >>= fun (v601 : Int) =>
  some v601
def P_ref03_Dot : ((List Int) × (List Int)) → Int → Prop := fun x r => match x, r with
  | (p0, p1), r0 => ∀ H, PC prog env 62 ([(.lst ((List.map intD) p0)), (.lst ((List.map intD) p1))].map .dat) H (intPV r0) H
theorem w_ref03_Dot : ∀ x r, m_ref03_Dot x = some r → P_ref03_Dot x r := by
  intro x r0 hm
  unfold m_ref03_Dot at hm
  unfold P_ref03_Dot
  obtain ⟨p0, p1⟩ := x
  intro H
  refine PC_sx (ds := [(.lst ((List.map intD) p0)), (.lst ((List.map intD) p1))]) (fn := f62) (by kernel_rfl) (by kernel_rfl) rfl ?_ (by kernel_rfl)
  refine R_seq ?_
  refine R_G ?_
  refine G_run 1 ?_
  refine G_end ?_
  refine R_seq ?_
  refine R_G ?_
  refine G_run 1 ?_
  refine G_end ?_
  refine R_seq ?_
  refine R_seq ?_
  refine R_G ?_
  refine G_run 1 ?_
  refine G_end ?_
  refine R_block ?_
  obtain ⟨v601, hs, hm⟩ := bind_inv hm
  refine R_loop ?_
  refine RL_use (w_ref03_Dot_L1 _ _ hs) (by kernel_rfl) ?_
  clear hs
  intro e s hp
  obtain ⟨rfl, d, rfl⟩ := hp
  refine R_seq ?_
  refine R_G ?_
  refine G_run 2 ?_
  refine G_end ?_
  refine R_ret ?_
  obtain rfl := inj1 hm
  exact ⟨trivial, fin_pure (by kernel_rfl)⟩
end Go.Proofs.Try
namespace Go.Proofs.Try
open Go Go.Pm
set_option linter.unusedVariables false
set_option maxHeartbeats 2000000
set_option maxRecDepth 2000
def m_ref17_At (x : (T_ref17_Access × (List Int))) : Option (Int × Bool) :=
  match x with
  | (p0, p1) =>
  m_ref03_Dot (p0.strides, p1) >>= fun (v1 : Int) =>
  if p0.kind = 1 then
    some (0, false)
  else
  if p0.kind = 2 then
    some ((W (p0.base + v1)), true)
  else
  remM (W (p0.start + v1)) p0.mod >>= fun v2 =>
  (if v2 < 0 then
    some (W (v2 + p0.mod))
  else
  some v2
  ) >>= fun (v3 : Int) =>
  some ((W (p0.base + (W (p0.step * v3)))), true)
def P_ref17_At : (T_ref17_Access × (List Int)) → (Int × Bool) → Prop := fun x r => match x, r with
  | (p0, p1), (r0, r1) => ∀ H, PC prog env 63 ([(T_ref17_Access.toD p0), (.lst ((List.map intD) p1))].map .dat) H (.tup [(intPV r0), (boolPV r1)]) H
theorem w_ref17_At : ∀ x r, m_ref17_At x = some r → P_ref17_At x r := by
  intro x r hm
  unfold m_ref17_At at hm
  unfold P_ref17_At
  obtain ⟨p0, p1⟩ := x
  obtain ⟨r0, r1⟩ := r
  intro H
  refine PC_sx (ds := [(T_ref17_Access.toD p0), (.lst ((List.map intD) p1))]) (fn := f63) (by kernel_rfl) (by kernel_rfl) rfl ?_ (by kernel_rfl)
  refine R_seq ?_
  refine R_G ?_
  refine G_run 3 ?_
  refine G_end ?_
  refine R_seq ?_
  refine R_G ?_
  refine G_run 3 ?_
  obtain ⟨v1, hx, hm⟩ := bind_inv hm
  have hq := w_ref03_Dot _ _ hx []
  refine G_callP hq ?_
  refine G_run 1 ?_
  refine G_end ?_
  refine R_seq ?_
  refine R_seq ?_
  refine R_G ?_
  refine G_run 3 ?_
  refine G_end ?_
  refine R_ifp (p := p0.kind = 1) (eq_dec _ _) (fun hc => ?_) (fun hc => ?_)
  · replace hm := pos_inv hc hm
    refine R_seq ?_
    refine R_G ?_
    refine G_run 2 ?_
    refine G_end ?_
    refine R_ret ?_
    obtain ⟨rfl, rfl⟩ := inj2 hm
    exact ⟨trivial, fin_pure (by kernel_rfl)⟩
  replace hm := neg_inv hc hm
  refine R_skip ?_
  refine R_seq ?_
  refine R_seq ?_
  refine R_G ?_
  refine G_run 3 ?_
  refine G_end ?_
  refine R_ifp (p := p0.kind = 2) (eq_dec _ _) (fun hc => ?_) (fun hc => ?_)
  · replace hm := pos_inv hc hm
    refine R_seq ?_
    refine R_G ?_
    refine G_run 6 ?_
    refine G_end ?_
    refine R_ret ?_
    obtain ⟨rfl, rfl⟩ := inj2 hm
    exact ⟨trivial, fin_pure (by kernel_rfl)⟩
  replace hm := neg_inv hc hm
  refine R_skip ?_
  refine R_seq ?_
  refine R_G ?_
  refine G_run 6 ?_
  obtain ⟨v2, hx, hm⟩ := bind_inv hm
  refine G_semN rfl (by kernel_rfl) (fun _ => E_rem (a := (W (p0.start + v1))) (b := p0.mod) hx rfl (by kernel_rfl) (by kernel_rfl)) ?_
  refine G_run 1 ?_
  refine G_end ?_
  refine R_seq ?_
  refine R_seq ?_
  refine R_G ?_
  refine G_run 2 ?_
  refine G_end ?_
  obtain ⟨v3, hs, hm⟩ := bind_inv hm
  refine R_cut (fun d => ⟨sl d 42 [(2, (.ptr 0 0)), (7, (intPV v3))], [(.box [(intPV p0.kind), (intPV p0.buffer), (intPV p0.base), (.dat (.lst ((List.map intD) p0.strides))), (intPV p0.start), (intPV p0.step), (intPV p0.mod)])]⟩) ?_ (fun d => ?_)
  · replace hm := hs
    clear hs
    refine R_ifp (p := v2 < 0) (rfl) (fun hc => ?_) (fun hc => ?_)
    · replace hm := pos_inv hc hm
      refine R_G ?_
      refine G_run 5 ?_
      refine G_end ?_
      obtain rfl := inj1 hm
      exact cut_leaf (by kernel_rfl)
    replace hm := neg_inv hc hm
    refine R_skip ?_
    obtain rfl := inj1 hm
    exact cut_leaf (by kernel_rfl)
  clear hs
  refine R_seq ?_
  refine R_G ?_
  refine G_run 9 ?_
  refine G_end ?_
  refine R_ret ?_
  obtain ⟨rfl, rfl⟩ := inj2 hm
  exact ⟨trivial, fin_pure (by kernel_rfl)⟩
end Go.Proofs.Try
namespace Go.Proofs.Try
open Go Go.Pm
set_option linter.unusedVariables false
set_option maxHeartbeats 2000000
set_option maxRecDepth 2000
def m_ref21_Events_L1 (x : ((List (List Int)) × T_ref21_Nest × (List T_ref21_Event) × Int)) : Option ((List T_ref21_Event)) :=
  match x with
  | (v1, p0, v202, v203) =>
  if v203 < (v1.length : Int) then
    idx v1 v203 >>= fun v603 =>
    m_ref03_Dot (p0.steps, v603) >>= fun (v604 : Int) =>
    idx v1 v203 >>= fun v605 =>
    m_ref17_At ((⟨p0.read.kind, p0.read.buffer, p0.read.base, p0.read.strides, p0.read.start, p0.read.step, p0.read.mod⟩ : T_ref17_Access), v605) >>= fun ((v606, v607) : (Int × Bool)) =>
    (if v607 = true then
      some (p0.read.buffer, v606)
    else
    some (0, 0)
    ) >>= fun ((v608, v609) : (Int × Int)) =>
    app 32 v202 ([(⟨(W (p0.write + v604)), (!v607), v608, v609⟩ : T_ref21_Event)] : List T_ref21_Event) >>= fun v610 =>
    m_ref21_Events_L1 (v1, p0, v610, (W (v203 + 1)))
  else
  some v202
  partial_fixpoint
def P_ref21_Events_L1 : ((List (List Int)) × T_ref21_Nest × (List T_ref21_Event) × Int) → (List T_ref21_Event) → Prop := fun x r => match x with
  | (v1, p0, v202, v203) => ∀ st, prune 2 ((firstRegion (codeAt [1, 1, 1, 0, 1, 0, 0] (bodyOf f29))).bind (env.hint 29).keepAt) st = ⟨kp 54 [(1, (.ptr 0 0)), (3, (.vec 1 ((List.map T_ref21_Event.toD) v202))), (4, (.dat (.lst ((List.map (fun l => Dat.lst ((List.map intD) l))) v1)))), (5, (intPV v203))], [(.box [(.dat (.lst ((List.map intD) p0.dims))), (intPV p0.write), (.dat (.lst ((List.map intD) p0.steps))), (intPV p0.read.kind), (intPV p0.read.buffer), (intPV p0.read.base), (.dat (.lst ((List.map intD) p0.read.strides))), (intPV p0.read.start), (intPV p0.read.step), (intPV p0.read.mod)]), (.tok 60 v202.length)]⟩ →
    RL prog env (env.hint 29) true (codeAt [1, 1, 1, 0, 1, 0, 0] (bodyOf f29)) 2 st (fun e s => match r with | v602 => e = .exit 0 ∧ ∃ d, s = ⟨sl d 54 [(3, (.vec 1 ((List.map T_ref21_Event.toD) v602)))], [(.box [(.dat (.lst ((List.map intD) p0.dims))), (intPV p0.write), (.dat (.lst ((List.map intD) p0.steps))), (intPV p0.read.kind), (intPV p0.read.buffer), (intPV p0.read.base), (.dat (.lst ((List.map intD) p0.read.strides))), (intPV p0.read.start), (intPV p0.read.step), (intPV p0.read.mod)]), (.tok 60 v602.length)]⟩)
theorem w_ref21_Events_L1 : ∀ x r, m_ref21_Events_L1 x = some r → P_ref21_Events_L1 x r := by
  refine m_ref21_Events_L1.partial_correctness _ (fun m_ref21_Events_L1 w_ref21_Events_L1 x r hm => ?_)
  unfold P_ref21_Events_L1
  obtain ⟨v1, p0, v202, v203⟩ := x
  intro st hst
  refine RL_at hst ?_
  clear hst
  refine R_seq ?_
  refine R_seq ?_
  refine R_G ?_
  refine G_run 2 ?_
  refine I_len (fun l => Dat.lst ((List.map intD) l)) v1 (es := (List.map (fun l => Dat.lst ((List.map intD) l))) v1) rfl ?_
  refine G_run 1 ?_
  refine G_end ?_
  refine R_ifp (p := v203 < (v1.length : Int)) (rfl) (fun hc => ?_) (fun hc => ?_)
  · replace hm := pos_inv hc hm
    refine R_skip ?_
    refine R_seq ?_
    refine R_block ?_
    refine R_seq ?_
    refine R_GD ?_
    refine G_run 6 ?_
    obtain ⟨v603, hx, hm⟩ := bind_inv hm
    refine I_idx 1 (fun l => Dat.lst ((List.map intD) l)) v1 v203 v603 (es := (List.map (fun l => Dat.lst ((List.map intD) l))) v1) (d := (.lst ((List.map intD) v603))) rfl hx rfl rfl ?_
    refine G_run 1 ?_
    obtain ⟨v604, hx, hm⟩ := bind_inv hm
    have hq := w_ref03_Dot _ _ hx []
    refine G_callP hq ?_
    refine G_run 4 ?_
    refine G_end ⟨by kernel_rfl, ?_⟩
    refine R_seq ?_
    refine R_GD ?_
    refine G_run 4 ?_
    obtain ⟨v605, hx, hm⟩ := bind_inv hm
    refine I_idx 1 (fun l => Dat.lst ((List.map intD) l)) v1 v203 v605 (es := (List.map (fun l => Dat.lst ((List.map intD) l))) v1) (d := (.lst ((List.map intD) v605))) rfl hx rfl rfl ?_
    refine G_run 1 ?_
    obtain ⟨⟨v606, v607⟩, hx, hm⟩ := bind_inv hm
    have hq := w_ref17_At _ _ hx []
    refine G_callP hq ?_
    refine G_run 5 ?_
    refine G_end ⟨by kernel_rfl, ?_⟩
    refine R_seq ?_
    refine R_G ?_
    refine G_run 4 ?_
    refine G_end ?_
    refine R_seq ?_
    refine R_seq ?_
    refine R_G ?_
    refine G_run 1 ?_
    refine G_end ?_
    obtain ⟨⟨v608, v609⟩, hs, hm⟩ := bind_inv hm
    refine R_cut (fun d => ⟨sl d 54 [(1, (.ptr 0 0)), (3, (.vec 1 ((List.map T_ref21_Event.toD) v202))), (4, (.dat (.lst ((List.map (fun l => Dat.lst ((List.map intD) l))) v1)))), (5, (intPV v203)), (6, (.ptr 2 0))], [(.box [(.dat (.lst ((List.map intD) p0.dims))), (intPV p0.write), (.dat (.lst ((List.map intD) p0.steps))), (intPV p0.read.kind), (intPV p0.read.buffer), (intPV p0.read.base), (.dat (.lst ((List.map intD) p0.read.strides))), (intPV p0.read.start), (intPV p0.read.step), (intPV p0.read.mod)]), (.tok 60 v202.length), (.box [(intPV (W (p0.write + v604))), (boolPV (!v607)), (intPV v608), (intPV v609)])]⟩) ?_ (fun d => ?_)
    · replace hm := hs
      clear hs
      refine R_ifp (p := v607 = true) (bool_dec _) (fun hc => ?_) (fun hc => ?_)
      · replace hm := pos_inv hc hm
        refine R_seq ?_
        refine R_G ?_
        refine G_run 5 ?_
        refine G_end ?_
        refine R_G ?_
        refine G_run 3 ?_
        refine G_end ?_
        obtain ⟨rfl, rfl⟩ := inj2 hm
        exact cut_leaf (by kernel_rfl)
      replace hm := neg_inv hc hm
      refine R_skip ?_
      obtain ⟨rfl, rfl⟩ := inj2 hm
      exact cut_leaf (by kernel_rfl)
    clear hs
    refine R_G ?_
    refine G_run 3 ?_
    obtain ⟨v610, hx, hm⟩ := bind_inv hm
    refine I_app 60 4 32 1 T_ref21_Event.toD v202 ([(⟨(W (p0.write + v604)), (!v607), v608, v609⟩ : T_ref21_Event)] : List T_ref21_Event) v610 (xs := (List.map T_ref21_Event.toD) v202) (es := (List.map T_ref21_Event.toD) ([(⟨(W (p0.write + v604)), (!v607), v608, v609⟩ : T_ref21_Event)] : List T_ref21_Event)) (L := (List.map T_ref21_Event.toD)) (fun _ => rfl) rfl rfl T_ref21_Event.fit hx ?_
    refine G_run 1 ?_
    refine G_end ?_
    refine R_G ?_
    refine G_run 3 ?_
    refine G_end ?_
    exact w_ref21_Events_L1 _ _ hm _ (by kernel_rfl)
  replace hm := neg_inv hc hm
  refine R_exit ?_
  obtain rfl := inj1 hm
  exact ⟨rfl, cut_leaf (by kernel_rfl)⟩
def m_ref21_Events (x : T_ref21_Nest) : Option (List T_ref21_Event) :=
  match x with
  | p0 =>
  m_ref03_All p0.dims >>= fun (v1 : (List (List Int))) =>
  m_ref21_Events_L1 (v1, p0, ([] : List T_ref21_Event), 0) >>= fun (v602 : (List T_ref21_Event)) =>
  some v602
def P_ref21_Events : T_ref21_Nest → (List T_ref21_Event) → Prop := fun x r => match x, r with
  | p0, r0 => ∀ H, PC prog env 29 ([(T_ref21_Nest.toD p0)].map .dat) H (.dat (.lst ((List.map T_ref21_Event.toD) r0))) H
theorem w_ref21_Events : ∀ x r, m_ref21_Events x = some r → P_ref21_Events x r := by
  intro p0 r0 hm
  unfold m_ref21_Events at hm
  unfold P_ref21_Events
  intro H
  refine PC_sx (ds := [(T_ref21_Nest.toD p0)]) (fn := f29) (by kernel_rfl) (by kernel_rfl) rfl ?_ (by kernel_rfl)
  refine R_seq ?_
  refine R_G ?_
  refine G_run 2 ?_
  refine G_end ?_
  refine R_seq ?_
  refine R_G ?_
  refine G_run 1 ?_
  refine G_end ?_
  refine R_seq ?_
  refine R_G ?_
  refine G_run 2 ?_
  obtain ⟨v1, hx, hm⟩ := bind_inv hm
  have hq := w_ref03_All _ _ hx []
  refine G_callP hq ?_
  refine G_run 1 ?_
  refine G_end ?_
  refine R_seq ?_
  refine R_seq ?_
  refine R_G ?_
  refine G_run 1 ?_
  refine G_end ?_
  refine R_block ?_
  obtain ⟨v602, hs, hm⟩ := bind_inv hm
  refine R_loop ?_
  refine RL_use (w_ref21_Events_L1 _ _ hs) (by kernel_rfl) ?_
  clear hs
  intro e s hp
  obtain ⟨rfl, d, rfl⟩ := hp
  refine R_seq ?_
  refine R_G ?_
  refine G_run 2 ?_
  refine G_end ?_
  refine R_ret ?_
  obtain rfl := inj1 hm
  exact ⟨trivial, fin_pure (by kernel_rfl)⟩
end Go.Proofs.Try
namespace Go.Proofs.Try
open Go Go.Pm
set_option linter.unusedVariables false
set_option maxHeartbeats 2000000
set_option maxRecDepth 2000
def m_law21_Nest (x : T_ref21_Nest) : Option T_onf_Nest :=
  match x with
  | p0 =>
  some (⟨p0.dims, p0.write, p0.steps, (⟨p0.read.kind, p0.read.buffer, p0.read.base, p0.read.strides, p0.read.start, p0.read.step, p0.read.mod⟩ : T_access_Access)⟩ : T_onf_Nest)
def P_law21_Nest : T_ref21_Nest → T_onf_Nest → Prop := fun x r => match x, r with
  | p0, r0 => ∀ H, PC prog env 24 ([(T_ref21_Nest.toD p0)].map .dat) H (.dat (T_onf_Nest.toD r0)) H
theorem w_law21_Nest : ∀ x r, m_law21_Nest x = some r → P_law21_Nest x r := by
  intro p0 r0 hm
  unfold m_law21_Nest at hm
  unfold P_law21_Nest
  intro H
  refine PC_sx (ds := [(T_ref21_Nest.toD p0)]) (fn := f24) (by kernel_rfl) (by kernel_rfl) rfl ?_ (by kernel_rfl)
  refine R_seq ?_
  refine R_G ?_
  refine G_run 2 ?_
  refine G_end ?_
  refine R_seq ?_
  refine R_G ?_
  refine G_run 10 ?_
  refine G_end ?_
  refine R_ret ?_
  obtain rfl := inj1 hm
  exact ⟨trivial, fin_pure (by kernel_rfl)⟩
end Go.Proofs.Try
namespace Go.Proofs.Try
open Go Go.Pm
set_option linter.unusedVariables false
set_option maxHeartbeats 2000000
set_option maxRecDepth 2000
def m_slices_Clone_int_int (x : List Int) : Option (List Int) := app 8 [] x
def cgm_slices_Clone_int_int (l : List Int) : Nat := match l with | [] => 0 | _ => 1
def P_slices_Clone_int_int : List Int → List Int → Prop := fun x r => PC prog env 48 [.dat (.lst ((List.map intD) x))] [] (.ms 0 (cgm_slices_Clone_int_int r) 0 r.length r.length) [.mt 3 (cgm_slices_Clone_int_int r) (cellsOf intD r)]
theorem w_slices_Clone_int_int : ∀ x r, m_slices_Clone_int_int x = some r → P_slices_Clone_int_int x r := by
  intro x r hm
  obtain ⟨hroom, hr⟩ := app_some hm
  have hr : r = x := hr
  subst hr
  unfold P_slices_Clone_int_int
  cases r with
  | nil => exact PC_of (n := 20) (by kernel_rfl)
  | cons a l =>
    refine PC_sxB (fn := f48) (by kernel_rfl) (by kernel_rfl) rfl ?_
    refine R_seq ?_
    refine R_G ?_
    refine G_run 1 ?_
    refine G_end ?_
    refine R_seq ?_
    refine R_seq ?_
    refine R_G ?_
    refine G_run 1 ?_
    refine G_semN rfl (by kernel_rfl) (fun _ => E_lstNil (p := .dat (.lst ((List.map intD) (a :: l)))) (b := false) rfl (by kernel_rfl) (by kernel_rfl) (by kernel_rfl)) ?_
    refine G_end ?_
    refine R_false (by kernel_rfl) ?_
    refine R_skip ?_
    refine R_seq ?_
    refine R_G ?_
    refine G_run 2 ?_
    refine G_semH (v := .ms 0 1 0 (a :: l).length (a :: l).length) (fun H => H.set 0 (.mt 3 1 (cellsOf intD (a :: l)))) rfl (by kernel_rfl) (fun _ hk => E_apMs intD (l := []) (es := a :: l) (bytes := 8) (e := 3) (tt := 0) (g := 0) (m := 0) hm (fun _ => rfl) (by kernel_rfl) (by kernel_rfl) (by kernel_rfl) (by kernel_rfl) rfl rfl (by kernel_rfl) rfl (by kernel_rfl) (source_lst (fun _ => rfl)) hk) ?_
    refine G_run 1 ?_
    refine G_end ?_
    refine R_ret ?_
    exact ⟨trivial, fin_body (by kernel_rfl) (by kernel_rfl)⟩
end Go.Proofs.Try
namespace Go.Proofs.Try
open Go Go.Pm
set_option linter.unusedVariables false
set_option maxHeartbeats 2000000
set_option maxRecDepth 2000
def m_access_open_b0eec (x : (Int × Int × Int × (List Int) × Int × Int × Int)) : Option (((List Int) × Int)) :=
  match x with
  | (q0, q1, q2, q3, q4, q5, q6) =>
  m_slices_Clone_int_int q3 >>= fun v1 =>
  if q0 = 3 then
    some (v1, q4)
  else
  some (v1, q2)
def P_access_open_b0eec : (Int × Int × Int × (List Int) × Int × Int × Int) → ((List Int) × Int) → Prop := fun x r => match x with
  | (q0, q1, q2, q3, q4, q5, q6) => PC prog env 94 [(.dat (.agg [(intD q0), (intD q1), (intD q2), (.lst ((List.map intD) q3)), (intD q4), (intD q5), (intD q6)]))] [(.box [(intPV q0), (intPV q1), (intPV q2), (.dat (.lst ((List.map intD) q3))), (intPV q4), (intPV q5), (intPV q6)])] (match r with | (v5001, v5002) => (.ptr 3 0)) (match r with | (v5001, v5002) => [(.box [(intPV q0), (intPV q1), (intPV q2), (.dat (.lst ((List.map intD) q3))), (intPV q4), (intPV q5), (intPV q6)]), (.box [(intPV q0), (intPV q1), (intPV q2), (.dat (.lst ((List.map intD) q3))), (intPV q4), (intPV q5), (intPV q6)]), (.mt 3 1 (cellsOf intD v5001)), (.box [(intPV v5002), (.ms 2 1 0 v5001.length v5001.length), (intPV q0), (intPV q1), (intPV q2), (.dat (.lst ((List.map intD) q3))), (intPV q4), (intPV q5), (intPV q6)])])
theorem w_access_open_b0eec : ∀ x r, m_access_open_b0eec x = some r → P_access_open_b0eec x r := by
  intro x r hm
  unfold m_access_open_b0eec at hm
  unfold P_access_open_b0eec
  obtain ⟨q0, q1, q2, q3, q4, q5, q6⟩ := x
  refine PC_sxB (fn := f94) (by kernel_rfl) (by kernel_rfl) rfl ?_
  refine R_seq ?_
  refine R_G ?_
  refine G_run 2 ?_
  refine G_end ?_
  refine R_seq ?_
  refine R_GD ?_
  refine G_run 4 ?_
  obtain ⟨v1, hx, hm⟩ := bind_inv hm
  have hq := w_slices_Clone_int_int _ _ hx
  dsimp only [P_slices_Clone_int_int] at hq
  have hl9 : mtOf [Blk.mt 3 (cgm_slices_Clone_int_int v1) (cellsOf intD v1)] 0 = some (3, cgm_slices_Clone_int_int v1, cellsOf intD v1) := mtOf_at (by kernel_rfl)
  refine G_semH (v := .ms 2 1 0 v1.length v1.length) (fun H => H ++ [.mt 3 1 (cellsOf intD v1)]) rfl (by kernel_rfl) ?_ ?_
  · intro K hk
    refine E_callOwnN 2 (first := #[]) (cap := #[]) (j := (0, 3)) (ow' := []) (f0 := intD) (l := v1) rfl ?_ ?_ ?_ (ds := [.lst ((List.map intD) q3)]) ?_ hq hl9 ?_ ?_ ?_
    · kernel_rfl
    · kernel_rfl
    · kernel_rfl
    · kernel_rfl
    · exact hk
    · kernel_rfl
    · decide
  refine G_run 5 ?_
  refine G_end ⟨by kernel_rfl, ?_⟩
  refine R_seq ?_
  refine R_seq ?_
  refine R_G ?_
  refine G_run 3 ?_
  refine G_end ?_
  refine R_ifp (p := q0 = 3) (eq_dec _ _) (fun hc => ?_) (fun hc => ?_)
  · replace hm := pos_inv hc hm
    refine R_G ?_
    refine G_run 7 ?_
    refine G_end ?_
    refine R_seq ?_
    refine R_G ?_
    refine G_run 2 ?_
    refine G_end ?_
    refine R_ret ?_
    obtain rfl := inj1 hm
    exact ⟨trivial, fin_body (by kernel_rfl) (by kernel_rfl)⟩
  replace hm := neg_inv hc hm
  refine R_skip ?_
  refine R_seq ?_
  refine R_G ?_
  refine G_run 2 ?_
  refine G_end ?_
  refine R_ret ?_
  obtain rfl := inj1 hm
  exact ⟨trivial, fin_body (by kernel_rfl) (by kernel_rfl)⟩
end Go.Proofs.Try
namespace Go.Proofs.Try
open Go Go.Pm
set_option linter.unusedVariables false
set_option maxHeartbeats 2000000
set_option maxRecDepth 2000
def m_gamma_Dot_L1 (x : ((List Int) × (List Int) × Int × Int)) : Option (Int) :=
  match x with
  | (p1, p0, v201, v202) =>
  if v202 < (if (p1.length : Int) < (p0.length : Int) then (p1.length : Int) else (p0.length : Int)) then
    idx p0 v202 >>= fun v602 =>
    idx p1 v202 >>= fun v603 =>
    m_gamma_Dot_L1 (p1, p0, (W (v201 + (W (v602 * v603)))), (W (v202 + 1)))
  else
  some v201
  partial_fixpoint
def P_gamma_Dot_L1 : ((List Int) × (List Int) × Int × Int) → Int → Prop := fun x r => match x with
  | (p1, p0, v201, v202) => ∀ st, prune 0 ((firstRegion (codeAt [1, 1, 0, 1, 0, 0] (bodyOf f65))).bind (env.hint 65).keepAt) st = ⟨kp 28 [(0, (.dat (.lst ((List.map intD) p0)))), (1, (.dat (.lst ((List.map intD) p1)))), (5, (intPV v201)), (11, (intPV (if (p1.length : Int) < (p0.length : Int) then (p1.length : Int) else (p0.length : Int)))), (12, (intPV v202))], []⟩ →
    RL prog env (env.hint 65) true (codeAt [1, 1, 0, 1, 0, 0] (bodyOf f65)) 0 st (fun e s => match r with | v601 => e = .exit 0 ∧ ∃ d, s = ⟨sl d 28 [(5, (intPV v601))], []⟩)
theorem w_gamma_Dot_L1 : ∀ x r, m_gamma_Dot_L1 x = some r → P_gamma_Dot_L1 x r := by
  refine m_gamma_Dot_L1.partial_correctness _ (fun m_gamma_Dot_L1 w_gamma_Dot_L1 x r hm => ?_)
  unfold P_gamma_Dot_L1
  obtain ⟨p1, p0, v201, v202⟩ := x
  intro st hst
  refine RL_at hst ?_
  clear hst
  refine R_seq ?_
  refine R_G ?_
  refine G_run 1 ?_
  refine G_end ?_
  refine R_seq ?_
  refine R_ifp (p := v202 < (if (p1.length : Int) < (p0.length : Int) then (p1.length : Int) else (p0.length : Int))) (rfl) (fun hc => ?_) (fun hc => ?_)
  · replace hm := pos_inv hc hm
    refine R_skip ?_
    refine R_seq ?_
    refine R_block ?_
    refine R_seq ?_
    refine R_G ?_
    refine G_run 2 ?_
    refine G_end ?_
    refine R_GD ?_
    refine G_run 3 ?_
    obtain ⟨v602, hx, hm⟩ := bind_inv hm
    refine I_idx 1 intD p0 v202 v602 (es := (List.map intD) p0) (d := (intD v602)) rfl hx rfl rfl ?_
    refine G_run 3 ?_
    obtain ⟨v603, hx, hm⟩ := bind_inv hm
    refine I_idx 1 intD p1 v202 v603 (es := (List.map intD) p1) (d := (intD v603)) rfl hx rfl rfl ?_
    refine G_run 4 ?_
    refine G_end ⟨by kernel_rfl, ?_⟩
    refine R_G ?_
    refine G_run 2 ?_
    refine G_end ?_
    exact w_gamma_Dot_L1 _ _ hm _ (by kernel_rfl)
  replace hm := neg_inv hc hm
  refine R_exit ?_
  obtain rfl := inj1 hm
  exact ⟨rfl, cut_leaf (by kernel_rfl)⟩
def m_gamma_Dot (x : ((List Int) × (List Int))) : Option Int :=
  match x with
  | (p0, p1) =>
  m_gamma_Dot_L1 (p1, p0, 0, 0) >>= fun (v601 : Int) =>
  some v601
def P_gamma_Dot : ((List Int) × (List Int)) → Int → Prop := fun x r => match x, r with
  | (p0, p1), r0 => ∀ H, PC prog env 65 ([(.lst ((List.map intD) p0)), (.lst ((List.map intD) p1))].map .dat) H (intPV r0) H
theorem w_gamma_Dot : ∀ x r, m_gamma_Dot x = some r → P_gamma_Dot x r := by
  intro x r0 hm
  unfold m_gamma_Dot at hm
  unfold P_gamma_Dot
  obtain ⟨p0, p1⟩ := x
  intro H
  refine PC_sx (ds := [(.lst ((List.map intD) p0)), (.lst ((List.map intD) p1))]) (fn := f65) (by kernel_rfl) (by kernel_rfl) rfl ?_ (by kernel_rfl)
  refine R_seq ?_
  refine R_G ?_
  refine G_run 1 ?_
  refine G_end ?_
  refine R_seq ?_
  refine R_G ?_
  refine G_run 1 ?_
  refine G_end ?_
  refine R_seq ?_
  refine R_seq ?_
  refine R_G ?_
  refine G_run 1 ?_
  refine I_len intD p0 (es := (List.map intD) p0) rfl ?_
  refine G_run 1 ?_
  refine I_len intD p1 (es := (List.map intD) p1) rfl ?_
  refine G_semN rfl (by kernel_rfl) (fun _ => E_min (k := .i64) (m := (p0.length : Int)) (n := (p1.length : Int)) rfl (by kernel_rfl) (by kernel_rfl)) ?_
  refine G_run 1 ?_
  refine G_end ?_
  refine R_block ?_
  obtain ⟨v601, hs, hm⟩ := bind_inv hm
  refine R_loop ?_
  refine RL_use (w_gamma_Dot_L1 _ _ hs) (by kernel_rfl) ?_
  clear hs
  intro e s hp
  obtain ⟨rfl, d, rfl⟩ := hp
  refine R_seq ?_
  refine R_G ?_
  refine G_run 2 ?_
  refine G_end ?_
  refine R_ret ?_
  obtain rfl := inj1 hm
  exact ⟨trivial, fin_pure (by kernel_rfl)⟩
end Go.Proofs.Try
namespace Go.Proofs.Try
open Go Go.Pm
set_option linter.unusedVariables false
set_option maxHeartbeats 2000000
set_option maxRecDepth 2000
def m_access_linear_at (x : (T_access_linear × (List Int))) : Option Int :=
  match x with
  | (p0, p1) =>
  m_gamma_Dot (p0.strides, p1) >>= fun (v1 : Int) =>
  some (W (p0.first + v1))
def P_access_linear_at : (T_access_linear × (List Int)) → Int → Prop := fun x r => match x, r with
  | (p0, p1), r0 => ∀ H, PC prog env 95 ([(T_access_linear.toD p0), (.lst ((List.map intD) p1))].map .dat) H (intPV r0) H
theorem w_access_linear_at : ∀ x r, m_access_linear_at x = some r → P_access_linear_at x r := by
  intro x r0 hm
  unfold m_access_linear_at at hm
  unfold P_access_linear_at
  obtain ⟨p0, p1⟩ := x
  intro H
  refine PC_sx (ds := [(T_access_linear.toD p0), (.lst ((List.map intD) p1))]) (fn := f95) (by kernel_rfl) (by kernel_rfl) rfl ?_ (by kernel_rfl)
  refine R_seq ?_
  refine R_G ?_
  refine G_run 2 ?_
  refine G_end ?_
  refine R_seq ?_
  refine R_GD ?_
  refine G_run 5 ?_
  obtain ⟨v1, hx, hm⟩ := bind_inv hm
  have hq := w_gamma_Dot _ _ hx []
  refine G_callP hq ?_
  refine G_run 2 ?_
  refine G_end ⟨by kernel_rfl, ?_⟩
  refine R_ret ?_
  obtain rfl := inj1 hm
  exact ⟨trivial, fin_pure (by kernel_rfl)⟩
end Go.Proofs.Try
namespace Go.Proofs.Try
open Go Go.Pm
set_option linter.unusedVariables false
set_option maxHeartbeats 2000000
set_option maxRecDepth 2000
def m_size_Mod (x : (Int × Int)) : Option Int :=
  match x with
  | (p0, p1) =>
  if p1 ≤ 0 then
    some 0
  else
  remM p0 p1 >>= fun v1 =>
  if v1 < 0 then
    some (W (v1 + p1))
  else
  some v1
def P_size_Mod : (Int × Int) → Int → Prop := fun x r => match x, r with
  | (p0, p1), r0 => ∀ H, PC prog env 68 ([(intD p0), (intD p1)].map .dat) H (intPV r0) H
theorem w_size_Mod : ∀ x r, m_size_Mod x = some r → P_size_Mod x r := by
  intro x r0 hm
  unfold m_size_Mod at hm
  unfold P_size_Mod
  obtain ⟨p0, p1⟩ := x
  intro H
  refine PC_sx (ds := [(intD p0), (intD p1)]) (fn := f68) (by kernel_rfl) (by kernel_rfl) rfl ?_ (by kernel_rfl)
  refine R_seq ?_
  refine R_G ?_
  refine G_run 1 ?_
  refine G_end ?_
  refine R_seq ?_
  refine R_seq ?_
  refine R_G ?_
  refine G_run 2 ?_
  refine G_end ?_
  refine R_ifp (p := p1 ≤ 0) (rfl) (fun hc => ?_) (fun hc => ?_)
  · replace hm := pos_inv hc hm
    refine R_seq ?_
    refine R_G ?_
    refine G_run 1 ?_
    refine G_end ?_
    refine R_ret ?_
    obtain rfl := inj1 hm
    exact ⟨trivial, fin_pure (by kernel_rfl)⟩
  replace hm := neg_inv hc hm
  refine R_skip ?_
  refine R_seq ?_
  refine R_G ?_
  refine G_run 2 ?_
  obtain ⟨v1, hx, hm⟩ := bind_inv hm
  refine G_semN rfl (by kernel_rfl) (fun _ => E_rem (a := p0) (b := p1) hx rfl (by kernel_rfl) (by kernel_rfl)) ?_
  refine G_run 1 ?_
  refine G_end ?_
  refine R_seq ?_
  refine R_seq ?_
  refine R_G ?_
  refine G_run 2 ?_
  refine G_end ?_
  refine R_ifp (p := v1 < 0) (rfl) (fun hc => ?_) (fun hc => ?_)
  · replace hm := pos_inv hc hm
    refine R_G ?_
    refine G_run 4 ?_
    refine G_end ?_
    refine R_seq ?_
    refine R_G ?_
    refine G_run 2 ?_
    refine G_end ?_
    refine R_ret ?_
    obtain rfl := inj1 hm
    exact ⟨trivial, fin_pure (by kernel_rfl)⟩
  replace hm := neg_inv hc hm
  refine R_skip ?_
  refine R_seq ?_
  refine R_G ?_
  refine G_run 2 ?_
  refine G_end ?_
  refine R_ret ?_
  obtain rfl := inj1 hm
  exact ⟨trivial, fin_pure (by kernel_rfl)⟩
end Go.Proofs.Try
namespace Go.Proofs.Try
open Go Go.Pm
set_option linter.unusedVariables false
set_option maxHeartbeats 2000000
set_option maxRecDepth 2000
def m_access_At (x : (T_access_Access × (List Int))) : Option (Int × Bool) :=
  match x with
  | (p0, p1) =>
  m_access_open_b0eec (p0.kind, p0.buffer, p0.base, p0.strides, p0.start, p0.step, p0.mod) >>= fun ((v1, v2) : ((List Int) × Int)) =>
  m_access_linear_at ((⟨v2, v1⟩ : T_access_linear), p1) >>= fun (v3 : Int) =>
  if p0.kind = 2 then
    some (v3, true)
  else
  if p0.kind = 3 then
    m_size_Mod (v3, p0.mod) >>= fun (v4 : Int) =>
    some ((W (p0.base + (W (p0.step * v4)))), true)
  else
  some (0, false)
def P_access_At : (T_access_Access × (List Int)) → (Int × Bool) → Prop := fun x r => match x, r with
  | (p0, p1), (r0, r1) => ∀ H, PC prog env 64 ([(T_access_Access.toD p0), (.lst ((List.map intD) p1))].map .dat) H (.tup [(intPV r0), (boolPV r1)]) H
theorem w_access_At : ∀ x r, m_access_At x = some r → P_access_At x r := by
  intro x r hm
  unfold m_access_At at hm
  unfold P_access_At
  obtain ⟨p0, p1⟩ := x
  obtain ⟨r0, r1⟩ := r
  intro H
  refine PC_sx (ds := [(T_access_Access.toD p0), (.lst ((List.map intD) p1))]) (fn := f64) (by kernel_rfl) (by kernel_rfl) rfl ?_ (by kernel_rfl)
  refine R_seq ?_
  refine R_G ?_
  refine G_run 3 ?_
  refine G_end ?_
  refine R_seq ?_
  refine R_seq ?_
  refine R_G ?_
  refine G_run 1 ?_
  obtain ⟨⟨v1, v2⟩, hx, hm⟩ := bind_inv hm
  have hq := w_access_open_b0eec _ _ hx
  dsimp only [P_access_open_b0eec] at hq
  refine G_callB hq ?_
  refine G_run 4 ?_
  obtain ⟨v3, hx, hm⟩ := bind_inv hm
  have hq := w_access_linear_at _ _ hx []
  refine G_callL (args := [(.agg [(intPV v2), (.ms 2 1 0 v1.length v1.length)]), (.dat (.lst ((List.map intD) p1)))]) hq (ps_cons (p1_agg (pc_cons (by kernel_rfl) (pc_cons (pc_ms (e := 3) intD v1 rfl (fun _ => rfl) (by kernel_rfl)) pc_nil))) (ps_cons (by kernel_rfl) ps_nil)) ?_
  refine G_run 1 ?_
  refine G_end ?_
  refine R_seq ?_
  refine R_G ?_
  refine G_run 2 ?_
  refine G_end ?_
  refine R_block ?_
  refine R_seq ?_
  refine R_G ?_
  refine G_run 2 ?_
  refine G_end ?_
  refine R_ifp (p := p0.kind = 2) (eq_dec _ _) (fun hc => ?_) (fun hc => ?_)
  · replace hm := pos_inv hc hm
    refine R_seq ?_
    refine R_G ?_
    refine G_run 3 ?_
    refine G_end ?_
    refine R_ret ?_
    obtain ⟨rfl, rfl⟩ := inj2 hm
    exact ⟨trivial, fin_pure (by kernel_rfl)⟩
  replace hm := neg_inv hc hm
  refine R_seq ?_
  refine R_G ?_
  refine G_run 2 ?_
  refine G_end ?_
  refine R_ifp (p := p0.kind = 3) (eq_dec _ _) (fun hc => ?_) (fun hc => ?_)
  · replace hm := pos_inv hc hm
    refine R_seq ?_
    refine R_GD ?_
    refine G_run 7 ?_
    obtain ⟨v4, hx, hm⟩ := bind_inv hm
    have hq := w_size_Mod _ _ hx []
    refine G_callP hq ?_
    refine G_run 4 ?_
    refine G_end ⟨by kernel_rfl, ?_⟩
    refine R_ret ?_
    obtain ⟨rfl, rfl⟩ := inj2 hm
    exact ⟨trivial, fin_pure (by kernel_rfl)⟩
  replace hm := neg_inv hc hm
  refine R_skip ?_
  refine R_seq ?_
  refine R_G ?_
  refine G_run 2 ?_
  refine G_end ?_
  refine R_ret ?_
  obtain ⟨rfl, rfl⟩ := inj2 hm
  exact ⟨trivial, fin_pure (by kernel_rfl)⟩
end Go.Proofs.Try
namespace Go.Proofs.Try
open Go Go.Pm
set_option linter.unusedVariables false
set_option maxHeartbeats 2000000
set_option maxRecDepth 2000
def m_onf_At (x : (T_onf_Nest × (List Int))) : Option (Int × Int × Bool) :=
  match x with
  | (p0, p1) =>
  m_access_At ((⟨p0.read.kind, p0.read.buffer, p0.read.base, p0.read.strides, p0.read.start, p0.read.step, p0.read.mod⟩ : T_access_Access), p1) >>= fun ((v1, v2) : (Int × Bool)) =>
  m_gamma_Dot (p0.steps, p1) >>= fun (v3 : Int) =>
  some ((W (p0.write + v3)), v1, (!v2))
def P_onf_At : (T_onf_Nest × (List Int)) → (Int × Int × Bool) → Prop := fun x r => match x, r with
  | (p0, p1), (r0, r1, r2) => ∀ H, PC prog env 31 ([(T_onf_Nest.toD p0), (.lst ((List.map intD) p1))].map .dat) H (.tup [(intPV r0), (intPV r1), (boolPV r2)]) H
theorem w_onf_At : ∀ x r, m_onf_At x = some r → P_onf_At x r := by
  intro x r hm
  unfold m_onf_At at hm
  unfold P_onf_At
  obtain ⟨p0, p1⟩ := x
  obtain ⟨r0, r1, r2⟩ := r
  intro H
  refine PC_sx (ds := [(T_onf_Nest.toD p0), (.lst ((List.map intD) p1))]) (fn := f31) (by kernel_rfl) (by kernel_rfl) rfl ?_ (by kernel_rfl)
  refine R_seq ?_
  refine R_G ?_
  refine G_run 4 ?_
  refine G_end ?_
  refine R_seq ?_
  refine R_G ?_
  refine G_run 3 ?_
  obtain ⟨⟨v1, v2⟩, hx, hm⟩ := bind_inv hm
  have hq := w_access_At _ _ hx []
  refine G_callP hq ?_
  refine G_run 5 ?_
  refine G_end ?_
  refine R_seq ?_
  refine R_GD ?_
  refine G_run 5 ?_
  obtain ⟨v3, hx, hm⟩ := bind_inv hm
  have hq := w_gamma_Dot _ _ hx []
  refine G_callP hq ?_
  refine G_run 7 ?_
  refine G_end ⟨by kernel_rfl, ?_⟩
  refine R_ret ?_
  obtain ⟨rfl, rfl, rfl⟩ := inj3 hm
  exact ⟨trivial, fin_pure (by kernel_rfl)⟩
end Go.Proofs.Try
namespace Go.Proofs.Try
open Go Go.Pm
set_option linter.unusedVariables false
set_option maxHeartbeats 2000000
set_option maxRecDepth 2000
def m_onf_Cells_L1 (x : (T_onf_Nest × Int × Int)) : Option (Int) :=
  match x with
  | (p0, v201, v202) =>
  if v202 < (p0.dims.length : Int) then
    idx p0.dims v202 >>= fun v602 =>
    m_onf_Cells_L1 (p0, (W (v201 * v602)), (W (v202 + 1)))
  else
  some v201
  partial_fixpoint
def P_onf_Cells_L1 : (T_onf_Nest × Int × Int) → Int → Prop := fun x r => match x with
  | (p0, v201, v202) => ∀ st, prune 1 ((firstRegion (codeAt [1, 1, 0, 1, 0, 0] (bodyOf f32))).bind (env.hint 32).keepAt) st = ⟨kp 18 [(3, (intPV v201)), (7, (.dat (.lst ((List.map intD) p0.dims)))), (8, (intPV (p0.dims.length : Int))), (9, (intPV v202))], [(.box [(.dat (.lst ((List.map intD) p0.dims))), (intPV p0.write), (.dat (.lst ((List.map intD) p0.steps))), (intPV p0.read.kind), (intPV p0.read.buffer), (intPV p0.read.base), (.dat (.lst ((List.map intD) p0.read.strides))), (intPV p0.read.start), (intPV p0.read.step), (intPV p0.read.mod)])]⟩ →
    RL prog env (env.hint 32) true (codeAt [1, 1, 0, 1, 0, 0] (bodyOf f32)) 1 st (fun e s => match r with | v601 => e = .exit 0 ∧ ∃ d, s = ⟨sl d 18 [(3, (intPV v601))], [(.box [(.dat (.lst ((List.map intD) p0.dims))), (intPV p0.write), (.dat (.lst ((List.map intD) p0.steps))), (intPV p0.read.kind), (intPV p0.read.buffer), (intPV p0.read.base), (.dat (.lst ((List.map intD) p0.read.strides))), (intPV p0.read.start), (intPV p0.read.step), (intPV p0.read.mod)])]⟩)
theorem w_onf_Cells_L1 : ∀ x r, m_onf_Cells_L1 x = some r → P_onf_Cells_L1 x r := by
  refine m_onf_Cells_L1.partial_correctness _ (fun m_onf_Cells_L1 w_onf_Cells_L1 x r hm => ?_)
  unfold P_onf_Cells_L1
  obtain ⟨p0, v201, v202⟩ := x
  intro st hst
  refine RL_at hst ?_
  clear hst
  refine R_seq ?_
  refine R_G ?_
  refine G_run 1 ?_
  refine G_end ?_
  refine R_seq ?_
  refine R_ifp (p := v202 < (p0.dims.length : Int)) (rfl) (fun hc => ?_) (fun hc => ?_)
  · replace hm := pos_inv hc hm
    refine R_skip ?_
    refine R_seq ?_
    refine R_block ?_
    refine R_seq ?_
    refine R_G ?_
    obtain ⟨v602, hx, hm⟩ := bind_inv hm
    refine I_idx 1 intD p0.dims v202 v602 (es := (List.map intD) p0.dims) (d := (intD v602)) rfl hx rfl rfl ?_
    refine G_run 2 ?_
    refine G_end ?_
    refine R_G ?_
    refine G_run 4 ?_
    refine G_end ?_
    refine R_G ?_
    refine G_run 2 ?_
    refine G_end ?_
    exact w_onf_Cells_L1 _ _ hm _ (by kernel_rfl)
  replace hm := neg_inv hc hm
  refine R_exit ?_
  obtain rfl := inj1 hm
  exact ⟨rfl, cut_leaf (by kernel_rfl)⟩
def m_onf_Cells (x : T_onf_Nest) : Option Int :=
  match x with
  | p0 =>
  m_onf_Cells_L1 (p0, 1, 0) >>= fun (v601 : Int) =>
  some v601
def P_onf_Cells : T_onf_Nest → Int → Prop := fun x r => match x, r with
  | p0, r0 => ∀ H, PC prog env 32 ([(T_onf_Nest.toD p0)].map .dat) H (intPV r0) H
theorem w_onf_Cells : ∀ x r, m_onf_Cells x = some r → P_onf_Cells x r := by
  intro p0 r0 hm
  unfold m_onf_Cells at hm
  unfold P_onf_Cells
  intro H
  refine PC_sx (ds := [(T_onf_Nest.toD p0)]) (fn := f32) (by kernel_rfl) (by kernel_rfl) rfl ?_ (by kernel_rfl)
  refine R_seq ?_
  refine R_G ?_
  refine G_run 2 ?_
  refine G_end ?_
  refine R_seq ?_
  refine R_G ?_
  refine G_run 1 ?_
  refine G_end ?_
  refine R_seq ?_
  refine R_seq ?_
  refine R_G ?_
  refine G_run 2 ?_
  refine I_len intD p0.dims (es := (List.map intD) p0.dims) rfl ?_
  refine G_run 1 ?_
  refine G_end ?_
  refine R_block ?_
  obtain ⟨v601, hs, hm⟩ := bind_inv hm
  refine R_loop ?_
  refine RL_use (w_onf_Cells_L1 _ _ hs) (by kernel_rfl) ?_
  clear hs
  intro e s hp
  obtain ⟨rfl, d, rfl⟩ := hp
  refine R_seq ?_
  refine R_G ?_
  refine G_run 2 ?_
  refine G_end ?_
  refine R_ret ?_
  obtain rfl := inj1 hm
  exact ⟨trivial, fin_pure (by kernel_rfl)⟩
end Go.Proofs.Try
namespace Go.Proofs.Try
open Go Go.Pm
set_option linter.unusedVariables false
set_option maxHeartbeats 2000000
set_option maxRecDepth 2000
def m_law21_OnfRounds_L1 (x : ((List (List Int)) × T_ref21_Nest × (List T_ref21_Event) × Int)) : Option (Unit ⊕ Unit) :=
  match x with
  | (v5, p0, v6, v207) =>
  if v207 < (v5.length : Int) then
    m_law21_Nest (⟨p0.dims, p0.write, p0.steps, (⟨p0.read.kind, p0.read.buffer, p0.read.base, p0.read.strides, p0.read.start, p0.read.step, p0.read.mod⟩ : T_ref17_Access)⟩ : T_ref21_Nest) >>= fun (v607 : T_onf_Nest) =>
    idx v5 v207 >>= fun v608 =>
    m_onf_At (v607, v608) >>= fun ((v609, v610, v611) : (Int × Int × Bool)) =>
    (idx v6 v207 >>= fun v613 =>
    (if v609 ≠ v613.write then
      some true
    else
    idx v6 v207 >>= fun v615 =>
    some (v610 != v615.offset)
    ) >>= fun (v614 : Bool) =>
    if v614 = true then
      some true
    else
    idx v6 v207 >>= fun v616 =>
    some (v611 != v616.fill)
    ) >>= fun (v612 : Bool) =>
    if v612 = true then
      some (Sum.inl ())
    else
    m_law21_OnfRounds_L1 (v5, p0, v6, (W (v207 + 1)))
  else
  some (Sum.inr ())
  partial_fixpoint
def P_law21_OnfRounds_L1 : ((List (List Int)) × T_ref21_Nest × (List T_ref21_Event) × Int) → (Unit ⊕ Unit) → Prop := fun x r => match x with
  | (v5, p0, v6, v207) => ∀ st, prune 1 ((firstRegion (codeAt [1, 1, 1, 1, 0, 1, 0, 0] (bodyOf f7))).bind (env.hint 7).keepAt) st = ⟨kp 70 [(1, (.ptr 0 0)), (3, (.dat (.lst ((List.map (fun l => Dat.lst ((List.map intD) l))) v5)))), (4, (.dat (.lst ((List.map T_ref21_Event.toD) v6)))), (5, (intPV v207))], [(.box [(.dat (.lst ((List.map intD) p0.dims))), (intPV p0.write), (.dat (.lst ((List.map intD) p0.steps))), (intPV p0.read.kind), (intPV p0.read.buffer), (intPV p0.read.base), (.dat (.lst ((List.map intD) p0.read.strides))), (intPV p0.read.start), (intPV p0.read.step), (intPV p0.read.mod)])]⟩ →
    RL prog env (env.hint 7) true (codeAt [1, 1, 1, 1, 0, 1, 0, 0] (bodyOf f7)) 1 st (fun e s => match r with | .inl _ => e = .ret ∧ ∃ d, s = ⟨sl d 70 [(2, (boolPV false))], [(.box [(.dat (.lst ((List.map intD) p0.dims))), (intPV p0.write), (.dat (.lst ((List.map intD) p0.steps))), (intPV p0.read.kind), (intPV p0.read.buffer), (intPV p0.read.base), (.dat (.lst ((List.map intD) p0.read.strides))), (intPV p0.read.start), (intPV p0.read.step), (intPV p0.read.mod)])]⟩ | .inr (_) => e = .exit 0 ∧ ∃ d, s = ⟨sl d 70 [(1, (.ptr 0 0)), (3, (.dat (.lst ((List.map (fun l => Dat.lst ((List.map intD) l))) v5))))], [(.box [(.dat (.lst ((List.map intD) p0.dims))), (intPV p0.write), (.dat (.lst ((List.map intD) p0.steps))), (intPV p0.read.kind), (intPV p0.read.buffer), (intPV p0.read.base), (.dat (.lst ((List.map intD) p0.read.strides))), (intPV p0.read.start), (intPV p0.read.step), (intPV p0.read.mod)])]⟩)
theorem w_law21_OnfRounds_L1 : ∀ x r, m_law21_OnfRounds_L1 x = some r → P_law21_OnfRounds_L1 x r := by
  refine m_law21_OnfRounds_L1.partial_correctness _ (fun m_law21_OnfRounds_L1 w_law21_OnfRounds_L1 x r hm => ?_)
  unfold P_law21_OnfRounds_L1
  obtain ⟨v5, p0, v6, v207⟩ := x
  intro st hst
  refine RL_at hst ?_
  clear hst
  refine R_seq ?_
  refine R_seq ?_
  refine R_G ?_
  refine G_run 2 ?_
  refine I_len (fun l => Dat.lst ((List.map intD) l)) v5 (es := (List.map (fun l => Dat.lst ((List.map intD) l))) v5) rfl ?_
  refine G_run 1 ?_
  refine G_end ?_
  refine R_ifp (p := v207 < (v5.length : Int)) (rfl) (fun hc => ?_) (fun hc => ?_)
  · replace hm := pos_inv hc hm
    refine R_skip ?_
    refine R_seq ?_
    refine R_block ?_
    refine R_seq ?_
    refine R_GD ?_
    refine G_run 1 ?_
    obtain ⟨v607, hx, hm⟩ := bind_inv hm
    have hq := w_law21_Nest _ _ hx []
    refine G_callP hq ?_
    refine G_run 2 ?_
    obtain ⟨v608, hx, hm⟩ := bind_inv hm
    refine I_idx 1 (fun l => Dat.lst ((List.map intD) l)) v5 v207 v608 (es := (List.map (fun l => Dat.lst ((List.map intD) l))) v5) (d := (.lst ((List.map intD) v608))) rfl hx rfl rfl ?_
    refine G_run 1 ?_
    obtain ⟨⟨v609, v610, v611⟩, hx, hm⟩ := bind_inv hm
    have hq := w_onf_At _ _ hx []
    refine G_callP hq ?_
    refine G_run 7 ?_
    refine G_end ⟨by kernel_rfl, ?_⟩
    refine R_seq ?_
    obtain ⟨v612, hs, hm⟩ := bind_inv hm
    refine R_cut (fun d => ⟨sl d 70 [(1, (.ptr 0 0)), (3, (.dat (.lst ((List.map (fun l => Dat.lst ((List.map intD) l))) v5)))), (4, (.dat (.lst ((List.map T_ref21_Event.toD) v6)))), (5, (intPV v207)), (63, (boolPV v612))], [(.box [(.dat (.lst ((List.map intD) p0.dims))), (intPV p0.write), (.dat (.lst ((List.map intD) p0.steps))), (intPV p0.read.kind), (intPV p0.read.buffer), (intPV p0.read.base), (.dat (.lst ((List.map intD) p0.read.strides))), (intPV p0.read.start), (intPV p0.read.step), (intPV p0.read.mod)])]⟩) ?_ (fun d => ?_)
    · replace hm := hs
      clear hs
      refine R_GN ?_
      refine G_run 3 ?_
      obtain ⟨v613, hx, hm⟩ := bind_inv hm
      refine I_idx 4 T_ref21_Event.toD v6 v207 v613 (es := (List.map T_ref21_Event.toD) v6) (d := (T_ref21_Event.toD v613)) rfl hx rfl rfl ?_
      refine G_run 4 ?_
      obtain ⟨v614, hs, hm⟩ := bind_inv hm
      refine G_cut (j := 16) (fun d => ⟨sl d 70 [(1, (.ptr 0 0)), (3, (.dat (.lst ((List.map (fun l => Dat.lst ((List.map intD) l))) v5)))), (4, (.dat (.lst ((List.map T_ref21_Event.toD) v6)))), (5, (intPV v207)), (6, (intPV v609)), (7, (intPV v610)), (8, (boolPV v611)), (22, (intPV v207)), (23, (.dat (.lst ((List.map (fun l => Dat.lst ((List.map intD) l))) v5)))), (24, (intPV (v5.length : Int))), (25, (boolPV (decide (v207 < (v5.length : Int))))), (28, (.tup [(intPV v609), (intPV v610), (boolPV v611)])), (29, (.dat (.agg [(.lst ((List.map intD) p0.dims)), (intD p0.write), (.lst ((List.map intD) p0.steps)), (intD p0.read.kind), (intD p0.read.buffer), (intD p0.read.base), (.lst ((List.map intD) p0.read.strides)), (intD p0.read.start), (intD p0.read.step), (intD p0.read.mod)]))), (30, (.dat (.agg [(.lst ((List.map intD) v607.dims)), (intD v607.write), (.lst ((List.map intD) v607.steps)), (intD v607.read.kind), (intD v607.read.buffer), (intD v607.read.base), (.lst ((List.map intD) v607.read.strides)), (intD v607.read.start), (intD v607.read.step), (intD v607.read.mod)]))), (31, (.dat (.lst ((List.map (fun l => Dat.lst ((List.map intD) l))) v5)))), (32, (intPV v207)), (33, (.iptr [(.lst ((List.map intD) v608))])), (34, (.dat (.lst ((List.map intD) v608)))), (35, (.tup [(intPV v609), (intPV v610), (boolPV v611)])), (36, (intPV v609)), (37, (intPV v610)), (38, (boolPV v611)), (39, (intPV v609)), (40, (.dat (.lst ((List.map T_ref21_Event.toD) v6)))), (41, (intPV v207)), (42, (.iptr [(intD v613.write), (boolD v613.fill), (intD v613.buffer), (intD v613.offset)])), (43, (.iptr [(intD v613.write), (boolD v613.fill), (intD v613.buffer), (intD v613.offset)])), (44, (intPV v613.write)), (45, (boolPV (v609 != v613.write))), (54, (boolPV v614))], [(.box [(.dat (.lst ((List.map intD) p0.dims))), (intPV p0.write), (.dat (.lst ((List.map intD) p0.steps))), (intPV p0.read.kind), (intPV p0.read.buffer), (intPV p0.read.base), (.dat (.lst ((List.map intD) p0.read.strides))), (intPV p0.read.start), (intPV p0.read.step), (intPV p0.read.mod)])]⟩) (fun d => ?_) (fun hJ => ?_)
      · clear hs
        refine G_run 1 ?_
        refine G_split (p := v614 = true) 55 (bool_dec _) (fun hc => ?_) (fun hc => ?_)
        · replace hm := pos_inv hc hm
          refine G_run 8 ?_
          refine G_end ⟨by kernel_rfl, ?_⟩
          obtain rfl := inj1 hm
          exact cut_leaf (by kernel_rfl)
        replace hm := neg_inv hc hm
        refine G_run 3 ?_
        obtain ⟨v616, hx, hm⟩ := bind_inv hm
        refine I_idx 4 T_ref21_Event.toD v6 v207 v616 (es := (List.map T_ref21_Event.toD) v6) (d := (T_ref21_Event.toD v616)) rfl hx rfl rfl ?_
        refine G_run 2 ?_
        refine G_semN rfl (by kernel_rfl) (fun _ => E_neqB (a := v611) (b := v616.fill) (by kernel_rfl) rfl (by kernel_rfl) (by kernel_rfl)) ?_
        refine G_run 1 ?_
        refine G_end ⟨by kernel_rfl, ?_⟩
        obtain rfl := inj1 hm
        exact cut_leaf (by kernel_rfl)
      replace hm := hs
      clear hs
      refine G_split (p := v609 ≠ v613.write) 46 (ne_dec _ _) (fun hc => ?_) (fun hc => ?_)
      · replace hm := pos_inv hc hm
        refine G_run 8 ?_
        obtain rfl := inj1 hm
        exact hJ _ _ (by kernel_rfl) (by kernel_rfl)
      replace hm := neg_inv hc hm
      refine G_run 3 ?_
      obtain ⟨v615, hx, hm⟩ := bind_inv hm
      refine I_idx 4 T_ref21_Event.toD v6 v207 v615 (es := (List.map T_ref21_Event.toD) v6) (d := (T_ref21_Event.toD v615)) rfl hx rfl rfl ?_
      refine G_run 4 ?_
      obtain rfl := inj1 hm
      exact hJ _ _ (by kernel_rfl) (by kernel_rfl)
    clear hs
    refine R_ifp (p := v612 = true) (bool_dec _) (fun hc => ?_) (fun hc => ?_)
    · replace hm := pos_inv hc hm
      refine R_seq ?_
      refine R_G ?_
      refine G_run 1 ?_
      refine G_end ?_
      refine R_ret ?_
      obtain rfl := inj1 hm
      exact ⟨rfl, cut_leaf (by kernel_rfl)⟩
    replace hm := neg_inv hc hm
    refine R_skip ?_
    refine R_G ?_
    refine G_run 3 ?_
    refine G_end ?_
    exact w_law21_OnfRounds_L1 _ _ hm _ (by kernel_rfl)
  replace hm := neg_inv hc hm
  refine R_exit ?_
  obtain rfl := inj1 hm
  exact ⟨rfl, cut_leaf (by kernel_rfl)⟩
def m_law21_OnfRounds (x : T_ref21_Nest) : Option Bool :=
  match x with
  | p0 =>
  (m_law21_awake () >>= fun (v2 : Bool) =>
  if v2 = false then
    some true
  else
  m_ref21_Small ((⟨p0.dims, p0.write, p0.steps, (⟨p0.read.kind, p0.read.buffer, p0.read.base, p0.read.strides, p0.read.start, p0.read.step, p0.read.mod⟩ : T_ref17_Access)⟩ : T_ref21_Nest), 200) >>= fun (v3 : Bool) =>
  some (!v3)
  ) >>= fun (v1 : Bool) =>
  if v1 = true then
    m_law21_awake () >>= fun (v4 : Bool) =>
    some v4
  else
  m_ref03_All p0.dims >>= fun (v5 : (List (List Int))) =>
  m_ref21_Events (⟨p0.dims, p0.write, p0.steps, (⟨p0.read.kind, p0.read.buffer, p0.read.base, p0.read.strides, p0.read.start, p0.read.step, p0.read.mod⟩ : T_ref17_Access)⟩ : T_ref21_Nest) >>= fun (v6 : (List T_ref21_Event)) =>
  (
  m_law21_OnfRounds_L1 (v5, p0, v6, 0) >>= fun (out : Unit ⊕ Unit) =>
  match out with
  | .inl _ =>
    some false
  | .inr (_) =>
    m_law21_Nest (⟨p0.dims, p0.write, p0.steps, (⟨p0.read.kind, p0.read.buffer, p0.read.base, p0.read.strides, p0.read.start, p0.read.step, p0.read.mod⟩ : T_ref17_Access)⟩ : T_ref21_Nest) >>= fun (v617 : T_onf_Nest) =>
    m_onf_Cells v617 >>= fun (v618 : Int) =>
    some (v618 == (v5.length : Int))
  )
def P_law21_OnfRounds : T_ref21_Nest → Bool → Prop := fun x r => match x, r with
  | p0, r0 => ∀ H, PC prog env 7 ([(T_ref21_Nest.toD p0)].map .dat) H (boolPV r0) H
theorem w_law21_OnfRounds : ∀ x r, m_law21_OnfRounds x = some r → P_law21_OnfRounds x r := by
  intro p0 r0 hm
  unfold m_law21_OnfRounds at hm
  unfold P_law21_OnfRounds
  intro H
  refine PC_sx (ds := [(T_ref21_Nest.toD p0)]) (fn := f7) (by kernel_rfl) (by kernel_rfl) rfl ?_ (by kernel_rfl)
  refine R_seq ?_
  refine R_G ?_
  refine G_run 2 ?_
  refine G_end ?_
  refine R_seq ?_
  refine R_seq ?_
  obtain ⟨v1, hs, hm⟩ := bind_inv hm
  refine R_cut (fun d => ⟨sl d 70 [(1, (.ptr 0 0)), (15, (boolPV v1))], [(.box [(.dat (.lst ((List.map intD) p0.dims))), (intPV p0.write), (.dat (.lst ((List.map intD) p0.steps))), (intPV p0.read.kind), (intPV p0.read.buffer), (intPV p0.read.base), (.dat (.lst ((List.map intD) p0.read.strides))), (intPV p0.read.start), (intPV p0.read.step), (intPV p0.read.mod)])]⟩) ?_ (fun d => ?_)
  · replace hm := hs
    clear hs
    refine R_G ?_
    obtain ⟨v2, hx, hm⟩ := bind_inv hm
    have hq := w_law21_awake _ _ hx []
    refine G_callP hq ?_
    refine G_run 2 ?_
    refine G_split (p := v2 = false) 11 (not_dec _) (fun hc => ?_) (fun hc => ?_)
    · replace hm := pos_inv hc hm
      refine G_run 4 ?_
      refine G_end ?_
      obtain rfl := inj1 hm
      exact cut_leaf (by kernel_rfl)
    replace hm := neg_inv hc hm
    refine G_run 1 ?_
    obtain ⟨v3, hx, hm⟩ := bind_inv hm
    have hq := w_ref21_Small _ _ hx []
    refine G_callP hq ?_
    refine G_run 2 ?_
    refine G_end ?_
    obtain rfl := inj1 hm
    exact cut_leaf (by kernel_rfl)
  clear hs
  refine R_ifp (p := v1 = true) (bool_dec _) (fun hc => ?_) (fun hc => ?_)
  · replace hm := pos_inv hc hm
    refine R_seq ?_
    refine R_G ?_
    obtain ⟨v4, hx, hm⟩ := bind_inv hm
    have hq := w_law21_awake _ _ hx []
    refine G_callP hq ?_
    refine G_run 1 ?_
    refine G_end ?_
    refine R_ret ?_
    obtain rfl := inj1 hm
    exact ⟨trivial, fin_pure (by kernel_rfl)⟩
  replace hm := neg_inv hc hm
  refine R_skip ?_
  refine R_seq ?_
  refine R_G ?_
  refine G_run 2 ?_
  obtain ⟨v5, hx, hm⟩ := bind_inv hm
  have hq := w_ref03_All _ _ hx []
  refine G_callP hq ?_
  refine G_run 1 ?_
  refine G_end ?_
  refine R_seq ?_
  refine R_G ?_
  refine G_run 1 ?_
  obtain ⟨v6, hx, hm⟩ := bind_inv hm
  have hq := w_ref21_Events _ _ hx []
  refine G_callP hq ?_
  refine G_run 1 ?_
  refine G_end ?_
  refine R_seq ?_
  refine R_seq ?_
  refine R_G ?_
  refine G_run 1 ?_
  refine G_end ?_
  refine R_block ?_
  obtain ⟨out, hs, hm⟩ := bind_inv hm
  refine R_loop ?_
  rcases out with _ | _
  · refine RL_use (w_law21_OnfRounds_L1 _ _ hs) (by kernel_rfl) ?_
    clear hs
    intro e s hp
    obtain ⟨rfl, d, rfl⟩ := hp
    obtain rfl := inj1 hm
    exact ⟨trivial, fin_pure (by kernel_rfl)⟩
  · refine RL_use (w_law21_OnfRounds_L1 _ _ hs) (by kernel_rfl) ?_
    clear hs
    intro e s hp
    obtain ⟨rfl, d, rfl⟩ := hp
    refine R_seq ?_
    refine R_G ?_
    refine G_run 1 ?_
    obtain ⟨v617, hx, hm⟩ := bind_inv hm
    have hq := w_law21_Nest _ _ hx []
    refine G_callP hq ?_
    obtain ⟨v618, hx, hm⟩ := bind_inv hm
    have hq := w_onf_Cells _ _ hx []
    refine G_callP hq ?_
    refine G_run 1 ?_
    refine I_len (fun l => Dat.lst ((List.map intD) l)) v5 (es := (List.map (fun l => Dat.lst ((List.map intD) l))) v5) rfl ?_
    refine G_run 2 ?_
    refine G_end ?_
    refine R_ret ?_
    obtain rfl := inj1 hm
    exact ⟨trivial, fin_pure (by kernel_rfl)⟩
end Go.Proofs.Try
namespace Go.Proofs.Try
open Go Go.Pm
set_option linter.unusedVariables false
set_option linter.unusedSimpArgs false
set_option maxRecDepth 2000
theorem app_le {α : Type} {b : Nat} {l es : List α} (h : l.length + es.length ≤ 100000000) (hb : b ≤ 1000) : app b l es = some (l ++ es) := app_ok (by
  have h1 : (l.length + es.length) * b ≤ 100000000 * 1000 := Nat.mul_le_mul h hb
  have h2 : 100000000 * 1000 ≤ room := by decide +kernel
  omega)
def rowI (n : Int) (a : List Int) : List (List Int) := (List.range n.toNat).map fun (k : Nat) => a ++ [(k : Int)]
def extI (out : List (List Int)) (n : Int) : List (List Int) := out.flatMap (rowI n)
/-- all indices -/
def allL : List Int → List (List Int)
  | [] => [[]]
  | n :: s => (List.range n.toNat).flatMap fun (k : Nat) => (allL s).map ((k : Int) :: ·)
theorem foldl_ext : ∀ (s : List Int) (out : List (List Int)), s.foldl extI out = out.flatMap fun a => (allL s).map (a ++ ·)
  | [], out => by
    simp only [List.foldl_nil, allL, List.map_cons, List.append_nil, List.map_nil]
    induction out with
    | nil => rfl
    | cons a o ih => rw [List.flatMap_cons, ← ih]; rfl
  | n :: s, out => by
    rw [List.foldl_cons, foldl_ext s, extI, List.flatMap_assoc]
    congr 1
    funext a
    rw [rowI, List.flatMap_map, allL, List.map_flatMap]
    congr 1
    funext k
    rw [List.map_map]
    congr 1
    funext x
    simp
theorem allI_eq (s : List Int) : s.foldl extI [[]] = allL s := by rw [foldl_ext]; simp
/-- the product of the dimensions, where none counts less than one -/
def pm : List Int → Nat
  | [] => 1
  | n :: s => max n.toNat 1 * pm s
theorem pm_pos : ∀ s : List Int, 1 ≤ pm s
  | [] => Nat.le_refl _
  | n :: s => by
    have := pm_pos s
    rw [pm]
    exact Nat.mul_le_mul (show 1 ≤ max n.toNat 1 by omega) this
theorem rowI_len (n : Int) (a : List Int) : (rowI n a).length = n.toNat := by simp [rowI]
theorem extI_len (n : Int) : ∀ out : List (List Int), (extI out n).length = out.length * n.toNat
  | [] => by simp [extI]
  | a :: o => by
    have := extI_len n o
    unfold extI at this ⊢
    rw [List.flatMap_cons, List.length_append, rowI_len, this, List.length_cons, Nat.add_mul, Nat.one_mul]; omega
theorem all_L3 (p : List Int) (i : Nat) (n : Int) (hi : idx p (i : Int) = some n) (out : List (List Int)) (k : Nat) (a : List Int) (hk : idx out (k : Int) = some a) (ha : a.length ≤ 1000) (base : List (List Int)) :
    ∀ (m j : Nat), j + m = n.toNat → base.length + n.toNat ≤ 1000000 → m_ref03_All_L3 (p, (i : Int), out, (k : Int), base ++ ((List.range j).map fun (x : Nat) => a ++ [(x : Int)]), (j : Int)) = some (base ++ rowI n a)
  | 0, j, h1, h2 => by
    rw [m_ref03_All_L3]
    have : ¬ ((j : Int) < n) := by omega
    simp only [hi, bind_ok, this, if_false]
    rw [rowI, ← h1]; rfl
  | m + 1, j, h1, h2 => by
    rw [m_ref03_All_L3]
    have ht : ((j : Int) < n) := by omega
    have ih := all_L3 p i n hi out k a hk ha base m (j + 1) (by omega) h2
    have w : W ((j : Int) + 1) = ((j + 1 : Nat) : Int) := W_succ (by omega)
    have a1 : app 8 ([] : List Int) a = some a := by rw [app_le (by simp; omega) (by omega)]; rfl
    have a2 : app 8 a [(j : Int)] = some (a ++ [(j : Int)]) := app_le (by simp; omega) (by omega)
    have a3 : app 24 (base ++ ((List.range j).map fun (x : Nat) => a ++ [(x : Int)])) [a ++ [(j : Int)]] = some (base ++ ((List.range (j + 1)).map fun (x : Nat) => a ++ [(x : Int)])) := by
      rw [app_le (by simp; omega) (by omega), List.range_succ]; simp
    simp only [hi, bind_ok, ht, if_true, hk, a1, a2, a3, w, ih]
theorem all_L2 (p : List Int) (i : Nat) (n : Int) (hi : idx p (i : Int) = some n) : ∀ (s q : List (List Int)), (∀ a ∈ s, a.length ≤ 1000) → ((q ++ s).length + 1) * (max n.toNat 1) ≤ 1000000 →
    m_ref03_All_L2 (q ++ s, p, (i : Int), extI q n, (q.length : Int)) = some (extI (q ++ s) n)
  | [], q, h1, h2 => by
    rw [m_ref03_All_L2]; simp only [List.append_nil, Int.lt_irrefl, if_false]
  | a :: s, q, h1, h2 => by
    rw [m_ref03_All_L2]
    have hm : (q ++ a :: s).length + 1 ≤ 1000000 := Nat.le_trans (Nat.le_mul_of_pos_right _ (by omega)) h2
    have hb : (extI q n).length + n.toNat ≤ 1000000 := by
      rw [extI_len]
      have e1 : q.length * n.toNat + n.toNat = (q.length + 1) * n.toNat := by rw [Nat.add_mul, Nat.one_mul]
      rw [e1]
      refine Nat.le_trans (Nat.mul_le_mul ?_ ?_) h2
      · simp
      · omega
    have e := all_L3 p i n hi (q ++ a :: s) q.length a mid_idx (h1 a (List.mem_cons_self ..)) (extI q n) n.toNat 0 (by omega) hb
    have ih := all_L2 p i n hi s (q ++ [a]) (fun x hx => h1 x (List.mem_cons_of_mem _ hx)) (by rw [← mid_app]; exact h2)
    rw [← mid_app] at ih
    simp only [List.range_zero, List.map_nil, List.append_nil, Int.natCast_zero] at e
    have ee : extI (q ++ [a]) n = extI q n ++ rowI n a := by unfold extI; rw [List.flatMap_append]; simp
    simp only [mid_lt, if_true, e, bind_ok, mid_W (Sm_of (show (q ++ a :: s).length ≤ 1000000 by omega)), ← ee, ih]
theorem mem_ext_len {out : List (List Int)} {n : Int} {m : Nat} (h : ∀ a ∈ out, a.length = m) : ∀ a ∈ extI out n, a.length = m + 1 := fun a ha => by
  unfold extI at ha
  obtain ⟨b, hb, hc⟩ := List.mem_flatMap.1 ha
  unfold rowI at hc
  obtain ⟨k, _, rfl⟩ := List.mem_map.1 hc
  simp [h b hb]
theorem all_L1 : ∀ (s p : List Int) (out : List (List Int)), (p ++ s).length ≤ 900 → (∀ a ∈ out, a.length = p.length) → (out.length + 1) * pm s ≤ 500000 → m_ref03_All_L1 (p ++ s, out, (p.length : Int)) = some (s.foldl extI out)
  | [], p, out, hs, h1, h2 => by
    rw [m_ref03_All_L1]; simp only [end_lt, if_false, List.foldl_nil]
  | n :: s, p, out, hs, h1, h2 => by
    rw [m_ref03_All_L1]
    have hp := pm_pos s
    rw [pm, ← Nat.mul_assoc] at h2
    have b1 : (out.length + 1) * max n.toNat 1 ≤ 500000 := Nat.le_trans (Nat.le_mul_of_pos_right _ hp) h2
    have e : m_ref03_All_L2 (out, p ++ n :: s, (p.length : Int), [], 0) = some (extI out n) := all_L2 (p ++ n :: s) p.length n mid_idx out [] (fun a ha => by have := h1 a ha; simp at hs; omega) (Nat.le_trans b1 (by omega))
    have ih := all_L1 s (p ++ [n]) (extI out n) (by rw [← mid_app]; exact hs) (fun a ha => by rw [mem_ext_len h1 a ha]; simp) (by
      refine Nat.le_trans (Nat.mul_le_mul_right _ ?_) h2
      rw [extI_len, Nat.add_mul, Nat.one_mul]
      have := Nat.mul_le_mul_left out.length (show n.toNat ≤ max n.toNat 1 by omega)
      omega)
    rw [← mid_app] at ih
    simp only [mid_lt, if_true, e, bind_ok, mid_W (Sm_of hs), ih, List.foldl_cons]
theorem All_ok {s : List Int} (hs : s.length ≤ 900) (h : pm s ≤ 250000) : m_ref03_All s = some (allL s) := by
  have e : m_ref03_All_L1 (s, [[]], 0) = some (s.foldl extI [[]]) := all_L1 s [] [[]] hs (by simp) (by simpa using by omega)
  simp only [m_ref03_All, e, bind_ok, allI_eq]
end Go.Proofs.Try
namespace Go.Proofs.Try
open Go Go.Pm
set_option linter.unusedVariables false
set_option linter.unusedSimpArgs false
set_option maxRecDepth 2000
theorem ite_some {c : Prop} [Decidable c] {α : Type} (a b : α) : (if c then some a else some b) = some (if c then a else b) := by split <;> rfl
/-- sums of products, as the machine adds -/
def dotF : List Int → List Int → Int → Int
  | a :: s, b :: t, x => dotF s t (W (x + W (a * b)))
  | _, _, x => x
theorem rDot_L1 : ∀ (s t p q : List Int) (x : Int), p.length = q.length → (p ++ s).length ≤ 1000 → (q ++ t).length ≤ 1000 → m_ref03_Dot_L1 (p ++ s, q ++ t, x, (p.length : Int)) = some (dotF s t x)
  | [], t, p, q, x, h, h1, h2 => by
    rw [m_ref03_Dot_L1]
    simp only [end_lt, if_false, bind_ok, Bool.false_eq_true, dotF]
  | a :: s, [], p, q, x, h, h1, h2 => by
    rw [m_ref03_Dot_L1]
    have : ¬ ((p.length : Int) < ((q ++ ([] : List Int)).length : Int)) := by simp; omega
    simp only [mid_lt, if_true, this, decide_false, bind_ok, Bool.false_eq_true, if_false, dotF]
  | a :: s, b :: t, p, q, x, h, h1, h2 => by
    rw [m_ref03_Dot_L1]
    have e1 : ((p.length : Int) < ((q ++ b :: t).length : Int)) := by simp; omega
    have e2 : idx (q ++ b :: t) (p.length : Int) = some b := by rw [h]; exact mid_idx
    have e := rDot_L1 s t (p ++ [a]) (q ++ [b]) (W (x + W (a * b))) (by simp [h]) (by simpa using h1) (by simpa using h2)
    rw [← mid_app, ← mid_app] at e
    have w : W ((p.length : Int) + 1) = ((p ++ [a]).length : Int) := mid_W (Sm_of h1)
    simp only [mid_lt, if_true, e1, decide_true, bind_ok, mid_idx, e2, w, e, dotF]
theorem rDot_ok {a b : List Int} (h1 : a.length ≤ 1000) (h2 : b.length ≤ 1000) : m_ref03_Dot (a, b) = some (dotF a b 0) := by
  have e := rDot_L1 a b [] [] 0 rfl (by simpa using h1) (by simpa using h2)
  simp only [List.nil_append, List.length_nil, Int.natCast_zero] at e
  unfold m_ref03_Dot
  simp only [e, bind_ok]
theorem gDot_L1 : ∀ (s t p q : List Int) (x : Int), p.length = q.length → (p ++ s).length ≤ 1000 → (q ++ t).length ≤ 1000 → m_gamma_Dot_L1 (q ++ t, p ++ s, x, (p.length : Int)) = some (dotF s t x)
  | [], t, p, q, x, h, h1, h2 => by
    rw [m_gamma_Dot_L1]
    have : ¬ ((p.length : Int) < (if ((q ++ t).length : Int) < ((p ++ ([] : List Int)).length : Int) then ((q ++ t).length : Int) else ((p ++ ([] : List Int)).length : Int))) := by
      simp only [List.length_append, List.length_nil]; split <;> omega
    simp only [this, if_false, dotF]
  | a :: s, [], p, q, x, h, h1, h2 => by
    rw [m_gamma_Dot_L1]
    have : ¬ ((p.length : Int) < (if ((q ++ ([] : List Int)).length : Int) < ((p ++ a :: s).length : Int) then ((q ++ ([] : List Int)).length : Int) else ((p ++ a :: s).length : Int))) := by
      simp only [List.length_append, List.length_nil, List.length_cons]; split <;> omega
    simp only [this, if_false, dotF]
  | a :: s, b :: t, p, q, x, h, h1, h2 => by
    rw [m_gamma_Dot_L1]
    have e1 : ((p.length : Int) < (if ((q ++ b :: t).length : Int) < ((p ++ a :: s).length : Int) then ((q ++ b :: t).length : Int) else ((p ++ a :: s).length : Int))) := by
      simp only [List.length_append, List.length_cons]; split <;> omega
    have e2 : idx (q ++ b :: t) (p.length : Int) = some b := by rw [h]; exact mid_idx
    have e := gDot_L1 s t (p ++ [a]) (q ++ [b]) (W (x + W (a * b))) (by simp [h]) (by simpa using h1) (by simpa using h2)
    rw [← mid_app, ← mid_app] at e
    have w : W ((p.length : Int) + 1) = ((p ++ [a]).length : Int) := mid_W (Sm_of h1)
    simp only [e1, if_true, bind_ok, mid_idx, e2, w, e, dotF]
theorem gDot_ok {a b : List Int} (h1 : a.length ≤ 1000) (h2 : b.length ≤ 1000) : m_gamma_Dot (a, b) = some (dotF a b 0) := by
  have e := gDot_L1 a b [] [] 0 rfl (by simpa using h1) (by simpa using h2)
  simp only [List.nil_append, List.length_nil, Int.natCast_zero] at e
  unfold m_gamma_Dot
  simp only [e, bind_ok]
def modF (a m : Int) : Int := if a.tmod m < 0 then W (a.tmod m + m) else a.tmod m
/-- what is read at an index -/
def atF (a : T_ref17_Access) (i : List Int) : Int × Bool :=
  if a.kind = 1 then (0, false) else if a.kind = 2 then (W (a.base + dotF a.strides i 0), true)
  else (W (a.base + W (a.step * modF (W (a.start + dotF a.strides i 0)) a.mod)), true)
/-- accesses as the laws need them -/
def accF (a : T_ref17_Access) (n : Nat) : Prop := (a.kind = 1 ∧ a.strides.length = 0) ∨ (a.kind = 2 ∧ a.strides.length = n) ∨ (a.kind = 3 ∧ a.strides.length = n ∧ 0 < a.mod)
theorem rAt_ok {a : T_ref17_Access} {n : Nat} {i : List Int} (h : accF a n) (hn : n ≤ 1000) (hi : i.length ≤ 1000) : m_ref17_At (a, i) = some (atF a i) := by
  have hs : a.strides.length ≤ 1000 := by unfold accF at h; omega
  unfold m_ref17_At atF
  simp only [rDot_ok hs hi, bind_ok]
  rcases h with ⟨h, _⟩ | ⟨h, _⟩ | ⟨h, _, hm⟩
  · simp only [h, if_true]
  · simp only [h, if_true, show ¬ ((2 : Int) = 1) by omega, if_false]
  · have hm0 : a.mod ≠ 0 := by omega
    simp only [h, show ¬ ((3 : Int) = 1) by omega, show ¬ ((3 : Int) = 2) by omega, if_false, remM, hm0, bind_ok, ite_some, modF]
theorem clone_ok (l : List Int) (h : l.length ≤ 1000) : m_slices_Clone_int_int l = some l := by
  unfold m_slices_Clone_int_int
  rw [app_le (by simp; omega) (by omega)]; rfl
def acc (a : T_ref17_Access) : T_access_Access := ⟨a.kind, a.buffer, a.base, a.strides, a.start, a.step, a.mod⟩
theorem gAt_ok {a : T_ref17_Access} {n : Nat} {i : List Int} (h : accF a n) (hn : n ≤ 1000) (hi : i.length ≤ 1000) : m_access_At (⟨a.kind, a.buffer, a.base, a.strides, a.start, a.step, a.mod⟩, i) = some (atF a i) := by
  have hs : a.strides.length ≤ 1000 := by unfold accF at h; omega
  unfold m_access_At m_access_open_b0eec m_access_linear_at m_size_Mod atF
  simp only [clone_ok _ hs, bind_ok]
  rcases h with ⟨h, _⟩ | ⟨h, _⟩ | ⟨h, _, hm⟩
  · simp only [h, show ¬ ((1 : Int) = 3) by omega, show ¬ ((1 : Int) = 2) by omega, if_false, gDot_ok hs hi, bind_ok, if_true]
  · simp only [h, show ¬ ((2 : Int) = 3) by omega, show ¬ ((2 : Int) = 1) by omega, if_false, gDot_ok hs hi, bind_ok, if_true]
  · have hm0 : a.mod ≠ 0 := by omega
    have hm1 : ¬ (a.mod ≤ 0) := by omega
    simp only [h, show ¬ ((3 : Int) = 1) by omega, show ¬ ((3 : Int) = 2) by omega, if_false, if_true, gDot_ok hs hi, bind_ok, remM, hm0, hm1, ite_some, modF]
theorem near_tot (v m : Int) : ∃ b, m_ref17_near (v, m) = some b := by
  unfold m_ref17_near
  simp only [ite_some]
  exact ⟨_, rfl⟩
theorem bnd_L1 (m : Int) : ∀ (s p : List Int) (k b ba st se mo : Int), (p ++ s).length ≤ 9223372036854775807 → ∃ r, m_ref17_Bounded_L1 (⟨k, b, ba, p ++ s, st, se, mo⟩, m, (p.length : Int)) = some r
  | [], p, k, b, ba, st, se, mo, h => by
    rw [m_ref17_Bounded_L1]
    simp only [end_lt, if_false]
    exact ⟨_, rfl⟩
  | x :: s, p, k, b, ba, st, se, mo, h => by
    rw [m_ref17_Bounded_L1]
    obtain ⟨c, e⟩ := near_tot x m
    obtain ⟨r, e'⟩ := bnd_L1 m s (p ++ [x]) k b ba st se mo (by simpa using h)
    rw [← mid_app] at e'
    have w : W ((p.length : Int) + 1) = ((p ++ [x]).length : Int) := mid_W (Sm_of h)
    simp only [mid_lt, if_true, mid_idx, bind_ok, e, w, e']
    split <;> exact ⟨_, rfl⟩
theorem bnd_tot (a : T_ref17_Access) (m : Int) (h : a.strides.length ≤ 9223372036854775807) : ∃ b, m_ref17_Bounded (a, m) = some b := by
  obtain ⟨k, b, ba, s, st, se, mo⟩ := a
  obtain ⟨r, e⟩ := bnd_L1 m s [] k b ba st se mo (by simpa using h)
  simp only [List.nil_append, List.length_nil, Int.natCast_zero] at e
  obtain ⟨c1, e1⟩ := near_tot b m
  obtain ⟨c2, e2⟩ := near_tot ba m
  obtain ⟨c3, e3⟩ := near_tot st m
  obtain ⟨c4, e4⟩ := near_tot se m
  obtain ⟨c5, e5⟩ := near_tot mo m
  unfold m_ref17_Bounded
  simp only [e, bind_ok]
  cases r with
  | inl u => exact ⟨_, rfl⟩
  | inr u =>
    simp only [e1, e2, e3, e4, e5, bind_ok, ite_some]
    exact ⟨_, rfl⟩
theorem right_ok (a : T_ref17_Access) (n : Nat) (h : a.strides.length ≤ 9223372036854775807) : ∃ b, m_ref17_Right (a, (n : Int)) = some b ∧ (b = true → accF a n) := by
  obtain ⟨b, e⟩ := bnd_tot a 1099511627776 h
  unfold m_ref17_Right
  simp only [show ¬ ((n : Int) < 0) by omega, if_false, bind_ok, e, ite_some]
  refine ⟨_, rfl, fun hb => ?_⟩
  unfold accF
  by_cases k1 : a.kind = 1
  · simp [k1] at hb
    exact Or.inl ⟨k1, by rw [hb.2.1.1.1.2]; rfl⟩
  · by_cases k2 : a.kind = 2
    · simp [k2] at hb
      exact Or.inr (Or.inl ⟨k2, by omega⟩)
    · by_cases k3 : a.kind = 3
      · simp [k3] at hb
        exact Or.inr (Or.inr ⟨k3, by omega, by omega⟩)
      · simp [k1, k2, k3] at hb
theorem small_L1 (t : T_ref21_Nest) (hl : t.steps.length = t.dims.length) (h6 : t.dims.length ≤ 6) : ∀ (s p : List Int) (m : Nat), t.dims = p ++ s → m ≤ 200 →
    ∃ r, m_ref21_Small_L1 (t, 200, (m : Int), (p.length : Int)) = some r ∧ (r = .inr () → (∀ d ∈ s, 1 ≤ d) ∧ m * pm s ≤ 200)
  | [], p, m, hd, hm => by
    rw [m_ref21_Small_L1]
    have : ¬ ((p.length : Int) < (t.dims.length : Int)) := by rw [hd]; simp
    simp only [this, if_false]
    exact ⟨_, rfl, fun _ => ⟨fun d h => (by cases h), by rw [pm]; omega⟩⟩
  | x :: s, p, m, hd, hm => by
    rw [m_ref21_Small_L1]
    have h1 : ((p.length : Int) < (t.dims.length : Int)) := by rw [hd]; exact mid_lt
    have hpl : p.length < t.dims.length := by omega
    have e1 : idx t.dims (p.length : Int) = some x := by rw [hd]; exact mid_idx
    have e2 : idx t.steps (p.length : Int) = some (t.steps[p.length]'(by omega)) := idx_ok (by omega)
    generalize t.steps[p.length]'(by omega) = y at e2
    by_cases c1 : x < 1
    · simp only [h1, if_true, e1, bind_ok, c1]
      exact ⟨_, rfl, fun h => (by cases h)⟩
    · by_cases c2 : x > 200
      · simp only [h1, if_true, e1, bind_ok, c1, if_false, c2, decide_true]
        exact ⟨_, rfl, fun h => (by cases h)⟩
      · by_cases c3 : y < -1000000
        · simp only [h1, if_true, e1, e2, bind_ok, c1, if_false, c2, c3, decide_true, decide_false, Bool.false_eq_true]
          exact ⟨_, rfl, fun h => (by cases h)⟩
        · by_cases c4 : y > 1000000
          · simp only [h1, if_true, e1, e2, bind_ok, c1, if_false, c2, c3, c4, decide_true, decide_false, Bool.false_eq_true]
            exact ⟨_, rfl, fun h => (by cases h)⟩
          · have hx : ((x.toNat : Nat) : Int) = x := by omega
            have hle : m * x.toNat ≤ 200 * 200 := Nat.mul_le_mul hm (by omega)
            have w : W ((m : Int) * x) = ((m * x.toNat : Nat) : Int) := by
              rw [← hx, ← Int.natCast_mul, W_ok (by omega) (by omega)]; simp
            have w2 : W ((p.length : Int) + 1) = ((p ++ [x]).length : Int) := by rw [W_ok (by omega) (by omega)]; simp
            simp only [h1, if_true, e1, e2, bind_ok, c1, if_false, c2, c3, c4, decide_false, Bool.false_eq_true, w, w2]
            by_cases c5 : ((m * x.toNat : Nat) : Int) > 200
            · simp only [c5, if_true]
              exact ⟨_, rfl, fun h => (by cases h)⟩
            · obtain ⟨r, e, hr⟩ := small_L1 t hl h6 s (p ++ [x]) (m * x.toNat) (by rw [hd, mid_app]) (by omega)
              simp only [c5, if_false, e]
              refine ⟨r, rfl, fun h => ?_⟩
              obtain ⟨a, b⟩ := hr h
              refine ⟨fun d hd => ?_, ?_⟩
              · rcases List.mem_cons.1 hd with rfl | hd
                · omega
                · exact a d hd
              · rw [pm, Nat.max_eq_left (by omega), ← Nat.mul_assoc]; exact b
/-- small nests -/
structure smallF (t : T_ref21_Nest) : Prop where
  len : t.dims.length ≤ 6
  steps : t.steps.length = t.dims.length
  acc : accF t.read t.dims.length
  pos : ∀ d ∈ t.dims, 1 ≤ d
  prod : pm t.dims ≤ 200
theorem small_ok (t : T_ref21_Nest) (hd : t.dims.length ≤ 9223372036854775807) (hs : t.read.strides.length ≤ 9223372036854775807) : ∃ b, m_ref21_Small (t, 200) = some b ∧ (b = true → smallF t) := by
  obtain ⟨b1, e1, hb1⟩ := right_ok t.read t.dims.length hs
  obtain ⟨b2, e2⟩ := bnd_tot t.read 1000000 hs
  have e1' : m_ref17_Right (⟨t.read.kind, t.read.buffer, t.read.base, t.read.strides, t.read.start, t.read.step, t.read.mod⟩, (t.dims.length : Int)) = some b1 := e1
  have e2' : m_ref17_Bounded (⟨t.read.kind, t.read.buffer, t.read.base, t.read.strides, t.read.start, t.read.step, t.read.mod⟩, 1000000) = some b2 := e2
  unfold m_ref21_Small
  by_cases c1 : (t.dims.length : Int) > 6
  · simp only [c1, if_true, bind_ok]
    exact ⟨_, rfl, fun h => (by cases h)⟩
  · by_cases c2 : t.steps.length = t.dims.length
    · obtain ⟨r, e3, hr⟩ := small_L1 t c2 (by omega) t.dims [] 1 rfl (by omega)
      simp only [List.length_nil, Int.natCast_zero, Int.natCast_one] at e3
      simp only [c1, if_false, bind_ok, c2, bne_self_eq_false, Bool.false_eq_true, e1', e2', ite_some]
      cases b1 with
      | false =>
        simp only [Bool.not_false, if_true]
        exact ⟨_, rfl, fun h => (by cases h)⟩
      | true =>
        simp only [Bool.not_true, Bool.false_eq_true, if_false, e3, bind_ok]
        split
        · exact ⟨_, rfl, fun h => (by cases h)⟩
        · cases r with
          | inl u =>
            repeat' split
            all_goals first | contradiction | exact ⟨_, rfl, fun h => (by cases h)⟩
          | inr u =>
            obtain ⟨q1, q2⟩ := hr rfl
            repeat' split
            all_goals first | contradiction | exact ⟨_, rfl, fun _ => ⟨by omega, c2, hb1 rfl, q1, by omega⟩⟩
    · have hne : ((t.steps.length : Int) != (t.dims.length : Int)) = true := by simp; omega
      simp only [c1, if_false, bind_ok, hne, if_true]
      exact ⟨_, rfl, fun h => (by cases h)⟩
theorem allL_len : ∀ {s : List Int}, (∀ d ∈ s, 1 ≤ d) → (allL s).length = pm s
  | [], _ => rfl
  | n :: s, h => by
    have h1 := h n (List.mem_cons_self ..)
    have ih := allL_len (s := s) fun d hd => h d (List.mem_cons_of_mem _ hd)
    rw [allL, pm, List.length_flatMap]
    simp only [List.length_map, ih]
    rw [Nat.max_eq_left (by omega)]
    induction n.toNat with
    | zero => simp
    | succ k ihk => rw [List.range_succ, List.map_append, List.sum_append, ihk]; simp [Nat.add_mul]
theorem allL_mem : ∀ {s : List Int}, ∀ i ∈ allL s, i.length = s.length
  | [], i, h => by simp [allL] at h; rw [h]
  | n :: s, i, h => by
    rw [allL, List.mem_flatMap] at h
    obtain ⟨k, _, hk⟩ := h
    obtain ⟨j, hj, rfl⟩ := List.mem_map.1 hk
    simp [allL_mem j hj]
/-- an event -/
def evF (t : T_ref21_Nest) (i : List Int) : T_ref21_Event :=
  ⟨W (t.write + dotF t.steps i 0), !(atF t.read i).2, if (atF t.read i).2 = true then t.read.buffer else 0, if (atF t.read i).2 = true then (atF t.read i).1 else 0⟩
theorem events_L1 (t : T_ref21_Nest) (ht : smallF t) (l : List (List Int)) (hl : l.length ≤ 1000) (hi : ∀ i ∈ l, i.length ≤ 1000) : ∀ (s p : List (List Int)), l = p ++ s →
    m_ref21_Events_L1 (l, t, p.map (evF t), (p.length : Int)) = some (l.map (evF t))
  | [], p, h => by
    rw [m_ref21_Events_L1]
    rw [List.append_nil] at h
    subst h
    simp only [Int.lt_irrefl, if_false]
  | x :: s, p, h => by
    rw [m_ref21_Events_L1]
    have h1 : ((p.length : Int) < (l.length : Int)) := by rw [h]; exact mid_lt
    have e1 : idx l (p.length : Int) = some x := by rw [h]; exact mid_idx
    have hx := hi x (by rw [h]; simp)
    have e2 := rDot_ok (a := t.steps) (b := x) (by have := ht.steps; have := ht.len; omega) hx
    have e3 : m_ref17_At (⟨t.read.kind, t.read.buffer, t.read.base, t.read.strides, t.read.start, t.read.step, t.read.mod⟩, x) = some (atF t.read x) := rAt_ok ht.acc (by have := ht.len; omega) hx
    have ea : app 32 (p.map (evF t)) [evF t x] = some ((p ++ [x]).map (evF t)) := by
      rw [app_le (by rw [h] at hl; simp at hl ⊢; omega) (by omega)]; simp
    have w : W ((p.length : Int) + 1) = ((p ++ [x]).length : Int) := by rw [W_ok (by omega) (by omega)]; simp
    have e := events_L1 t ht l hl hi s (p ++ [x]) (by rw [h, mid_app])
    simp only [h1, if_true, e1, bind_ok, e2, e3]
    have hb : (if (atF t.read x).2 = true then some (t.read.buffer, (atF t.read x).1) else some (0, 0)) = some (if (atF t.read x).2 = true then t.read.buffer else 0, if (atF t.read x).2 = true then (atF t.read x).1 else 0) := by
      split <;> rfl
    simp only [hb, bind_ok]
    have ea' : app 32 (p.map (evF t)) [(⟨W (t.write + dotF t.steps x 0), !(atF t.read x).2, if (atF t.read x).2 = true then t.read.buffer else 0, if (atF t.read x).2 = true then (atF t.read x).1 else 0⟩ : T_ref21_Event)] = some ((p ++ [x]).map (evF t)) := ea
    simp only [ea', bind_ok, w, e]
theorem events_ok (t : T_ref21_Nest) (ht : smallF t) : m_ref21_Events t = some ((allL t.dims).map (evF t)) := by
  have h6 := ht.len
  have hp := ht.prod
  have e := events_L1 t ht (allL t.dims) (by rw [allL_len ht.pos]; omega) (fun i hi => by rw [allL_mem i hi]; omega) (allL t.dims) [] rfl
  simp only [List.map_nil, List.length_nil, Int.natCast_zero] at e
  unfold m_ref21_Events
  simp only [All_ok (s := t.dims) (by omega) (by omega), bind_ok, e]
theorem cells_L1 (t : T_onf_Nest) (h6 : t.dims.length ≤ 6) (hp : ∀ d ∈ t.dims, 1 ≤ d) : ∀ (s p : List Int) (m : Nat), t.dims = p ++ s → m * pm s ≤ 200 →
    m_onf_Cells_L1 (t, (m : Int), (p.length : Int)) = some ((m * pm s : Nat) : Int)
  | [], p, m, hd, hm => by
    rw [m_onf_Cells_L1]
    have : ¬ ((p.length : Int) < (t.dims.length : Int)) := by rw [hd]; simp
    simp only [this, if_false, pm, Nat.mul_one]
  | x :: s, p, m, hd, hm => by
    rw [m_onf_Cells_L1]
    have h1 : ((p.length : Int) < (t.dims.length : Int)) := by rw [hd]; exact mid_lt
    have e1 : idx t.dims (p.length : Int) = some x := by rw [hd]; exact mid_idx
    have hx1 := hp x (by rw [hd]; simp)
    have hx : ((x.toNat : Nat) : Int) = x := by omega
    rw [pm, Nat.max_eq_left (by omega), ← Nat.mul_assoc] at hm ⊢
    have hle : m * x.toNat ≤ m * x.toNat * pm s := Nat.le_mul_of_pos_right _ (pm_pos s)
    have w : W ((m : Int) * x) = ((m * x.toNat : Nat) : Int) := by
      rw [← hx, ← Int.natCast_mul, W_ok (by omega) (by omega)]; simp
    have w2 : W ((p.length : Int) + 1) = ((p ++ [x]).length : Int) := by rw [W_ok (by omega) (by omega)]; simp
    have e := cells_L1 t h6 hp s (p ++ [x]) (m * x.toNat) (by rw [hd, mid_app]) hm
    simp only [h1, if_true, e1, bind_ok, w, w2, e]
def onfN (t : T_ref21_Nest) : T_onf_Nest := ⟨t.dims, t.write, t.steps, acc t.read⟩
theorem nest_ok (t : T_ref21_Nest) : m_law21_Nest (⟨t.dims, t.write, t.steps, (⟨t.read.kind, t.read.buffer, t.read.base, t.read.strides, t.read.start, t.read.step, t.read.mod⟩ : T_ref17_Access)⟩ : T_ref21_Nest) = some (onfN t) := rfl
theorem onfAt_ok (t : T_ref21_Nest) (ht : smallF t) {i : List Int} (hi : i.length ≤ 1000) : m_onf_At (onfN t, i) = some (W (t.write + dotF t.steps i 0), (atF t.read i).1, !(atF t.read i).2) := by
  have e1 := gAt_ok (i := i) ht.acc (by have := ht.len; omega) hi
  have e2 := gDot_ok (a := t.steps) (b := i) (by have := ht.steps; have := ht.len; omega) hi
  unfold m_onf_At
  simp only [onfN, acc, e1, e2, bind_ok]
theorem at_fill (a : T_ref17_Access) (i : List Int) : (atF a i).2 = false → (atF a i).1 = 0 := by
  unfold atF
  split
  · intro _; rfl
  · split <;> (intro h; cases h)
theorem rounds_L1 (t : T_ref21_Nest) (ht : smallF t) (l : List (List Int)) (hl : l.length ≤ 1000) (hi : ∀ i ∈ l, i.length ≤ 1000) : ∀ (s p : List (List Int)), l = p ++ s →
    m_law21_OnfRounds_L1 (l, t, l.map (evF t), (p.length : Int)) = some (.inr ())
  | [], p, h => by
    rw [m_law21_OnfRounds_L1]
    rw [List.append_nil] at h
    subst h
    simp only [Int.lt_irrefl, if_false]
  | x :: s, p, h => by
    rw [m_law21_OnfRounds_L1]
    have h1 : ((p.length : Int) < (l.length : Int)) := by rw [h]; exact mid_lt
    have e1 : idx l (p.length : Int) = some x := by rw [h]; exact mid_idx
    have e2 : idx (l.map (evF t)) (p.length : Int) = some (evF t x) := by rw [h]; simp [idx]
    have e3 := onfAt_ok t ht (hi x (by rw [h]; simp))
    have w : W ((p.length : Int) + 1) = ((p ++ [x]).length : Int) := by rw [W_ok (by omega) (by omega)]; simp
    have e := rounds_L1 t ht l hl hi s (p ++ [x]) (by rw [h, mid_app])
    have hq : (if (atF t.read x).2 = true then (atF t.read x).1 else 0) = (atF t.read x).1 := by
      split
      · rfl
      · exact (at_fill _ _ (by simpa using ‹¬ (atF t.read x).2 = true›)).symm
    simp only [h1, if_true, nest_ok, bind_ok, e1, e2, e3, evF, hq, ne_eq, not_true_eq_false, if_false, bne_self_eq_false, Bool.false_eq_true, w]
    exact e
theorem OnfRounds_ok (t : T_ref21_Nest) (hd : t.dims.length ≤ 9223372036854775807) (hs : t.read.strides.length ≤ 9223372036854775807) : m_law21_OnfRounds t = some true := by
  obtain ⟨b, e, hb⟩ := small_ok t hd hs
  have e' : m_ref21_Small ((⟨t.dims, t.write, t.steps, (⟨t.read.kind, t.read.buffer, t.read.base, t.read.strides, t.read.start, t.read.step, t.read.mod⟩ : T_ref17_Access)⟩ : T_ref21_Nest), 200) = some b := e
  have ea : m_law21_awake () = some true := rfl
  unfold m_law21_OnfRounds
  simp only [ea, bind_ok, Bool.true_eq_false, if_false, e']
  cases b with
  | false => rfl
  | true =>
    have ht := hb rfl
    have h6 := ht.len
    have hp := ht.prod
    have hl := allL_len ht.pos
    have e2 : m_ref21_Events (⟨t.dims, t.write, t.steps, (⟨t.read.kind, t.read.buffer, t.read.base, t.read.strides, t.read.start, t.read.step, t.read.mod⟩ : T_ref17_Access)⟩ : T_ref21_Nest) = some ((allL t.dims).map (evF t)) := events_ok t ht
    have e3 := rounds_L1 t ht (allL t.dims) (by omega) (fun i hi => by rw [allL_mem i hi]; omega) (allL t.dims) [] rfl
    simp only [List.length_nil, Int.natCast_zero] at e3
    have e4 := cells_L1 (onfN t) h6 ht.pos t.dims [] 1 rfl (by omega)
    simp only [List.length_nil, Int.natCast_zero, Int.natCast_one, Nat.one_mul] at e4
    simp only [Bool.not_true, Bool.false_eq_true, if_false, All_ok (s := t.dims) (by omega) (by omega), bind_ok, e2, e3, nest_ok, m_onf_Cells, e4, hl, beq_self_eq_true]
end Go.Proofs.Try
namespace Go.Proofs.Try
open Go Go.Pm
set_option linter.unusedVariables false
set_option linter.unusedSimpArgs false
set_option maxHeartbeats 2000000
set_option maxRecDepth 2000
theorem ua3 : prog.underlying 3 = some (TypeDesc.int IntKind.i64) := by kernel_rfl
theorem ua22 : prog.underlying 22 = some (TypeDesc.slice 3) := by kernel_rfl
theorem ua44 : prog.underlying 44 = some (TypeDesc.struct { toList := [{ name := "Kind", type := 3, offset := 0, embedded := false, tag := "", pkgPath := "", byteOffset := 0 }, { name := "Buffer", type := 3, offset := 1, embedded := false, tag := "", pkgPath := "", byteOffset := 8 }, { name := "Base", type := 3, offset := 2, embedded := false, tag := "", pkgPath := "", byteOffset := 16 }, { name := "Strides", type := 22, offset := 3, embedded := false, tag := "", pkgPath := "", byteOffset := 24 }, { name := "Start", type := 3, offset := 4, embedded := false, tag := "", pkgPath := "", byteOffset := 48 }, { name := "Step", type := 3, offset := 5, embedded := false, tag := "", pkgPath := "", byteOffset := 56 }, { name := "Mod", type := 3, offset := 6, embedded := false, tag := "", pkgPath := "", byteOffset := 64 }] }) := by kernel_rfl
theorem ua46 : prog.underlying 46 = some (TypeDesc.struct { toList := [{ name := "Dims", type := 22, offset := 0, embedded := false, tag := "", pkgPath := "", byteOffset := 0 }, { name := "Write", type := 3, offset := 1, embedded := false, tag := "", pkgPath := "", byteOffset := 24 }, { name := "Steps", type := 22, offset := 2, embedded := false, tag := "", pkgPath := "", byteOffset := 32 }, { name := "Read", type := 44, offset := 3, embedded := false, tag := "", pkgPath := "", byteOffset := 56 }] }) := by kernel_rfl
theorem ua4 : prog.underlying 4 = some TypeDesc.bool := by kernel_rfl
theorem exists_map {α β : Type} {f : β → α} {p : β → Prop} : ∀ {L : List α}, (∀ x ∈ L, ∃ y, x = f y ∧ p y) → ∃ l : List β, L = l.map f ∧ ∀ y ∈ l, p y
  | [], _ => ⟨[], rfl, fun y h => by cases h⟩
  | x :: L, h => by
    obtain ⟨y, rfl, hy⟩ := h x (List.mem_cons_self ..)
    obtain ⟨l, rfl, hl⟩ := exists_map (fun x hx => h x (List.mem_cons_of_mem _ hx))
    exact ⟨y :: l, rfl, fun z hz => by
      rcases List.mem_cons.1 hz with rfl | hz
      · exact hy
      · exact hl z hz⟩
variable {B : Nat} {n : Nat} {cs : List Dat}
theorem tc3 (h : TyC prog B n 3 cs) : ∃ m : Int, cs = [(intD m)] ∧ ((-9223372036854775808) ≤ m ∧ m ≤ 9223372036854775807) := by
  cases n with
  | zero => exact h.elim
  | succ n =>
    simp only [TyC, ua3] at h
    obtain ⟨m, rfl, hm⟩ := h
    refine ⟨m, rfl, ?_⟩
    simpa [Lit.wf, IntKind.min, IntKind.max, IntKind.signed, IntKind.bits] using hm
def ok22 (B : Nat) (x : (List Int)) : Prop := x.length ≤ B ∧ ∀ m ∈ x, ((-9223372036854775808) ≤ m ∧ m ≤ 9223372036854775807)
theorem tc22 (h : TyC prog B n 22 cs) : ∃ l : (List Int), cs = [.lst ((List.map intD) l)] ∧ ok22 B l := by
  cases n with
  | zero => exact h.elim
  | succ n =>
    simp only [TyC, ua22] at h
    obtain ⟨L, rfl, hl, hx⟩ := h
    obtain ⟨l, rfl, hm⟩ := exists_map (f := fun m => [(intD m)]) (p := fun m => ((-9223372036854775808) ≤ m ∧ m ≤ 9223372036854775807)) (fun x hx' => tc3 (hx x hx'))
    refine ⟨l, ?_, by simpa using hl, hm⟩
    have e : (l.map (fun m => [(intD m)])).map (elemD prog 3) = l.map intD := by
      rw [List.map_map]; exact List.map_congr_left (fun m _ => by simp only [Function.comp_apply]; simp [elemD, aggB, ua3])
    rw [e]
structure ok44 (B : Nat) (x : T_ref17_Access) : Prop where
  kind : ((-9223372036854775808) ≤ x.kind ∧ x.kind ≤ 9223372036854775807)
  buffer : ((-9223372036854775808) ≤ x.buffer ∧ x.buffer ≤ 9223372036854775807)
  base : ((-9223372036854775808) ≤ x.base ∧ x.base ≤ 9223372036854775807)
  strides : (ok22 B x.strides)
  start : ((-9223372036854775808) ≤ x.start ∧ x.start ≤ 9223372036854775807)
  step : ((-9223372036854775808) ≤ x.step ∧ x.step ≤ 9223372036854775807)
  mod : ((-9223372036854775808) ≤ x.mod ∧ x.mod ≤ 9223372036854775807)
theorem tc44 (h : TyC prog B n 44 cs) : ∃ x : T_ref17_Access, cs = [(intD x.kind), (intD x.buffer), (intD x.base), (.lst ((List.map intD) x.strides)), (intD x.start), (intD x.step), (intD x.mod)] ∧ ok44 B x := by
  cases n with
  | zero => exact h.elim
  | succ n =>
    simp only [TyC, ua44, List.foldr] at h
    obtain ⟨_, _, rfl, h0, _, _, rfl, h1, _, _, rfl, h2, _, _, rfl, h3, _, _, rfl, h4, _, _, rfl, h5, _, _, rfl, h6, rfl⟩ := h
    obtain ⟨m0, rfl, i0⟩ := tc3 h0
    obtain ⟨m1, rfl, i1⟩ := tc3 h1
    obtain ⟨m2, rfl, i2⟩ := tc3 h2
    obtain ⟨m3, rfl, i3⟩ := tc22 h3
    obtain ⟨m4, rfl, i4⟩ := tc3 h4
    obtain ⟨m5, rfl, i5⟩ := tc3 h5
    obtain ⟨m6, rfl, i6⟩ := tc3 h6
    exact ⟨⟨m0, m1, m2, m3, m4, m5, m6⟩, rfl, i0, i1, i2, i3, i4, i5, i6⟩
structure ok46 (B : Nat) (x : T_ref21_Nest) : Prop where
  dims : (ok22 B x.dims)
  write : ((-9223372036854775808) ≤ x.write ∧ x.write ≤ 9223372036854775807)
  steps : (ok22 B x.steps)
  read : (ok44 B x.read)
theorem tc46 (h : TyC prog B n 46 cs) : ∃ x : T_ref21_Nest, cs = [(.lst ((List.map intD) x.dims)), (intD x.write), (.lst ((List.map intD) x.steps)), (intD x.read.kind), (intD x.read.buffer), (intD x.read.base), (.lst ((List.map intD) x.read.strides)), (intD x.read.start), (intD x.read.step), (intD x.read.mod)] ∧ ok46 B x := by
  cases n with
  | zero => exact h.elim
  | succ n =>
    simp only [TyC, ua46, List.foldr] at h
    obtain ⟨_, _, rfl, h0, _, _, rfl, h1, _, _, rfl, h2, _, _, rfl, h3, rfl⟩ := h
    obtain ⟨m0, rfl, i0⟩ := tc22 h0
    obtain ⟨m1, rfl, i1⟩ := tc3 h1
    obtain ⟨m2, rfl, i2⟩ := tc22 h2
    obtain ⟨m3, rfl, i3⟩ := tc44 h3
    exact ⟨⟨m0, m1, m2, m3⟩, rfl, i0, i1, i2, i3⟩
theorem ty46 {d : Dat} (h : TyA prog B 46 d) : ∃ m : T_ref21_Nest, d = (T_ref21_Nest.toD m) ∧ (ok46 B m) := by
  obtain ⟨n, cs, h, hd⟩ := h
  obtain ⟨m, rfl, hm⟩ := tc46 h
  exact ⟨m, by rw [hd]; simp [elemD, aggB, ua46]; rfl, hm⟩
def argTs : List TypeId := [3, 22, 44, 46, 4]
theorem argTs_closed : closedTs prog argTs = true := by kernel_rfl
theorem laidOut : laidOutB prog = true := by kernel_rfl
theorem summ : SummOK prog env := fun f s h => by cases h
theorem mixed : prog.follows .mixedOrders = true := by kernel_rfl
/-- a call that comes to a value keeps it in the model -/
theorem pure_of {f : FuncId} {dss : List Dat} {p : PV} (ho : p.out = true) (h : PC prog env f (dss.map .dat) [] p []) : PureCall prog f dss p := by
  obtain ⟨N, hN⟩ := h
  exact pure_sound summ mixed (hN N (Nat.le_refl _)) ho
end Go.Proofs.Try
