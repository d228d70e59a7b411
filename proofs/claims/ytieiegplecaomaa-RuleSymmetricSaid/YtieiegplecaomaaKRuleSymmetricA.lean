/-
  Models of functions, their walks, and plain laws.
-/
import Derived.Test.YtieiegplecaomaaPmSx
import Derived.Test.YtieiegplecaomaaProg
import Derived.Test.YtieiegplecaomaaPmStr
import Derived.Test.YtieiegplecaomaaPmMs
import Derived.KernelRfl
namespace Go.Proofs.Try
open Go Go.Pm
set_option linter.unusedVariables false
set_option linter.unusedSimpArgs false
set_option maxRecDepth 2000
/-- lists that a machine can hold -/
def Sm (n : Nat) : Prop := n ≤ 9223372036854775807
theorem Sm_of {n m : Nat} (h : n ≤ m) (hm : m ≤ 9223372036854775807 := by decide) : Sm n := Nat.le_trans h hm
theorem idx_ok {α : Type} {l : List α} {j : Nat} (h : j < l.length) : idx l (j : Int) = some l[j] := by simp [idx, h]
theorem app_ok {α : Type} {b : Nat} {l es : List α} (h : (l.length + es.length) * b ≤ room) : app b l es = some (l ++ es) := if_pos h
theorem W_ok {n : Int} (h1 : -9223372036854775808 ≤ n) (h2 : n < 9223372036854775808) : W n = n := by
  simp only [W, IntKind.wrap, IntKind.bits, IntKind.signed]; simp; split <;> omega
theorem W_succ {j : Nat} (h : j < 9223372036854775807) : W ((j : Int) + 1) = ((j + 1 : Nat) : Int) := by rw [W_ok (by omega) (by omega)]; omega
/-! a loop over a list: what lies behind, what lies ahead -/
section
variable {α : Type} {p s : List α} {x : α}
theorem mid_lt : ((p.length : Int) < ((p ++ x :: s).length : Int)) := by simp; omega
theorem end_lt : ¬ ((p.length : Int) < ((p ++ ([] : List α)).length : Int)) := by simp
theorem mid_idx : idx (p ++ x :: s) (p.length : Int) = some x := by simp [idx]
theorem mid_app : p ++ x :: s = (p ++ [x]) ++ s := by simp
theorem mid_W (hs : Sm (p ++ x :: s).length) : W ((p.length : Int) + 1) = ((p ++ [x]).length : Int) := by
  unfold Sm at hs
  rw [W_ok (by omega) (by simp at hs; omega)]; simp
end
theorem bind_ok {α β : Type} (a : α) (f : α → Option β) : (some a >>= f) = f a := rfl
end Go.Proofs.Try
namespace Go.Proofs.Try
open Go Go.Pm
set_option linter.unusedVariables false
set_option maxHeartbeats 2000000
set_option maxRecDepth 2000
def hintOf : FuncId → Hint
  | 4 => { own := [((3, 0), [(0, 2)])], keep := [(5, [0, 1, 5, 6]), (15, [0, 1, 7, 9, 11])] }
  | 6 => { own := [], keep := [(12, [5, 6, 7])] }
  | 7 => { own := [], keep := [(6, [1, 3, 4, 5])] }
  | 8 => { own := [((4, 0), [(0, 3)]), ((5, 0), [(0, 3)]), ((6, 0), [(0, 3)])], keep := [(9, [2, 3, 5, 6, 7]), (13, [2, 3, 5, 6, 8]), (17, [2, 3, 5, 6, 9])] }
  | 10 => { own := [], keep := [(2, [0, 3])] }
  | 12 => { own := [((13, 5), [(0, 78)])], keep := [] }
  | 13 => { own := [], keep := [(4, [0, 1, 5])] }
  | 17 => { own := [((6, 0), [(0, 3)]), ((6, 1), [(0, 3)]), ((18, 4), [(0, 78)])], keep := [(8, [4, 6, 8, 9, 38, 39, 40])] }
  | 18 => { own := [((6, 1), [(0, 3)]), ((12, 4), [(0, 78)])], keep := [(8, [4, 6, 8, 9, 41, 42, 43])] }
  | 22 => { own := [], keep := [(5, [1, 2, 5, 6])] }
  | 23 => { own := [], keep := [(5, [2, 3, 4, 5])] }
  | 25 => { own := [], keep := [(2, [1, 2, 3]), (7, [1, 2, 4])] }
  | 29 => { own := [((1, 0), [(0, 60)])], keep := [(4, [1, 3, 4, 5])] }
  | 30 => { own := [((5, 0), [(0, 22)]), ((12, 1), [(0, 3)])], keep := [(3, [0, 3, 4]), (7, [0, 3, 4, 5, 6]), (10, [0, 3, 4, 5, 6, 7])] }
  | 32 => { own := [], keep := [(3, [3, 7, 8, 9])] }
  | 33 => { own := [((4, 4), [(0, 78)])], keep := [] }
  | 34 => { own := [((9, 10), [(0, 78)])], keep := [] }
  | 36 => { own := [], keep := [(3, [0, 4, 5]), (9, [0, 4, 6]), (17, [0, 7, 8])] }
  | 38 => { own := [((3, 1), [(0, 3)])], keep := [] }
  | 40 => { own := [((4, 1), [(0, 3)]), ((4, 3), [(0, 3)])], keep := [(6, [6, 9, 23, 24, 25])] }
  | 44 => { own := [((1, 0), [(1000, 3)]), ((9, 3), [(0, 78)])], keep := [(3, [1, 2, 4, 6, 9, 10, 11]), (5, [1, 2, 4, 6, 7, 8, 9, 10, 11])] }
  | 48 => { own := [((2, 0), [(1000, 3)]), ((3, 0), [(1000, 3)])], keep := [] }
  | 51 => { own := [((1, 0), [(0, 50)])], keep := [(3, [1, 5, 8, 9, 10])] }
  | 54 => { own := [], keep := [(2, [1, 2, 5])] }
  | 55 => { own := [((1, 0), [(0, 3)])], keep := [(3, [1, 5, 8, 9, 10])] }
  | 60 => { own := [], keep := [(4, [0, 1, 12, 13])] }
  | 62 => { own := [], keep := [(3, [0, 1, 5, 6])] }
  | 65 => { own := [], keep := [(3, [0, 1, 5, 11, 12])] }
  | 77 => { own := [((3, 2), [(0, 2)])], keep := [] }
  | 78 => { own := [((1, 2), [(0, 3)])], keep := [(3, [1, 6, 14, 15, 16])] }
  | 80 => { own := [], keep := [(5, [0, 3, 4])] }
  | 87 => { own := [((2, 5), [(0, 3)]), ((2, 6), [(0, 3)])], keep := [(4, [2, 4, 7, 26, 27, 28])] }
  | 89 => { own := [((1, 2), [(8000, 3)]), ((1, 4), [(0, 3)])], keep := [] }
  | 93 => { own := [((1, 0), [(0, 3)])], keep := [(3, [0, 1, 5, 6])] }
  | 94 => { own := [((1, 4), [(0, 3)])], keep := [] }
  | 102 => { own := [((2, 0), [(1000, 2)]), ((3, 0), [(1000, 2)])], keep := [] }
  | 103 => { own := [], keep := [(8, [7, 8])] }
  | 104 => { own := [], keep := [(2, [0, 1, 7, 8])] }
  | 106 => { own := [], keep := [(8, [0, 3, 4, 18, 19])] }
  | 108 => { own := [((1, 0), [(0, 123)])], keep := [(3, [1, 5, 8, 9, 10])] }
  | 117 => { own := [((9, 1), [(2000, 3)])], keep := [(3, [0, 3, 9, 10, 11]), (11, [6, 25, 26, 27])] }
  | 119 => { own := [], keep := [(3, [2, 8, 13, 14, 15])] }
  | 121 => { own := [], keep := [(4, [0, 12, 13, 14])] }
  | 127 => { own := [], keep := [(3, [0, 1, 5, 9, 10]), (9, [0, 1, 5, 24, 25])] }
  | 128 => { own := [], keep := [(2, [0, 1, 2, 3, 4, 10, 11])] }
  | 130 => { own := [], keep := [(2, [0, 1, 9, 10, 11])] }
  | 134 => { own := [], keep := [(2, [0, 1, 7, 8])] }
  | 139 => { own := [], keep := [(1, [0, 1, 2, 3, 8]), (4, [0, 1, 2, 3, 8, 9])] }
  | 140 => { own := [], keep := [(4, [0, 3, 8, 9, 10, 11]), (8, [0, 3, 8, 9, 12])] }
  | 141 => { own := [], keep := [(5, [0, 1, 8, 9, 10, 11])] }
  | 143 => { own := [], keep := [(2, [0, 8, 9])] }
  | 144 => { own := [], keep := [(3, [0, 1, 2, 3, 9, 10]), (5, [0, 1, 2, 3, 9, 10]), (14, [0, 1, 2, 3, 9, 10, 11]), (20, [0, 1, 2, 3, 9, 10, 12])] }
  | 145 => { own := [], keep := [(3, [0, 1, 4, 11, 12]), (5, [0, 1, 4, 11, 12])] }
  | 146 => { own := [], keep := [(3, [0, 1, 4, 12, 13]), (5, [0, 1, 4, 12, 13]), (13, [0, 1, 4, 12, 13]), (15, [0, 1, 4, 12, 13])] }
  | 150 => { own := [], keep := [(2, [0, 1, 7, 8])] }
  | 151 => { own := [], keep := [(1, [0, 2, 3, 4, 10])] }
  | _ => {}
def env : Env where
  summ := fun _ => none
  hint := hintOf
  pure := fun f => f != 40 && f != 42 && f != 47 && f != 48 && f != 76 && f != 78 && f != 79 && f != 81 && f != 83 && f != 94 && f != 97 && f != 102 && f != 103 && f != 118 && f != 135
  split := fun f => f == 48 || f == 102

end Go.Proofs.Try
namespace Go.Proofs.Try
open Go Go.Pm
theorem ag22 : aggT prog 22 = some false := by kernel_rfl
theorem by3 : bytesOf prog 3 = some 8 := by kernel_rfl
theorem el22 : elemOfSlice prog 22 = some 3 := by kernel_rfl
theorem el62 : elemOfSlice prog 62 = some 22 := by kernel_rfl
theorem sz22 : szOf prog 22 = some 1 := by kernel_rfl
theorem sz3 : szOf prog 3 = some 1 := by kernel_rfl
theorem un22 : prog.underlying 22 = some (TypeDesc.slice 3) := by kernel_rfl
theorem un3 : prog.underlying 3 = some (TypeDesc.int IntKind.i64) := by kernel_rfl
theorem un62 : prog.underlying 62 = some (TypeDesc.slice 22) := by kernel_rfl
theorem ze3 : zeroOf prog 3 = some (Dat.raw (Value.int IntKind.i64 (0))) := by kernel_rfl
theorem zn3 : (zeroOf prog 3).map Dat.num = some 1 := by kernel_rfl
end Go.Proofs.Try
namespace Go.Proofs.Try
open Go Go.Pm
set_option linter.unusedVariables false
set_option linter.unusedSimpArgs false
set_option maxRecDepth 2000
theorem wrap_i64 {n : Int} (h1 : -9223372036854775808 ≤ n) (h2 : n < 9223372036854775808) : IntKind.i64.wrap n = n := by
  simp only [IntKind.wrap, IntKind.bits, IntKind.signed]; simp; split <;> omega
theorem wrap_succ {j : Nat} (h : j < 9223372036854775807) : IntKind.i64.wrap ((j : Int) + 1) = ((j + 1 : Nat) : Int) := by rw [wrap_i64 (by omega) (by omega)]; omega

def intsD (l : List Int) : Dat := .lst (l.map intD)
theorem ints_get {l : List Int} {j : Nat} (h : j < l.length) : (l.map intD)[j]? = some (intD l[j]) := by simp [h]
theorem map_fit {α : Type} {f : α → Dat} {k : Nat} (h : ∀ a, Dat.fits k (f a) = true) (l : List α) : (l.map f).all (Dat.fits k) = true := by
  simp only [List.all_map, List.all_eq_true]; intro x _; exact h x
theorem getD_eq {l : List Int} {j : Nat} (h : j < l.length) : l.getD j 0 = l[j] := by simp [h]
theorem take_next {α : Type} {l : List α} {j : Nat} (h : j < l.length) : l.take (j + 1) = l.take j ++ [l[j]] := List.take_succ_eq_append_getElem h
def zg (n : Nat) : Nat := if n = 0 then 0 else 1
theorem c_Grow (n : Nat) (hn : n ≤ 1000000) : PC prog env 135 [.ms 0 0 0 0 0, .dat (intD (n : Int))] [.mt 3 0 []] (.ms 0 (zg n) 0 0 n) [.mt 3 (zg n) (cellsOf intD (List.replicate n 0))] := by
  refine PC_body (fn := f135) (by kernel_rfl) rfl rfl (by kernel_rfl) rfl ?_
  refine R_eq (st' := ⟨[.ms 0 0 0 0 0, .dat (intD (n : Int)), .tup [], .tup [], .tup [], .tup [], .tup [], .tup [], .tup [], .tup [], .tup [], .tup [], .tup [], .tup [], .tup [], .tup [], .tup [], .tup [], .tup [], .tup [], .tup [], .tup [], .tup [], .tup [], .tup [], .tup [], .tup []], [.mt 3 0 []]⟩) rfl ?_
  repeat (first | refine R_seq ?_ | refine R_block ?_ | refine R_skip ?_)
  refine R_region ?_
  (refine OpsE_do rfl ?_; refine E_assign rfl rfl ?_; refine OpsE_eq (st' := _) (by first | dsimp only [n0, n1, n2, n3, n4, n5, n6, n7, n8, n9, m0, m1, m2, m3, m4, m5, m6, m7, m8, m9, o0, o1, o2, o3, o4, ↓reduceIte] | rfl) ?_)
  refine OpsE_nil ?_
  have h0 : ¬ ((n : Int) < 0) := by omega
  repeat (first | refine R_seq ?_ | refine R_block ?_ | refine R_skip ?_)
  refine R_region ?_
  iterate 2 ((refine OpsE_do rfl ?_; first | refine E_move rfl ?_ | refine E_int rfl rfl rfl rfl ?_); refine OpsE_eq (st' := _) (by first | (simp only [n0, n1, n2, n3, n4, n5, n6, n7, n8, n9, m0, m1, m2, m3, m4, m5, m6, m7, m8, m9, o0, o1, o2, o3, o4, ↓reduceIte, decide_eq_false h0] <;> rfl) | rfl) ?_)
  refine OpsE_nil ?_
  repeat (first | refine R_seq ?_ | refine R_block ?_ | refine R_skip ?_)
  refine R_false rfl ?_
  have w1 : IntKind.i64.wrap ((n : Int) - IntKind.i64.wrap (0 - ((0 : Nat) : Int))) = (n : Int) := by rw [wrap_i64 (n := 0 - ((0 : Nat) : Int)) (by omega) (by omega), wrap_i64 (by omega) (by omega)]; omega
  repeat (first | refine R_seq ?_ | refine R_block ?_ | refine R_skip ?_)
  refine R_region ?_
  iterate 2 ((refine OpsE_do rfl ?_; refine E_move rfl ?_); refine OpsE_eq (st' := _) (by first | dsimp only [n0, n1, n2, n3, n4, n5, n6, n7, n8, n9, m0, m1, m2, m3, m4, m5, m6, m7, m8, m9, o0, o1, o2, o3, o4, ↓reduceIte] | rfl) ?_)
  (refine OpsE_do rfl ?_; refine E_cap un22 rfl rfl (mtOf_at rfl) ?_; refine OpsE_eq (st' := _) (by first | dsimp only [n0, n1, n2, n3, n4, n5, n6, n7, n8, n9, m0, m1, m2, m3, m4, m5, m6, m7, m8, m9, o0, o1, o2, o3, o4, ↓reduceIte] | rfl) ?_)
  iterate 5 ((refine OpsE_do rfl ?_; first | refine E_move rfl ?_ | refine E_len un22 rfl rfl ?_ | refine E_int rfl rfl rfl rfl ?_ | refine E_assign rfl rfl ?_); refine OpsE_eq (st' := _) (by first | dsimp only [n0, n1, n2, n3, n4, n5, n6, n7, n8, n9, m0, m1, m2, m3, m4, m5, m6, m7, m8, m9, o0, o1, o2, o3, o4, ↓reduceIte] | rfl) ?_)
  refine OpsE_nil ?_
  rw [w1]
  by_cases hz : n = 0
  · subst hz
    repeat (first | refine R_seq ?_ | refine R_block ?_ | refine R_skip ?_)
    refine R_region ?_
    iterate 2 ((refine OpsE_do rfl ?_; first | refine E_move rfl ?_ | refine E_int rfl rfl rfl rfl ?_); refine OpsE_eq (st' := _) (by first | dsimp only [n0, n1, n2, n3, n4, n5, n6, n7, n8, n9, m0, m1, m2, m3, m4, m5, m6, m7, m8, m9, o0, o1, o2, o3, o4, ↓reduceIte] | rfl) ?_)
    refine OpsE_nil ?_
    repeat (first | refine R_seq ?_ | refine R_block ?_ | refine R_skip ?_)
    refine R_false rfl ?_
    repeat (first | refine R_seq ?_ | refine R_block ?_ | refine R_skip ?_)
    refine R_region ?_
    iterate 2 ((refine OpsE_do rfl ?_; first | refine E_move rfl ?_ | refine E_assign rfl rfl ?_); refine OpsE_eq (st' := _) (by first | dsimp only [n0, n1, n2, n3, n4, n5, n6, n7, n8, n9, m0, m1, m2, m3, m4, m5, m6, m7, m8, m9, o0, o1, o2, o3, o4, ↓reduceIte] | rfl) ?_)
    refine OpsE_nil ?_
    repeat (first | refine R_seq ?_ | refine R_block ?_ | refine R_skip ?_)
    refine R_ret ?_
    exact ⟨trivial, _, rfl, rfl, rfl⟩
  · have hp : ((n : Int)) > 0 := by omega
    repeat (first | refine R_seq ?_ | refine R_block ?_ | refine R_skip ?_)
    refine R_region ?_
    iterate 2 ((refine OpsE_do rfl ?_; first | refine E_move rfl ?_ | refine E_int rfl rfl rfl rfl ?_); refine OpsE_eq (st' := _) (by first | (simp only [n0, n1, n2, n3, n4, n5, n6, n7, n8, n9, m0, m1, m2, m3, m4, m5, m6, m7, m8, m9, o0, o1, o2, o3, o4, ↓reduceIte, decide_eq_true hp] <;> rfl) | rfl) ?_)
    refine OpsE_nil ?_
    repeat (first | refine R_seq ?_ | refine R_block ?_ | refine R_skip ?_)
    refine R_true rfl ?_
    repeat (first | refine R_seq ?_ | refine R_block ?_ | refine R_skip ?_)
    refine R_region ?_
    iterate 2 ((refine OpsE_do rfl ?_; refine E_move rfl ?_); refine OpsE_eq (st' := _) (by first | dsimp only [n0, n1, n2, n3, n4, n5, n6, n7, n8, n9, m0, m1, m2, m3, m4, m5, m6, m7, m8, m9, o0, o1, o2, o3, o4, ↓reduceIte] | rfl) ?_)
    (refine OpsE_do rfl ?_; refine E_cap un22 rfl rfl (mtOf_at rfl) ?_; refine OpsE_eq (st' := _) (by first | dsimp only [n0, n1, n2, n3, n4, n5, n6, n7, n8, n9, m0, m1, m2, m3, m4, m5, m6, m7, m8, m9, o0, o1, o2, o3, o4, ↓reduceIte] | rfl) ?_)
    (refine OpsE_do rfl ?_; refine E_sliceMs el22 sz3 rfl rfl (cutMs_of (l := 0) (h := 0) rfl rfl (Nat.le_refl _) (Nat.zero_le _) (Or.inl rfl)) ?_; refine OpsE_eq (st' := _) (by first | dsimp only [n0, n1, n2, n3, n4, n5, n6, n7, n8, n9, m0, m1, m2, m3, m4, m5, m6, m7, m8, m9, o0, o1, o2, o3, o4, ↓reduceIte] | rfl) ?_)
    (refine OpsE_do rfl ?_; refine E_move rfl ?_; refine OpsE_eq (st' := _) (by first | dsimp only [n0, n1, n2, n3, n4, n5, n6, n7, n8, n9, m0, m1, m2, m3, m4, m5, m6, m7, m8, m9, o0, o1, o2, o3, o4, ↓reduceIte] | rfl) ?_)
    (refine OpsE_do rfl ?_; refine E_appendZeros (n := n) el22 un3 sz3 by3 ze3 rfl (by decide) rfl rfl rfl (mtOf_at rfl) (by omega) (by simp [room]; omega) ?_; refine OpsE_eq (st' := _) (by first | dsimp only [n0, n1, n2, n3, n4, n5, n6, n7, n8, n9, m0, m1, m2, m3, m4, m5, m6, m7, m8, m9, o0, o1, o2, o3, o4, ↓reduceIte] | rfl) ?_)
    iterate 2 ((refine OpsE_do rfl ?_; first | refine E_move rfl ?_ | refine E_len un22 rfl rfl ?_); refine OpsE_eq (st' := _) (by first | dsimp only [n0, n1, n2, n3, n4, n5, n6, n7, n8, n9, m0, m1, m2, m3, m4, m5, m6, m7, m8, m9, o0, o1, o2, o3, o4, ↓reduceIte] | rfl) ?_)
    (refine OpsE_do rfl ?_; refine E_sliceMs el22 sz3 rfl rfl (cutMs_of (l := 0) (h := 0) rfl rfl (Nat.le_refl _) (Nat.zero_le _) (Or.inl rfl)) ?_; refine OpsE_eq (st' := _) (by first | dsimp only [n0, n1, n2, n3, n4, n5, n6, n7, n8, n9, m0, m1, m2, m3, m4, m5, m6, m7, m8, m9, o0, o1, o2, o3, o4, ↓reduceIte] | rfl) ?_)
    (refine OpsE_do rfl ?_; refine E_assign rfl rfl ?_; refine OpsE_eq (st' := _) (by first | dsimp only [n0, n1, n2, n3, n4, n5, n6, n7, n8, n9, m0, m1, m2, m3, m4, m5, m6, m7, m8, m9, o0, o1, o2, o3, o4, ↓reduceIte] | rfl) ?_)
    refine OpsE_nil ?_
    repeat (first | refine R_seq ?_ | refine R_block ?_ | refine R_skip ?_)
    refine R_region ?_
    iterate 2 ((refine OpsE_do rfl ?_; first | refine E_move rfl ?_ | refine E_assign rfl rfl ?_); refine OpsE_eq (st' := _) (by first | dsimp only [n0, n1, n2, n3, n4, n5, n6, n7, n8, n9, m0, m1, m2, m3, m4, m5, m6, m7, m8, m9, o0, o1, o2, o3, o4, ↓reduceIte] | rfl) ?_)
    refine OpsE_nil ?_
    repeat (first | refine R_seq ?_ | refine R_block ?_ | refine R_skip ?_)
    refine R_ret ?_
    refine ⟨trivial, _, rfl, ?_, ?_⟩
    · simp [zg, hz, tupOf]
    · simp [zg, hz, cellsOf, intD]
def intssD (ls : List (List Int)) : Dat := .lst (ls.map intsD)
theorem flat_next {ls : List (List Int)} {j : Nat} (h : j < ls.length) : (ls.take (j + 1)).flatten = (ls.take j).flatten ++ ls[j] := by
  rw [take_next h, List.flatten_append]; simp
theorem flat_le {ls : List (List Int)} (j : Nat) : (ls.take j).flatten.length ≤ ls.flatten.length := by
  have : ls.flatten = (ls.take j).flatten ++ (ls.drop j).flatten := by rw [← List.flatten_append, List.take_append_drop]
  rw [this, List.length_append]; omega

theorem c_Concat (ls : List (List Int)) (H : List Blk) (hls : ls.length ≤ 1000) (hfl : ls.flatten.length ≤ 1000000) : PC prog env 117 [.dat (intssD ls)] H (.dat (intsD ls.flatten)) H := by
  refine PC_pure (fn := f117) (by kernel_rfl) rfl rfl (by kernel_rfl) rfl rfl ?_ (by simp [PV.lends])
  refine R_eq (st' := ⟨[.dat (intssD ls), .tup [], .tup [], .tup [], .tup [], .tup [], .tup [], .tup [], .tup [], .tup [], .tup [], .tup [], .tup [], .tup [], .tup [], .tup [], .tup [], .tup [], .tup [], .tup [], .tup [], .tup [], .tup [], .tup [], .tup [], .tup [], .tup [], .tup [], .tup [], .tup [], .tup [], .tup [], .tup [], .tup [], .tup [], .tup []], []⟩) rfl ?_
  repeat (first | refine R_seq ?_ | refine R_block ?_ | refine R_skip ?_)
  refine R_region ?_
  (refine OpsE_do rfl ?_; refine E_assign rfl rfl ?_; refine OpsE_eq (st' := _) (by first | dsimp only [n0, n1, n2, n3, n4, n5, n6, n7, n8, n9, m0, m1, m2, m3, m4, m5, m6, m7, m8, m9, o0, o1, o2, o3, o4, ↓reduceIte] | rfl) ?_)
  refine OpsE_nil ?_
  repeat (first | refine R_seq ?_ | refine R_block ?_ | refine R_skip ?_)
  refine R_region ?_
  (refine OpsE_do rfl ?_; refine E_assign rfl rfl ?_; refine OpsE_eq (st' := _) (by first | dsimp only [n0, n1, n2, n3, n4, n5, n6, n7, n8, n9, m0, m1, m2, m3, m4, m5, m6, m7, m8, m9, o0, o1, o2, o3, o4, ↓reduceIte] | rfl) ?_)
  refine OpsE_nil ?_
  repeat (first | refine R_seq ?_ | refine R_block ?_ | refine R_skip ?_)
  refine R_region ?_
  iterate 3 ((refine OpsE_do rfl ?_; first | refine E_move rfl ?_ | refine E_len un62 rfl rfl ?_); refine OpsE_eq (st' := _) (by first | dsimp only [n0, n1, n2, n3, n4, n5, n6, n7, n8, n9, m0, m1, m2, m3, m4, m5, m6, m7, m8, m9, o0, o1, o2, o3, o4, ↓reduceIte] | rfl) ?_)
  refine OpsE_nil ?_
  repeat (first | refine R_seq ?_ | refine R_block ?_ | refine R_skip ?_)
  refine R_loop ?_
  refine RL_ind (fun (j : Nat) => ⟨[.dat (intssD ls), .undef, .undef, intPV ((ls.take j).flatten.length : Int), .undef, .undef, .undef, .undef, .undef, .dat (intssD ls), intPV (ls.length : Int), intPV (j : Int), .undef, .undef, .undef, .undef, .undef, .undef, .undef, .undef, .undef, .undef, .undef, .undef, .undef, .undef, .undef, .undef, .undef, .undef, .undef, .undef, .undef, .undef, .undef, .undef], []⟩)
    (fun j => j ≤ ls.length) (fun j => ls.length - j) (fun j hj => ?_) _ 0 _ (Nat.lt_succ_self _) (Nat.zero_le _) (by simp only [intssD, List.length_map]; rfl)
  repeat (first | refine R_seq ?_ | refine R_block ?_ | refine R_skip ?_)
  refine R_region ?_
  (refine OpsE_do rfl ?_; (first | refine E_int rfl rfl rfl rfl ?_ | refine E_bin rfl rfl rfl rfl ?_); refine OpsE_eq (st' := _) (by first | dsimp only [n0, n1, n2, n3, n4, n5, n6, n7, n8, n9, m0, m1, m2, m3, m4, m5, m6, m7, m8, m9, o0, o1, o2, o3, o4, ↓reduceIte] | rfl) ?_)
  refine OpsE_nil ?_
  repeat (first | refine R_seq ?_ | refine R_block ?_ | refine R_skip ?_)
  refine R_if rfl (fun h => ?_) (fun h => ?_)
  · have hj' : j < ls.length := by simpa using h
    have hf := flat_le (ls := ls) (j + 1)
    rw [flat_next hj', List.length_append] at hf
    repeat (first | refine R_seq ?_ | refine R_block ?_ | refine R_skip ?_)
    refine R_region ?_
    (refine OpsE_do rfl ?_; (first | refine E_index el62 sz22 rfl rfl rfl rfl (map_get _ (by first | assumption | omega)) rfl ?_ | refine E_index0 el62 sz22 rfl rfl rfl rfl (map_get _ (by first | assumption | omega)) ?_ | refine E_indexArr el62 sz22 rfl rfl rfl rfl (map_get _ (by first | assumption | omega)) ?_); refine OpsE_eq (st' := _) (by first | dsimp only [n0, n1, n2, n3, n4, n5, n6, n7, n8, n9, m0, m1, m2, m3, m4, m5, m6, m7, m8, m9, o0, o1, o2, o3, o4, ↓reduceIte] | rfl) ?_)
    iterate 2 ((refine OpsE_do rfl ?_; first | refine E_loadi (ds := [_]) ag22 sz22 rfl rfl rfl rfl ?_ | refine E_loadp (ds := [_]) ag22 sz22 rfl rfl rfl rfl rfl ?_ | refine E_assign rfl rfl ?_); refine OpsE_eq (st' := _) (by first | dsimp only [n0, n1, n2, n3, n4, n5, n6, n7, n8, n9, m0, m1, m2, m3, m4, m5, m6, m7, m8, m9, o0, o1, o2, o3, o4, ↓reduceIte] | rfl) ?_)
    refine OpsE_nil ?_
    have w1 : IntKind.i64.wrap (((ls.take j).flatten.length : Int) + ((ls[j].map intD).length : Int)) = ((ls.take (j + 1)).flatten.length : Int) := by
      rw [flat_next hj', List.length_append, List.length_map, wrap_i64 (by omega) (by omega)]; omega
    have h0 : ¬ (((ls.take (j + 1)).flatten.length : Int) < 0) := by omega
    repeat (first | refine R_seq ?_ | refine R_block ?_ | refine R_skip ?_)
    refine R_region ?_
    iterate 5 ((refine OpsE_do rfl ?_; first | refine E_move rfl ?_ | refine E_len un22 rfl rfl ?_ | refine E_int rfl rfl rfl rfl ?_ | refine E_assign rfl rfl ?_); refine OpsE_eq (st' := _) (by first | (simp only [n0, n1, n2, n3, n4, n5, n6, n7, n8, n9, m0, m1, m2, m3, m4, m5, m6, m7, m8, m9, o0, o1, o2, o3, o4, ↓reduceIte, w1] <;> rfl) | rfl) ?_)
    refine OpsE_nil ?_
    repeat (first | refine R_seq ?_ | refine R_block ?_ | refine R_skip ?_)
    refine R_region ?_
    iterate 2 ((refine OpsE_do rfl ?_; first | refine E_move rfl ?_ | refine E_int rfl rfl rfl rfl ?_); refine OpsE_eq (st' := _) (by first | (simp only [n0, n1, n2, n3, n4, n5, n6, n7, n8, n9, m0, m1, m2, m3, m4, m5, m6, m7, m8, m9, o0, o1, o2, o3, o4, ↓reduceIte, decide_eq_false h0] <;> rfl) | rfl) ?_)
    refine OpsE_nil ?_
    repeat (first | refine R_seq ?_ | refine R_block ?_ | refine R_skip ?_)
    refine R_false rfl ?_
    repeat (first | refine R_seq ?_ | refine R_block ?_ | refine R_skip ?_)
    refine R_region ?_
    iterate 2 ((refine OpsE_do rfl ?_; first | refine E_int rfl rfl rfl rfl ?_ | refine E_move rfl ?_); refine OpsE_eq (st' := _) (by first | dsimp only [n0, n1, n2, n3, n4, n5, n6, n7, n8, n9, m0, m1, m2, m3, m4, m5, m6, m7, m8, m9, o0, o1, o2, o3, o4, ↓reduceIte] | rfl) ?_)
    refine OpsE_nil ?_
    refine ⟨j + 1, ?_, by omega, hj'⟩
    rw [wrap_succ (by omega)]
    rfl
  · have hj' : j = ls.length := by simp at h; omega
    subst hj'
    rw [List.take_length]
    repeat (first | refine R_seq ?_ | refine R_block ?_ | refine R_skip ?_)
    refine R_exit ?_
    repeat (first | refine R_seq ?_ | refine R_block ?_ | refine R_skip ?_)
    refine R_region ?_
    (refine OpsE_do rfl ?_; refine E_move rfl ?_; refine OpsE_eq (st' := _) (by first | dsimp only [n0, n1, n2, n3, n4, n5, n6, n7, n8, n9, m0, m1, m2, m3, m4, m5, m6, m7, m8, m9, o0, o1, o2, o3, o4, ↓reduceIte] | rfl) ?_)
    (refine OpsE_do rfl ?_; refine E_callNil rfl rfl rfl rfl (c_Grow ls.flatten.length hfl) ?_; refine OpsE_eq (st' := _) (by first | dsimp only [n0, n1, n2, n3, n4, n5, n6, n7, n8, n9, m0, m1, m2, m3, m4, m5, m6, m7, m8, m9, o0, o1, o2, o3, o4, ↓reduceIte] | rfl) ?_)
    (refine OpsE_do rfl ?_; refine E_assign rfl rfl ?_; refine OpsE_eq (st' := _) (by first | dsimp only [n0, n1, n2, n3, n4, n5, n6, n7, n8, n9, m0, m1, m2, m3, m4, m5, m6, m7, m8, m9, o0, o1, o2, o3, o4, ↓reduceIte] | rfl) ?_)
    refine OpsE_nil ?_
    repeat (first | refine R_seq ?_ | refine R_block ?_ | refine R_skip ?_)
    refine R_region ?_
    iterate 3 ((refine OpsE_do rfl ?_; first | refine E_move rfl ?_ | refine E_len un62 rfl rfl ?_); refine OpsE_eq (st' := _) (by first | dsimp only [n0, n1, n2, n3, n4, n5, n6, n7, n8, n9, m0, m1, m2, m3, m4, m5, m6, m7, m8, m9, o0, o1, o2, o3, o4, ↓reduceIte] | rfl) ?_)
    refine OpsE_nil ?_
    repeat (first | refine R_seq ?_ | refine R_block ?_ | refine R_skip ?_)
    refine R_loop ?_
    refine RL_h0 (h1 := 1) rfl ?_
    refine RL_ind (fun (j : Nat) => ⟨[.undef, .undef, .undef, .undef, .undef, .undef, .ms 0 (zg ls.flatten.length) 0 (ls.take j).flatten.length ls.flatten.length, .undef, .undef, .undef, .undef, .undef, .undef, .undef, .undef, .undef, .undef, .undef, .undef, .undef, .undef, .undef, .undef, .undef, .undef, .dat (intssD ls), intPV (ls.length : Int), intPV (j : Int), .undef, .undef, .undef, .undef, .undef, .undef, .undef, .undef], [.mt 3 (zg ls.flatten.length) (cellsOf intD ((ls.take j).flatten ++ List.replicate (ls.flatten.length - (ls.take j).flatten.length) 0))]⟩)
      (fun j => j ≤ ls.length) (fun j => ls.length - j) (fun j hj => ?_) _ 0 _ (Nat.lt_succ_self _) (Nat.zero_le _) ?_
    · repeat (first | refine R_seq ?_ | refine R_block ?_ | refine R_skip ?_)
      refine R_region ?_
      (refine OpsE_do rfl ?_; (first | refine E_int rfl rfl rfl rfl ?_ | refine E_bin rfl rfl rfl rfl ?_); refine OpsE_eq (st' := _) (by first | dsimp only [n0, n1, n2, n3, n4, n5, n6, n7, n8, n9, m0, m1, m2, m3, m4, m5, m6, m7, m8, m9, o0, o1, o2, o3, o4, ↓reduceIte] | rfl) ?_)
      refine OpsE_nil ?_
      repeat (first | refine R_seq ?_ | refine R_block ?_ | refine R_skip ?_)
      refine R_if rfl (fun h => ?_) (fun h => ?_)
      · have hj' : j < ls.length := by simpa using h
        have hf := flat_le (ls := ls) (j + 1)
        rw [flat_next hj', List.length_append] at hf
        repeat (first | refine R_seq ?_ | refine R_block ?_ | refine R_skip ?_)
        refine R_region ?_
        (refine OpsE_do rfl ?_; (first | refine E_index el62 sz22 rfl rfl rfl rfl (map_get _ (by first | assumption | omega)) rfl ?_ | refine E_index0 el62 sz22 rfl rfl rfl rfl (map_get _ (by first | assumption | omega)) ?_ | refine E_indexArr el62 sz22 rfl rfl rfl rfl (map_get _ (by first | assumption | omega)) ?_); refine OpsE_eq (st' := _) (by first | dsimp only [n0, n1, n2, n3, n4, n5, n6, n7, n8, n9, m0, m1, m2, m3, m4, m5, m6, m7, m8, m9, o0, o1, o2, o3, o4, ↓reduceIte] | rfl) ?_)
        iterate 2 ((refine OpsE_do rfl ?_; first | refine E_loadi (ds := [_]) ag22 sz22 rfl rfl rfl rfl ?_ | refine E_loadp (ds := [_]) ag22 sz22 rfl rfl rfl rfl rfl ?_ | refine E_assign rfl rfl ?_); refine OpsE_eq (st' := _) (by first | dsimp only [n0, n1, n2, n3, n4, n5, n6, n7, n8, n9, m0, m1, m2, m3, m4, m5, m6, m7, m8, m9, o0, o1, o2, o3, o4, ↓reduceIte] | rfl) ?_)
        refine OpsE_nil ?_
        have ha : appendMs [.mt 3 (zg ls.flatten.length) (cellsOf intD ((ls.take j).flatten ++ List.replicate (ls.flatten.length - (ls.take j).flatten.length) 0))] 3 8 0 (zg ls.flatten.length) 0 (ls.take j).flatten.length ls.flatten.length (cellsOf intD ls[j]) =
            some (.ms 0 (zg ls.flatten.length) 0 (ls.take (j + 1)).flatten.length ls.flatten.length, [.mt 3 (zg ls.flatten.length) (cellsOf intD ((ls.take (j + 1)).flatten ++ List.replicate (ls.flatten.length - (ls.take (j + 1)).flatten.length) 0))]) := by
          rw [flat_next hj']
          generalize (ls.take j).flatten = A at hf ⊢
          generalize ls[j] = B at hf ⊢
          generalize ls.flatten.length = m at hf ⊢
          cases B with
          | nil => simp only [List.append_nil]; exact appendMs_nil
          | cons x B =>
            rw [ms_append_in (H := [.mt 3 (zg m) (cellsOf intD (A ++ List.replicate (m - A.length) 0))]) (t := 0) (len := A.length) (es := x :: B) (f := intD) (l := A ++ List.replicate (m - A.length) 0) (fun _ => rfl) (mtOf_at rfl) (Nat.succ_pos _) (by simp only [List.length_append, List.length_replicate]; omega)]
            have e1 : (A ++ List.replicate (m - A.length) (0 : Int)).take A.length = A := List.take_left' rfl
            have e2 : (A ++ List.replicate (m - A.length) (0 : Int)).drop (A.length + (x :: B).length) = List.replicate (m - (A ++ x :: B).length) 0 := by
              rw [List.drop_append, List.drop_of_length_le (by omega), List.nil_append, List.drop_replicate, List.length_append]
              congr 1; omega
            rw [e1, e2, Nat.max_eq_left (by omega), List.length_append]
            rfl
        repeat (first | refine R_seq ?_ | refine R_block ?_ | refine R_skip ?_)
        refine R_region ?_
        iterate 2 ((refine OpsE_do rfl ?_; refine E_move rfl ?_); refine OpsE_eq (st' := _) (by first | dsimp only [n0, n1, n2, n3, n4, n5, n6, n7, n8, n9, m0, m1, m2, m3, m4, m5, m6, m7, m8, m9, o0, o1, o2, o3, o4, ↓reduceIte] | rfl) ?_)
        (refine OpsE_do rfl ?_; refine E_appendMs el22 sz3 by3 zn3 (by decide) rfl rfl (source_lst (f := intD) (fun _ => rfl)) ha ?_; refine OpsE_eq (st' := _) (by first | dsimp only [n0, n1, n2, n3, n4, n5, n6, n7, n8, n9, m0, m1, m2, m3, m4, m5, m6, m7, m8, m9, o0, o1, o2, o3, o4, ↓reduceIte] | rfl) ?_)
        (refine OpsE_do rfl ?_; refine E_assign rfl rfl ?_; refine OpsE_eq (st' := _) (by first | dsimp only [n0, n1, n2, n3, n4, n5, n6, n7, n8, n9, m0, m1, m2, m3, m4, m5, m6, m7, m8, m9, o0, o1, o2, o3, o4, ↓reduceIte] | rfl) ?_)
        refine OpsE_nil ?_
        repeat (first | refine R_seq ?_ | refine R_block ?_ | refine R_skip ?_)
        refine R_region ?_
        iterate 2 ((refine OpsE_do rfl ?_; first | refine E_int rfl rfl rfl rfl ?_ | refine E_move rfl ?_); refine OpsE_eq (st' := _) (by first | dsimp only [n0, n1, n2, n3, n4, n5, n6, n7, n8, n9, m0, m1, m2, m3, m4, m5, m6, m7, m8, m9, o0, o1, o2, o3, o4, ↓reduceIte] | rfl) ?_)
        refine OpsE_nil ?_
        refine ⟨j + 1, ?_, by omega, hj'⟩
        rw [wrap_succ (by omega)]
        refine (prune_some rfl).trans ?_
        dsimp only [m6, m7, o0, o1]
        rw [purge_mt]
        rfl
      · have hj' : j = ls.length := by simp at h; omega
        subst hj'
        rw [List.take_length, Nat.sub_self, List.replicate_zero, List.append_nil]
        repeat (first | refine R_seq ?_ | refine R_block ?_ | refine R_skip ?_)
        refine R_exit ?_
        repeat (first | refine R_seq ?_ | refine R_block ?_ | refine R_skip ?_)
        refine R_region ?_
        iterate 2 ((refine OpsE_do rfl ?_; first | refine E_move rfl ?_ | refine E_assign rfl rfl ?_); refine OpsE_eq (st' := _) (by first | dsimp only [n0, n1, n2, n3, n4, n5, n6, n7, n8, n9, m0, m1, m2, m3, m4, m5, m6, m7, m8, m9, o0, o1, o2, o3, o4, ↓reduceIte] | rfl) ?_)
        refine OpsE_nil ?_
        repeat (first | refine R_seq ?_ | refine R_block ?_ | refine R_skip ?_)
        refine R_ret ?_
        refine ⟨trivial, _, rfl, ?_⟩
        have r1 := pure_ms (H := [.mt 3 (zg ls.flatten.length) (cellsOf intD ls.flatten)]) (g := zg ls.flatten.length) (t := 0) (cap := ls.flatten.length) (f := intD) (fun _ => rfl) (mtOf_at rfl) (Nat.le_refl _)
        rw [List.take_length] at r1
        show (pureC [.mt 3 (zg ls.flatten.length) (cellsOf intD ls.flatten)] (.ms 0 (zg ls.flatten.length) 0 ls.flatten.length ls.flatten.length)).map PV.dat = _
        rw [r1]
        rfl
    · refine (prune_some rfl).trans ?_
      dsimp only [m6, m7, o0, o1]
      rw [purge_mt]
      simp only [intssD, List.length_map]
      rfl

def m_slices_Concat_int_int (x : List (List Int)) : Option (List Int) := if x.length ≤ 1000 ∧ x.flatten.length ≤ 1000000 then some x.flatten else none
def P_slices_Concat_int_int : List (List Int) → List Int → Prop := fun x r => ∀ H, PC prog env 117 ([.lst ((List.map (fun l => Dat.lst ((List.map intD) l))) x)].map .dat) H (.dat (.lst ((List.map intD) r))) H
theorem w_slices_Concat_int_int : ∀ x r, m_slices_Concat_int_int x = some r → P_slices_Concat_int_int x r := by
  intro x r hm
  unfold m_slices_Concat_int_int at hm
  split at hm
  · rename_i h
    cases hm
    intro H
    exact c_Concat x H h.1 h.2
  · cases hm
end Go.Proofs.Try
namespace Go.Proofs.Try
open Go Go.Pm
set_option linter.unusedVariables false
set_option maxHeartbeats 2000000
set_option maxRecDepth 2000
structure T_spec_Spec where
  values : (List Int)
  scalar : Bool
def T_spec_Spec.toD (x : T_spec_Spec) : Dat := .agg [(.lst ((List.map intD) x.values)), (boolD x.scalar)]
theorem T_spec_Spec.fit (x : T_spec_Spec) : Dat.fits 2 x.toD = true := rfl
structure T_rule_Rule where
  left : (List Int)
  right : (List Int)
  shape : (List Int)
  starts : (List Int)
  axis : Int
  amount : Int
  perm : (List Int)
def T_rule_Rule.toD (x : T_rule_Rule) : Dat := .agg [(.lst ((List.map intD) x.left)), (.lst ((List.map intD) x.right)), (.lst ((List.map intD) x.shape)), (.lst ((List.map intD) x.starts)), (intD x.axis), (intD x.amount), (.lst ((List.map intD) x.perm))]
theorem T_rule_Rule.fit (x : T_rule_Rule) : Dat.fits 7 x.toD = true := rfl
end Go.Proofs.Try
namespace Go.Proofs.Try
open Go Go.Pm
set_option linter.unusedVariables false
set_option maxHeartbeats 2000000
set_option maxRecDepth 2000
def m_law13_awake (x : Unit) : Option Bool := some true
def P_law13_awake : Unit → Bool → Prop := fun x r => ∀ H, PC prog env 9 ([].map .dat) H (boolPV r) H
theorem w_law13_awake : ∀ x r, m_law13_awake x = some r → P_law13_awake x r := by
  intro x r hm
  cases hm
  intro H
  exact PC_of (n := 200) (by kernel_rfl)
end Go.Proofs.Try
namespace Go.Proofs.Try
open Go Go.Pm
set_option linter.unusedVariables false
set_option maxHeartbeats 2000000
set_option maxRecDepth 2000
def m_ref01_Product_L1 (x : ((List Int) × Bool × Int)) : Option (Unit ⊕ Bool) :=
  match x with
  | (p0, v201, v202) =>
  if v202 < (p0.length : Int) then
    idx p0 v202 >>= fun v602 =>
    if v602 < 0 then
      some (Sum.inl ())
    else
    if v201 = true then
      m_ref01_Product_L1 (p0, true, (W (v202 + 1)))
    else
    idx p0 v202 >>= fun v603 =>
    m_ref01_Product_L1 (p0, (v603 == 0), (W (v202 + 1)))
  else
  some (Sum.inr v201)
  partial_fixpoint
def P_ref01_Product_L1 : ((List Int) × Bool × Int) → (Unit ⊕ Bool) → Prop := fun x r => match x with
  | (p0, v201, v202) => ∀ st, prune 0 ((firstRegion (codeAt [1, 1, 0, 1, 0, 0] (bodyOf f36))).bind (env.hint 36).keepAt) st = ⟨kp 55 [(0, (.dat (.lst ((List.map intD) p0)))), (4, (boolPV v201)), (5, (intPV v202))], []⟩ →
    RL prog env (env.hint 36) true (codeAt [1, 1, 0, 1, 0, 0] (bodyOf f36)) 0 st (fun e s => match r with | .inl _ => e = .ret ∧ ∃ d, s = ⟨sl d 55 [(2, (intPV 0)), (3, (intPV 6))], []⟩ | .inr (v601) => e = .exit 0 ∧ ∃ d, s = ⟨sl d 55 [(0, (.dat (.lst ((List.map intD) p0)))), (4, (boolPV v601))], []⟩)
theorem w_ref01_Product_L1 : ∀ x r, m_ref01_Product_L1 x = some r → P_ref01_Product_L1 x r := by
  refine m_ref01_Product_L1.partial_correctness _ (fun m_ref01_Product_L1 w_ref01_Product_L1 x r hm => ?_)
  unfold P_ref01_Product_L1
  obtain ⟨p0, v201, v202⟩ := x
  intro st hst
  refine RL_at hst ?_
  clear hst
  refine R_seq ?_
  refine R_seq ?_
  refine R_G ?_
  refine G_run 2 ?_
  refine I_len intD p0 (es := (List.map intD) p0) rfl ?_
  refine G_run 1 ?_
  refine G_end ?_
  refine R_ifp (p := v202 < (p0.length : Int)) (rfl) (fun hc => ?_) (fun hc => ?_)
  · replace hm := pos_inv hc hm
    refine R_skip ?_
    refine R_seq ?_
    refine R_block ?_
    refine R_seq ?_
    refine R_seq ?_
    refine R_G ?_
    refine G_run 2 ?_
    obtain ⟨v602, hx, hm⟩ := bind_inv hm
    refine I_idx 1 intD p0 v202 v602 (es := (List.map intD) p0) (d := (intD v602)) rfl hx rfl rfl ?_
    refine G_run 2 ?_
    refine G_end ?_
    refine R_ifp (p := v602 < 0) (rfl) (fun hc => ?_) (fun hc => ?_)
    · replace hm := pos_inv hc hm
      refine R_seq ?_
      refine R_G ?_
      refine G_run 2 ?_
      refine G_end ?_
      refine R_ret ?_
      obtain rfl := inj1 hm
      exact ⟨rfl, cut_leaf (by kernel_rfl)⟩
    replace hm := neg_inv hc hm
    refine R_skip ?_
    refine R_G ?_
    refine G_run 2 ?_
    refine G_split (p := v201 = true) 21 (bool_dec _) (fun hc => ?_) (fun hc => ?_)
    · replace hm := pos_inv hc hm
      refine G_run 7 ?_
      refine G_end ?_
      refine R_G ?_
      refine G_run 3 ?_
      refine G_end ?_
      exact w_ref01_Product_L1 _ _ hm _ (by kernel_rfl)
    replace hm := neg_inv hc hm
    refine G_run 2 ?_
    obtain ⟨v603, hx, hm⟩ := bind_inv hm
    refine I_idx 1 intD p0 v202 v603 (es := (List.map intD) p0) (d := (intD v603)) rfl hx rfl rfl ?_
    refine G_run 4 ?_
    refine G_end ?_
    refine R_G ?_
    refine G_run 3 ?_
    refine G_end ?_
    exact w_ref01_Product_L1 _ _ hm _ (by kernel_rfl)
  replace hm := neg_inv hc hm
  refine R_exit ?_
  obtain rfl := inj1 hm
  exact ⟨rfl, cut_leaf (by kernel_rfl)⟩
def m_ref01_Product_L2 (x : ((List Int) × Bool × Int)) : Option (Unit ⊕ Unit) :=
  match x with
  | (p0, v601, v804) =>
  if v804 < (p0.length : Int) then
    idx p0 v804 >>= fun v1204 =>
    if v1204 > 65536 then
      some (Sum.inl ())
    else
    m_ref01_Product_L2 (p0, v601, (W (v804 + 1)))
  else
  some (Sum.inr ())
  partial_fixpoint
def P_ref01_Product_L2 : ((List Int) × Bool × Int) → (Unit ⊕ Unit) → Prop := fun x r => match x with
  | (p0, v601, v804) => ∀ st, prune 0 ((firstRegion (codeAt [1, 1, 1, 0, 1, 0, 0] (bodyOf f36))).bind (env.hint 36).keepAt) st = ⟨kp 55 [(0, (.dat (.lst ((List.map intD) p0)))), (4, (boolPV v601)), (6, (intPV v804))], []⟩ →
    RL prog env (env.hint 36) true (codeAt [1, 1, 1, 0, 1, 0, 0] (bodyOf f36)) 0 st (fun e s => match r with | .inl _ => e = .ret ∧ ∃ d, s = ⟨sl d 55 [(2, (intPV 0)), (3, (intPV 7))], []⟩ | .inr (_) => e = .exit 2 ∧ ∃ d, s = ⟨sl d 55 [(0, (.dat (.lst ((List.map intD) p0)))), (4, (boolPV v601))], []⟩)
theorem w_ref01_Product_L2 : ∀ x r, m_ref01_Product_L2 x = some r → P_ref01_Product_L2 x r := by
  refine m_ref01_Product_L2.partial_correctness _ (fun m_ref01_Product_L2 w_ref01_Product_L2 x r hm => ?_)
  unfold P_ref01_Product_L2
  obtain ⟨p0, v601, v804⟩ := x
  intro st hst
  refine RL_at hst ?_
  clear hst
  refine R_seq ?_
  refine R_seq ?_
  refine R_G ?_
  refine G_run 2 ?_
  refine I_len intD p0 (es := (List.map intD) p0) rfl ?_
  refine G_run 1 ?_
  refine G_end ?_
  refine R_ifp (p := v804 < (p0.length : Int)) (rfl) (fun hc => ?_) (fun hc => ?_)
  · replace hm := pos_inv hc hm
    refine R_skip ?_
    refine R_seq ?_
    refine R_block ?_
    refine R_seq ?_
    refine R_G ?_
    refine G_run 2 ?_
    obtain ⟨v1204, hx, hm⟩ := bind_inv hm
    refine I_idx 1 intD p0 v804 v1204 (es := (List.map intD) p0) (d := (intD v1204)) rfl hx rfl rfl ?_
    refine G_run 2 ?_
    refine G_end ?_
    refine R_ifp (p := v1204 > 65536) (rfl) (fun hc => ?_) (fun hc => ?_)
    · replace hm := pos_inv hc hm
      refine R_seq ?_
      refine R_G ?_
      refine G_run 2 ?_
      refine G_end ?_
      refine R_ret ?_
      obtain rfl := inj1 hm
      exact ⟨rfl, cut_leaf (by kernel_rfl)⟩
    replace hm := neg_inv hc hm
    refine R_skip ?_
    refine R_G ?_
    refine G_run 3 ?_
    refine G_end ?_
    exact w_ref01_Product_L2 _ _ hm _ (by kernel_rfl)
  replace hm := neg_inv hc hm
  refine R_exit ?_
  obtain rfl := inj1 hm
  exact ⟨rfl, cut_leaf (by kernel_rfl)⟩
def m_ref01_Product_L3 (x : ((List Int) × Int × Int)) : Option (Unit ⊕ Int) :=
  match x with
  | (p0, v1405, v1406) =>
  if v1406 < (p0.length : Int) then
    idx p0 v1406 >>= fun v1806 =>
    if (W (v1405 * v1806)) > 65536 then
      some (Sum.inl ())
    else
    m_ref01_Product_L3 (p0, (W (v1405 * v1806)), (W (v1406 + 1)))
  else
  some (Sum.inr v1405)
  partial_fixpoint
def P_ref01_Product_L3 : ((List Int) × Int × Int) → (Unit ⊕ Int) → Prop := fun x r => match x with
  | (p0, v1405, v1406) => ∀ st, prune 0 ((firstRegion (codeAt [1, 1, 1, 1, 1, 1, 0, 1, 0, 0] (bodyOf f36))).bind (env.hint 36).keepAt) st = ⟨kp 55 [(0, (.dat (.lst ((List.map intD) p0)))), (7, (intPV v1405)), (8, (intPV v1406))], []⟩ →
    RL prog env (env.hint 36) true (codeAt [1, 1, 1, 1, 1, 1, 0, 1, 0, 0] (bodyOf f36)) 0 st (fun e s => match r with | .inl _ => e = .ret ∧ ∃ d, s = ⟨sl d 55 [(2, (intPV 0)), (3, (intPV 7))], []⟩ | .inr (v1805) => e = .exit 4 ∧ ∃ d, s = ⟨sl d 55 [(7, (intPV v1805))], []⟩)
theorem w_ref01_Product_L3 : ∀ x r, m_ref01_Product_L3 x = some r → P_ref01_Product_L3 x r := by
  refine m_ref01_Product_L3.partial_correctness _ (fun m_ref01_Product_L3 w_ref01_Product_L3 x r hm => ?_)
  unfold P_ref01_Product_L3
  obtain ⟨p0, v1405, v1406⟩ := x
  intro st hst
  refine RL_at hst ?_
  clear hst
  refine R_seq ?_
  refine R_seq ?_
  refine R_G ?_
  refine G_run 2 ?_
  refine I_len intD p0 (es := (List.map intD) p0) rfl ?_
  refine G_run 1 ?_
  refine G_end ?_
  refine R_ifp (p := v1406 < (p0.length : Int)) (rfl) (fun hc => ?_) (fun hc => ?_)
  · replace hm := pos_inv hc hm
    refine R_skip ?_
    refine R_seq ?_
    refine R_block ?_
    refine R_seq ?_
    refine R_G ?_
    refine G_run 3 ?_
    obtain ⟨v1806, hx, hm⟩ := bind_inv hm
    refine I_idx 1 intD p0 v1406 v1806 (es := (List.map intD) p0) (d := (intD v1806)) rfl hx rfl rfl ?_
    refine G_run 3 ?_
    refine G_end ?_
    refine R_seq ?_
    refine R_G ?_
    refine G_run 2 ?_
    refine G_end ?_
    refine R_ifp (p := (W (v1405 * v1806)) > 65536) (rfl) (fun hc => ?_) (fun hc => ?_)
    · replace hm := pos_inv hc hm
      refine R_seq ?_
      refine R_G ?_
      refine G_run 2 ?_
      refine G_end ?_
      refine R_ret ?_
      obtain rfl := inj1 hm
      exact ⟨rfl, cut_leaf (by kernel_rfl)⟩
    replace hm := neg_inv hc hm
    refine R_skip ?_
    refine R_G ?_
    refine G_run 3 ?_
    refine G_end ?_
    exact w_ref01_Product_L3 _ _ hm _ (by kernel_rfl)
  replace hm := neg_inv hc hm
  refine R_exit ?_
  obtain rfl := inj1 hm
  exact ⟨rfl, cut_leaf (by kernel_rfl)⟩
def m_ref01_Product (x : (List Int)) : Option (Int × Int) :=
  match x with
  | p0 =>
  (
  m_ref01_Product_L1 (p0, false, 0) >>= fun (out : Unit ⊕ Bool) =>
  match out with
  | .inl _ =>
    some (0, 6)
  | .inr (v601) =>
    (
    m_ref01_Product_L2 (p0, v601, 0) >>= fun (out : Unit ⊕ Unit) =>
    match out with
    | .inl _ =>
      some (0, 7)
    | .inr (_) =>
      if v601 = true then
        some (0, 0)
      else
      (
      m_ref01_Product_L3 (p0, 1, 0) >>= fun (out : Unit ⊕ Int) =>
      match out with
      | .inl _ =>
        some (0, 7)
      | .inr (v1805) =>
        some (v1805, 0)
      )
    )
  )
def P_ref01_Product : (List Int) → (Int × Int) → Prop := fun x r => match x, r with
  | p0, (r0, r1) => ∀ H, PC prog env 36 ([(.lst ((List.map intD) p0))].map .dat) H (.tup [(intPV r0), (intPV r1)]) H
theorem w_ref01_Product : ∀ x r, m_ref01_Product x = some r → P_ref01_Product x r := by
  intro p0 r hm
  unfold m_ref01_Product at hm
  unfold P_ref01_Product
  obtain ⟨r0, r1⟩ := r
  intro H
  refine PC_sx (ds := [(.lst ((List.map intD) p0))]) (fn := f36) (by kernel_rfl) (by kernel_rfl) rfl ?_ (by kernel_rfl)
  refine R_seq ?_
  refine R_G ?_
  refine G_run 2 ?_
  refine G_end ?_
  refine R_seq ?_
  refine R_G ?_
  refine G_run 1 ?_
  refine G_end ?_
  refine R_seq ?_
  refine R_seq ?_
  refine R_G ?_
  refine G_run 1 ?_
  refine G_end ?_
  refine R_block ?_
  obtain ⟨out, hs, hm⟩ := bind_inv hm
  refine R_loop ?_
  rcases out with _ | v601
  · refine RL_use (w_ref01_Product_L1 _ _ hs) (by kernel_rfl) ?_
    clear hs
    intro e s hp
    obtain ⟨rfl, d, rfl⟩ := hp
    obtain ⟨rfl, rfl⟩ := inj2 hm
    exact ⟨trivial, fin_pure (by kernel_rfl)⟩
  · refine RL_use (w_ref01_Product_L1 _ _ hs) (by kernel_rfl) ?_
    clear hs
    intro e s hp
    obtain ⟨rfl, d, rfl⟩ := hp
    refine R_seq ?_
    refine R_seq ?_
    refine R_G ?_
    refine G_run 1 ?_
    refine G_end ?_
    refine R_block ?_
    obtain ⟨out, hs, hm⟩ := bind_inv hm
    refine R_loop ?_
    rcases out with _ | _
    · refine RL_use (w_ref01_Product_L2 _ _ hs) (by kernel_rfl) ?_
      clear hs
      intro e s hp
      obtain ⟨rfl, d, rfl⟩ := hp
      obtain ⟨rfl, rfl⟩ := inj2 hm
      exact ⟨trivial, fin_pure (by kernel_rfl)⟩
    · refine RL_use (w_ref01_Product_L2 _ _ hs) (by kernel_rfl) ?_
      clear hs
      intro e s hp
      obtain ⟨rfl, d, rfl⟩ := hp
      refine R_seq ?_
      refine R_seq ?_
      refine R_G ?_
      refine G_run 1 ?_
      refine G_end ?_
      refine R_ifp (p := v601 = true) (bool_dec _) (fun hc => ?_) (fun hc => ?_)
      · replace hm := pos_inv hc hm
        refine R_seq ?_
        refine R_G ?_
        refine G_run 2 ?_
        refine G_end ?_
        refine R_ret ?_
        obtain ⟨rfl, rfl⟩ := inj2 hm
        exact ⟨trivial, fin_pure (by kernel_rfl)⟩
      replace hm := neg_inv hc hm
      refine R_skip ?_
      refine R_seq ?_
      refine R_G ?_
      refine G_run 1 ?_
      refine G_end ?_
      refine R_seq ?_
      refine R_seq ?_
      refine R_G ?_
      refine G_run 1 ?_
      refine G_end ?_
      refine R_block ?_
      obtain ⟨out, hs, hm⟩ := bind_inv hm
      refine R_loop ?_
      rcases out with _ | v1805
      · refine RL_use (w_ref01_Product_L3 _ _ hs) (by kernel_rfl) ?_
        clear hs
        intro e s hp
        obtain ⟨rfl, d, rfl⟩ := hp
        obtain ⟨rfl, rfl⟩ := inj2 hm
        exact ⟨trivial, fin_pure (by kernel_rfl)⟩
      · refine RL_use (w_ref01_Product_L3 _ _ hs) (by kernel_rfl) ?_
        clear hs
        intro e s hp
        obtain ⟨rfl, d, rfl⟩ := hp
        refine R_seq ?_
        refine R_G ?_
        refine G_run 3 ?_
        refine G_end ?_
        refine R_ret ?_
        obtain ⟨rfl, rfl⟩ := inj2 hm
        exact ⟨trivial, fin_pure (by kernel_rfl)⟩
end Go.Proofs.Try
namespace Go.Proofs.Try
open Go Go.Pm
set_option linter.unusedVariables false
set_option maxHeartbeats 2000000
set_option maxRecDepth 2000
def m_ref02_Check_L1 (x : ((List Int) × Int)) : Option (Unit ⊕ Unit) :=
  match x with
  | (p0, v201) =>
  if v201 < (p0.length : Int) then
    idx p0 v201 >>= fun v601 =>
    if v601 < 0 then
      some (Sum.inl ())
    else
    m_ref02_Check_L1 (p0, (W (v201 + 1)))
  else
  some (Sum.inr ())
  partial_fixpoint
def P_ref02_Check_L1 : ((List Int) × Int) → (Unit ⊕ Unit) → Prop := fun x r => match x with
  | (p0, v201) => ∀ st, prune 0 ((firstRegion (codeAt [1, 0, 1, 0, 0] (bodyOf f10))).bind (env.hint 10).keepAt) st = ⟨kp 29 [(0, (.dat (.lst ((List.map intD) p0)))), (3, (intPV v201))], []⟩ →
    RL prog env (env.hint 10) true (codeAt [1, 0, 1, 0, 0] (bodyOf f10)) 0 st (fun e s => match r with | .inl _ => e = .ret ∧ ∃ d, s = ⟨sl d 29 [(2, (intPV 6))], []⟩ | .inr (_) => e = .exit 0 ∧ ∃ d, s = ⟨sl d 29 [(0, (.dat (.lst ((List.map intD) p0))))], []⟩)
theorem w_ref02_Check_L1 : ∀ x r, m_ref02_Check_L1 x = some r → P_ref02_Check_L1 x r := by
  refine m_ref02_Check_L1.partial_correctness _ (fun m_ref02_Check_L1 w_ref02_Check_L1 x r hm => ?_)
  unfold P_ref02_Check_L1
  obtain ⟨p0, v201⟩ := x
  intro st hst
  refine RL_at hst ?_
  clear hst
  refine R_seq ?_
  refine R_seq ?_
  refine R_G ?_
  refine G_run 2 ?_
  refine I_len intD p0 (es := (List.map intD) p0) rfl ?_
  refine G_run 1 ?_
  refine G_end ?_
  refine R_ifp (p := v201 < (p0.length : Int)) (rfl) (fun hc => ?_) (fun hc => ?_)
  · replace hm := pos_inv hc hm
    refine R_skip ?_
    refine R_seq ?_
    refine R_block ?_
    refine R_seq ?_
    refine R_G ?_
    refine G_run 2 ?_
    obtain ⟨v601, hx, hm⟩ := bind_inv hm
    refine I_idx 1 intD p0 v201 v601 (es := (List.map intD) p0) (d := (intD v601)) rfl hx rfl rfl ?_
    refine G_run 2 ?_
    refine G_end ?_
    refine R_ifp (p := v601 < 0) (rfl) (fun hc => ?_) (fun hc => ?_)
    · replace hm := pos_inv hc hm
      refine R_seq ?_
      refine R_G ?_
      refine G_run 1 ?_
      refine G_end ?_
      refine R_ret ?_
      obtain rfl := inj1 hm
      exact ⟨rfl, cut_leaf (by kernel_rfl)⟩
    replace hm := neg_inv hc hm
    refine R_skip ?_
    refine R_G ?_
    refine G_run 3 ?_
    refine G_end ?_
    exact w_ref02_Check_L1 _ _ hm _ (by kernel_rfl)
  replace hm := neg_inv hc hm
  refine R_exit ?_
  obtain rfl := inj1 hm
  exact ⟨rfl, cut_leaf (by kernel_rfl)⟩
def m_ref02_Check (x : (List Int)) : Option Int :=
  match x with
  | p0 =>
  (
  m_ref02_Check_L1 (p0, 0) >>= fun (out : Unit ⊕ Unit) =>
  match out with
  | .inl _ =>
    some 6
  | .inr (_) =>
    m_ref01_Product p0 >>= fun ((v602, v603) : (Int × Int)) =>
    (if (p0.length : Int) > 16 then
      some true
    else
    some (v603 != 0)
    ) >>= fun (v604 : Bool) =>
    if v604 = true then
      some 7
    else
    some 0
  )
def P_ref02_Check : (List Int) → Int → Prop := fun x r => match x, r with
  | p0, r0 => ∀ H, PC prog env 10 ([(.lst ((List.map intD) p0))].map .dat) H (intPV r0) H
theorem w_ref02_Check : ∀ x r, m_ref02_Check x = some r → P_ref02_Check x r := by
  intro p0 r0 hm
  unfold m_ref02_Check at hm
  unfold P_ref02_Check
  intro H
  refine PC_sx (ds := [(.lst ((List.map intD) p0))]) (fn := f10) (by kernel_rfl) (by kernel_rfl) rfl ?_ (by kernel_rfl)
  refine R_seq ?_
  refine R_G ?_
  refine G_run 1 ?_
  refine G_end ?_
  refine R_seq ?_
  refine R_seq ?_
  refine R_G ?_
  refine G_run 1 ?_
  refine G_end ?_
  refine R_block ?_
  obtain ⟨out, hs, hm⟩ := bind_inv hm
  refine R_loop ?_
  rcases out with _ | _
  · refine RL_use (w_ref02_Check_L1 _ _ hs) (by kernel_rfl) ?_
    clear hs
    intro e s hp
    obtain ⟨rfl, d, rfl⟩ := hp
    obtain rfl := inj1 hm
    exact ⟨trivial, fin_pure (by kernel_rfl)⟩
  · refine RL_use (w_ref02_Check_L1 _ _ hs) (by kernel_rfl) ?_
    clear hs
    intro e s hp
    obtain ⟨rfl, d, rfl⟩ := hp
    refine R_seq ?_
    refine R_G ?_
    refine G_run 1 ?_
    obtain ⟨⟨v602, v603⟩, hx, hm⟩ := bind_inv hm
    have hq := w_ref01_Product _ _ hx []
    refine G_callP hq ?_
    refine G_run 5 ?_
    refine G_end ?_
    refine R_seq ?_
    refine R_seq ?_
    obtain ⟨v604, hs, hm⟩ := bind_inv hm
    refine R_cut (fun d => ⟨sl d 29 [(28, (boolPV v604))], []⟩) ?_ (fun d => ?_)
    · replace hm := hs
      clear hs
      refine R_G ?_
      refine G_run 1 ?_
      refine I_len intD p0 (es := (List.map intD) p0) rfl ?_
      refine G_run 2 ?_
      refine G_split (p := (p0.length : Int) > 16) 25 (rfl) (fun hc => ?_) (fun hc => ?_)
      · replace hm := pos_inv hc hm
        refine G_run 3 ?_
        refine G_end ?_
        obtain rfl := inj1 hm
        exact cut_leaf (by kernel_rfl)
      replace hm := neg_inv hc hm
      refine G_run 3 ?_
      refine G_end ?_
      obtain rfl := inj1 hm
      exact cut_leaf (by kernel_rfl)
    clear hs
    refine R_ifp (p := v604 = true) (bool_dec _) (fun hc => ?_) (fun hc => ?_)
    · replace hm := pos_inv hc hm
      refine R_seq ?_
      refine R_G ?_
      refine G_run 1 ?_
      refine G_end ?_
      refine R_ret ?_
      obtain rfl := inj1 hm
      exact ⟨trivial, fin_pure (by kernel_rfl)⟩
    replace hm := neg_inv hc hm
    refine R_skip ?_
    refine R_seq ?_
    refine R_G ?_
    refine G_run 1 ?_
    refine G_end ?_
    refine R_ret ?_
    obtain rfl := inj1 hm
    exact ⟨trivial, fin_pure (by kernel_rfl)⟩
end Go.Proofs.Try
namespace Go.Proofs.Try
open Go Go.Pm
set_option linter.unusedVariables false
set_option maxHeartbeats 2000000
set_option maxRecDepth 2000
def m_law13_left (x : (List Int)) : Option T_spec_Spec :=
  match x with
  | p0 =>
  some (⟨p0, ((p0.length : Int) == 1)⟩ : T_spec_Spec)
def P_law13_left : (List Int) → T_spec_Spec → Prop := fun x r => match x, r with
  | p0, r0 => ∀ H, PC prog env 15 ([(.lst ((List.map intD) p0))].map .dat) H (.dat (T_spec_Spec.toD r0)) H
theorem w_law13_left : ∀ x r, m_law13_left x = some r → P_law13_left x r := by
  intro p0 r0 hm
  unfold m_law13_left at hm
  unfold P_law13_left
  intro H
  refine PC_sx (ds := [(.lst ((List.map intD) p0))]) (fn := f15) (by kernel_rfl) (by kernel_rfl) rfl ?_ (by kernel_rfl)
  refine R_seq ?_
  refine R_G ?_
  refine G_run 1 ?_
  refine G_end ?_
  refine R_seq ?_
  refine R_G ?_
  refine G_run 2 ?_
  refine I_len intD p0 (es := (List.map intD) p0) rfl ?_
  refine G_run 3 ?_
  refine G_end ?_
  refine R_ret ?_
  obtain rfl := inj1 hm
  exact ⟨trivial, fin_pure (by kernel_rfl)⟩
end Go.Proofs.Try
namespace Go.Proofs.Try
open Go Go.Pm
set_option linter.unusedVariables false
set_option maxHeartbeats 2000000
set_option maxRecDepth 2000
def m_slices_Repeat_int_int (x : Int × Int) : Option (List Int) := match x with
  | (a, n) => if (a = 1 ∨ a = -1) ∧ 0 ≤ n ∧ n ≤ 16 then some (List.replicate n.toNat a) else none
def P_slices_Repeat_int_int : Int × Int → List Int → Prop := fun x r => match x with
  | (a, n) => PC prog env 103 [(.dat (.lst ((List.map intD) ([a] : List Int)))), (intPV n)] [] (.arr 0 0 r.length r.length) [(.box (cellsOf intD r))]
theorem w_slices_Repeat_int_int : ∀ x r, m_slices_Repeat_int_int x = some r → P_slices_Repeat_int_int x r := by
  intro x r hm
  obtain ⟨a, n⟩ := x
  unfold m_slices_Repeat_int_int at hm
  simp only at hm
  split at hm
  · rename_i hc
    cases hm
    obtain ⟨ha, h0, h1⟩ := hc
    obtain ⟨k, rfl⟩ := Int.eq_ofNat_of_zero_le h0
    have hk : k ≤ 16 := by omega
    unfold P_slices_Repeat_int_int
    skip
    rcases ha with rfl | rfl
    · match k, hk with
      | 0, _ => refine PC_of (n := 60) ?_; kernel_rfl
      | 1, _ => refine PC_of (n := 60) ?_; kernel_rfl
      | 2, _ => refine PC_of (n := 60) ?_; kernel_rfl
      | 3, _ => refine PC_of (n := 60) ?_; kernel_rfl
      | 4, _ => refine PC_of (n := 60) ?_; kernel_rfl
      | 5, _ => refine PC_of (n := 60) ?_; kernel_rfl
      | 6, _ => refine PC_of (n := 60) ?_; kernel_rfl
      | 7, _ => refine PC_of (n := 60) ?_; kernel_rfl
      | 8, _ => refine PC_of (n := 60) ?_; kernel_rfl
      | 9, _ => refine PC_of (n := 60) ?_; kernel_rfl
      | 10, _ => refine PC_of (n := 60) ?_; kernel_rfl
      | 11, _ => refine PC_of (n := 60) ?_; kernel_rfl
      | 12, _ => refine PC_of (n := 60) ?_; kernel_rfl
      | 13, _ => refine PC_of (n := 60) ?_; kernel_rfl
      | 14, _ => refine PC_of (n := 60) ?_; kernel_rfl
      | 15, _ => refine PC_of (n := 60) ?_; kernel_rfl
      | 16, _ => refine PC_of (n := 60) ?_; kernel_rfl
    · match k, hk with
      | 0, _ => refine PC_of (n := 60) ?_; kernel_rfl
      | 1, _ => refine PC_of (n := 60) ?_; kernel_rfl
      | 2, _ => refine PC_of (n := 60) ?_; kernel_rfl
      | 3, _ => refine PC_of (n := 60) ?_; kernel_rfl
      | 4, _ => refine PC_of (n := 60) ?_; kernel_rfl
      | 5, _ => refine PC_of (n := 60) ?_; kernel_rfl
      | 6, _ => refine PC_of (n := 60) ?_; kernel_rfl
      | 7, _ => refine PC_of (n := 60) ?_; kernel_rfl
      | 8, _ => refine PC_of (n := 60) ?_; kernel_rfl
      | 9, _ => refine PC_of (n := 60) ?_; kernel_rfl
      | 10, _ => refine PC_of (n := 60) ?_; kernel_rfl
      | 11, _ => refine PC_of (n := 60) ?_; kernel_rfl
      | 12, _ => refine PC_of (n := 60) ?_; kernel_rfl
      | 13, _ => refine PC_of (n := 60) ?_; kernel_rfl
      | 14, _ => refine PC_of (n := 60) ?_; kernel_rfl
      | 15, _ => refine PC_of (n := 60) ?_; kernel_rfl
      | 16, _ => refine PC_of (n := 60) ?_; kernel_rfl
  · cases hm
end Go.Proofs.Try
namespace Go.Proofs.Try
open Go Go.Pm
set_option linter.unusedVariables false
set_option maxHeartbeats 2000000
set_option maxRecDepth 2000
def m_rule_ones (x : Int) : Option (List Int) :=
  match x with
  | p0 =>
  m_slices_Repeat_int_int (1, p0) >>= fun v1 =>
  some v1
def P_rule_ones : Int → (List Int) → Prop := fun x r => match x, r with
  | p0, r0 => ∀ H, PC prog env 82 ([(intD p0)].map .dat) H (.dat (.lst ((List.map intD) r0))) H
theorem w_rule_ones : ∀ x r, m_rule_ones x = some r → P_rule_ones x r := by
  intro p0 r0 hm
  unfold m_rule_ones at hm
  unfold P_rule_ones
  intro H
  refine PC_sx (ds := [(intD p0)]) (fn := f82) (by kernel_rfl) (by kernel_rfl) rfl ?_ (by kernel_rfl)
  refine R_seq ?_
  refine R_G ?_
  refine G_run 1 ?_
  refine G_end ?_
  refine R_seq ?_
  refine R_G ?_
  refine G_run 2 ?_
  obtain ⟨v1, hx, hm⟩ := bind_inv hm
  have hq := w_slices_Repeat_int_int _ _ hx
  dsimp only [P_slices_Repeat_int_int] at hq
  replace hq := hq
  refine G_callB hq ?_
  refine G_run 1 ?_
  refine G_end ?_
  refine R_ret ?_
  obtain rfl := inj1 hm
  exact ⟨trivial, fin_pureX [(.arr 0 0 v1.length v1.length)] (by kernel_rfl) (po_arr (pc_arr intD v1 rfl (fun _ => rfl) (by kernel_rfl)))⟩
end Go.Proofs.Try
namespace Go.Proofs.Try
open Go Go.Pm
set_option linter.unusedVariables false
set_option maxHeartbeats 2000000
set_option maxRecDepth 2000
def m_rule_seen (x : ((List Int) × Int)) : Option ((List Int) × Int) :=
  match x with
  | (p0, p1) =>
  if (p0.length : Int) > 0 then
    some (p0, 0)
  else
  if p1 > 16 then
    some (([] : (List Int)), 7)
  else
  m_rule_ones p1 >>= fun (v1 : (List Int)) =>
  some (v1, 0)
def P_rule_seen : ((List Int) × Int) → ((List Int) × Int) → Prop := fun x r => match x, r with
  | (p0, p1), (r0, r1) => ∀ H, PC prog env 45 ([(.lst ((List.map intD) p0)), (intD p1)].map .dat) H (.tup [(.dat (.lst ((List.map intD) r0))), (intPV r1)]) H
theorem w_rule_seen : ∀ x r, m_rule_seen x = some r → P_rule_seen x r := by
  intro x r hm
  unfold m_rule_seen at hm
  unfold P_rule_seen
  obtain ⟨p0, p1⟩ := x
  obtain ⟨r0, r1⟩ := r
  intro H
  refine PC_sx (ds := [(.lst ((List.map intD) p0)), (intD p1)]) (fn := f45) (by kernel_rfl) (by kernel_rfl) rfl ?_ (by kernel_rfl)
  refine R_seq ?_
  refine R_G ?_
  refine G_run 2 ?_
  refine G_end ?_
  refine R_seq ?_
  refine R_block ?_
  refine R_seq ?_
  refine R_G ?_
  refine G_run 1 ?_
  refine I_len intD p0 (es := (List.map intD) p0) rfl ?_
  refine G_run 2 ?_
  refine G_end ?_
  refine R_ifp (p := (p0.length : Int) > 0) (rfl) (fun hc => ?_) (fun hc => ?_)
  · replace hm := pos_inv hc hm
    refine R_seq ?_
    refine R_G ?_
    refine G_run 3 ?_
    refine G_end ?_
    refine R_ret ?_
    obtain ⟨rfl, rfl⟩ := inj2 hm
    exact ⟨trivial, fin_pure (by kernel_rfl)⟩
  replace hm := neg_inv hc hm
  refine R_seq ?_
  refine R_G ?_
  refine G_run 3 ?_
  refine G_end ?_
  refine R_ifp (p := p1 > 16) (rfl) (fun hc => ?_) (fun hc => ?_)
  · replace hm := pos_inv hc hm
    refine R_seq ?_
    refine R_G ?_
    refine G_run 2 ?_
    refine G_end ?_
    refine R_ret ?_
    obtain ⟨rfl, rfl⟩ := inj2 hm
    exact ⟨trivial, fin_pure (by kernel_rfl)⟩
  replace hm := neg_inv hc hm
  refine R_skip ?_
  refine R_seq ?_
  refine R_G ?_
  refine G_run 1 ?_
  obtain ⟨v1, hx, hm⟩ := bind_inv hm
  have hq := w_rule_ones _ _ hx []
  refine G_callP hq ?_
  refine G_run 2 ?_
  refine G_end ?_
  refine R_ret ?_
  obtain ⟨rfl, rfl⟩ := inj2 hm
  exact ⟨trivial, fin_pure (by kernel_rfl)⟩
end Go.Proofs.Try
namespace Go.Proofs.Try
open Go Go.Pm
set_option linter.unusedVariables false
set_option maxHeartbeats 2000000
set_option maxRecDepth 2000
def m_rule_failed (x : Int) : Option (T_rule_Rule × Int) :=
  match x with
  | p0 =>
  some ((⟨([] : (List Int)), ([] : (List Int)), ([] : (List Int)), ([] : (List Int)), 0, 0, ([] : (List Int))⟩ : T_rule_Rule), p0)
def P_rule_failed : Int → (T_rule_Rule × Int) → Prop := fun x r => match x, r with
  | p0, (r0, r1) => ∀ H, PC prog env 37 ([(intD p0)].map .dat) H (.tup [(.dat (T_rule_Rule.toD r0)), (intPV r1)]) H
theorem w_rule_failed : ∀ x r, m_rule_failed x = some r → P_rule_failed x r := by
  intro p0 r hm
  unfold m_rule_failed at hm
  unfold P_rule_failed
  obtain ⟨r0, r1⟩ := r
  intro H
  refine PC_sx (ds := [(intD p0)]) (fn := f37) (by kernel_rfl) (by kernel_rfl) rfl ?_ (by kernel_rfl)
  refine R_seq ?_
  refine R_G ?_
  refine G_run 2 ?_
  refine G_end ?_
  refine R_seq ?_
  refine R_G ?_
  refine G_run 4 ?_
  refine G_end ?_
  refine R_ret ?_
  obtain ⟨rfl, rfl⟩ := inj2 hm
  exact ⟨trivial, fin_pure (by kernel_rfl)⟩
end Go.Proofs.Try
namespace Go.Proofs.Try
open Go Go.Pm
set_option linter.unusedVariables false
set_option maxHeartbeats 2000000
set_option maxRecDepth 2000
def m_size_Magnitude (x : Int) : Option (Int × Int) :=
  match x with
  | p0 =>
  (if p0 > 65536 then
    some true
  else
  some (decide (p0 < (-65536)))
  ) >>= fun (v1 : Bool) =>
  if v1 = true then
    some (0, 7)
  else
  some ((if p0 < (W (0 - p0)) then (W (0 - p0)) else p0), 0)
def P_size_Magnitude : Int → (Int × Int) → Prop := fun x r => match x, r with
  | p0, (r0, r1) => ∀ H, PC prog env 46 ([(intD p0)].map .dat) H (.tup [(intPV r0), (intPV r1)]) H
theorem w_size_Magnitude : ∀ x r, m_size_Magnitude x = some r → P_size_Magnitude x r := by
  intro p0 r hm
  unfold m_size_Magnitude at hm
  unfold P_size_Magnitude
  obtain ⟨r0, r1⟩ := r
  intro H
  refine PC_sx (ds := [(intD p0)]) (fn := f46) (by kernel_rfl) (by kernel_rfl) rfl ?_ (by kernel_rfl)
  refine R_seq ?_
  refine R_G ?_
  refine G_run 2 ?_
  refine G_end ?_
  refine R_seq ?_
  refine R_seq ?_
  obtain ⟨v1, hs, hm⟩ := bind_inv hm
  refine R_cut (fun d => ⟨sl d 14 [(0, (intPV p0)), (9, (boolPV v1))], []⟩) ?_ (fun d => ?_)
  · replace hm := hs
    clear hs
    refine R_G ?_
    refine G_run 3 ?_
    refine G_split (p := p0 > 65536) 6 (rfl) (fun hc => ?_) (fun hc => ?_)
    · replace hm := pos_inv hc hm
      refine G_run 3 ?_
      refine G_end ?_
      obtain rfl := inj1 hm
      exact cut_leaf (by kernel_rfl)
    replace hm := neg_inv hc hm
    refine G_run 3 ?_
    refine G_end ?_
    obtain rfl := inj1 hm
    exact cut_leaf (by kernel_rfl)
  clear hs
  refine R_ifp (p := v1 = true) (bool_dec _) (fun hc => ?_) (fun hc => ?_)
  · replace hm := pos_inv hc hm
    refine R_seq ?_
    refine R_G ?_
    refine G_run 2 ?_
    refine G_end ?_
    refine R_ret ?_
    obtain ⟨rfl, rfl⟩ := inj2 hm
    exact ⟨trivial, fin_pure (by kernel_rfl)⟩
  replace hm := neg_inv hc hm
  refine R_skip ?_
  refine R_seq ?_
  refine R_G ?_
  refine G_run 3 ?_
  refine G_semN rfl (by kernel_rfl) (fun _ => E_max (k := .i64) (m := p0) (n := (W (0 - p0))) rfl (by kernel_rfl) (by kernel_rfl)) ?_
  refine G_run 2 ?_
  refine G_end ?_
  refine R_ret ?_
  obtain ⟨rfl, rfl⟩ := inj2 hm
  exact ⟨trivial, fin_pure (by kernel_rfl)⟩
end Go.Proofs.Try
namespace Go.Proofs.Try
open Go Go.Pm
set_option linter.unusedVariables false
set_option maxHeartbeats 2000000
set_option maxRecDepth 2000
def m_rule_starts_b907d (x : ((List Int) × (List Int) × Bool × Nat)) : Option (Unit) :=
  match x with
  | (q0, q1, q2, q3) =>
  some ()
def P_rule_starts_b907d : ((List Int) × (List Int) × Bool × Nat) → Unit → Prop := fun x r => match x with
  | (q0, q1, q2, q3) => PC prog env 47 [(.vec 3 ((List.map intD) q0))] [(.box [(.dat (.lst ((List.map intD) q1))), (boolPV q2)]), (.box [(.dat (.lst ((List.map intD) []))), (.dat (.lst ((List.map intD) []))), (.dat (.lst ((List.map intD) []))), (.dat (.lst ((List.map intD) []))), (intPV 0), (intPV 0), (.dat (.lst ((List.map intD) [])))]), (.tok 3 q3), (.tok 3 q0.length)] (match r with | _ => (.fn 83 [(.ptr 4 0)])) (match r with | _ => [(.box [(.dat (.lst ((List.map intD) q1))), (boolPV q2)]), (.box [(.dat (.lst ((List.map intD) []))), (.dat (.lst ((List.map intD) []))), (.dat (.lst ((List.map intD) []))), (.dat (.lst ((List.map intD) []))), (intPV 0), (intPV 0), (.dat (.lst ((List.map intD) [])))]), (.tok 3 q3), (.tok 3 q0.length), (.box [(.vec 3 ((List.map intD) q0))])])
theorem w_rule_starts_b907d : ∀ x r, m_rule_starts_b907d x = some r → P_rule_starts_b907d x r := by
  intro x r hm
  unfold m_rule_starts_b907d at hm
  unfold P_rule_starts_b907d
  obtain ⟨q0, q1, q2, q3⟩ := x
  refine PC_sxB (fn := f47) (by kernel_rfl) (by kernel_rfl) rfl ?_
  refine R_seq ?_
  refine R_G ?_
  refine G_run 2 ?_
  refine G_end ?_
  refine R_seq ?_
  refine R_G ?_
  refine G_run 2 ?_
  refine G_end ?_
  refine R_ret ?_
  obtain rfl := inj1 hm
  exact ⟨trivial, fin_body (by kernel_rfl) (by kernel_rfl)⟩
end Go.Proofs.Try
namespace Go.Proofs.Try
open Go Go.Pm
set_option linter.unusedVariables false
set_option maxHeartbeats 2000000
set_option maxRecDepth 2000
def m_size_check_1 (x : Int) : Option Bool :=
  match x with
  | p0 =>
  some (decide (p0 < 0))
def P_size_check_1 : Int → Bool → Prop := fun x r => match x, r with
  | p0, r0 => ∀ H, PC prog env 132 ([(intD p0)].map .dat) H (boolPV r0) H
theorem w_size_check_1 : ∀ x r, m_size_check_1 x = some r → P_size_check_1 x r := by
  intro p0 r0 hm
  unfold m_size_check_1 at hm
  unfold P_size_check_1
  intro H
  refine PC_sx (ds := [(intD p0)]) (fn := f132) (by kernel_rfl) (by kernel_rfl) rfl ?_ (by kernel_rfl)
  refine R_seq ?_
  refine R_G ?_
  refine G_run 1 ?_
  refine G_end ?_
  refine R_seq ?_
  refine R_G ?_
  refine G_run 3 ?_
  refine G_end ?_
  refine R_ret ?_
  obtain rfl := inj1 hm
  exact ⟨trivial, fin_pure (by kernel_rfl)⟩
end Go.Proofs.Try
namespace Go.Proofs.Try
open Go Go.Pm
set_option linter.unusedVariables false
set_option maxHeartbeats 2000000
set_option maxRecDepth 2000
def m_slices_IndexFunc_int_int_size_check_1_L1 (x : ((List Int) × Int)) : Option (Int ⊕ Unit) :=
  match x with
  | (p0, v201) =>
  if v201 < (p0.length : Int) then
    idx p0 v201 >>= fun v602 =>
    m_size_check_1 v602 >>= fun (v603 : Bool) =>
    if v603 = true then
      some (Sum.inl v201)
    else
    m_slices_IndexFunc_int_int_size_check_1_L1 (p0, (W (v201 + 1)))
  else
  some (Sum.inr ())
  partial_fixpoint
def P_slices_IndexFunc_int_int_size_check_1_L1 : ((List Int) × Int) → (Int ⊕ Unit) → Prop := fun x r => match x with
  | (p0, v201) => ∀ st, prune 0 ((firstRegion (codeAt [1, 0, 1, 0, 0] (bodyOf f150))).bind (env.hint 150).keepAt) st = ⟨kp 19 [(0, (.dat (.lst ((List.map intD) p0)))), (1, (.dat (.raw (.func (.func 132) #[] #[])))), (7, (intPV (p0.length : Int))), (8, (intPV v201))], []⟩ →
    RL prog env (env.hint 150) true (codeAt [1, 0, 1, 0, 0] (bodyOf f150)) 0 st (fun e s => match r with | .inl v601 => e = .ret ∧ ∃ d, s = ⟨sl d 19 [(4, (intPV v601))], []⟩ | .inr (_) => e = .exit 0 ∧ ∃ d, s = ⟨sl d 19 [], []⟩)
theorem w_slices_IndexFunc_int_int_size_check_1_L1 : ∀ x r, m_slices_IndexFunc_int_int_size_check_1_L1 x = some r → P_slices_IndexFunc_int_int_size_check_1_L1 x r := by
  refine m_slices_IndexFunc_int_int_size_check_1_L1.partial_correctness _ (fun m_slices_IndexFunc_int_int_size_check_1_L1 w_slices_IndexFunc_int_int_size_check_1_L1 x r hm => ?_)
  unfold P_slices_IndexFunc_int_int_size_check_1_L1
  obtain ⟨p0, v201⟩ := x
  intro st hst
  refine RL_at hst ?_
  clear hst
  refine R_seq ?_
  refine R_G ?_
  refine G_run 1 ?_
  refine G_end ?_
  refine R_seq ?_
  refine R_ifp (p := v201 < (p0.length : Int)) (rfl) (fun hc => ?_) (fun hc => ?_)
  · replace hm := pos_inv hc hm
    refine R_skip ?_
    refine R_seq ?_
    refine R_block ?_
    refine R_seq ?_
    refine R_G ?_
    refine G_run 2 ?_
    refine G_end ?_
    refine R_seq ?_
    refine R_G ?_
    refine G_run 3 ?_
    obtain ⟨v602, hx, hm⟩ := bind_inv hm
    refine I_idx 1 intD p0 v201 v602 (es := (List.map intD) p0) (d := (intD v602)) rfl hx rfl rfl ?_
    refine G_run 1 ?_
    obtain ⟨v603, hx, hm⟩ := bind_inv hm
    have hq := w_size_check_1 _ _ hx []
    refine G_callP hq ?_
    refine G_end ?_
    refine R_ifp (p := v603 = true) (bool_dec _) (fun hc => ?_) (fun hc => ?_)
    · replace hm := pos_inv hc hm
      refine R_seq ?_
      refine R_G ?_
      refine G_run 2 ?_
      refine G_end ?_
      refine R_ret ?_
      obtain rfl := inj1 hm
      exact ⟨rfl, cut_leaf (by kernel_rfl)⟩
    replace hm := neg_inv hc hm
    refine R_skip ?_
    refine R_G ?_
    refine G_run 2 ?_
    refine G_end ?_
    exact w_slices_IndexFunc_int_int_size_check_1_L1 _ _ hm _ (by kernel_rfl)
  replace hm := neg_inv hc hm
  refine R_exit ?_
  obtain rfl := inj1 hm
  exact ⟨rfl, cut_leaf (by kernel_rfl)⟩
def m_slices_IndexFunc_int_int_size_check_1 (x : (List Int)) : Option Int :=
  match x with
  | p0 =>
  (
  m_slices_IndexFunc_int_int_size_check_1_L1 (p0, 0) >>= fun (out : Int ⊕ Unit) =>
  match out with
  | .inl v601 =>
    some v601
  | .inr (_) =>
    some (-1)
  )
def P_slices_IndexFunc_int_int_size_check_1 : (List Int) → Int → Prop := fun x r => match x, r with
  | p0, r0 => ∀ H, PC prog env 150 ([(.lst ((List.map intD) p0)), (.raw (.func (.func 132) #[] #[]))].map .dat) H (intPV r0) H
theorem w_slices_IndexFunc_int_int_size_check_1 : ∀ x r, m_slices_IndexFunc_int_int_size_check_1 x = some r → P_slices_IndexFunc_int_int_size_check_1 x r := by
  intro p0 r0 hm
  unfold m_slices_IndexFunc_int_int_size_check_1 at hm
  unfold P_slices_IndexFunc_int_int_size_check_1
  intro H
  refine PC_sx (ds := [(.lst ((List.map intD) p0)), (.raw (.func (.func 132) #[] #[]))]) (fn := f150) (by kernel_rfl) (by kernel_rfl) rfl ?_ (by kernel_rfl)
  refine R_seq ?_
  refine R_G ?_
  refine G_run 1 ?_
  refine G_end ?_
  refine R_seq ?_
  refine R_seq ?_
  refine R_G ?_
  refine G_run 1 ?_
  refine I_len intD p0 (es := (List.map intD) p0) rfl ?_
  refine G_run 1 ?_
  refine G_end ?_
  refine R_block ?_
  obtain ⟨out, hs, hm⟩ := bind_inv hm
  refine R_loop ?_
  rcases out with v601 | _
  · refine RL_use (w_slices_IndexFunc_int_int_size_check_1_L1 _ _ hs) (by kernel_rfl) ?_
    clear hs
    intro e s hp
    obtain ⟨rfl, d, rfl⟩ := hp
    obtain rfl := inj1 hm
    exact ⟨trivial, fin_pure (by kernel_rfl)⟩
  · refine RL_use (w_slices_IndexFunc_int_int_size_check_1_L1 _ _ hs) (by kernel_rfl) ?_
    clear hs
    intro e s hp
    obtain ⟨rfl, d, rfl⟩ := hp
    refine R_seq ?_
    refine R_G ?_
    refine G_run 1 ?_
    refine G_end ?_
    refine R_ret ?_
    obtain rfl := inj1 hm
    exact ⟨trivial, fin_pure (by kernel_rfl)⟩
end Go.Proofs.Try
namespace Go.Proofs.Try
open Go Go.Pm
set_option linter.unusedVariables false
set_option maxHeartbeats 2000000
set_option maxRecDepth 2000
def m_slices_ContainsFunc_int_int_size_check_1 (x : (List Int)) : Option Bool :=
  match x with
  | p0 =>
  m_slices_IndexFunc_int_int_size_check_1 p0 >>= fun (v1 : Int) =>
  some (decide (v1 ≥ 0))
def P_slices_ContainsFunc_int_int_size_check_1 : (List Int) → Bool → Prop := fun x r => match x, r with
  | p0, r0 => ∀ H, PC prog env 131 ([(.lst ((List.map intD) p0)), (.raw (.func (.func 132) #[] #[]))].map .dat) H (boolPV r0) H
theorem w_slices_ContainsFunc_int_int_size_check_1 : ∀ x r, m_slices_ContainsFunc_int_int_size_check_1 x = some r → P_slices_ContainsFunc_int_int_size_check_1 x r := by
  intro p0 r0 hm
  unfold m_slices_ContainsFunc_int_int_size_check_1 at hm
  unfold P_slices_ContainsFunc_int_int_size_check_1
  intro H
  refine PC_sx (ds := [(.lst ((List.map intD) p0)), (.raw (.func (.func 132) #[] #[]))]) (fn := f131) (by kernel_rfl) (by kernel_rfl) rfl ?_ (by kernel_rfl)
  refine R_seq ?_
  refine R_G ?_
  refine G_run 1 ?_
  refine G_end ?_
  refine R_seq ?_
  refine R_G ?_
  refine G_run 2 ?_
  obtain ⟨v1, hx, hm⟩ := bind_inv hm
  have hq := w_slices_IndexFunc_int_int_size_check_1 _ _ hx []
  refine G_callP hq ?_
  refine G_run 2 ?_
  refine G_end ?_
  refine R_ret ?_
  obtain rfl := inj1 hm
  exact ⟨trivial, fin_pure (by kernel_rfl)⟩
end Go.Proofs.Try
namespace Go.Proofs.Try
open Go Go.Pm
set_option linter.unusedVariables false
set_option maxHeartbeats 2000000
set_option maxRecDepth 2000
def m_size_check_2 (x : Int) : Option Bool :=
  match x with
  | p0 =>
  some (decide (p0 > 65536))
def P_size_check_2 : Int → Bool → Prop := fun x r => match x, r with
  | p0, r0 => ∀ H, PC prog env 133 ([(intD p0)].map .dat) H (boolPV r0) H
theorem w_size_check_2 : ∀ x r, m_size_check_2 x = some r → P_size_check_2 x r := by
  intro p0 r0 hm
  unfold m_size_check_2 at hm
  unfold P_size_check_2
  intro H
  refine PC_sx (ds := [(intD p0)]) (fn := f133) (by kernel_rfl) (by kernel_rfl) rfl ?_ (by kernel_rfl)
  refine R_seq ?_
  refine R_G ?_
  refine G_run 1 ?_
  refine G_end ?_
  refine R_seq ?_
  refine R_G ?_
  refine G_run 3 ?_
  refine G_end ?_
  refine R_ret ?_
  obtain rfl := inj1 hm
  exact ⟨trivial, fin_pure (by kernel_rfl)⟩
end Go.Proofs.Try
namespace Go.Proofs.Try
open Go Go.Pm
set_option linter.unusedVariables false
set_option maxHeartbeats 2000000
set_option maxRecDepth 2000
def m_slices_IndexFunc_int_int_size_check_2_L1 (x : ((List Int) × Int)) : Option (Int ⊕ Unit) :=
  match x with
  | (p0, v201) =>
  if v201 < (p0.length : Int) then
    idx p0 v201 >>= fun v602 =>
    m_size_check_2 v602 >>= fun (v603 : Bool) =>
    if v603 = true then
      some (Sum.inl v201)
    else
    m_slices_IndexFunc_int_int_size_check_2_L1 (p0, (W (v201 + 1)))
  else
  some (Sum.inr ())
  partial_fixpoint
def P_slices_IndexFunc_int_int_size_check_2_L1 : ((List Int) × Int) → (Int ⊕ Unit) → Prop := fun x r => match x with
  | (p0, v201) => ∀ st, prune 0 ((firstRegion (codeAt [1, 0, 1, 0, 0] (bodyOf f150))).bind (env.hint 150).keepAt) st = ⟨kp 19 [(0, (.dat (.lst ((List.map intD) p0)))), (1, (.dat (.raw (.func (.func 133) #[] #[])))), (7, (intPV (p0.length : Int))), (8, (intPV v201))], []⟩ →
    RL prog env (env.hint 150) true (codeAt [1, 0, 1, 0, 0] (bodyOf f150)) 0 st (fun e s => match r with | .inl v601 => e = .ret ∧ ∃ d, s = ⟨sl d 19 [(4, (intPV v601))], []⟩ | .inr (_) => e = .exit 0 ∧ ∃ d, s = ⟨sl d 19 [], []⟩)
theorem w_slices_IndexFunc_int_int_size_check_2_L1 : ∀ x r, m_slices_IndexFunc_int_int_size_check_2_L1 x = some r → P_slices_IndexFunc_int_int_size_check_2_L1 x r := by
  refine m_slices_IndexFunc_int_int_size_check_2_L1.partial_correctness _ (fun m_slices_IndexFunc_int_int_size_check_2_L1 w_slices_IndexFunc_int_int_size_check_2_L1 x r hm => ?_)
  unfold P_slices_IndexFunc_int_int_size_check_2_L1
  obtain ⟨p0, v201⟩ := x
  intro st hst
  refine RL_at hst ?_
  clear hst
  refine R_seq ?_
  refine R_G ?_
  refine G_run 1 ?_
  refine G_end ?_
  refine R_seq ?_
  refine R_ifp (p := v201 < (p0.length : Int)) (rfl) (fun hc => ?_) (fun hc => ?_)
  · replace hm := pos_inv hc hm
    refine R_skip ?_
    refine R_seq ?_
    refine R_block ?_
    refine R_seq ?_
    refine R_G ?_
    refine G_run 2 ?_
    refine G_end ?_
    refine R_seq ?_
    refine R_G ?_
    refine G_run 3 ?_
    obtain ⟨v602, hx, hm⟩ := bind_inv hm
    refine I_idx 1 intD p0 v201 v602 (es := (List.map intD) p0) (d := (intD v602)) rfl hx rfl rfl ?_
    refine G_run 1 ?_
    obtain ⟨v603, hx, hm⟩ := bind_inv hm
    have hq := w_size_check_2 _ _ hx []
    refine G_callP hq ?_
    refine G_end ?_
    refine R_ifp (p := v603 = true) (bool_dec _) (fun hc => ?_) (fun hc => ?_)
    · replace hm := pos_inv hc hm
      refine R_seq ?_
      refine R_G ?_
      refine G_run 2 ?_
      refine G_end ?_
      refine R_ret ?_
      obtain rfl := inj1 hm
      exact ⟨rfl, cut_leaf (by kernel_rfl)⟩
    replace hm := neg_inv hc hm
    refine R_skip ?_
    refine R_G ?_
    refine G_run 2 ?_
    refine G_end ?_
    exact w_slices_IndexFunc_int_int_size_check_2_L1 _ _ hm _ (by kernel_rfl)
  replace hm := neg_inv hc hm
  refine R_exit ?_
  obtain rfl := inj1 hm
  exact ⟨rfl, cut_leaf (by kernel_rfl)⟩
def m_slices_IndexFunc_int_int_size_check_2 (x : (List Int)) : Option Int :=
  match x with
  | p0 =>
  (
  m_slices_IndexFunc_int_int_size_check_2_L1 (p0, 0) >>= fun (out : Int ⊕ Unit) =>
  match out with
  | .inl v601 =>
    some v601
  | .inr (_) =>
    some (-1)
  )
def P_slices_IndexFunc_int_int_size_check_2 : (List Int) → Int → Prop := fun x r => match x, r with
  | p0, r0 => ∀ H, PC prog env 150 ([(.lst ((List.map intD) p0)), (.raw (.func (.func 133) #[] #[]))].map .dat) H (intPV r0) H
theorem w_slices_IndexFunc_int_int_size_check_2 : ∀ x r, m_slices_IndexFunc_int_int_size_check_2 x = some r → P_slices_IndexFunc_int_int_size_check_2 x r := by
  intro p0 r0 hm
  unfold m_slices_IndexFunc_int_int_size_check_2 at hm
  unfold P_slices_IndexFunc_int_int_size_check_2
  intro H
  refine PC_sx (ds := [(.lst ((List.map intD) p0)), (.raw (.func (.func 133) #[] #[]))]) (fn := f150) (by kernel_rfl) (by kernel_rfl) rfl ?_ (by kernel_rfl)
  refine R_seq ?_
  refine R_G ?_
  refine G_run 1 ?_
  refine G_end ?_
  refine R_seq ?_
  refine R_seq ?_
  refine R_G ?_
  refine G_run 1 ?_
  refine I_len intD p0 (es := (List.map intD) p0) rfl ?_
  refine G_run 1 ?_
  refine G_end ?_
  refine R_block ?_
  obtain ⟨out, hs, hm⟩ := bind_inv hm
  refine R_loop ?_
  rcases out with v601 | _
  · refine RL_use (w_slices_IndexFunc_int_int_size_check_2_L1 _ _ hs) (by kernel_rfl) ?_
    clear hs
    intro e s hp
    obtain ⟨rfl, d, rfl⟩ := hp
    obtain rfl := inj1 hm
    exact ⟨trivial, fin_pure (by kernel_rfl)⟩
  · refine RL_use (w_slices_IndexFunc_int_int_size_check_2_L1 _ _ hs) (by kernel_rfl) ?_
    clear hs
    intro e s hp
    obtain ⟨rfl, d, rfl⟩ := hp
    refine R_seq ?_
    refine R_G ?_
    refine G_run 1 ?_
    refine G_end ?_
    refine R_ret ?_
    obtain rfl := inj1 hm
    exact ⟨trivial, fin_pure (by kernel_rfl)⟩
end Go.Proofs.Try
namespace Go.Proofs.Try
open Go Go.Pm
set_option linter.unusedVariables false
set_option maxHeartbeats 2000000
set_option maxRecDepth 2000
def m_slices_ContainsFunc_int_int_size_check_2 (x : (List Int)) : Option Bool :=
  match x with
  | p0 =>
  m_slices_IndexFunc_int_int_size_check_2 p0 >>= fun (v1 : Int) =>
  some (decide (v1 ≥ 0))
def P_slices_ContainsFunc_int_int_size_check_2 : (List Int) → Bool → Prop := fun x r => match x, r with
  | p0, r0 => ∀ H, PC prog env 131 ([(.lst ((List.map intD) p0)), (.raw (.func (.func 133) #[] #[]))].map .dat) H (boolPV r0) H
theorem w_slices_ContainsFunc_int_int_size_check_2 : ∀ x r, m_slices_ContainsFunc_int_int_size_check_2 x = some r → P_slices_ContainsFunc_int_int_size_check_2 x r := by
  intro p0 r0 hm
  unfold m_slices_ContainsFunc_int_int_size_check_2 at hm
  unfold P_slices_ContainsFunc_int_int_size_check_2
  intro H
  refine PC_sx (ds := [(.lst ((List.map intD) p0)), (.raw (.func (.func 133) #[] #[]))]) (fn := f131) (by kernel_rfl) (by kernel_rfl) rfl ?_ (by kernel_rfl)
  refine R_seq ?_
  refine R_G ?_
  refine G_run 1 ?_
  refine G_end ?_
  refine R_seq ?_
  refine R_G ?_
  refine G_run 2 ?_
  obtain ⟨v1, hx, hm⟩ := bind_inv hm
  have hq := w_slices_IndexFunc_int_int_size_check_2 _ _ hx []
  refine G_callP hq ?_
  refine G_run 2 ?_
  refine G_end ?_
  refine R_ret ?_
  obtain rfl := inj1 hm
  exact ⟨trivial, fin_pure (by kernel_rfl)⟩
end Go.Proofs.Try
namespace Go.Proofs.Try
open Go Go.Pm
set_option linter.unusedVariables false
set_option maxHeartbeats 2000000
set_option maxRecDepth 2000
def m_size_check (x : (List Int)) : Option Int :=
  match x with
  | p0 =>
  m_slices_ContainsFunc_int_int_size_check_1 p0 >>= fun (v1 : Bool) =>
  if v1 = true then
    some 6
  else
  m_slices_ContainsFunc_int_int_size_check_2 p0 >>= fun (v2 : Bool) =>
  if v2 = true then
    some 7
  else
  some 0
def P_size_check : (List Int) → Int → Prop := fun x r => match x, r with
  | p0, r0 => ∀ H, PC prog env 113 ([(.lst ((List.map intD) p0))].map .dat) H (intPV r0) H
theorem w_size_check : ∀ x r, m_size_check x = some r → P_size_check x r := by
  intro p0 r0 hm
  unfold m_size_check at hm
  unfold P_size_check
  intro H
  refine PC_sx (ds := [(.lst ((List.map intD) p0))]) (fn := f113) (by kernel_rfl) (by kernel_rfl) rfl ?_ (by kernel_rfl)
  refine R_seq ?_
  refine R_G ?_
  refine G_run 1 ?_
  refine G_end ?_
  refine R_seq ?_
  refine R_block ?_
  refine R_seq ?_
  refine R_G ?_
  refine G_run 1 ?_
  obtain ⟨v1, hx, hm⟩ := bind_inv hm
  have hq := w_slices_ContainsFunc_int_int_size_check_1 _ _ hx []
  refine G_callP hq ?_
  refine G_run 1 ?_
  refine G_end ?_
  refine R_ifp (p := v1 = true) (bool_dec _) (fun hc => ?_) (fun hc => ?_)
  · replace hm := pos_inv hc hm
    refine R_seq ?_
    refine R_G ?_
    refine G_run 1 ?_
    refine G_end ?_
    refine R_ret ?_
    obtain rfl := inj1 hm
    exact ⟨trivial, fin_pure (by kernel_rfl)⟩
  replace hm := neg_inv hc hm
  refine R_seq ?_
  refine R_G ?_
  refine G_run 1 ?_
  obtain ⟨v2, hx, hm⟩ := bind_inv hm
  have hq := w_slices_ContainsFunc_int_int_size_check_2 _ _ hx []
  refine G_callP hq ?_
  refine G_run 1 ?_
  refine G_end ?_
  refine R_ifp (p := v2 = true) (bool_dec _) (fun hc => ?_) (fun hc => ?_)
  · replace hm := pos_inv hc hm
    refine R_seq ?_
    refine R_G ?_
    refine G_run 1 ?_
    refine G_end ?_
    refine R_ret ?_
    obtain rfl := inj1 hm
    exact ⟨trivial, fin_pure (by kernel_rfl)⟩
  replace hm := neg_inv hc hm
  refine R_skip ?_
  refine R_seq ?_
  refine R_G ?_
  refine G_run 1 ?_
  refine G_end ?_
  refine R_ret ?_
  obtain rfl := inj1 hm
  exact ⟨trivial, fin_pure (by kernel_rfl)⟩
end Go.Proofs.Try
namespace Go.Proofs.Try
open Go Go.Pm
set_option linter.unusedVariables false
set_option maxHeartbeats 2000000
set_option maxRecDepth 2000
def m_slices_Index_int_int_L1 (x : ((List Int) × Int × Int)) : Option (Int ⊕ Unit) :=
  match x with
  | (p0, p1, v201) =>
  if v201 < (p0.length : Int) then
    idx p0 v201 >>= fun v602 =>
    if p1 = v602 then
      some (Sum.inl v201)
    else
    m_slices_Index_int_int_L1 (p0, p1, (W (v201 + 1)))
  else
  some (Sum.inr ())
  partial_fixpoint
def P_slices_Index_int_int_L1 : ((List Int) × Int × Int) → (Int ⊕ Unit) → Prop := fun x r => match x with
  | (p0, p1, v201) => ∀ st, prune 0 ((firstRegion (codeAt [1, 0, 1, 0, 0] (bodyOf f134))).bind (env.hint 134).keepAt) st = ⟨kp 19 [(0, (.dat (.lst ((List.map intD) p0)))), (1, (intPV p1)), (7, (intPV (p0.length : Int))), (8, (intPV v201))], []⟩ →
    RL prog env (env.hint 134) true (codeAt [1, 0, 1, 0, 0] (bodyOf f134)) 0 st (fun e s => match r with | .inl v601 => e = .ret ∧ ∃ d, s = ⟨sl d 19 [(4, (intPV v601))], []⟩ | .inr (_) => e = .exit 0 ∧ ∃ d, s = ⟨sl d 19 [], []⟩)
theorem w_slices_Index_int_int_L1 : ∀ x r, m_slices_Index_int_int_L1 x = some r → P_slices_Index_int_int_L1 x r := by
  refine m_slices_Index_int_int_L1.partial_correctness _ (fun m_slices_Index_int_int_L1 w_slices_Index_int_int_L1 x r hm => ?_)
  unfold P_slices_Index_int_int_L1
  obtain ⟨p0, p1, v201⟩ := x
  intro st hst
  refine RL_at hst ?_
  clear hst
  refine R_seq ?_
  refine R_G ?_
  refine G_run 1 ?_
  refine G_end ?_
  refine R_seq ?_
  refine R_ifp (p := v201 < (p0.length : Int)) (rfl) (fun hc => ?_) (fun hc => ?_)
  · replace hm := pos_inv hc hm
    refine R_skip ?_
    refine R_seq ?_
    refine R_block ?_
    refine R_seq ?_
    refine R_G ?_
    refine G_run 2 ?_
    refine G_end ?_
    refine R_seq ?_
    refine R_G ?_
    refine G_run 3 ?_
    obtain ⟨v602, hx, hm⟩ := bind_inv hm
    refine I_idx 1 intD p0 v201 v602 (es := (List.map intD) p0) (d := (intD v602)) rfl hx rfl rfl ?_
    refine G_run 2 ?_
    refine G_end ?_
    refine R_ifp (p := p1 = v602) (eq_dec _ _) (fun hc => ?_) (fun hc => ?_)
    · replace hm := pos_inv hc hm
      refine R_seq ?_
      refine R_G ?_
      refine G_run 2 ?_
      refine G_end ?_
      refine R_ret ?_
      obtain rfl := inj1 hm
      exact ⟨rfl, cut_leaf (by kernel_rfl)⟩
    replace hm := neg_inv hc hm
    refine R_skip ?_
    refine R_G ?_
    refine G_run 2 ?_
    refine G_end ?_
    exact w_slices_Index_int_int_L1 _ _ hm _ (by kernel_rfl)
  replace hm := neg_inv hc hm
  refine R_exit ?_
  obtain rfl := inj1 hm
  exact ⟨rfl, cut_leaf (by kernel_rfl)⟩
def m_slices_Index_int_int (x : ((List Int) × Int)) : Option Int :=
  match x with
  | (p0, p1) =>
  (
  m_slices_Index_int_int_L1 (p0, p1, 0) >>= fun (out : Int ⊕ Unit) =>
  match out with
  | .inl v601 =>
    some v601
  | .inr (_) =>
    some (-1)
  )
def P_slices_Index_int_int : ((List Int) × Int) → Int → Prop := fun x r => match x, r with
  | (p0, p1), r0 => ∀ H, PC prog env 134 ([(.lst ((List.map intD) p0)), (intD p1)].map .dat) H (intPV r0) H
theorem w_slices_Index_int_int : ∀ x r, m_slices_Index_int_int x = some r → P_slices_Index_int_int x r := by
  intro x r0 hm
  unfold m_slices_Index_int_int at hm
  unfold P_slices_Index_int_int
  obtain ⟨p0, p1⟩ := x
  intro H
  refine PC_sx (ds := [(.lst ((List.map intD) p0)), (intD p1)]) (fn := f134) (by kernel_rfl) (by kernel_rfl) rfl ?_ (by kernel_rfl)
  refine R_seq ?_
  refine R_G ?_
  refine G_run 1 ?_
  refine G_end ?_
  refine R_seq ?_
  refine R_seq ?_
  refine R_G ?_
  refine G_run 1 ?_
  refine I_len intD p0 (es := (List.map intD) p0) rfl ?_
  refine G_run 1 ?_
  refine G_end ?_
  refine R_block ?_
  obtain ⟨out, hs, hm⟩ := bind_inv hm
  refine R_loop ?_
  rcases out with v601 | _
  · refine RL_use (w_slices_Index_int_int_L1 _ _ hs) (by kernel_rfl) ?_
    clear hs
    intro e s hp
    obtain ⟨rfl, d, rfl⟩ := hp
    obtain rfl := inj1 hm
    exact ⟨trivial, fin_pure (by kernel_rfl)⟩
  · refine RL_use (w_slices_Index_int_int_L1 _ _ hs) (by kernel_rfl) ?_
    clear hs
    intro e s hp
    obtain ⟨rfl, d, rfl⟩ := hp
    refine R_seq ?_
    refine R_G ?_
    refine G_run 1 ?_
    refine G_end ?_
    refine R_ret ?_
    obtain rfl := inj1 hm
    exact ⟨trivial, fin_pure (by kernel_rfl)⟩
end Go.Proofs.Try
namespace Go.Proofs.Try
open Go Go.Pm
set_option linter.unusedVariables false
set_option maxHeartbeats 2000000
set_option maxRecDepth 2000
def m_slices_Contains_int_int (x : ((List Int) × Int)) : Option Bool :=
  match x with
  | (p0, p1) =>
  m_slices_Index_int_int (p0, p1) >>= fun (v1 : Int) =>
  some (decide (v1 ≥ 0))
def P_slices_Contains_int_int : ((List Int) × Int) → Bool → Prop := fun x r => match x, r with
  | (p0, p1), r0 => ∀ H, PC prog env 114 ([(.lst ((List.map intD) p0)), (intD p1)].map .dat) H (boolPV r0) H
theorem w_slices_Contains_int_int : ∀ x r, m_slices_Contains_int_int x = some r → P_slices_Contains_int_int x r := by
  intro x r0 hm
  unfold m_slices_Contains_int_int at hm
  unfold P_slices_Contains_int_int
  obtain ⟨p0, p1⟩ := x
  intro H
  refine PC_sx (ds := [(.lst ((List.map intD) p0)), (intD p1)]) (fn := f114) (by kernel_rfl) (by kernel_rfl) rfl ?_ (by kernel_rfl)
  refine R_seq ?_
  refine R_G ?_
  refine G_run 1 ?_
  refine G_end ?_
  refine R_seq ?_
  refine R_G ?_
  refine G_run 2 ?_
  obtain ⟨v1, hx, hm⟩ := bind_inv hm
  have hq := w_slices_Index_int_int _ _ hx []
  refine G_callP hq ?_
  refine G_run 2 ?_
  refine G_end ?_
  refine R_ret ?_
  obtain rfl := inj1 hm
  exact ⟨trivial, fin_pure (by kernel_rfl)⟩
end Go.Proofs.Try
namespace Go.Proofs.Try
open Go Go.Pm
set_option linter.unusedVariables false
set_option maxHeartbeats 2000000
set_option maxRecDepth 2000
def m_size_Mul (x : (Int × Int × Int)) : Option (Int × Bool) :=
  match x with
  | (p0, p1, p2) =>
  ((if p0 < 0 then
    some true
  else
  some (decide (p1 < 0))
  ) >>= fun (v2 : Bool) =>
  (if v2 = true then
    some true
  else
  some (decide (p0 > p2))
  ) >>= fun (v3 : Bool) =>
  (if v3 = true then
    some true
  else
  some (decide (p1 > p2))
  ) >>= fun (v4 : Bool) =>
  if v4 = true then
    some true
  else
  if p1 > 0 then
    quoM p2 p1 >>= fun v5 =>
    some (decide (p0 > v5))
  else
  some false
  ) >>= fun (v1 : Bool) =>
  if v1 = true then
    some (0, false)
  else
  some ((W (p0 * p1)), true)
def P_size_Mul : (Int × Int × Int) → (Int × Bool) → Prop := fun x r => match x, r with
  | (p0, p1, p2), (r0, r1) => ∀ H, PC prog env 116 ([(intD p0), (intD p1), (intD p2)].map .dat) H (.tup [(intPV r0), (boolPV r1)]) H
theorem w_size_Mul : ∀ x r, m_size_Mul x = some r → P_size_Mul x r := by
  intro x r hm
  unfold m_size_Mul at hm
  unfold P_size_Mul
  obtain ⟨p0, p1, p2⟩ := x
  obtain ⟨r0, r1⟩ := r
  intro H
  refine PC_sx (ds := [(intD p0), (intD p1), (intD p2)]) (fn := f116) (by kernel_rfl) (by kernel_rfl) rfl ?_ (by kernel_rfl)
  refine R_seq ?_
  refine R_G ?_
  refine G_run 2 ?_
  refine G_end ?_
  refine R_seq ?_
  refine R_seq ?_
  obtain ⟨v1, hs, hm⟩ := bind_inv hm
  refine R_cut (fun d => ⟨sl d 38 [(0, (intPV p0)), (1, (intPV p1)), (34, (boolPV v1))], []⟩) ?_ (fun d => ?_)
  · replace hm := hs
    clear hs
    refine R_GN ?_
    refine G_run 3 ?_
    obtain ⟨v2, hs, hm⟩ := bind_inv hm
    refine G_cut (j := 6) (fun d => ⟨sl d 38 [(0, (intPV p0)), (1, (intPV p1)), (2, (intPV p2)), (6, (intPV 0)), (7, (boolPV false)), (8, (intPV p0)), (9, (boolPV (decide (p0 < 0)))), (13, (boolPV v2))], []⟩) (fun d => ?_) (fun hJ => ?_)
    · clear hs
      refine G_run 1 ?_
      obtain ⟨v3, hs, hm⟩ := bind_inv hm
      refine G_cut (j := 11) (fun d => ⟨sl d 38 [(0, (intPV p0)), (1, (intPV p1)), (2, (intPV p2)), (6, (intPV 0)), (7, (boolPV false)), (8, (intPV p0)), (9, (boolPV (decide (p0 < 0)))), (13, (boolPV v2)), (18, (boolPV v3))], []⟩) (fun d => ?_) (fun hJ => ?_)
      · clear hs
        refine G_run 1 ?_
        obtain ⟨v4, hs, hm⟩ := bind_inv hm
        refine G_cut (j := 16) (fun d => ⟨sl d 38 [(0, (intPV p0)), (1, (intPV p1)), (2, (intPV p2)), (6, (intPV 0)), (7, (boolPV false)), (8, (intPV p0)), (9, (boolPV (decide (p0 < 0)))), (13, (boolPV v2)), (18, (boolPV v3)), (23, (boolPV v4))], []⟩) (fun d => ?_) (fun hJ => ?_)
        · clear hs
          refine G_run 1 ?_
          refine G_split (p := v4 = true) 24 (bool_dec _) (fun hc => ?_) (fun hc => ?_)
          · replace hm := pos_inv hc hm
            refine G_run 10 ?_
            refine G_end ⟨by kernel_rfl, ?_⟩
            obtain rfl := inj1 hm
            exact cut_leaf (by kernel_rfl)
          replace hm := neg_inv hc hm
          refine G_run 3 ?_
          refine G_split (p := p1 > 0) 27 (rfl) (fun hc => ?_) (fun hc => ?_)
          · replace hm := pos_inv hc hm
            refine G_run 3 ?_
            obtain ⟨v5, hx, hm⟩ := bind_inv hm
            refine G_semN rfl (by kernel_rfl) (fun _ => E_quo (a := p2) (b := p1) hx rfl (by kernel_rfl) (by kernel_rfl)) ?_
            refine G_run 3 ?_
            refine G_end ⟨by kernel_rfl, ?_⟩
            obtain rfl := inj1 hm
            exact cut_leaf (by kernel_rfl)
          replace hm := neg_inv hc hm
          refine G_run 7 ?_
          refine G_end ⟨by kernel_rfl, ?_⟩
          obtain rfl := inj1 hm
          exact cut_leaf (by kernel_rfl)
        replace hm := hs
        clear hs
        refine G_split (p := v3 = true) 19 (bool_dec _) (fun hc => ?_) (fun hc => ?_)
        · replace hm := pos_inv hc hm
          refine G_run 4 ?_
          obtain rfl := inj1 hm
          exact hJ _ _ (by kernel_rfl) (by kernel_rfl)
        replace hm := neg_inv hc hm
        refine G_run 4 ?_
        obtain rfl := inj1 hm
        exact hJ _ _ (by kernel_rfl) (by kernel_rfl)
      replace hm := hs
      clear hs
      refine G_split (p := v2 = true) 14 (bool_dec _) (fun hc => ?_) (fun hc => ?_)
      · replace hm := pos_inv hc hm
        refine G_run 4 ?_
        obtain rfl := inj1 hm
        exact hJ _ _ (by kernel_rfl) (by kernel_rfl)
      replace hm := neg_inv hc hm
      refine G_run 4 ?_
      obtain rfl := inj1 hm
      exact hJ _ _ (by kernel_rfl) (by kernel_rfl)
    replace hm := hs
    clear hs
    refine G_split (p := p0 < 0) 10 (rfl) (fun hc => ?_) (fun hc => ?_)
    · replace hm := pos_inv hc hm
      refine G_run 3 ?_
      obtain rfl := inj1 hm
      exact hJ _ _ (by kernel_rfl) (by kernel_rfl)
    replace hm := neg_inv hc hm
    refine G_run 3 ?_
    obtain rfl := inj1 hm
    exact hJ _ _ (by kernel_rfl) (by kernel_rfl)
  clear hs
  refine R_ifp (p := v1 = true) (bool_dec _) (fun hc => ?_) (fun hc => ?_)
  · replace hm := pos_inv hc hm
    refine R_seq ?_
    refine R_G ?_
    refine G_run 2 ?_
    refine G_end ?_
    refine R_ret ?_
    obtain ⟨rfl, rfl⟩ := inj2 hm
    exact ⟨trivial, fin_pure (by kernel_rfl)⟩
  replace hm := neg_inv hc hm
  refine R_skip ?_
  refine R_seq ?_
  refine R_G ?_
  refine G_run 5 ?_
  refine G_end ?_
  refine R_ret ?_
  obtain ⟨rfl, rfl⟩ := inj2 hm
  exact ⟨trivial, fin_pure (by kernel_rfl)⟩
end Go.Proofs.Try
namespace Go.Proofs.Try
open Go Go.Pm
set_option linter.unusedVariables false
set_option maxHeartbeats 2000000
set_option maxRecDepth 2000
def m_size_Product_1 (x : (Int × Int)) : Option (Int × Bool) :=
  match x with
  | (p0, p1) =>
  m_size_Mul (p0, p1, 65536) >>= fun ((v1, v2) : (Int × Bool)) =>
  some (v1, v2)
def P_size_Product_1 : (Int × Int) → (Int × Bool) → Prop := fun x r => match x, r with
  | (p0, p1), (r0, r1) => ∀ H, PC prog env 115 ([(intD p0), (intD p1)].map .dat) H (.tup [(intPV r0), (boolPV r1)]) H
theorem w_size_Product_1 : ∀ x r, m_size_Product_1 x = some r → P_size_Product_1 x r := by
  intro x r hm
  unfold m_size_Product_1 at hm
  unfold P_size_Product_1
  obtain ⟨p0, p1⟩ := x
  obtain ⟨r0, r1⟩ := r
  intro H
  refine PC_sx (ds := [(intD p0), (intD p1)]) (fn := f115) (by kernel_rfl) (by kernel_rfl) rfl ?_ (by kernel_rfl)
  refine R_seq ?_
  refine R_G ?_
  refine G_run 2 ?_
  refine G_end ?_
  refine R_seq ?_
  refine R_G ?_
  refine G_run 2 ?_
  obtain ⟨⟨v1, v2⟩, hx, hm⟩ := bind_inv hm
  have hq := w_size_Mul _ _ hx []
  refine G_callP hq ?_
  refine G_run 4 ?_
  refine G_end ?_
  refine R_ret ?_
  obtain ⟨rfl, rfl⟩ := inj2 hm
  exact ⟨trivial, fin_pure (by kernel_rfl)⟩
end Go.Proofs.Try
namespace Go.Proofs.Try
open Go Go.Pm
set_option linter.unusedVariables false
set_option maxHeartbeats 2000000
set_option maxRecDepth 2000
def m_size_fold_int_size_Product_1_L1 (x : ((List Int) × Int × Int)) : Option (Int ⊕ Int) :=
  match x with
  | (p0, v201, v202) =>
  if v202 < (p0.length : Int) then
    idx p0 v202 >>= fun v603 =>
    m_size_Product_1 (v201, v603) >>= fun ((v604, v605) : (Int × Bool)) =>
    if v605 = false then
      some (Sum.inl v604)
    else
    m_size_fold_int_size_Product_1_L1 (p0, v604, (W (v202 + 1)))
  else
  some (Sum.inr v201)
  partial_fixpoint
def P_size_fold_int_size_Product_1_L1 : ((List Int) × Int × Int) → (Int ⊕ Int) → Prop := fun x r => match x with
  | (p0, v201, v202) => ∀ st, prune 0 ((firstRegion (codeAt [1, 1, 0, 1, 0, 0] (bodyOf f119))).bind (env.hint 119).keepAt) st = ⟨kp 31 [(2, (.dat (.raw (.func (.func 115) #[] #[])))), (8, (intPV v201)), (13, (.dat (.lst ((List.map intD) p0)))), (14, (intPV (p0.length : Int))), (15, (intPV v202))], []⟩ →
    RL prog env (env.hint 119) true (codeAt [1, 1, 0, 1, 0, 0] (bodyOf f119)) 0 st (fun e s => match r with | .inl v601 => e = .ret ∧ ∃ d, s = ⟨sl d 31 [(6, (intPV v601)), (7, (boolPV false))], []⟩ | .inr (v602) => e = .exit 0 ∧ ∃ d, s = ⟨sl d 31 [(8, (intPV v602))], []⟩)
theorem w_size_fold_int_size_Product_1_L1 : ∀ x r, m_size_fold_int_size_Product_1_L1 x = some r → P_size_fold_int_size_Product_1_L1 x r := by
  refine m_size_fold_int_size_Product_1_L1.partial_correctness _ (fun m_size_fold_int_size_Product_1_L1 w_size_fold_int_size_Product_1_L1 x r hm => ?_)
  unfold P_size_fold_int_size_Product_1_L1
  obtain ⟨p0, v201, v202⟩ := x
  intro st hst
  refine RL_at hst ?_
  clear hst
  refine R_seq ?_
  refine R_G ?_
  refine G_run 1 ?_
  refine G_end ?_
  refine R_seq ?_
  refine R_ifp (p := v202 < (p0.length : Int)) (rfl) (fun hc => ?_) (fun hc => ?_)
  · replace hm := pos_inv hc hm
    refine R_skip ?_
    refine R_seq ?_
    refine R_block ?_
    refine R_seq ?_
    refine R_G ?_
    obtain ⟨v603, hx, hm⟩ := bind_inv hm
    refine I_idx 1 intD p0 v202 v603 (es := (List.map intD) p0) (d := (intD v603)) rfl hx rfl rfl ?_
    refine G_run 2 ?_
    refine G_end ?_
    refine R_seq ?_
    refine R_G ?_
    refine G_run 3 ?_
    obtain ⟨⟨v604, v605⟩, hx, hm⟩ := bind_inv hm
    have hq := w_size_Product_1 _ _ hx []
    refine G_callP hq ?_
    refine G_run 5 ?_
    refine G_end ?_
    refine R_seq ?_
    refine R_G ?_
    refine G_run 2 ?_
    refine G_end ?_
    refine R_ifp (p := v605 = false) (not_dec _) (fun hc => ?_) (fun hc => ?_)
    · replace hm := pos_inv hc hm
      refine R_seq ?_
      refine R_G ?_
      refine G_run 3 ?_
      refine G_end ?_
      refine R_ret ?_
      obtain rfl := inj1 hm
      exact ⟨rfl, cut_leaf (by kernel_rfl)⟩
    replace hm := neg_inv hc hm
    refine R_skip ?_
    refine R_G ?_
    refine G_run 2 ?_
    refine G_end ?_
    exact w_size_fold_int_size_Product_1_L1 _ _ hm _ (by kernel_rfl)
  replace hm := neg_inv hc hm
  refine R_exit ?_
  obtain rfl := inj1 hm
  exact ⟨rfl, cut_leaf (by kernel_rfl)⟩
def m_size_fold_int_size_Product_1 (x : ((List Int) × Int)) : Option (Int × Bool) :=
  match x with
  | (p0, p1) =>
  (
  m_size_fold_int_size_Product_1_L1 (p0, p1, 0) >>= fun (out : Int ⊕ Int) =>
  match out with
  | .inl v601 =>
    some (v601, false)
  | .inr (v602) =>
    some (v602, true)
  )
def P_size_fold_int_size_Product_1 : ((List Int) × Int) → (Int × Bool) → Prop := fun x r => match x, r with
  | (p0, p1), (r0, r1) => ∀ H, PC prog env 119 ([(.lst ((List.map intD) p0)), (intD p1), (.raw (.func (.func 115) #[] #[]))].map .dat) H (.tup [(intPV r0), (boolPV r1)]) H
theorem w_size_fold_int_size_Product_1 : ∀ x r, m_size_fold_int_size_Product_1 x = some r → P_size_fold_int_size_Product_1 x r := by
  intro x r hm
  unfold m_size_fold_int_size_Product_1 at hm
  unfold P_size_fold_int_size_Product_1
  obtain ⟨p0, p1⟩ := x
  obtain ⟨r0, r1⟩ := r
  intro H
  refine PC_sx (ds := [(.lst ((List.map intD) p0)), (intD p1), (.raw (.func (.func 115) #[] #[]))]) (fn := f119) (by kernel_rfl) (by kernel_rfl) rfl ?_ (by kernel_rfl)
  refine R_seq ?_
  refine R_G ?_
  refine G_run 2 ?_
  refine G_end ?_
  refine R_seq ?_
  refine R_G ?_
  refine G_run 3 ?_
  refine G_end ?_
  refine R_seq ?_
  refine R_seq ?_
  refine R_G ?_
  refine G_run 1 ?_
  refine I_len intD p0 (es := (List.map intD) p0) rfl ?_
  refine G_run 1 ?_
  refine G_end ?_
  refine R_block ?_
  obtain ⟨out, hs, hm⟩ := bind_inv hm
  refine R_loop ?_
  rcases out with v601 | v602
  · refine RL_use (w_size_fold_int_size_Product_1_L1 _ _ hs) (by kernel_rfl) ?_
    clear hs
    intro e s hp
    obtain ⟨rfl, d, rfl⟩ := hp
    obtain ⟨rfl, rfl⟩ := inj2 hm
    exact ⟨trivial, fin_pure (by kernel_rfl)⟩
  · refine RL_use (w_size_fold_int_size_Product_1_L1 _ _ hs) (by kernel_rfl) ?_
    clear hs
    intro e s hp
    obtain ⟨rfl, d, rfl⟩ := hp
    refine R_seq ?_
    refine R_G ?_
    refine G_run 3 ?_
    refine G_end ?_
    refine R_ret ?_
    obtain ⟨rfl, rfl⟩ := inj2 hm
    exact ⟨trivial, fin_pure (by kernel_rfl)⟩
end Go.Proofs.Try
namespace Go.Proofs.Try
open Go Go.Pm
set_option linter.unusedVariables false
set_option maxHeartbeats 2000000
set_option maxRecDepth 2000
def m_size_combined_size_Product_1 (x : ((List Int) × Int)) : Option (Int × Int) :=
  match x with
  | (p0, p1) =>
  m_size_check p0 >>= fun (v1 : Int) =>
  if v1 ≠ 0 then
    some (0, v1)
  else
  m_size_fold_int_size_Product_1 (p0, p1) >>= fun ((v2, v3) : (Int × Bool)) =>
  if v3 = false then
    some (0, 7)
  else
  some (v2, 0)
def P_size_combined_size_Product_1 : ((List Int) × Int) → (Int × Int) → Prop := fun x r => match x, r with
  | (p0, p1), (r0, r1) => ∀ H, PC prog env 100 ([(.lst ((List.map intD) p0)), (intD p1), (.raw (.func (.func 115) #[] #[]))].map .dat) H (.tup [(intPV r0), (intPV r1)]) H
theorem w_size_combined_size_Product_1 : ∀ x r, m_size_combined_size_Product_1 x = some r → P_size_combined_size_Product_1 x r := by
  intro x r hm
  unfold m_size_combined_size_Product_1 at hm
  unfold P_size_combined_size_Product_1
  obtain ⟨p0, p1⟩ := x
  obtain ⟨r0, r1⟩ := r
  intro H
  refine PC_sx (ds := [(.lst ((List.map intD) p0)), (intD p1), (.raw (.func (.func 115) #[] #[]))]) (fn := f100) (by kernel_rfl) (by kernel_rfl) rfl ?_ (by kernel_rfl)
  refine R_seq ?_
  refine R_G ?_
  refine G_run 2 ?_
  refine G_end ?_
  refine R_seq ?_
  refine R_seq ?_
  refine R_G ?_
  refine G_run 1 ?_
  obtain ⟨v1, hx, hm⟩ := bind_inv hm
  have hq := w_size_check _ _ hx []
  refine G_callP hq ?_
  refine G_run 1 ?_
  refine G_end ?_
  refine R_seq ?_
  refine R_G ?_
  refine G_run 2 ?_
  refine G_end ?_
  refine R_ifp (p := v1 ≠ 0) (ne_dec _ _) (fun hc => ?_) (fun hc => ?_)
  · replace hm := pos_inv hc hm
    refine R_seq ?_
    refine R_G ?_
    refine G_run 3 ?_
    refine G_end ?_
    refine R_ret ?_
    obtain ⟨rfl, rfl⟩ := inj2 hm
    exact ⟨trivial, fin_pure (by kernel_rfl)⟩
  replace hm := neg_inv hc hm
  refine R_skip ?_
  refine R_seq ?_
  refine R_G ?_
  refine G_run 3 ?_
  obtain ⟨⟨v2, v3⟩, hx, hm⟩ := bind_inv hm
  have hq := w_size_fold_int_size_Product_1 _ _ hx []
  refine G_callP hq ?_
  refine G_run 5 ?_
  refine G_end ?_
  refine R_seq ?_
  refine R_seq ?_
  refine R_G ?_
  refine G_run 2 ?_
  refine G_end ?_
  refine R_ifp (p := v3 = false) (not_dec _) (fun hc => ?_) (fun hc => ?_)
  · replace hm := pos_inv hc hm
    refine R_seq ?_
    refine R_G ?_
    refine G_run 2 ?_
    refine G_end ?_
    refine R_ret ?_
    obtain ⟨rfl, rfl⟩ := inj2 hm
    exact ⟨trivial, fin_pure (by kernel_rfl)⟩
  replace hm := neg_inv hc hm
  refine R_skip ?_
  refine R_seq ?_
  refine R_G ?_
  refine G_run 3 ?_
  refine G_end ?_
  refine R_ret ?_
  obtain ⟨rfl, rfl⟩ := inj2 hm
  exact ⟨trivial, fin_pure (by kernel_rfl)⟩
end Go.Proofs.Try
namespace Go.Proofs.Try
open Go Go.Pm
set_option linter.unusedVariables false
set_option maxHeartbeats 2000000
set_option maxRecDepth 2000
def m_size_Product (x : (List Int)) : Option (Int × Int) :=
  match x with
  | p0 =>
  m_size_check p0 >>= fun (v1 : Int) =>
  (if v1 = 0 then
    m_slices_Contains_int_int (p0, 0) >>= fun (v3 : Bool) =>
    some v3
  else
  some false
  ) >>= fun (v2 : Bool) =>
  if v2 = true then
    some (0, 0)
  else
  m_size_combined_size_Product_1 (p0, 1) >>= fun ((v4, v5) : (Int × Int)) =>
  some (v4, v5)
def P_size_Product : (List Int) → (Int × Int) → Prop := fun x r => match x, r with
  | p0, (r0, r1) => ∀ H, PC prog env 96 ([(.lst ((List.map intD) p0))].map .dat) H (.tup [(intPV r0), (intPV r1)]) H
theorem w_size_Product : ∀ x r, m_size_Product x = some r → P_size_Product x r := by
  intro p0 r hm
  unfold m_size_Product at hm
  unfold P_size_Product
  obtain ⟨r0, r1⟩ := r
  intro H
  refine PC_sx (ds := [(.lst ((List.map intD) p0))]) (fn := f96) (by kernel_rfl) (by kernel_rfl) rfl ?_ (by kernel_rfl)
  refine R_seq ?_
  refine R_G ?_
  refine G_run 2 ?_
  refine G_end ?_
  refine R_seq ?_
  refine R_seq ?_
  refine R_G ?_
  refine G_run 1 ?_
  obtain ⟨v1, hx, hm⟩ := bind_inv hm
  have hq := w_size_check _ _ hx []
  refine G_callP hq ?_
  refine G_run 1 ?_
  refine G_end ?_
  refine R_seq ?_
  obtain ⟨v2, hs, hm⟩ := bind_inv hm
  refine R_cut (fun d => ⟨sl d 17 [(0, (.dat (.lst ((List.map intD) p0)))), (12, (boolPV v2))], []⟩) ?_ (fun d => ?_)
  · replace hm := hs
    clear hs
    refine R_G ?_
    refine G_run 3 ?_
    refine G_split (p := v1 = 0) 9 (eq_dec _ _) (fun hc => ?_) (fun hc => ?_)
    · replace hm := pos_inv hc hm
      refine G_run 1 ?_
      obtain ⟨v3, hx, hm⟩ := bind_inv hm
      have hq := w_slices_Contains_int_int _ _ hx []
      refine G_callP hq ?_
      refine G_run 1 ?_
      refine G_end ?_
      obtain rfl := inj1 hm
      exact cut_leaf (by kernel_rfl)
    replace hm := neg_inv hc hm
    refine G_run 3 ?_
    refine G_end ?_
    obtain rfl := inj1 hm
    exact cut_leaf (by kernel_rfl)
  clear hs
  refine R_ifp (p := v2 = true) (bool_dec _) (fun hc => ?_) (fun hc => ?_)
  · replace hm := pos_inv hc hm
    refine R_seq ?_
    refine R_G ?_
    refine G_run 2 ?_
    refine G_end ?_
    refine R_ret ?_
    obtain ⟨rfl, rfl⟩ := inj2 hm
    exact ⟨trivial, fin_pure (by kernel_rfl)⟩
  replace hm := neg_inv hc hm
  refine R_skip ?_
  refine R_seq ?_
  refine R_G ?_
  refine G_run 1 ?_
  obtain ⟨⟨v4, v5⟩, hx, hm⟩ := bind_inv hm
  have hq := w_size_combined_size_Product_1 _ _ hx []
  refine G_callP hq ?_
  refine G_run 4 ?_
  refine G_end ?_
  refine R_ret ?_
  obtain ⟨rfl, rfl⟩ := inj2 hm
  exact ⟨trivial, fin_pure (by kernel_rfl)⟩
end Go.Proofs.Try
namespace Go.Proofs.Try
open Go Go.Pm
set_option linter.unusedVariables false
set_option maxHeartbeats 2000000
set_option maxRecDepth 2000
def m_shape_Check (x : (List Int)) : Option Int :=
  match x with
  | p0 =>
  m_size_Product p0 >>= fun ((v1, v2) : (Int × Int)) =>
  (if v2 ≠ 6 then
    some (decide ((p0.length : Int) > 16))
  else
  some false
  ) >>= fun (v3 : Bool) =>
  if v3 = true then
    some 7
  else
  some v2
def P_shape_Check : (List Int) → Int → Prop := fun x r => match x, r with
  | p0, r0 => ∀ H, PC prog env 75 ([(.lst ((List.map intD) p0))].map .dat) H (intPV r0) H
theorem w_shape_Check : ∀ x r, m_shape_Check x = some r → P_shape_Check x r := by
  intro p0 r0 hm
  unfold m_shape_Check at hm
  unfold P_shape_Check
  intro H
  refine PC_sx (ds := [(.lst ((List.map intD) p0))]) (fn := f75) (by kernel_rfl) (by kernel_rfl) rfl ?_ (by kernel_rfl)
  refine R_seq ?_
  refine R_G ?_
  refine G_run 1 ?_
  refine G_end ?_
  refine R_seq ?_
  refine R_G ?_
  refine G_run 1 ?_
  obtain ⟨⟨v1, v2⟩, hx, hm⟩ := bind_inv hm
  have hq := w_size_Product _ _ hx []
  refine G_callP hq ?_
  refine G_run 5 ?_
  refine G_end ?_
  refine R_seq ?_
  refine R_seq ?_
  obtain ⟨v3, hs, hm⟩ := bind_inv hm
  refine R_cut (fun d => ⟨sl d 18 [(4, (intPV v2)), (16, (boolPV v3))], []⟩) ?_ (fun d => ?_)
  · replace hm := hs
    clear hs
    refine R_G ?_
    refine G_run 3 ?_
    refine G_split (p := v2 ≠ 6) 12 (ne_dec _ _) (fun hc => ?_) (fun hc => ?_)
    · replace hm := pos_inv hc hm
      refine G_run 1 ?_
      refine I_len intD p0 (es := (List.map intD) p0) rfl ?_
      refine G_run 2 ?_
      refine G_end ?_
      obtain rfl := inj1 hm
      exact cut_leaf (by kernel_rfl)
    replace hm := neg_inv hc hm
    refine G_run 4 ?_
    refine G_end ?_
    obtain rfl := inj1 hm
    exact cut_leaf (by kernel_rfl)
  clear hs
  refine R_ifp (p := v3 = true) (bool_dec _) (fun hc => ?_) (fun hc => ?_)
  · replace hm := pos_inv hc hm
    refine R_seq ?_
    refine R_G ?_
    refine G_run 1 ?_
    refine G_end ?_
    refine R_ret ?_
    obtain rfl := inj1 hm
    exact ⟨trivial, fin_pure (by kernel_rfl)⟩
  replace hm := neg_inv hc hm
  refine R_skip ?_
  refine R_seq ?_
  refine R_G ?_
  refine G_run 2 ?_
  refine G_end ?_
  refine R_ret ?_
  obtain rfl := inj1 hm
  exact ⟨trivial, fin_pure (by kernel_rfl)⟩
end Go.Proofs.Try
namespace Go.Proofs.Try
open Go Go.Pm
set_option linter.unusedVariables false
set_option maxHeartbeats 2000000
set_option maxRecDepth 2000
def m_slices_Clone_int_int (x : List Int) : Option (List Int) := app 8 [] x
def cgm_slices_Clone_int_int (l : List Int) : Nat := match l with | [] => 0 | _ => 1
def P_slices_Clone_int_int : List Int → List Int → Prop := fun x r => PC prog env 48 [.dat (.lst ((List.map intD) x))] [] (.ms 0 (cgm_slices_Clone_int_int r) 0 r.length r.length) [.mt 3 (cgm_slices_Clone_int_int r) (cellsOf intD r)]
theorem w_slices_Clone_int_int : ∀ x r, m_slices_Clone_int_int x = some r → P_slices_Clone_int_int x r := by
  intro x r hm
  obtain ⟨hroom, hr⟩ := app_some hm
  have hr : r = x := hr
  subst hr
  unfold P_slices_Clone_int_int
  cases r with
  | nil => exact PC_of (n := 20) (by kernel_rfl)
  | cons a l =>
    refine PC_sxB (fn := f48) (by kernel_rfl) (by kernel_rfl) rfl ?_
    refine R_seq ?_
    refine R_G ?_
    refine G_run 1 ?_
    refine G_end ?_
    refine R_seq ?_
    refine R_seq ?_
    refine R_G ?_
    refine G_run 1 ?_
    refine G_semN rfl (by kernel_rfl) (fun _ => E_lstNil (p := .dat (.lst ((List.map intD) (a :: l)))) (b := false) rfl (by kernel_rfl) (by kernel_rfl) (by kernel_rfl)) ?_
    refine G_end ?_
    refine R_false (by kernel_rfl) ?_
    refine R_skip ?_
    refine R_seq ?_
    refine R_G ?_
    refine G_run 2 ?_
    refine G_semH (v := .ms 0 1 0 (a :: l).length (a :: l).length) (fun H => H.set 0 (.mt 3 1 (cellsOf intD (a :: l)))) rfl (by kernel_rfl) (fun _ hk => E_apMs intD (l := []) (es := a :: l) (bytes := 8) (e := 3) (tt := 0) (g := 0) (m := 0) hm (fun _ => rfl) (by kernel_rfl) (by kernel_rfl) (by kernel_rfl) (by kernel_rfl) rfl rfl (by kernel_rfl) rfl (by kernel_rfl) (source_lst (fun _ => rfl)) hk) ?_
    refine G_run 1 ?_
    refine G_end ?_
    refine R_ret ?_
    exact ⟨trivial, fin_body (by kernel_rfl) (by kernel_rfl)⟩
end Go.Proofs.Try
namespace Go.Proofs.Try
open Go Go.Pm
set_option linter.unusedVariables false
set_option maxHeartbeats 2000000
set_option maxRecDepth 2000
def m_rule_starts_1_b165d (x : ((List Int) × Bool × (List Int) × (List Int) × (List Int) × Nat)) : Option (Unit) :=
  match x with
  | (q0, q1, q2, q3, q4, q5) =>
  some ()
def P_rule_starts_1_b165d : ((List Int) × Bool × (List Int) × (List Int) × (List Int) × Nat) → Unit → Prop := fun x r => match x with
  | (q0, q1, q2, q3, q4, q5) => PC prog env 83 [(.ptr 9 0), (.ptr 4 0)] [(.box [(.dat (.lst ((List.map intD) q0))), (boolPV q1)]), (.box [(.dat (.lst ((List.map intD) []))), (.dat (.lst ((List.map intD) []))), (.dat (.lst ((List.map intD) []))), (.dat (.lst ((List.map intD) []))), (intPV 0), (intPV 0), (.dat (.lst ((List.map intD) [])))]), (.tok 3 q5), (.tok 3 q2.length), (.box [(.vec 3 ((List.map intD) q2))]), (.box [(.fn 83 [(.ptr 4 0)])]), (.box [(.dat (.lst ((List.map intD) []))), (.dat (.lst ((List.map intD) []))), (.dat (.lst ((List.map intD) []))), (.dat (.lst ((List.map intD) []))), (intPV 0), (intPV 0), (.dat (.lst ((List.map intD) [])))]), (.mt 3 1 (cellsOf intD q3)), (.mt 3 1 (cellsOf intD q4)), (.box [(.dat (.lst ((List.map intD) []))), (.ms 7 1 0 q3.length q3.length), (.ms 8 1 0 q4.length q4.length), (.dat (.lst ((List.map intD) []))), (intPV (-1)), (intPV 0), (.dat (.lst ((List.map intD) [])))])] (match r with | _ => (.tup [])) (match r with | _ => [(.box [(.dat (.lst ((List.map intD) q0))), (boolPV q1)]), (.box [(.dat (.lst ((List.map intD) []))), (.dat (.lst ((List.map intD) []))), (.dat (.lst ((List.map intD) []))), (.dat (.lst ((List.map intD) []))), (intPV 0), (intPV 0), (.dat (.lst ((List.map intD) [])))]), (.tok 3 q5), (.tok 3 q2.length), (.box [(.vec 3 ((List.map intD) q2))]), (.box [(.fn 83 [(.ptr 4 0)])]), (.box [(.dat (.lst ((List.map intD) []))), (.dat (.lst ((List.map intD) []))), (.dat (.lst ((List.map intD) []))), (.dat (.lst ((List.map intD) []))), (intPV 0), (intPV 0), (.dat (.lst ((List.map intD) [])))]), (.mt 3 1 (cellsOf intD q3)), (.mt 3 1 (cellsOf intD q4)), (.box [(.dat (.lst ((List.map intD) []))), (.ms 7 1 0 q3.length q3.length), (.ms 8 1 0 q4.length q4.length), (.vec 3 ((List.map intD) q2)), (intPV (-1)), (intPV 0), (.dat (.lst ((List.map intD) [])))])])
theorem w_rule_starts_1_b165d : ∀ x r, m_rule_starts_1_b165d x = some r → P_rule_starts_1_b165d x r := by
  intro x r hm
  unfold m_rule_starts_1_b165d at hm
  unfold P_rule_starts_1_b165d
  obtain ⟨q0, q1, q2, q3, q4, q5⟩ := x
  refine PC_sxB (fn := f83) (by kernel_rfl) (by kernel_rfl) rfl ?_
  refine R_G ?_
  refine G_run 5 ?_
  refine G_end ?_
  obtain rfl := inj1 hm
  exact ⟨trivial, fin_body (by kernel_rfl) (by kernel_rfl)⟩
end Go.Proofs.Try
namespace Go.Proofs.Try
open Go Go.Pm
set_option linter.unusedVariables false
set_option maxHeartbeats 2000000
set_option maxRecDepth 2000
def m_rule_made_b9c47 (x : ((List Int) × (List Int) × (List Int) × Bool × (List Int))) : Option (Int ⊕ ((List Int) × (List Int))) :=
  match x with
  | (q0, q1, q2, q3, q4) =>
  m_shape_Check q1 >>= fun (v1 : Int) =>
  if v1 ≠ 0 then
    some (Sum.inl v1)
  else
  m_slices_Clone_int_int q0 >>= fun v2 =>
  m_slices_Clone_int_int q1 >>= fun v3 =>
  m_rule_starts_1_b165d (q2, q3, q4, v2, v3, q1.length) >>= fun (_ : Unit) =>
  some (Sum.inr (v2, v3))
def P_rule_made_b9c47 : ((List Int) × (List Int) × (List Int) × Bool × (List Int)) → (Int ⊕ ((List Int) × (List Int))) → Prop := fun x r => match x with
  | (q0, q1, q2, q3, q4) => PC prog env 40 [(.dat (.lst ((List.map intD) q0))), (.vec 2 ((List.map intD) q1)), (.arr 5 0 1 1)] [(.box [(.dat (.lst ((List.map intD) q2))), (boolPV q3)]), (.box [(.dat (.lst ((List.map intD) []))), (.dat (.lst ((List.map intD) []))), (.dat (.lst ((List.map intD) []))), (.dat (.lst ((List.map intD) []))), (intPV 0), (intPV 0), (.dat (.lst ((List.map intD) [])))]), (.tok 3 q1.length), (.tok 3 q4.length), (.box [(.vec 3 ((List.map intD) q4))]), (.box [(.fn 83 [(.ptr 4 0)])])] (match r with | .inl v5001 => (.tup [(.dat (.agg [(.lst ((List.map intD) [])), (.lst ((List.map intD) [])), (.lst ((List.map intD) [])), (.lst ((List.map intD) [])), (intD 0), (intD 0), (.lst ((List.map intD) []))])), (intPV v5001)]) | .inr ((v5002, v5003)) => (.tup [(.agg [(.dat (.lst ((List.map intD) []))), (.ms 7 1 0 v5002.length v5002.length), (.ms 8 1 0 v5003.length v5003.length), (.vec 3 ((List.map intD) q4)), (intPV (-1)), (intPV 0), (.dat (.lst ((List.map intD) [])))]), (intPV 0)])) (match r with | .inl v5001 => [(.box [(.dat (.lst ((List.map intD) q2))), (boolPV q3)]), (.box [(.dat (.lst ((List.map intD) []))), (.dat (.lst ((List.map intD) []))), (.dat (.lst ((List.map intD) []))), (.dat (.lst ((List.map intD) []))), (intPV 0), (intPV 0), (.dat (.lst ((List.map intD) [])))]), (.tok 3 q1.length), (.tok 3 q4.length), (.box [(.vec 3 ((List.map intD) q4))]), (.box [(.fn 83 [(.ptr 4 0)])]), (.box [(.dat (.lst ((List.map intD) []))), (.dat (.lst ((List.map intD) []))), (.dat (.lst ((List.map intD) []))), (.dat (.lst ((List.map intD) []))), (intPV 0), (intPV 0), (.dat (.lst ((List.map intD) [])))])] | .inr ((v5002, v5003)) => [(.box [(.dat (.lst ((List.map intD) q2))), (boolPV q3)]), (.box [(.dat (.lst ((List.map intD) []))), (.dat (.lst ((List.map intD) []))), (.dat (.lst ((List.map intD) []))), (.dat (.lst ((List.map intD) []))), (intPV 0), (intPV 0), (.dat (.lst ((List.map intD) [])))]), (.tok 3 q1.length), (.tok 3 q4.length), (.box [(.vec 3 ((List.map intD) q4))]), (.box [(.fn 83 [(.ptr 4 0)])]), (.box [(.dat (.lst ((List.map intD) []))), (.ms 7 1 0 v5002.length v5002.length), (.ms 8 1 0 v5003.length v5003.length), (.vec 3 ((List.map intD) q4)), (intPV (-1)), (intPV 0), (.dat (.lst ((List.map intD) [])))]), (.mt 3 1 (cellsOf intD v5002)), (.mt 3 1 (cellsOf intD v5003)), (.box [(.dat (.lst ((List.map intD) []))), (.ms 7 1 0 v5002.length v5002.length), (.ms 8 1 0 v5003.length v5003.length), (.vec 3 ((List.map intD) q4)), (intPV (-1)), (intPV 0), (.dat (.lst ((List.map intD) [])))])])
theorem w_rule_made_b9c47 : ∀ x r, m_rule_made_b9c47 x = some r → P_rule_made_b9c47 x r := by
  intro x r hm
  unfold m_rule_made_b9c47 at hm
  unfold P_rule_made_b9c47
  obtain ⟨q0, q1, q2, q3, q4⟩ := x
  refine PC_sxB (fn := f40) (by kernel_rfl) (by kernel_rfl) rfl ?_
  refine R_seq ?_
  refine R_G ?_
  refine G_run 2 ?_
  refine G_end ?_
  refine R_seq ?_
  refine R_seq ?_
  refine R_G ?_
  refine G_run 1 ?_
  obtain ⟨v1, hx, hm⟩ := bind_inv hm
  have hq := w_shape_Check _ _ hx []
  refine G_callP hq ?_
  refine G_run 1 ?_
  refine G_end ?_
  refine R_seq ?_
  refine R_G ?_
  refine G_run 2 ?_
  refine G_end ?_
  refine R_ifp (p := v1 ≠ 0) (ne_dec _ _) (fun hc => ?_) (fun hc => ?_)
  · replace hm := pos_inv hc hm
    refine R_seq ?_
    refine R_G ?_
    refine G_run 4 ?_
    refine G_end ?_
    refine R_ret ?_
    obtain rfl := inj1 hm
    exact ⟨trivial, fin_body (by kernel_rfl) (by kernel_rfl)⟩
  replace hm := neg_inv hc hm
  refine R_skip ?_
  refine R_seq ?_
  refine R_G ?_
  refine G_run 1 ?_
  obtain ⟨v2, hx, hm⟩ := bind_inv hm
  have hq := w_slices_Clone_int_int _ _ hx
  dsimp only [P_slices_Clone_int_int] at hq
  have hl9 : mtOf [Blk.mt 3 (cgm_slices_Clone_int_int v2) (cellsOf intD v2)] 0 = some (3, cgm_slices_Clone_int_int v2, cellsOf intD v2) := mtOf_at (by kernel_rfl)
  refine G_semH (v := .ms 7 1 0 v2.length v2.length) (fun H => H ++ [.mt 3 1 (cellsOf intD v2)]) rfl (by kernel_rfl) ?_ ?_
  · intro K hk
    refine E_callOwnN 7 (first := #[]) (cap := #[]) (j := (0, 3)) (ow' := []) (f0 := intD) (l := v2) rfl ?_ ?_ ?_ (ds := [.lst ((List.map intD) q0)]) ?_ hq hl9 ?_ ?_ ?_
    · kernel_rfl
    · kernel_rfl
    · kernel_rfl
    · kernel_rfl
    · exact hk
    · kernel_rfl
    · decide
  refine G_run 1 ?_
  obtain ⟨v3, hx, hm⟩ := bind_inv hm
  have hq := w_slices_Clone_int_int _ _ hx
  dsimp only [P_slices_Clone_int_int] at hq
  have hl9 : mtOf [Blk.mt 3 (cgm_slices_Clone_int_int v3) (cellsOf intD v3)] 0 = some (3, cgm_slices_Clone_int_int v3, cellsOf intD v3) := mtOf_at (by kernel_rfl)
  refine G_semH (v := .ms 8 1 0 v3.length v3.length) (fun H => H ++ [.mt 3 1 (cellsOf intD v3)]) rfl (by kernel_rfl) ?_ ?_
  · intro K hk
    refine E_callOwnN 8 (first := #[]) (cap := #[]) (j := (0, 3)) (ow' := []) (f0 := intD) (l := v3) rfl ?_ ?_ ?_ (ds := [.lst ((List.map intD) q1)]) ?_ hq hl9 ?_ ?_ ?_
    · kernel_rfl
    · kernel_rfl
    · kernel_rfl
    · kernel_rfl
    · exact hk
    · kernel_rfl
    · decide
  refine G_run 3 ?_
  refine G_end ?_
  refine R_seq ?_
  refine R_seq ?_
  refine R_G ?_
  refine G_run 1 ?_
  refine G_run 1 ?_
  refine G_run 1 ?_
  refine G_end ?_
  refine R_block ?_
  refine R_loop ?_
  refine RL_at (st' := ⟨kp 33 [(6, (.ptr 6 0)), (9, (.ptr 9 0)), (23, (.arr 5 0 1 1)), (24, (intPV 1)), (25, (intPV 0))], [(.box [(.dat (.lst ((List.map intD) q2))), (boolPV q3)]), (.box [(.dat (.lst ((List.map intD) []))), (.dat (.lst ((List.map intD) []))), (.dat (.lst ((List.map intD) []))), (.dat (.lst ((List.map intD) []))), (intPV 0), (intPV 0), (.dat (.lst ((List.map intD) [])))]), (.tok 3 q1.length), (.tok 3 q4.length), (.box [(.vec 3 ((List.map intD) q4))]), (.box [(.fn 83 [(.ptr 4 0)])]), (.box [(.dat (.lst ((List.map intD) []))), (.dat (.lst ((List.map intD) []))), (.dat (.lst ((List.map intD) []))), (.dat (.lst ((List.map intD) []))), (intPV 0), (intPV 0), (.dat (.lst ((List.map intD) [])))]), (.mt 3 1 (cellsOf intD v2)), (.mt 3 1 (cellsOf intD v3)), (.box [(.dat (.lst ((List.map intD) []))), (.ms 7 1 0 v2.length v2.length), (.ms 8 1 0 v3.length v3.length), (.dat (.lst ((List.map intD) []))), (intPV (-1)), (intPV 0), (.dat (.lst ((List.map intD) [])))])]⟩) (prune_of2 [(.box [(.dat (.lst ((List.map intD) q2))), (boolPV q3)]), (.box [(.dat (.lst ((List.map intD) []))), (.dat (.lst ((List.map intD) []))), (.dat (.lst ((List.map intD) []))), (.dat (.lst ((List.map intD) []))), (intPV 0), (intPV 0), (.dat (.lst ((List.map intD) [])))]), (.tok 3 q1.length), (.tok 3 q4.length), (.box [(.vec 3 ((List.map intD) q4))]), (.box [(.fn 83 [(.ptr 4 0)])]), (.box [(.dat (.lst ((List.map intD) []))), (.dat (.lst ((List.map intD) []))), (.dat (.lst ((List.map intD) []))), (.dat (.lst ((List.map intD) []))), (intPV 0), (intPV 0), (.dat (.lst ((List.map intD) [])))]), (.mt 3 1 (cellsOf intD v2)), (.mt 3 1 (cellsOf intD v3)), (.box [(.dat (.lst ((List.map intD) []))), (.ms 7 1 0 v2.length v2.length), (.ms 8 1 0 v3.length v3.length), (.dat (.lst ((List.map intD) []))), (intPV (-1)), (intPV 0), (.dat (.lst ((List.map intD) [])))])] (fun _ => (pg_cons (by kernel_rfl) (pg_cons (by kernel_rfl) (pg_cons (by kernel_rfl) (pg_cons (by kernel_rfl) (pg_cons (by kernel_rfl) (pg_cons (by kernel_rfl) (pg_cons (by kernel_rfl) (pg_cons (purge_mt intD _ _ _ _ _) (pg_cons (purge_mt intD _ _ _ _ _) (pg_cons (by kernel_rfl) pg_nil))))))))))) rfl) ?_
  refine R_seq ?_
  refine R_G ?_
  refine G_run 1 ?_
  refine G_end ?_
  refine R_seq ?_
  refine R_true (by kernel_rfl) ?_
  refine R_skip ?_
  refine R_seq ?_
  refine R_block ?_
  refine R_seq ?_
  refine R_G ?_
  refine G_run 1 ?_
  refine G_run 2 ?_
  refine G_end ?_
  refine R_G ?_
  refine G_run 1 ?_
  obtain ⟨_, hx, hm⟩ := bind_inv hm
  have hq := w_rule_starts_1_b165d _ _ hx
  dsimp only [P_rule_starts_1_b165d] at hq
  refine G_callB hq ?_
  refine G_end ?_
  refine R_G ?_
  refine G_run 2 ?_
  refine G_end ?_
  refine RL_at (st' := ⟨kp 33 [(6, (.ptr 6 0)), (9, (.ptr 9 0)), (23, (.arr 5 0 1 1)), (24, (intPV 1)), (25, (intPV 1))], [(.box [(.dat (.lst ((List.map intD) q2))), (boolPV q3)]), (.box [(.dat (.lst ((List.map intD) []))), (.dat (.lst ((List.map intD) []))), (.dat (.lst ((List.map intD) []))), (.dat (.lst ((List.map intD) []))), (intPV 0), (intPV 0), (.dat (.lst ((List.map intD) [])))]), (.tok 3 q1.length), (.tok 3 q4.length), (.box [(.vec 3 ((List.map intD) q4))]), (.box [(.fn 83 [(.ptr 4 0)])]), (.box [(.dat (.lst ((List.map intD) []))), (.dat (.lst ((List.map intD) []))), (.dat (.lst ((List.map intD) []))), (.dat (.lst ((List.map intD) []))), (intPV 0), (intPV 0), (.dat (.lst ((List.map intD) [])))]), (.mt 3 1 (cellsOf intD v2)), (.mt 3 1 (cellsOf intD v3)), (.box [(.dat (.lst ((List.map intD) []))), (.ms 7 1 0 v2.length v2.length), (.ms 8 1 0 v3.length v3.length), (.vec 3 ((List.map intD) q4)), (intPV (-1)), (intPV 0), (.dat (.lst ((List.map intD) [])))])]⟩) (prune_of2 [(.box [(.dat (.lst ((List.map intD) q2))), (boolPV q3)]), (.box [(.dat (.lst ((List.map intD) []))), (.dat (.lst ((List.map intD) []))), (.dat (.lst ((List.map intD) []))), (.dat (.lst ((List.map intD) []))), (intPV 0), (intPV 0), (.dat (.lst ((List.map intD) [])))]), (.tok 3 q1.length), (.tok 3 q4.length), (.box [(.vec 3 ((List.map intD) q4))]), (.box [(.fn 83 [(.ptr 4 0)])]), (.box [(.dat (.lst ((List.map intD) []))), (.dat (.lst ((List.map intD) []))), (.dat (.lst ((List.map intD) []))), (.dat (.lst ((List.map intD) []))), (intPV 0), (intPV 0), (.dat (.lst ((List.map intD) [])))]), (.mt 3 1 (cellsOf intD v2)), (.mt 3 1 (cellsOf intD v3)), (.box [(.dat (.lst ((List.map intD) []))), (.ms 7 1 0 v2.length v2.length), (.ms 8 1 0 v3.length v3.length), (.vec 3 ((List.map intD) q4)), (intPV (-1)), (intPV 0), (.dat (.lst ((List.map intD) [])))])] (fun _ => (pg_cons (by kernel_rfl) (pg_cons (by kernel_rfl) (pg_cons (by kernel_rfl) (pg_cons (by kernel_rfl) (pg_cons (by kernel_rfl) (pg_cons (by kernel_rfl) (pg_cons (by kernel_rfl) (pg_cons (purge_mt intD _ _ _ _ _) (pg_cons (purge_mt intD _ _ _ _ _) (pg_cons (by kernel_rfl) pg_nil))))))))))) rfl) ?_
  refine R_seq ?_
  refine R_G ?_
  refine G_run 1 ?_
  refine G_end ?_
  refine R_seq ?_
  refine R_false (by kernel_rfl) ?_
  refine R_exit ?_
  refine R_seq ?_
  refine R_G ?_
  refine G_run 3 ?_
  refine G_end ?_
  refine R_ret ?_
  obtain rfl := inj1 hm
  exact ⟨trivial, fin_body (by kernel_rfl) (by kernel_rfl)⟩
end Go.Proofs.Try
namespace Go.Proofs.Try
open Go Go.Pm
set_option linter.unusedVariables false
set_option maxHeartbeats 2000000
set_option maxRecDepth 2000
def m_rule_Take_L1 (x : (T_spec_Spec × (List Int) × (List Int) × (List Int) × Int)) : Option (((List Int) × (List Int) × (List Int) × (List Int) × Int × Int × (List Int) × Int × Nat × Nat) ⊕ ((List Int) × (List Int))) :=
  match x with
  | (p0, v1, v207, v208, v209) =>
  if v209 < (p0.values.length : Int) then
    idx p0.values v209 >>= fun v619 =>
    m_size_Magnitude v619 >>= fun ((v620, v621) : (Int × Int)) =>
    if v621 ≠ 0 then
      m_rule_failed v621 >>= fun ((v622, v623) : (T_rule_Rule × Int)) =>
      some (Sum.inl (v622.left, v622.right, v622.shape, v622.starts, v622.axis, v622.amount, v622.perm, v623, v207.length, v208.length))
    else
    app 8 v207 ([v620] : List Int) >>= fun v624 =>
    if v619 < 0 then
      idx v1 v209 >>= fun v625 =>
      app 8 v208 ([(W (v625 - v620))] : List Int) >>= fun v626 =>
      m_rule_Take_L1 (p0, v1, v624, v626, (W (v209 + 1)))
    else
    app 8 v208 ([0] : List Int) >>= fun v627 =>
    m_rule_Take_L1 (p0, v1, v624, v627, (W (v209 + 1)))
  else
  some (Sum.inr (v207, v208))
  partial_fixpoint
def P_rule_Take_L1 : (T_spec_Spec × (List Int) × (List Int) × (List Int) × Int) → (((List Int) × (List Int) × (List Int) × (List Int) × Int × Int × (List Int) × Int × Nat × Nat) ⊕ ((List Int) × (List Int))) → Prop := fun x r => match x with
  | (p0, v1, v207, v208, v209) => ∀ st, prune 4 ((firstRegion (codeAt [1, 1, 1, 1, 1, 0, 1, 0, 0] (bodyOf f17))).bind (env.hint 17).keepAt) st = ⟨kp 83 [(4, (.ptr 1 0)), (6, (.dat (.lst ((List.map intD) v1)))), (8, (.vec 2 ((List.map intD) v207))), (9, (.vec 3 ((List.map intD) v208))), (38, (.dat (.lst ((List.map intD) p0.values)))), (39, (intPV (p0.values.length : Int))), (40, (intPV v209))], [(.box [(.dat (.lst ((List.map intD) p0.values))), (boolPV p0.scalar)]), (.box [(.dat (.lst ((List.map intD) []))), (.dat (.lst ((List.map intD) []))), (.dat (.lst ((List.map intD) []))), (.dat (.lst ((List.map intD) []))), (intPV 0), (intPV 0), (.dat (.lst ((List.map intD) [])))]), (.tok 3 v207.length), (.tok 3 v208.length)]⟩ →
    RL prog env (env.hint 17) true (codeAt [1, 1, 1, 1, 1, 0, 1, 0, 0] (bodyOf f17)) 4 st (fun e s => match r with | .inl (v607, v608, v609, v610, v611, v612, v613, v614, v615, v616) => e = .ret ∧ ∃ d, s = ⟨sl d 83 [(4, (.ptr 1 0)), (5, (intPV v614))], [(.box [(.dat (.lst ((List.map intD) p0.values))), (boolPV p0.scalar)]), (.box [(.dat (.lst ((List.map intD) v607))), (.dat (.lst ((List.map intD) v608))), (.dat (.lst ((List.map intD) v609))), (.dat (.lst ((List.map intD) v610))), (intPV v611), (intPV v612), (.dat (.lst ((List.map intD) v613)))]), (.tok 3 v615), (.tok 3 v616)]⟩ | .inr ((v617, v618)) => e = .exit 0 ∧ ∃ d, s = ⟨sl d 83 [(4, (.ptr 1 0)), (6, (.dat (.lst ((List.map intD) v1)))), (8, (.vec 2 ((List.map intD) v617))), (9, (.vec 3 ((List.map intD) v618)))], [(.box [(.dat (.lst ((List.map intD) p0.values))), (boolPV p0.scalar)]), (.box [(.dat (.lst ((List.map intD) []))), (.dat (.lst ((List.map intD) []))), (.dat (.lst ((List.map intD) []))), (.dat (.lst ((List.map intD) []))), (intPV 0), (intPV 0), (.dat (.lst ((List.map intD) [])))]), (.tok 3 v617.length), (.tok 3 v618.length)]⟩)
theorem w_rule_Take_L1 : ∀ x r, m_rule_Take_L1 x = some r → P_rule_Take_L1 x r := by
  refine m_rule_Take_L1.partial_correctness _ (fun m_rule_Take_L1 w_rule_Take_L1 x r hm => ?_)
  unfold P_rule_Take_L1
  obtain ⟨p0, v1, v207, v208, v209⟩ := x
  intro st hst
  refine RL_at hst ?_
  clear hst
  refine R_seq ?_
  refine R_G ?_
  refine G_run 1 ?_
  refine G_end ?_
  refine R_seq ?_
  refine R_ifp (p := v209 < (p0.values.length : Int)) (rfl) (fun hc => ?_) (fun hc => ?_)
  · replace hm := pos_inv hc hm
    refine R_skip ?_
    refine R_seq ?_
    refine R_block ?_
    refine R_seq ?_
    refine R_G ?_
    refine G_run 1 ?_
    obtain ⟨v619, hx, hm⟩ := bind_inv hm
    refine I_idx 1 intD p0.values v209 v619 (es := (List.map intD) p0.values) (d := (intD v619)) rfl hx rfl rfl ?_
    refine G_run 3 ?_
    refine G_end ?_
    refine R_seq ?_
    refine R_G ?_
    refine G_run 1 ?_
    obtain ⟨⟨v620, v621⟩, hx, hm⟩ := bind_inv hm
    have hq := w_size_Magnitude _ _ hx []
    refine G_callP hq ?_
    refine G_run 5 ?_
    refine G_end ?_
    refine R_seq ?_
    refine R_seq ?_
    refine R_G ?_
    refine G_run 2 ?_
    refine G_end ?_
    refine R_ifp (p := v621 ≠ 0) (ne_dec _ _) (fun hc => ?_) (fun hc => ?_)
    · replace hm := pos_inv hc hm
      refine R_seq ?_
      refine R_G ?_
      refine G_run 1 ?_
      obtain ⟨⟨v622, v623⟩, hx, hm⟩ := bind_inv hm
      have hq := w_rule_failed _ _ hx []
      refine G_callP hq ?_
      refine G_run 4 ?_
      refine G_end ?_
      refine R_ret ?_
      obtain rfl := inj1 hm
      exact ⟨rfl, cut_leaf (by kernel_rfl)⟩
    replace hm := neg_inv hc hm
    refine R_skip ?_
    refine R_seq ?_
    refine R_G ?_
    refine G_run 3 ?_
    obtain ⟨v624, hx, hm⟩ := bind_inv hm
    refine I_app 3 1 8 2 intD v207 ([v620] : List Int) v624 (xs := (List.map intD) v207) (es := (List.map intD) ([v620] : List Int)) (L := (List.map intD)) (fun _ => rfl) rfl rfl (fun _ => rfl) hx ?_
    refine G_run 1 ?_
    refine G_end ?_
    refine R_seq ?_
    refine R_G ?_
    refine G_run 2 ?_
    refine G_end ?_
    refine R_ifp (p := v619 < 0) (rfl) (fun hc => ?_) (fun hc => ?_)
    · replace hm := pos_inv hc hm
      refine R_G ?_
      refine G_run 3 ?_
      obtain ⟨v625, hx, hm⟩ := bind_inv hm
      refine I_idx 1 intD v1 v209 v625 (es := (List.map intD) v1) (d := (intD v625)) rfl hx rfl rfl ?_
      refine G_run 4 ?_
      obtain ⟨v626, hx, hm⟩ := bind_inv hm
      refine I_app 3 1 8 3 intD v208 ([(W (v625 - v620))] : List Int) v626 (xs := (List.map intD) v208) (es := (List.map intD) ([(W (v625 - v620))] : List Int)) (L := (List.map intD)) (fun _ => rfl) rfl rfl (fun _ => rfl) hx ?_
      refine G_run 1 ?_
      refine G_end ?_
      refine R_G ?_
      refine G_run 2 ?_
      refine G_end ?_
      exact w_rule_Take_L1 _ _ hm _ (by kernel_rfl)
    replace hm := neg_inv hc hm
    refine R_G ?_
    refine G_run 2 ?_
    obtain ⟨v627, hx, hm⟩ := bind_inv hm
    refine I_app 3 1 8 3 intD v208 ([0] : List Int) v627 (xs := (List.map intD) v208) (es := (List.map intD) ([0] : List Int)) (L := (List.map intD)) (fun _ => rfl) rfl rfl (fun _ => rfl) hx ?_
    refine G_run 1 ?_
    refine G_end ?_
    refine R_G ?_
    refine G_run 2 ?_
    refine G_end ?_
    exact w_rule_Take_L1 _ _ hm _ (by kernel_rfl)
  replace hm := neg_inv hc hm
  refine R_exit ?_
  obtain rfl := inj1 hm
  exact ⟨rfl, cut_leaf (by kernel_rfl)⟩
def m_rule_Take (x : (T_spec_Spec × (List Int))) : Option (T_rule_Rule × Int) :=
  match x with
  | (p0, p1) =>
  m_rule_seen (p1, (p0.values.length : Int)) >>= fun ((v1, v2) : ((List Int) × Int)) =>
  if v2 ≠ 0 then
    m_rule_failed v2 >>= fun ((v3, v4) : (T_rule_Rule × Int)) =>
    some (v3, v4)
  else
  if (p0.values.length : Int) ≠ (v1.length : Int) then
    m_rule_failed 5 >>= fun ((v5, v6) : (T_rule_Rule × Int)) =>
    some (v5, v6)
  else
  (
  m_rule_Take_L1 (p0, v1, ([] : List Int), ([] : List Int), 0) >>= fun (out : ((List Int) × (List Int) × (List Int) × (List Int) × Int × Int × (List Int) × Int × Nat × Nat) ⊕ ((List Int) × (List Int))) =>
  match out with
  | .inl (v607, v608, v609, v610, v611, v612, v613, v614, v615, v616) =>
    some ((⟨v607, v608, v609, v610, v611, v612, v613⟩ : T_rule_Rule), v614)
  | .inr ((v617, v618)) =>
    m_rule_starts_b907d (v618, p0.values, p0.scalar, v617.length) >>= fun (_ : Unit) =>
    (
    m_rule_made_b9c47 (v1, v617, p0.values, p0.scalar, v618) >>= fun (out : Int ⊕ ((List Int) × (List Int))) =>
    match out with
    | .inl v628 =>
      some ((⟨([] : (List Int)), ([] : (List Int)), ([] : (List Int)), ([] : (List Int)), 0, 0, ([] : (List Int))⟩ : T_rule_Rule), v628)
    | .inr ((v629, v630)) =>
      some ((⟨([] : (List Int)), v629, v630, v618, (-1), 0, ([] : (List Int))⟩ : T_rule_Rule), 0)
    )
  )
def P_rule_Take : (T_spec_Spec × (List Int)) → (T_rule_Rule × Int) → Prop := fun x r => match x, r with
  | (p0, p1), (r0, r1) => ∀ H, PC prog env 17 ([(T_spec_Spec.toD p0), (.lst ((List.map intD) p1))].map .dat) H (.tup [(.dat (T_rule_Rule.toD r0)), (intPV r1)]) H
theorem w_rule_Take : ∀ x r, m_rule_Take x = some r → P_rule_Take x r := by
  intro x r hm
  unfold m_rule_Take at hm
  unfold P_rule_Take
  obtain ⟨p0, p1⟩ := x
  obtain ⟨r0, r1⟩ := r
  intro H
  refine PC_sx (ds := [(T_spec_Spec.toD p0), (.lst ((List.map intD) p1))]) (fn := f17) (by kernel_rfl) (by kernel_rfl) rfl ?_ (by kernel_rfl)
  refine R_seq ?_
  refine R_G ?_
  refine G_run 3 ?_
  refine G_end ?_
  refine R_seq ?_
  refine R_G ?_
  refine G_run 3 ?_
  refine I_len intD p0.values (es := (List.map intD) p0.values) rfl ?_
  obtain ⟨⟨v1, v2⟩, hx, hm⟩ := bind_inv hm
  have hq := w_rule_seen _ _ hx []
  refine G_callP hq ?_
  refine G_run 5 ?_
  refine G_end ?_
  refine R_seq ?_
  refine R_seq ?_
  refine R_G ?_
  refine G_run 2 ?_
  refine G_end ?_
  refine R_ifp (p := v2 ≠ 0) (ne_dec _ _) (fun hc => ?_) (fun hc => ?_)
  · replace hm := pos_inv hc hm
    refine R_seq ?_
    refine R_G ?_
    refine G_run 1 ?_
    obtain ⟨⟨v3, v4⟩, hx, hm⟩ := bind_inv hm
    have hq := w_rule_failed _ _ hx []
    refine G_callP hq ?_
    refine G_run 4 ?_
    refine G_end ?_
    refine R_ret ?_
    obtain ⟨rfl, rfl⟩ := inj2 hm
    exact ⟨trivial, fin_pure (by kernel_rfl)⟩
  replace hm := neg_inv hc hm
  refine R_skip ?_
  refine R_seq ?_
  refine R_seq ?_
  refine R_G ?_
  refine G_run 2 ?_
  refine I_len intD p0.values (es := (List.map intD) p0.values) rfl ?_
  refine G_run 1 ?_
  refine I_len intD v1 (es := (List.map intD) v1) rfl ?_
  refine G_run 1 ?_
  refine G_end ?_
  refine R_ifp (p := (p0.values.length : Int) ≠ (v1.length : Int)) (ne_dec _ _) (fun hc => ?_) (fun hc => ?_)
  · replace hm := pos_inv hc hm
    refine R_seq ?_
    refine R_G ?_
    obtain ⟨⟨v5, v6⟩, hx, hm⟩ := bind_inv hm
    have hq := w_rule_failed _ _ hx []
    refine G_callP hq ?_
    refine G_run 4 ?_
    refine G_end ?_
    refine R_ret ?_
    obtain ⟨rfl, rfl⟩ := inj2 hm
    exact ⟨trivial, fin_pure (by kernel_rfl)⟩
  replace hm := neg_inv hc hm
  refine R_skip ?_
  refine R_seq ?_
  refine R_G ?_
  refine G_run 2 ?_
  refine G_end ?_
  refine R_seq ?_
  refine R_seq ?_
  refine R_G ?_
  refine G_run 2 ?_
  refine I_len intD p0.values (es := (List.map intD) p0.values) rfl ?_
  refine G_run 1 ?_
  refine G_end ?_
  refine R_block ?_
  obtain ⟨out, hs, hm⟩ := bind_inv hm
  refine R_loop ?_
  rcases out with ⟨v607, v608, v609, v610, v611, v612, v613, v614, v615, v616⟩ | ⟨v617, v618⟩
  · refine RL_use (w_rule_Take_L1 _ _ hs) (by kernel_rfl) ?_
    clear hs
    intro e s hp
    obtain ⟨rfl, d, rfl⟩ := hp
    obtain ⟨rfl, rfl⟩ := inj2 hm
    exact ⟨trivial, fin_pure (by kernel_rfl)⟩
  · refine RL_use (w_rule_Take_L1 _ _ hs) (by kernel_rfl) ?_
    clear hs
    intro e s hp
    obtain ⟨rfl, d, rfl⟩ := hp
    refine R_seq ?_
    refine R_G ?_
    refine G_run 3 ?_
    obtain ⟨_, hx, hm⟩ := bind_inv hm
    have hq := w_rule_starts_b907d _ _ hx
    dsimp only [P_rule_starts_b907d] at hq
    refine G_callB hq ?_
    refine G_run 1 ?_
    obtain ⟨out, hx, hm⟩ := bind_inv hm
    rcases out with v628 | ⟨v629, v630⟩
    · have hq := w_rule_made_b9c47 _ _ hx
      dsimp only [P_rule_made_b9c47] at hq
      refine G_callB hq ?_
      refine G_run 4 ?_
      refine G_end ?_
      refine R_ret ?_
      obtain ⟨rfl, rfl⟩ := inj2 hm
      exact ⟨trivial, fin_pure (by kernel_rfl)⟩
    · have hq := w_rule_made_b9c47 _ _ hx
      dsimp only [P_rule_made_b9c47] at hq
      refine G_callB hq ?_
      refine G_run 4 ?_
      refine G_end ?_
      refine R_ret ?_
      obtain ⟨rfl, rfl⟩ := inj2 hm
      exact ⟨trivial, fin_pureX [(.agg [(.dat (.lst ((List.map intD) []))), (.ms 7 1 0 v629.length v629.length), (.ms 8 1 0 v630.length v630.length), (.vec 3 ((List.map intD) v618)), (intPV (-1)), (intPV 0), (.dat (.lst ((List.map intD) [])))]), (intPV 0)] (by kernel_rfl) (po_tup (ps_cons (p1_agg (pc_cons (by kernel_rfl) (pc_cons (pc_ms (e := 3) intD v629 rfl (fun _ => rfl) (by kernel_rfl)) (pc_cons (pc_ms (e := 3) intD v630 rfl (fun _ => rfl) (by kernel_rfl)) (pc_cons (by kernel_rfl) (pc_cons (by kernel_rfl) (pc_cons (by kernel_rfl) (pc_cons (by kernel_rfl) pc_nil)))))))) (ps_cons (by kernel_rfl) ps_nil)))⟩
end Go.Proofs.Try
namespace Go.Proofs.Try
open Go Go.Pm
set_option linter.unusedVariables false
set_option maxHeartbeats 2000000
set_option maxRecDepth 2000
def m_rule_dropped (x : (Int × Int)) : Option (Int × Int) :=
  match x with
  | (p0, p1) =>
  m_size_Magnitude p1 >>= fun ((v1, v2) : (Int × Int)) =>
  (if v2 ≠ 0 then
    some true
  else
  some (decide (v1 > p0))
  ) >>= fun (v3 : Bool) =>
  (if v3 = true then
    some p0
  else
  some v1
  ) >>= fun (v4 : Int) =>
  if p1 < 0 then
    some ((W (p0 - v4)), 0)
  else
  some ((W (p0 - v4)), v4)
def P_rule_dropped : (Int × Int) → (Int × Int) → Prop := fun x r => match x, r with
  | (p0, p1), (r0, r1) => ∀ H, PC prog env 49 ([(intD p0), (intD p1)].map .dat) H (.tup [(intPV r0), (intPV r1)]) H
theorem w_rule_dropped : ∀ x r, m_rule_dropped x = some r → P_rule_dropped x r := by
  intro x r hm
  unfold m_rule_dropped at hm
  unfold P_rule_dropped
  obtain ⟨p0, p1⟩ := x
  obtain ⟨r0, r1⟩ := r
  intro H
  refine PC_sx (ds := [(intD p0), (intD p1)]) (fn := f49) (by kernel_rfl) (by kernel_rfl) rfl ?_ (by kernel_rfl)
  refine R_seq ?_
  refine R_G ?_
  refine G_run 2 ?_
  refine G_end ?_
  refine R_seq ?_
  refine R_G ?_
  refine G_run 1 ?_
  obtain ⟨⟨v1, v2⟩, hx, hm⟩ := bind_inv hm
  have hq := w_size_Magnitude _ _ hx []
  refine G_callP hq ?_
  refine G_run 5 ?_
  refine G_end ?_
  refine R_seq ?_
  refine R_seq ?_
  obtain ⟨v3, hs, hm⟩ := bind_inv hm
  refine R_cut (fun d => ⟨sl d 30 [(0, (intPV p0)), (1, (intPV p1)), (6, (intPV v1)), (19, (boolPV v3))], []⟩) ?_ (fun d => ?_)
  · replace hm := hs
    clear hs
    refine R_G ?_
    refine G_run 3 ?_
    refine G_split (p := v2 ≠ 0) 15 (ne_dec _ _) (fun hc => ?_) (fun hc => ?_)
    · replace hm := pos_inv hc hm
      refine G_run 4 ?_
      refine G_end ?_
      obtain rfl := inj1 hm
      exact cut_leaf (by kernel_rfl)
    replace hm := neg_inv hc hm
    refine G_run 4 ?_
    refine G_end ?_
    obtain rfl := inj1 hm
    exact cut_leaf (by kernel_rfl)
  clear hs
  obtain ⟨v4, hs, hm⟩ := bind_inv hm
  refine R_cut (fun d => ⟨sl d 30 [(0, (intPV p0)), (1, (intPV p1)), (6, (intPV v4))], []⟩) ?_ (fun d => ?_)
  · replace hm := hs
    clear hs
    refine R_ifp (p := v3 = true) (bool_dec _) (fun hc => ?_) (fun hc => ?_)
    · replace hm := pos_inv hc hm
      refine R_G ?_
      refine G_run 2 ?_
      refine G_end ?_
      obtain rfl := inj1 hm
      exact cut_leaf (by kernel_rfl)
    replace hm := neg_inv hc hm
    refine R_skip ?_
    obtain rfl := inj1 hm
    exact cut_leaf (by kernel_rfl)
  clear hs
  refine R_seq ?_
  refine R_seq ?_
  refine R_G ?_
  refine G_run 2 ?_
  refine G_end ?_
  refine R_ifp (p := p1 < 0) (rfl) (fun hc => ?_) (fun hc => ?_)
  · replace hm := pos_inv hc hm
    refine R_seq ?_
    refine R_G ?_
    refine G_run 5 ?_
    refine G_end ?_
    refine R_ret ?_
    obtain ⟨rfl, rfl⟩ := inj2 hm
    exact ⟨trivial, fin_pure (by kernel_rfl)⟩
  replace hm := neg_inv hc hm
  refine R_skip ?_
  refine R_seq ?_
  refine R_G ?_
  refine G_run 6 ?_
  refine G_end ?_
  refine R_ret ?_
  obtain ⟨rfl, rfl⟩ := inj2 hm
  exact ⟨trivial, fin_pure (by kernel_rfl)⟩
end Go.Proofs.Try
namespace Go.Proofs.Try
open Go Go.Pm
set_option linter.unusedVariables false
set_option maxHeartbeats 2000000
set_option maxRecDepth 2000
def m_rule_starts_bbeab (x : (Nat × (List Int) × Bool × (List Int) × (List Int))) : Option (Unit) :=
  match x with
  | (q0, q1, q2, q3, q4) =>
  some ()
def P_rule_starts_bbeab : (Nat × (List Int) × Bool × (List Int) × (List Int)) → Unit → Prop := fun x r => match x with
  | (q0, q1, q2, q3, q4) => PC prog env 47 [(.arr 3 0 q0 q0)] [(.box [(.dat (.lst ((List.map intD) q1))), (boolPV q2)]), (.box [(.dat (.lst ((List.map intD) []))), (.dat (.lst ((List.map intD) []))), (.dat (.lst ((List.map intD) []))), (.dat (.lst ((List.map intD) []))), (intPV 0), (intPV 0), (.dat (.lst ((List.map intD) [])))]), (.mt 3 1 (cellsOf intD q3)), (.box (cellsOf intD q4))] (match r with | _ => (.fn 83 [(.ptr 4 0)])) (match r with | _ => [(.box [(.dat (.lst ((List.map intD) q1))), (boolPV q2)]), (.box [(.dat (.lst ((List.map intD) []))), (.dat (.lst ((List.map intD) []))), (.dat (.lst ((List.map intD) []))), (.dat (.lst ((List.map intD) []))), (intPV 0), (intPV 0), (.dat (.lst ((List.map intD) [])))]), (.mt 3 1 (cellsOf intD q3)), (.box (cellsOf intD q4)), (.box [(.arr 3 0 q0 q0)])])
theorem w_rule_starts_bbeab : ∀ x r, m_rule_starts_bbeab x = some r → P_rule_starts_bbeab x r := by
  intro x r hm
  unfold m_rule_starts_bbeab at hm
  unfold P_rule_starts_bbeab
  obtain ⟨q0, q1, q2, q3, q4⟩ := x
  refine PC_sxB (fn := f47) (by kernel_rfl) (by kernel_rfl) rfl ?_
  refine R_seq ?_
  refine R_G ?_
  refine G_run 2 ?_
  refine G_end ?_
  refine R_seq ?_
  refine R_G ?_
  refine G_run 2 ?_
  refine G_end ?_
  refine R_ret ?_
  obtain rfl := inj1 hm
  exact ⟨trivial, fin_body (by kernel_rfl) (by kernel_rfl)⟩
end Go.Proofs.Try
namespace Go.Proofs.Try
open Go Go.Pm
set_option linter.unusedVariables false
set_option maxHeartbeats 2000000
set_option maxRecDepth 2000
def m_rule_starts_1_bfee7 (x : ((List Int) × Bool × (List Int) × (List Int) × Nat × (List Int) × (List Int))) : Option (Unit) :=
  match x with
  | (q0, q1, q2, q3, q4, q5, q6) =>
  some ()
def P_rule_starts_1_bfee7 : ((List Int) × Bool × (List Int) × (List Int) × Nat × (List Int) × (List Int)) → Unit → Prop := fun x r => match x with
  | (q0, q1, q2, q3, q4, q5, q6) => PC prog env 83 [(.ptr 9 0), (.ptr 4 0)] [(.box [(.dat (.lst ((List.map intD) q0))), (boolPV q1)]), (.box [(.dat (.lst ((List.map intD) []))), (.dat (.lst ((List.map intD) []))), (.dat (.lst ((List.map intD) []))), (.dat (.lst ((List.map intD) []))), (intPV 0), (intPV 0), (.dat (.lst ((List.map intD) [])))]), (.mt 3 1 (cellsOf intD q2)), (.box (cellsOf intD q3)), (.box [(.arr 3 0 q4 q4)]), (.box [(.fn 83 [(.ptr 4 0)])]), (.box [(.dat (.lst ((List.map intD) []))), (.dat (.lst ((List.map intD) []))), (.dat (.lst ((List.map intD) []))), (.dat (.lst ((List.map intD) []))), (intPV 0), (intPV 0), (.dat (.lst ((List.map intD) [])))]), (.mt 3 1 (cellsOf intD q5)), (.mt 3 1 (cellsOf intD q6)), (.box [(.dat (.lst ((List.map intD) []))), (.ms 7 1 0 q5.length q5.length), (.ms 8 1 0 q6.length q6.length), (.dat (.lst ((List.map intD) []))), (intPV (-1)), (intPV 0), (.dat (.lst ((List.map intD) [])))])] (match r with | _ => (.tup [])) (match r with | _ => [(.box [(.dat (.lst ((List.map intD) q0))), (boolPV q1)]), (.box [(.dat (.lst ((List.map intD) []))), (.dat (.lst ((List.map intD) []))), (.dat (.lst ((List.map intD) []))), (.dat (.lst ((List.map intD) []))), (intPV 0), (intPV 0), (.dat (.lst ((List.map intD) [])))]), (.mt 3 1 (cellsOf intD q2)), (.box (cellsOf intD q3)), (.box [(.arr 3 0 q4 q4)]), (.box [(.fn 83 [(.ptr 4 0)])]), (.box [(.dat (.lst ((List.map intD) []))), (.dat (.lst ((List.map intD) []))), (.dat (.lst ((List.map intD) []))), (.dat (.lst ((List.map intD) []))), (intPV 0), (intPV 0), (.dat (.lst ((List.map intD) [])))]), (.mt 3 1 (cellsOf intD q5)), (.mt 3 1 (cellsOf intD q6)), (.box [(.dat (.lst ((List.map intD) []))), (.ms 7 1 0 q5.length q5.length), (.ms 8 1 0 q6.length q6.length), (.arr 3 0 q4 q4), (intPV (-1)), (intPV 0), (.dat (.lst ((List.map intD) [])))])])
theorem w_rule_starts_1_bfee7 : ∀ x r, m_rule_starts_1_bfee7 x = some r → P_rule_starts_1_bfee7 x r := by
  intro x r hm
  unfold m_rule_starts_1_bfee7 at hm
  unfold P_rule_starts_1_bfee7
  obtain ⟨q0, q1, q2, q3, q4, q5, q6⟩ := x
  refine PC_sxB (fn := f83) (by kernel_rfl) (by kernel_rfl) rfl ?_
  refine R_G ?_
  refine G_run 5 ?_
  refine G_end ?_
  obtain rfl := inj1 hm
  exact ⟨trivial, fin_body (by kernel_rfl) (by kernel_rfl)⟩
end Go.Proofs.Try
namespace Go.Proofs.Try
open Go Go.Pm
set_option linter.unusedVariables false
set_option maxHeartbeats 2000000
set_option maxRecDepth 2000
def m_rule_made_bfa0f (x : ((List Int) × Nat × (List Int) × Bool × (List Int) × (List Int) × Nat)) : Option (Int ⊕ ((List Int) × (List Int))) :=
  match x with
  | (q0, q1, q2, q3, q4, q5, q6) =>
  guardM (q4.length = q1) >>= fun (_ : Unit) =>
  m_shape_Check q4 >>= fun (v2 : Int) =>
  if v2 ≠ 0 then
    some (Sum.inl v2)
  else
  m_slices_Clone_int_int q0 >>= fun v3 =>
  guardM (q4.length = q1) >>= fun (_ : Unit) =>
  m_slices_Clone_int_int q4 >>= fun v5 =>
  m_rule_starts_1_bfee7 (q2, q3, q4, q5, q6, v3, v5) >>= fun (_ : Unit) =>
  some (Sum.inr (v3, v5))
def P_rule_made_bfa0f : ((List Int) × Nat × (List Int) × Bool × (List Int) × (List Int) × Nat) → (Int ⊕ ((List Int) × (List Int))) → Prop := fun x r => match x with
  | (q0, q1, q2, q3, q4, q5, q6) => PC prog env 40 [(.dat (.lst ((List.map intD) q0))), (.ms 2 1 0 q1 q1), (.arr 5 0 1 1)] [(.box [(.dat (.lst ((List.map intD) q2))), (boolPV q3)]), (.box [(.dat (.lst ((List.map intD) []))), (.dat (.lst ((List.map intD) []))), (.dat (.lst ((List.map intD) []))), (.dat (.lst ((List.map intD) []))), (intPV 0), (intPV 0), (.dat (.lst ((List.map intD) [])))]), (.mt 3 1 (cellsOf intD q4)), (.box (cellsOf intD q5)), (.box [(.arr 3 0 q6 q6)]), (.box [(.fn 83 [(.ptr 4 0)])])] (match r with | .inl v5001 => (.tup [(.dat (.agg [(.lst ((List.map intD) [])), (.lst ((List.map intD) [])), (.lst ((List.map intD) [])), (.lst ((List.map intD) [])), (intD 0), (intD 0), (.lst ((List.map intD) []))])), (intPV v5001)]) | .inr ((v5002, v5003)) => (.tup [(.agg [(.dat (.lst ((List.map intD) []))), (.ms 7 1 0 v5002.length v5002.length), (.ms 8 1 0 v5003.length v5003.length), (.arr 3 0 q6 q6), (intPV (-1)), (intPV 0), (.dat (.lst ((List.map intD) [])))]), (intPV 0)])) (match r with | .inl v5001 => [(.box [(.dat (.lst ((List.map intD) q2))), (boolPV q3)]), (.box [(.dat (.lst ((List.map intD) []))), (.dat (.lst ((List.map intD) []))), (.dat (.lst ((List.map intD) []))), (.dat (.lst ((List.map intD) []))), (intPV 0), (intPV 0), (.dat (.lst ((List.map intD) [])))]), (.mt 3 1 (cellsOf intD q4)), (.box (cellsOf intD q5)), (.box [(.arr 3 0 q6 q6)]), (.box [(.fn 83 [(.ptr 4 0)])]), (.box [(.dat (.lst ((List.map intD) []))), (.dat (.lst ((List.map intD) []))), (.dat (.lst ((List.map intD) []))), (.dat (.lst ((List.map intD) []))), (intPV 0), (intPV 0), (.dat (.lst ((List.map intD) [])))])] | .inr ((v5002, v5003)) => [(.box [(.dat (.lst ((List.map intD) q2))), (boolPV q3)]), (.box [(.dat (.lst ((List.map intD) []))), (.dat (.lst ((List.map intD) []))), (.dat (.lst ((List.map intD) []))), (.dat (.lst ((List.map intD) []))), (intPV 0), (intPV 0), (.dat (.lst ((List.map intD) [])))]), (.mt 3 1 (cellsOf intD q4)), (.box (cellsOf intD q5)), (.box [(.arr 3 0 q6 q6)]), (.box [(.fn 83 [(.ptr 4 0)])]), (.box [(.dat (.lst ((List.map intD) []))), (.ms 7 1 0 v5002.length v5002.length), (.ms 8 1 0 v5003.length v5003.length), (.arr 3 0 q6 q6), (intPV (-1)), (intPV 0), (.dat (.lst ((List.map intD) [])))]), (.mt 3 1 (cellsOf intD v5002)), (.mt 3 1 (cellsOf intD v5003)), (.box [(.dat (.lst ((List.map intD) []))), (.ms 7 1 0 v5002.length v5002.length), (.ms 8 1 0 v5003.length v5003.length), (.arr 3 0 q6 q6), (intPV (-1)), (intPV 0), (.dat (.lst ((List.map intD) [])))])])
theorem w_rule_made_bfa0f : ∀ x r, m_rule_made_bfa0f x = some r → P_rule_made_bfa0f x r := by
  intro x r hm
  unfold m_rule_made_bfa0f at hm
  unfold P_rule_made_bfa0f
  obtain ⟨q0, q1, q2, q3, q4, q5, q6⟩ := x
  refine PC_sxB (fn := f40) (by kernel_rfl) (by kernel_rfl) rfl ?_
  refine R_seq ?_
  refine R_G ?_
  refine G_run 2 ?_
  refine G_end ?_
  refine R_seq ?_
  refine R_seq ?_
  refine R_G ?_
  refine G_run 1 ?_
  obtain ⟨_, hl1, hm⟩ := bind_inv hm
  replace hl1 := guard_inv hl1
  obtain ⟨v2, hx, hm⟩ := bind_inv hm
  have hq := w_shape_Check _ _ hx []
  refine G_callL (args := [(.ms 2 1 0 q1 q1)]) hq (ps_cons (p1_ms (pc_ms (e := 3) intD q4 hl1 (fun _ => rfl) (by kernel_rfl))) ps_nil) ?_
  refine G_run 1 ?_
  refine G_end ?_
  refine R_seq ?_
  refine R_G ?_
  refine G_run 2 ?_
  refine G_end ?_
  refine R_ifp (p := v2 ≠ 0) (ne_dec _ _) (fun hc => ?_) (fun hc => ?_)
  · replace hm := pos_inv hc hm
    refine R_seq ?_
    refine R_G ?_
    refine G_run 4 ?_
    refine G_end ?_
    refine R_ret ?_
    obtain rfl := inj1 hm
    exact ⟨trivial, fin_body (by kernel_rfl) (by kernel_rfl)⟩
  replace hm := neg_inv hc hm
  refine R_skip ?_
  refine R_seq ?_
  refine R_G ?_
  refine G_run 1 ?_
  obtain ⟨v3, hx, hm⟩ := bind_inv hm
  have hq := w_slices_Clone_int_int _ _ hx
  dsimp only [P_slices_Clone_int_int] at hq
  have hl9 : mtOf [Blk.mt 3 (cgm_slices_Clone_int_int v3) (cellsOf intD v3)] 0 = some (3, cgm_slices_Clone_int_int v3, cellsOf intD v3) := mtOf_at (by kernel_rfl)
  refine G_semH (v := .ms 7 1 0 v3.length v3.length) (fun H => H ++ [.mt 3 1 (cellsOf intD v3)]) rfl (by kernel_rfl) ?_ ?_
  · intro K hk
    refine E_callOwnN 7 (first := #[]) (cap := #[]) (j := (0, 3)) (ow' := []) (f0 := intD) (l := v3) rfl ?_ ?_ ?_ (ds := [.lst ((List.map intD) q0)]) ?_ hq hl9 ?_ ?_ ?_
    · kernel_rfl
    · kernel_rfl
    · kernel_rfl
    · kernel_rfl
    · exact hk
    · kernel_rfl
    · decide
  refine G_run 1 ?_
  obtain ⟨_, hl4, hm⟩ := bind_inv hm
  replace hl4 := guard_inv hl4
  obtain ⟨v5, hx, hm⟩ := bind_inv hm
  have hq := w_slices_Clone_int_int _ _ hx
  dsimp only [P_slices_Clone_int_int] at hq
  have hl9 : mtOf [Blk.mt 3 (cgm_slices_Clone_int_int v5) (cellsOf intD v5)] 0 = some (3, cgm_slices_Clone_int_int v5, cellsOf intD v5) := mtOf_at (by kernel_rfl)
  refine G_semH (v := .ms 8 1 0 v5.length v5.length) (fun H => H ++ [.mt 3 1 (cellsOf intD v5)]) rfl (by kernel_rfl) ?_ ?_
  · intro K hk
    refine E_callOwnN 8 (first := #[]) (cap := #[]) (j := (0, 3)) (ow' := []) (f0 := intD) (l := v5) rfl ?_ ?_ ?_ (ds := [.lst ((List.map intD) q4)]) ?_ hq hl9 ?_ ?_ ?_
    · kernel_rfl
    · kernel_rfl
    · exact plain_or (cellsOf_plain (fun _ => rfl) _)
    · exact ps_one (v := (.ms 2 1 0 q1 q1)) (by kernel_rfl) (p1_ms (pc_ms (e := 3) intD q4 hl4 (fun _ => rfl) (by kernel_rfl)))
    · exact hk
    · kernel_rfl
    · decide
  refine G_run 3 ?_
  refine G_end ?_
  refine R_seq ?_
  refine R_seq ?_
  refine R_G ?_
  refine G_run 1 ?_
  refine G_run 1 ?_
  refine G_run 1 ?_
  refine G_end ?_
  refine R_block ?_
  refine R_loop ?_
  refine RL_at (st' := ⟨kp 33 [(6, (.ptr 6 0)), (9, (.ptr 9 0)), (23, (.arr 5 0 1 1)), (24, (intPV 1)), (25, (intPV 0))], [(.box [(.dat (.lst ((List.map intD) q2))), (boolPV q3)]), (.box [(.dat (.lst ((List.map intD) []))), (.dat (.lst ((List.map intD) []))), (.dat (.lst ((List.map intD) []))), (.dat (.lst ((List.map intD) []))), (intPV 0), (intPV 0), (.dat (.lst ((List.map intD) [])))]), (.mt 3 1 (cellsOf intD q4)), (.box (cellsOf intD q5)), (.box [(.arr 3 0 q6 q6)]), (.box [(.fn 83 [(.ptr 4 0)])]), (.box [(.dat (.lst ((List.map intD) []))), (.dat (.lst ((List.map intD) []))), (.dat (.lst ((List.map intD) []))), (.dat (.lst ((List.map intD) []))), (intPV 0), (intPV 0), (.dat (.lst ((List.map intD) [])))]), (.mt 3 1 (cellsOf intD v3)), (.mt 3 1 (cellsOf intD v5)), (.box [(.dat (.lst ((List.map intD) []))), (.ms 7 1 0 v3.length v3.length), (.ms 8 1 0 v5.length v5.length), (.dat (.lst ((List.map intD) []))), (intPV (-1)), (intPV 0), (.dat (.lst ((List.map intD) [])))])]⟩) (prune_of2 [(.box [(.dat (.lst ((List.map intD) q2))), (boolPV q3)]), (.box [(.dat (.lst ((List.map intD) []))), (.dat (.lst ((List.map intD) []))), (.dat (.lst ((List.map intD) []))), (.dat (.lst ((List.map intD) []))), (intPV 0), (intPV 0), (.dat (.lst ((List.map intD) [])))]), (.mt 3 1 (cellsOf intD q4)), (.box (cellsOf intD q5)), (.box [(.arr 3 0 q6 q6)]), (.box [(.fn 83 [(.ptr 4 0)])]), (.box [(.dat (.lst ((List.map intD) []))), (.dat (.lst ((List.map intD) []))), (.dat (.lst ((List.map intD) []))), (.dat (.lst ((List.map intD) []))), (intPV 0), (intPV 0), (.dat (.lst ((List.map intD) [])))]), (.mt 3 1 (cellsOf intD v3)), (.mt 3 1 (cellsOf intD v5)), (.box [(.dat (.lst ((List.map intD) []))), (.ms 7 1 0 v3.length v3.length), (.ms 8 1 0 v5.length v5.length), (.dat (.lst ((List.map intD) []))), (intPV (-1)), (intPV 0), (.dat (.lst ((List.map intD) [])))])] (fun _ => (pg_cons (by kernel_rfl) (pg_cons (by kernel_rfl) (pg_cons (purge_mt intD _ _ _ _ _) (pg_cons (purge_box intD _ _ _) (pg_cons (by kernel_rfl) (pg_cons (by kernel_rfl) (pg_cons (by kernel_rfl) (pg_cons (purge_mt intD _ _ _ _ _) (pg_cons (purge_mt intD _ _ _ _ _) (pg_cons (by kernel_rfl) pg_nil))))))))))) rfl) ?_
  refine R_seq ?_
  refine R_G ?_
  refine G_run 1 ?_
  refine G_end ?_
  refine R_seq ?_
  refine R_true (by kernel_rfl) ?_
  refine R_skip ?_
  refine R_seq ?_
  refine R_block ?_
  refine R_seq ?_
  refine R_G ?_
  refine G_run 1 ?_
  refine G_run 2 ?_
  refine G_end ?_
  refine R_G ?_
  refine G_run 1 ?_
  obtain ⟨_, hx, hm⟩ := bind_inv hm
  have hq := w_rule_starts_1_bfee7 _ _ hx
  dsimp only [P_rule_starts_1_bfee7] at hq
  refine G_callB hq ?_
  refine G_end ?_
  refine R_G ?_
  refine G_run 2 ?_
  refine G_end ?_
  refine RL_at (st' := ⟨kp 33 [(6, (.ptr 6 0)), (9, (.ptr 9 0)), (23, (.arr 5 0 1 1)), (24, (intPV 1)), (25, (intPV 1))], [(.box [(.dat (.lst ((List.map intD) q2))), (boolPV q3)]), (.box [(.dat (.lst ((List.map intD) []))), (.dat (.lst ((List.map intD) []))), (.dat (.lst ((List.map intD) []))), (.dat (.lst ((List.map intD) []))), (intPV 0), (intPV 0), (.dat (.lst ((List.map intD) [])))]), (.mt 3 1 (cellsOf intD q4)), (.box (cellsOf intD q5)), (.box [(.arr 3 0 q6 q6)]), (.box [(.fn 83 [(.ptr 4 0)])]), (.box [(.dat (.lst ((List.map intD) []))), (.dat (.lst ((List.map intD) []))), (.dat (.lst ((List.map intD) []))), (.dat (.lst ((List.map intD) []))), (intPV 0), (intPV 0), (.dat (.lst ((List.map intD) [])))]), (.mt 3 1 (cellsOf intD v3)), (.mt 3 1 (cellsOf intD v5)), (.box [(.dat (.lst ((List.map intD) []))), (.ms 7 1 0 v3.length v3.length), (.ms 8 1 0 v5.length v5.length), (.arr 3 0 q6 q6), (intPV (-1)), (intPV 0), (.dat (.lst ((List.map intD) [])))])]⟩) (prune_of2 [(.box [(.dat (.lst ((List.map intD) q2))), (boolPV q3)]), (.box [(.dat (.lst ((List.map intD) []))), (.dat (.lst ((List.map intD) []))), (.dat (.lst ((List.map intD) []))), (.dat (.lst ((List.map intD) []))), (intPV 0), (intPV 0), (.dat (.lst ((List.map intD) [])))]), (.mt 3 1 (cellsOf intD q4)), (.box (cellsOf intD q5)), (.box [(.arr 3 0 q6 q6)]), (.box [(.fn 83 [(.ptr 4 0)])]), (.box [(.dat (.lst ((List.map intD) []))), (.dat (.lst ((List.map intD) []))), (.dat (.lst ((List.map intD) []))), (.dat (.lst ((List.map intD) []))), (intPV 0), (intPV 0), (.dat (.lst ((List.map intD) [])))]), (.mt 3 1 (cellsOf intD v3)), (.mt 3 1 (cellsOf intD v5)), (.box [(.dat (.lst ((List.map intD) []))), (.ms 7 1 0 v3.length v3.length), (.ms 8 1 0 v5.length v5.length), (.arr 3 0 q6 q6), (intPV (-1)), (intPV 0), (.dat (.lst ((List.map intD) [])))])] (fun _ => (pg_cons (by kernel_rfl) (pg_cons (by kernel_rfl) (pg_cons (purge_mt intD _ _ _ _ _) (pg_cons (purge_box intD _ _ _) (pg_cons (by kernel_rfl) (pg_cons (by kernel_rfl) (pg_cons (by kernel_rfl) (pg_cons (purge_mt intD _ _ _ _ _) (pg_cons (purge_mt intD _ _ _ _ _) (pg_cons (by kernel_rfl) pg_nil))))))))))) rfl) ?_
  refine R_seq ?_
  refine R_G ?_
  refine G_run 1 ?_
  refine G_end ?_
  refine R_seq ?_
  refine R_false (by kernel_rfl) ?_
  refine R_exit ?_
  refine R_seq ?_
  refine R_G ?_
  refine G_run 3 ?_
  refine G_end ?_
  refine R_ret ?_
  obtain rfl := inj1 hm
  exact ⟨trivial, fin_body (by kernel_rfl) (by kernel_rfl)⟩
end Go.Proofs.Try
namespace Go.Proofs.Try
open Go Go.Pm
set_option linter.unusedVariables false
set_option maxHeartbeats 2000000
set_option maxRecDepth 2000
def m_rule_Drop_L1 (x : (T_spec_Spec × (List Int) × (List Int) × (List Int) × (List Int) × (List Int) × Int)) : Option (((List Int) × (List Int))) :=
  match x with
  | (p0, v1, v7, v8, v209, v210, v211) =>
  if v211 < (p0.values.length : Int) then
    idx p0.values v211 >>= fun v611 =>
    idx v1 v211 >>= fun v612 =>
    m_rule_dropped (v612, v611) >>= fun ((v613, v614) : (Int × Int)) =>
    guardM (v209.length = v7.length) >>= fun (_ : Unit) =>
    idx v209 v211 >>= fun v615 =>
    setM v209 v211 v613 >>= fun v617 =>
    guardM (v210.length = v8.length) >>= fun (_ : Unit) =>
    idx v210 v211 >>= fun v618 =>
    setM v210 v211 v614 >>= fun v620 =>
    m_rule_Drop_L1 (p0, v1, v7, v8, v617, v620, (W (v211 + 1)))
  else
  some (v209, v210)
  partial_fixpoint
def P_rule_Drop_L1 : (T_spec_Spec × (List Int) × (List Int) × (List Int) × (List Int) × (List Int) × Int) → ((List Int) × (List Int)) → Prop := fun x r => match x with
  | (p0, v1, v7, v8, v209, v210, v211) => ∀ st, prune 4 ((firstRegion (codeAt [1, 1, 1, 1, 1, 0, 1, 0, 0] (bodyOf f18))).bind (env.hint 18).keepAt) st = ⟨kp 72 [(4, (.ptr 1 0)), (6, (.dat (.lst ((List.map intD) v1)))), (8, (.ms 2 1 0 v7.length v7.length)), (9, (.arr 3 0 v8.length v8.length)), (41, (.dat (.lst ((List.map intD) p0.values)))), (42, (intPV (p0.values.length : Int))), (43, (intPV v211))], [(.box [(.dat (.lst ((List.map intD) p0.values))), (boolPV p0.scalar)]), (.box [(.dat (.lst ((List.map intD) []))), (.dat (.lst ((List.map intD) []))), (.dat (.lst ((List.map intD) []))), (.dat (.lst ((List.map intD) []))), (intPV 0), (intPV 0), (.dat (.lst ((List.map intD) [])))]), (.mt 3 1 (cellsOf intD v209)), (.box (cellsOf intD v210))]⟩ →
    RL prog env (env.hint 18) true (codeAt [1, 1, 1, 1, 1, 0, 1, 0, 0] (bodyOf f18)) 4 st (fun e s => match r with | (v609, v610) => e = .exit 0 ∧ ∃ d, s = ⟨sl d 72 [(4, (.ptr 1 0)), (6, (.dat (.lst ((List.map intD) v1)))), (8, (.ms 2 1 0 v7.length v7.length)), (9, (.arr 3 0 v8.length v8.length))], [(.box [(.dat (.lst ((List.map intD) p0.values))), (boolPV p0.scalar)]), (.box [(.dat (.lst ((List.map intD) []))), (.dat (.lst ((List.map intD) []))), (.dat (.lst ((List.map intD) []))), (.dat (.lst ((List.map intD) []))), (intPV 0), (intPV 0), (.dat (.lst ((List.map intD) [])))]), (.mt 3 1 (cellsOf intD v609)), (.box (cellsOf intD v610))]⟩)
theorem w_rule_Drop_L1 : ∀ x r, m_rule_Drop_L1 x = some r → P_rule_Drop_L1 x r := by
  refine m_rule_Drop_L1.partial_correctness _ (fun m_rule_Drop_L1 w_rule_Drop_L1 x r hm => ?_)
  unfold P_rule_Drop_L1
  obtain ⟨p0, v1, v7, v8, v209, v210, v211⟩ := x
  intro st hst
  refine RL_at hst ?_
  clear hst
  refine R_seq ?_
  refine R_G ?_
  refine G_run 1 ?_
  refine G_end ?_
  refine R_seq ?_
  refine R_ifp (p := v211 < (p0.values.length : Int)) (rfl) (fun hc => ?_) (fun hc => ?_)
  · replace hm := pos_inv hc hm
    refine R_skip ?_
    refine R_seq ?_
    refine R_block ?_
    refine R_seq ?_
    refine R_G ?_
    refine G_run 1 ?_
    obtain ⟨v611, hx, hm⟩ := bind_inv hm
    refine I_idx 1 intD p0.values v211 v611 (es := (List.map intD) p0.values) (d := (intD v611)) rfl hx rfl rfl ?_
    refine G_run 3 ?_
    refine G_end ?_
    refine R_G ?_
    refine G_run 6 ?_
    obtain ⟨v612, hx, hm⟩ := bind_inv hm
    refine I_idx 1 intD v1 v211 v612 (es := (List.map intD) v1) (d := (intD v612)) rfl hx rfl rfl ?_
    refine G_run 2 ?_
    obtain ⟨⟨v613, v614⟩, hx, hm⟩ := bind_inv hm
    have hq := w_rule_dropped _ _ hx []
    refine G_callP hq ?_
    refine G_run 3 ?_
    obtain ⟨_, hl616, hm⟩ := bind_inv hm
    replace hl616 := guard_inv hl616
    obtain ⟨v615, hx, hm⟩ := bind_inv hm
    refine G_semN rfl (by kernel_rfl) (fun _ => E_indexMs (e := 3) (n := v211) (j := (v211).toNat) (tt := 2) (g := 1) (lo := 0) (len := v7.length) (cap := v7.length) (k := .i64) (by kernel_rfl) (by kernel_rfl) rfl (by kernel_rfl) (by kernel_rfl) (idx_nat hx) (Nat.lt_of_lt_of_eq (idx_lt hx) hl616)) ?_
    obtain ⟨v617, hx, hm⟩ := bind_inv hm
    refine G_semH (fun H => H.set 2 (.mt 3 1 (cellsOf intD v617))) rfl (by kernel_rfl) (fun _ => E_stMs intD (l := v209) (n := v211) (y := v613) hx (fun _ => rfl) (by kernel_rfl) rfl (by kernel_rfl) (by kernel_rfl) (by kernel_rfl) (by kernel_rfl)) ?_
    obtain ⟨_, hl619, hm⟩ := bind_inv hm
    replace hl619 := guard_inv hl619
    obtain ⟨v618, hx, hm⟩ := bind_inv hm
    refine G_semN rfl (by kernel_rfl) (fun _ => E_ixBox (e := 3) (l := v210) (n := v211) (i := 3) (cap := v8.length) (m := v8.length) hx hl619 (by kernel_rfl) (by kernel_rfl) rfl (by kernel_rfl) (by kernel_rfl)) ?_
    obtain ⟨v620, hx, hm⟩ := bind_inv hm
    refine G_semH (fun H => H.set 3 (.box (cellsOf intD v620))) rfl (by kernel_rfl) (fun _ => E_stBox intD (l := v210) (n := v211) (y := v614) hx (fun _ => rfl) (by kernel_rfl) rfl (by kernel_rfl) (by kernel_rfl) (by kernel_rfl) (by kernel_rfl)) ?_
    refine G_end ?_
    refine R_G ?_
    refine G_run 2 ?_
    refine G_end ?_
    exact w_rule_Drop_L1 _ _ hm _ (prune_of2 [(.box [(.dat (.lst ((List.map intD) p0.values))), (boolPV p0.scalar)]), (.box [(.dat (.lst ((List.map intD) []))), (.dat (.lst ((List.map intD) []))), (.dat (.lst ((List.map intD) []))), (.dat (.lst ((List.map intD) []))), (intPV 0), (intPV 0), (.dat (.lst ((List.map intD) [])))]), (.mt 3 1 (cellsOf intD v617)), (.box (cellsOf intD v620))] (fun _ => (pg_cons (by kernel_rfl) (pg_cons (by kernel_rfl) (pg_cons (purge_mt intD _ _ _ _ _) (pg_cons (purge_box intD _ _ _) pg_nil))))) rfl)
  replace hm := neg_inv hc hm
  refine R_exit ?_
  obtain rfl := inj1 hm
  exact ⟨rfl, cut_leaf (by kernel_rfl)⟩
def m_rule_Drop (x : (T_spec_Spec × (List Int))) : Option (T_rule_Rule × Int) :=
  match x with
  | (p0, p1) =>
  m_rule_seen (p1, (p0.values.length : Int)) >>= fun ((v1, v2) : ((List Int) × Int)) =>
  if v2 ≠ 0 then
    m_rule_failed v2 >>= fun ((v3, v4) : (T_rule_Rule × Int)) =>
    some (v3, v4)
  else
  if (p0.values.length : Int) > (v1.length : Int) then
    m_rule_failed 5 >>= fun ((v5, v6) : (T_rule_Rule × Int)) =>
    some (v5, v6)
  else
  m_slices_Clone_int_int v1 >>= fun v7 =>
  makeM 8 (v1.length : Int) 0 >>= fun v8 =>
  m_rule_Drop_L1 (p0, v1, v7, v8, v7, v8, 0) >>= fun ((v609, v610) : ((List Int) × (List Int))) =>
  m_rule_starts_bbeab (v8.length, p0.values, p0.scalar, v609, v610) >>= fun (_ : Unit) =>
  (
  m_rule_made_bfa0f (v1, v7.length, p0.values, p0.scalar, v609, v610, v8.length) >>= fun (out : Int ⊕ ((List Int) × (List Int))) =>
  match out with
  | .inl v621 =>
    some ((⟨([] : (List Int)), ([] : (List Int)), ([] : (List Int)), ([] : (List Int)), 0, 0, ([] : (List Int))⟩ : T_rule_Rule), v621)
  | .inr ((v622, v623)) =>
    guardM (v610.length = v8.length) >>= fun (_ : Unit) =>
    some ((⟨([] : (List Int)), v622, v623, v610, (-1), 0, ([] : (List Int))⟩ : T_rule_Rule), 0)
  )
def P_rule_Drop : (T_spec_Spec × (List Int)) → (T_rule_Rule × Int) → Prop := fun x r => match x, r with
  | (p0, p1), (r0, r1) => ∀ H, PC prog env 18 ([(T_spec_Spec.toD p0), (.lst ((List.map intD) p1))].map .dat) H (.tup [(.dat (T_rule_Rule.toD r0)), (intPV r1)]) H
theorem w_rule_Drop : ∀ x r, m_rule_Drop x = some r → P_rule_Drop x r := by
  intro x r hm
  unfold m_rule_Drop at hm
  unfold P_rule_Drop
  obtain ⟨p0, p1⟩ := x
  obtain ⟨r0, r1⟩ := r
  intro H
  refine PC_sx (ds := [(T_spec_Spec.toD p0), (.lst ((List.map intD) p1))]) (fn := f18) (by kernel_rfl) (by kernel_rfl) rfl ?_ (by kernel_rfl)
  refine R_seq ?_
  refine R_G ?_
  refine G_run 3 ?_
  refine G_end ?_
  refine R_seq ?_
  refine R_G ?_
  refine G_run 3 ?_
  refine I_len intD p0.values (es := (List.map intD) p0.values) rfl ?_
  obtain ⟨⟨v1, v2⟩, hx, hm⟩ := bind_inv hm
  have hq := w_rule_seen _ _ hx []
  refine G_callP hq ?_
  refine G_run 5 ?_
  refine G_end ?_
  refine R_seq ?_
  refine R_seq ?_
  refine R_G ?_
  refine G_run 2 ?_
  refine G_end ?_
  refine R_ifp (p := v2 ≠ 0) (ne_dec _ _) (fun hc => ?_) (fun hc => ?_)
  · replace hm := pos_inv hc hm
    refine R_seq ?_
    refine R_G ?_
    refine G_run 1 ?_
    obtain ⟨⟨v3, v4⟩, hx, hm⟩ := bind_inv hm
    have hq := w_rule_failed _ _ hx []
    refine G_callP hq ?_
    refine G_run 4 ?_
    refine G_end ?_
    refine R_ret ?_
    obtain ⟨rfl, rfl⟩ := inj2 hm
    exact ⟨trivial, fin_pure (by kernel_rfl)⟩
  replace hm := neg_inv hc hm
  refine R_skip ?_
  refine R_seq ?_
  refine R_seq ?_
  refine R_G ?_
  refine G_run 2 ?_
  refine I_len intD p0.values (es := (List.map intD) p0.values) rfl ?_
  refine G_run 1 ?_
  refine I_len intD v1 (es := (List.map intD) v1) rfl ?_
  refine G_run 1 ?_
  refine G_end ?_
  refine R_ifp (p := (p0.values.length : Int) > (v1.length : Int)) (rfl) (fun hc => ?_) (fun hc => ?_)
  · replace hm := pos_inv hc hm
    refine R_seq ?_
    refine R_G ?_
    obtain ⟨⟨v5, v6⟩, hx, hm⟩ := bind_inv hm
    have hq := w_rule_failed _ _ hx []
    refine G_callP hq ?_
    refine G_run 4 ?_
    refine G_end ?_
    refine R_ret ?_
    obtain ⟨rfl, rfl⟩ := inj2 hm
    exact ⟨trivial, fin_pure (by kernel_rfl)⟩
  replace hm := neg_inv hc hm
  refine R_skip ?_
  refine R_seq ?_
  refine R_GD ?_
  refine G_run 1 ?_
  obtain ⟨v7, hx, hm⟩ := bind_inv hm
  have hq := w_slices_Clone_int_int _ _ hx
  dsimp only [P_slices_Clone_int_int] at hq
  have hl9 : mtOf [Blk.mt 3 (cgm_slices_Clone_int_int v7) (cellsOf intD v7)] 0 = some (3, cgm_slices_Clone_int_int v7, cellsOf intD v7) := mtOf_at (by kernel_rfl)
  refine G_semH (v := .ms 2 1 0 v7.length v7.length) (fun H => H ++ [.mt 3 1 (cellsOf intD v7)]) rfl (by kernel_rfl) ?_ ?_
  · intro K hk
    refine E_callOwnN 2 (first := #[]) (cap := #[]) (j := (0, 3)) (ow' := []) (f0 := intD) (l := v7) rfl ?_ ?_ ?_ (ds := [.lst ((List.map intD) v1)]) ?_ hq hl9 ?_ ?_ ?_
    · kernel_rfl
    · kernel_rfl
    · kernel_rfl
    · kernel_rfl
    · exact hk
    · kernel_rfl
    · decide
  refine G_run 1 ?_
  refine I_len intD v1 (es := (List.map intD) v1) rfl ?_
  obtain ⟨v8, hx, hm⟩ := bind_inv hm
  refine G_semH (v := .arr 3 0 v8.length v8.length) (fun H => H ++ [.box (cellsOf intD v8)]) rfl (by kernel_rfl) ?_ ?_
  · intro K hk
    exact E_mkBoxN 3 intD (z := 0) (n := (v1.length : Int)) (bytes := 8) hx (e := 3) (by kernel_rfl) (by kernel_rfl) (by kernel_rfl) (by kernel_rfl) rfl rfl (by kernel_rfl) (by kernel_rfl) hk
  refine G_run 2 ?_
  refine G_end ⟨by kernel_rfl, ?_⟩
  refine R_seq ?_
  refine R_seq ?_
  refine R_G ?_
  refine G_run 2 ?_
  refine I_len intD p0.values (es := (List.map intD) p0.values) rfl ?_
  refine G_run 1 ?_
  refine G_end ?_
  refine R_block ?_
  obtain ⟨⟨v609, v610⟩, hs, hm⟩ := bind_inv hm
  refine R_loop ?_
  refine RL_use (w_rule_Drop_L1 _ _ hs) (prune_of2 [(.box [(.dat (.lst ((List.map intD) p0.values))), (boolPV p0.scalar)]), (.box [(.dat (.lst ((List.map intD) []))), (.dat (.lst ((List.map intD) []))), (.dat (.lst ((List.map intD) []))), (.dat (.lst ((List.map intD) []))), (intPV 0), (intPV 0), (.dat (.lst ((List.map intD) [])))]), (.mt 3 1 (cellsOf intD v7)), (.box (cellsOf intD v8))] (fun _ => (pg_cons (by kernel_rfl) (pg_cons (by kernel_rfl) (pg_cons (purge_mt intD _ _ _ _ _) (pg_cons (purge_box intD _ _ _) pg_nil))))) rfl) ?_
  clear hs
  intro e s hp
  obtain ⟨rfl, d, rfl⟩ := hp
  refine R_seq ?_
  refine R_G ?_
  refine G_run 3 ?_
  obtain ⟨_, hx, hm⟩ := bind_inv hm
  have hq := w_rule_starts_bbeab _ _ hx
  dsimp only [P_rule_starts_bbeab] at hq
  refine G_callB hq ?_
  refine G_run 1 ?_
  obtain ⟨out, hx, hm⟩ := bind_inv hm
  rcases out with v621 | ⟨v622, v623⟩
  · have hq := w_rule_made_bfa0f _ _ hx
    dsimp only [P_rule_made_bfa0f] at hq
    refine G_callB hq ?_
    refine G_run 4 ?_
    refine G_end ?_
    refine R_ret ?_
    obtain ⟨rfl, rfl⟩ := inj2 hm
    exact ⟨trivial, fin_pure (by kernel_rfl)⟩
  · have hq := w_rule_made_bfa0f _ _ hx
    dsimp only [P_rule_made_bfa0f] at hq
    refine G_callB hq ?_
    refine G_run 4 ?_
    refine G_end ?_
    refine R_ret ?_
    obtain ⟨_, hl624, hm⟩ := bind_inv hm
    replace hl624 := guard_inv hl624
    obtain ⟨rfl, rfl⟩ := inj2 hm
    exact ⟨trivial, fin_pureX [(.agg [(.dat (.lst ((List.map intD) []))), (.ms 7 1 0 v622.length v622.length), (.ms 8 1 0 v623.length v623.length), (.arr 3 0 v8.length v8.length), (intPV (-1)), (intPV 0), (.dat (.lst ((List.map intD) [])))]), (intPV 0)] (by kernel_rfl) (po_tup (ps_cons (p1_agg (pc_cons (by kernel_rfl) (pc_cons (pc_ms (e := 3) intD v622 rfl (fun _ => rfl) (by kernel_rfl)) (pc_cons (pc_ms (e := 3) intD v623 rfl (fun _ => rfl) (by kernel_rfl)) (pc_cons (pc_arr intD v610 hl624 (fun _ => rfl) (by kernel_rfl)) (pc_cons (by kernel_rfl) (pc_cons (by kernel_rfl) (pc_cons (by kernel_rfl) pc_nil)))))))) (ps_cons (by kernel_rfl) ps_nil)))⟩
end Go.Proofs.Try
namespace Go.Proofs.Try
open Go Go.Pm
set_option linter.unusedVariables false
set_option maxHeartbeats 2000000
set_option maxRecDepth 2000
def m_law13_RuleTakesDrop_L1 (x : ((List Int) × (List Int) × (List Int) × Int)) : Option (Nat ⊕ (List Int)) :=
  match x with
  | (p0, p1, v206, v207) =>
  if v207 < (p0.length : Int) then
    (idx p0 v207 >>= fun v609 =>
    idx p1 v207 >>= fun v610 =>
    if (W (v609)) > v610 then
      some true
    else
    idx p0 v207 >>= fun v611 =>
    idx p1 v207 >>= fun v612 =>
    some (decide ((W (0 - (W (v611)))) > v612))
    ) >>= fun (v608 : Bool) =>
    if v608 = true then
      some (Sum.inl v206.length)
    else
    idx p0 v207 >>= fun v613 =>
    app 8 v206 ([(W (v613))] : List Int) >>= fun v614 =>
    m_law13_RuleTakesDrop_L1 (p0, p1, v614, (W (v207 + 1)))
  else
  some (Sum.inr v206)
  partial_fixpoint
def P_law13_RuleTakesDrop_L1 : ((List Int) × (List Int) × (List Int) × Int) → (Nat ⊕ (List Int)) → Prop := fun x r => match x with
  | (p0, p1, v206, v207) => ∀ st, prune 1 ((firstRegion (codeAt [1, 1, 1, 0, 1, 0, 0] (bodyOf f4))).bind (env.hint 4).keepAt) st = ⟨kp 194 [(0, (.dat (.lst ((List.map (numD .i8)) p0)))), (1, (.dat (.lst ((List.map intD) p1)))), (5, (.vec 0 ((List.map intD) v206))), (6, (intPV v207))], [(.tok 2 v206.length)]⟩ →
    RL prog env (env.hint 4) true (codeAt [1, 1, 1, 0, 1, 0, 0] (bodyOf f4)) 1 st (fun e s => match r with | .inl v606 => e = .ret ∧ ∃ d, s = ⟨sl d 194 [(4, (boolPV true))], [(.tok 2 v606)]⟩ | .inr (v607) => e = .exit 0 ∧ ∃ d, s = ⟨sl d 194 [(0, (.dat (.lst ((List.map (numD .i8)) p0)))), (1, (.dat (.lst ((List.map intD) p1)))), (5, (.vec 0 ((List.map intD) v607)))], [(.tok 2 v607.length)]⟩)
theorem w_law13_RuleTakesDrop_L1 : ∀ x r, m_law13_RuleTakesDrop_L1 x = some r → P_law13_RuleTakesDrop_L1 x r := by
  refine m_law13_RuleTakesDrop_L1.partial_correctness _ (fun m_law13_RuleTakesDrop_L1 w_law13_RuleTakesDrop_L1 x r hm => ?_)
  unfold P_law13_RuleTakesDrop_L1
  obtain ⟨p0, p1, v206, v207⟩ := x
  intro st hst
  refine RL_at hst ?_
  clear hst
  refine R_seq ?_
  refine R_seq ?_
  refine R_G ?_
  refine G_run 2 ?_
  refine I_len (numD .i8) p0 (es := (List.map (numD .i8)) p0) rfl ?_
  refine G_run 1 ?_
  refine G_end ?_
  refine R_ifp (p := v207 < (p0.length : Int)) (rfl) (fun hc => ?_) (fun hc => ?_)
  · replace hm := pos_inv hc hm
    refine R_skip ?_
    refine R_seq ?_
    refine R_block ?_
    refine R_seq ?_
    refine R_seq ?_
    obtain ⟨v608, hs, hm⟩ := bind_inv hm
    refine R_cut (fun d => ⟨sl d 194 [(0, (.dat (.lst ((List.map (numD .i8)) p0)))), (1, (.dat (.lst ((List.map intD) p1)))), (5, (.vec 0 ((List.map intD) v206))), (6, (intPV v207)), (55, (boolPV v608))], [(.tok 2 v206.length)]⟩) ?_ (fun d => ?_)
    · replace hm := hs
      clear hs
      refine R_GD ?_
      refine G_run 2 ?_
      obtain ⟨v609, hx, hm⟩ := bind_inv hm
      refine I_idx 1 (numD .i8) p0 v207 v609 (es := (List.map (numD .i8)) p0) (d := (numD .i8 v609)) rfl hx rfl rfl ?_
      refine G_run 4 ?_
      obtain ⟨v610, hx, hm⟩ := bind_inv hm
      refine I_idx 1 intD p1 v207 v610 (es := (List.map intD) p1) (d := (intD v610)) rfl hx rfl rfl ?_
      refine G_run 3 ?_
      refine G_split (p := (W (v609)) > v610) 43 (rfl) (fun hc => ?_) (fun hc => ?_)
      · replace hm := pos_inv hc hm
        refine G_run 12 ?_
        refine G_end ⟨by kernel_rfl, ?_⟩
        obtain rfl := inj1 hm
        exact cut_leaf (by kernel_rfl)
      replace hm := neg_inv hc hm
      refine G_run 2 ?_
      obtain ⟨v611, hx, hm⟩ := bind_inv hm
      refine I_idx 1 (numD .i8) p0 v207 v611 (es := (List.map (numD .i8)) p0) (d := (numD .i8 v611)) rfl hx rfl rfl ?_
      refine G_run 5 ?_
      obtain ⟨v612, hx, hm⟩ := bind_inv hm
      refine I_idx 1 intD p1 v207 v612 (es := (List.map intD) p1) (d := (intD v612)) rfl hx rfl rfl ?_
      refine G_run 3 ?_
      refine G_end ⟨by kernel_rfl, ?_⟩
      obtain rfl := inj1 hm
      exact cut_leaf (by kernel_rfl)
    clear hs
    refine R_ifp (p := v608 = true) (bool_dec _) (fun hc => ?_) (fun hc => ?_)
    · replace hm := pos_inv hc hm
      refine R_seq ?_
      refine R_G ?_
      refine G_run 1 ?_
      refine G_end ?_
      refine R_ret ?_
      obtain rfl := inj1 hm
      exact ⟨rfl, cut_leaf (by kernel_rfl)⟩
    replace hm := neg_inv hc hm
    refine R_skip ?_
    refine R_G ?_
    refine G_run 3 ?_
    obtain ⟨v613, hx, hm⟩ := bind_inv hm
    refine I_idx 1 (numD .i8) p0 v207 v613 (es := (List.map (numD .i8)) p0) (d := (numD .i8 v613)) rfl hx rfl rfl ?_
    refine G_run 3 ?_
    obtain ⟨v614, hx, hm⟩ := bind_inv hm
    refine I_app 2 1 8 0 intD v206 ([(W (v613))] : List Int) v614 (xs := (List.map intD) v206) (es := (List.map intD) ([(W (v613))] : List Int)) (L := (List.map intD)) (fun _ => rfl) rfl rfl (fun _ => rfl) hx ?_
    refine G_run 1 ?_
    refine G_end ?_
    refine R_G ?_
    refine G_run 3 ?_
    refine G_end ?_
    exact w_law13_RuleTakesDrop_L1 _ _ hm _ (by kernel_rfl)
  replace hm := neg_inv hc hm
  refine R_exit ?_
  obtain rfl := inj1 hm
  exact ⟨rfl, cut_leaf (by kernel_rfl)⟩
def m_law13_RuleTakesDrop_L2 (x : ((List Int) × T_rule_Rule × T_rule_Rule × (List Int) × (List Int) × Int)) : Option (Unit ⊕ Unit) :=
  match x with
  | (p1, v616, v619, p0, v607, v826) =>
  if v826 < (p1.length : Int) then
    (idx v616.shape v826 >>= fun v1227 =>
    idx v619.shape v826 >>= fun v1228 =>
    idx p1 v826 >>= fun v1229 =>
    (if (W (v1227 + v1228)) ≠ v1229 then
      some true
    else
    idx p0 v826 >>= fun v1231 =>
    if v1231 ≥ 0 then
      idx v616.starts v826 >>= fun v1232 =>
      (if v1232 ≠ 0 then
        some true
      else
      idx v619.starts v826 >>= fun v1234 =>
      idx v616.shape v826 >>= fun v1235 =>
      some (v1234 != v1235)
      ) >>= fun (v1233 : Bool) =>
      some v1233
    else
    some false
    ) >>= fun (v1230 : Bool) =>
    if v1230 = true then
      some true
    else
    idx p0 v826 >>= fun v1236 =>
    if v1236 < 0 then
      idx v619.starts v826 >>= fun v1237 =>
      (if v1237 ≠ 0 then
        some true
      else
      idx v616.starts v826 >>= fun v1239 =>
      idx v619.shape v826 >>= fun v1240 =>
      some (v1239 != v1240)
      ) >>= fun (v1238 : Bool) =>
      some v1238
    else
    some false
    ) >>= fun (v1226 : Bool) =>
    if v1226 = true then
      some (Sum.inl ())
    else
    m_law13_RuleTakesDrop_L2 (p1, v616, v619, p0, v607, (W (v826 + 1)))
  else
  some (Sum.inr ())
  partial_fixpoint
def P_law13_RuleTakesDrop_L2 : ((List Int) × T_rule_Rule × T_rule_Rule × (List Int) × (List Int) × Int) → (Unit ⊕ Unit) → Prop := fun x r => match x with
  | (p1, v616, v619, p0, v607, v826) => ∀ st, prune 3 ((firstRegion (codeAt [1, 1, 1, 1, 1, 1, 1, 0, 1, 0, 0] (bodyOf f4))).bind (env.hint 4).keepAt) st = ⟨kp 194 [(0, (.dat (.lst ((List.map (numD .i8)) p0)))), (1, (.dat (.lst ((List.map intD) p1)))), (7, (.ptr 1 0)), (9, (.ptr 2 0)), (11, (intPV v826))], [(.tok 2 v607.length), (.box [(.dat (.lst ((List.map intD) v616.left))), (.dat (.lst ((List.map intD) v616.right))), (.dat (.lst ((List.map intD) v616.shape))), (.dat (.lst ((List.map intD) v616.starts))), (intPV v616.axis), (intPV v616.amount), (.dat (.lst ((List.map intD) v616.perm)))]), (.box [(.dat (.lst ((List.map intD) v619.left))), (.dat (.lst ((List.map intD) v619.right))), (.dat (.lst ((List.map intD) v619.shape))), (.dat (.lst ((List.map intD) v619.starts))), (intPV v619.axis), (intPV v619.amount), (.dat (.lst ((List.map intD) v619.perm)))])]⟩ →
    RL prog env (env.hint 4) true (codeAt [1, 1, 1, 1, 1, 1, 1, 0, 1, 0, 0] (bodyOf f4)) 3 st (fun e s => match r with | .inl _ => e = .ret ∧ ∃ d, s = ⟨sl d 194 [(4, (boolPV false))], [(.tok 2 v607.length), (.box [(.dat (.lst ((List.map intD) v616.left))), (.dat (.lst ((List.map intD) v616.right))), (.dat (.lst ((List.map intD) v616.shape))), (.dat (.lst ((List.map intD) v616.starts))), (intPV v616.axis), (intPV v616.amount), (.dat (.lst ((List.map intD) v616.perm)))]), (.box [(.dat (.lst ((List.map intD) v619.left))), (.dat (.lst ((List.map intD) v619.right))), (.dat (.lst ((List.map intD) v619.shape))), (.dat (.lst ((List.map intD) v619.starts))), (intPV v619.axis), (intPV v619.amount), (.dat (.lst ((List.map intD) v619.perm)))])]⟩ | .inr (_) => e = .exit 2 ∧ ∃ d, s = ⟨sl d 194 [], [(.tok 2 v607.length), (.box [(.dat (.lst ((List.map intD) v616.left))), (.dat (.lst ((List.map intD) v616.right))), (.dat (.lst ((List.map intD) v616.shape))), (.dat (.lst ((List.map intD) v616.starts))), (intPV v616.axis), (intPV v616.amount), (.dat (.lst ((List.map intD) v616.perm)))]), (.box [(.dat (.lst ((List.map intD) v619.left))), (.dat (.lst ((List.map intD) v619.right))), (.dat (.lst ((List.map intD) v619.shape))), (.dat (.lst ((List.map intD) v619.starts))), (intPV v619.axis), (intPV v619.amount), (.dat (.lst ((List.map intD) v619.perm)))])]⟩)
theorem w_law13_RuleTakesDrop_L2 : ∀ x r, m_law13_RuleTakesDrop_L2 x = some r → P_law13_RuleTakesDrop_L2 x r := by
  refine m_law13_RuleTakesDrop_L2.partial_correctness _ (fun m_law13_RuleTakesDrop_L2 w_law13_RuleTakesDrop_L2 x r hm => ?_)
  unfold P_law13_RuleTakesDrop_L2
  obtain ⟨p1, v616, v619, p0, v607, v826⟩ := x
  intro st hst
  refine RL_at hst ?_
  clear hst
  refine R_seq ?_
  refine R_seq ?_
  refine R_G ?_
  refine G_run 2 ?_
  refine I_len intD p1 (es := (List.map intD) p1) rfl ?_
  refine G_run 1 ?_
  refine G_end ?_
  refine R_ifp (p := v826 < (p1.length : Int)) (rfl) (fun hc => ?_) (fun hc => ?_)
  · replace hm := pos_inv hc hm
    refine R_skip ?_
    refine R_seq ?_
    refine R_block ?_
    refine R_seq ?_
    obtain ⟨v1226, hs, hm⟩ := bind_inv hm
    refine R_cut (fun d => ⟨sl d 194 [(0, (.dat (.lst ((List.map (numD .i8)) p0)))), (1, (.dat (.lst ((List.map intD) p1)))), (7, (.ptr 1 0)), (9, (.ptr 2 0)), (11, (intPV v826)), (193, (boolPV v1226))], [(.tok 2 v607.length), (.box [(.dat (.lst ((List.map intD) v616.left))), (.dat (.lst ((List.map intD) v616.right))), (.dat (.lst ((List.map intD) v616.shape))), (.dat (.lst ((List.map intD) v616.starts))), (intPV v616.axis), (intPV v616.amount), (.dat (.lst ((List.map intD) v616.perm)))]), (.box [(.dat (.lst ((List.map intD) v619.left))), (.dat (.lst ((List.map intD) v619.right))), (.dat (.lst ((List.map intD) v619.shape))), (.dat (.lst ((List.map intD) v619.starts))), (intPV v619.axis), (intPV v619.amount), (.dat (.lst ((List.map intD) v619.perm)))])]⟩) ?_ (fun d => ?_)
    · replace hm := hs
      clear hs
      refine R_GW ?_
      refine G_run 3 ?_
      obtain ⟨v1227, hx, hm⟩ := bind_inv hm
      refine I_idx 1 intD v616.shape v826 v1227 (es := (List.map intD) v616.shape) (d := (intD v1227)) rfl hx rfl rfl ?_
      refine G_run 4 ?_
      obtain ⟨v1228, hx, hm⟩ := bind_inv hm
      refine I_idx 1 intD v619.shape v826 v1228 (es := (List.map intD) v619.shape) (d := (intD v1228)) rfl hx rfl rfl ?_
      refine G_run 4 ?_
      obtain ⟨v1229, hx, hm⟩ := bind_inv hm
      refine I_idx 1 intD p1 v826 v1229 (es := (List.map intD) p1) (d := (intD v1229)) rfl hx rfl rfl ?_
      refine G_run 3 ?_
      obtain ⟨v1230, hs, hm⟩ := bind_inv hm
      refine G_cut (j := 44) (fun d => ⟨sl d 194 [(0, (.dat (.lst ((List.map (numD .i8)) p0)))), (1, (.dat (.lst ((List.map intD) p1)))), (7, (.ptr 1 0)), (9, (.ptr 2 0)), (11, (intPV v826)), (116, (intPV v826)), (117, (.dat (.lst ((List.map intD) p1)))), (118, (intPV (p1.length : Int))), (119, (boolPV (decide (v826 < (p1.length : Int))))), (122, (.ptr 1 2)), (123, (.dat (.lst ((List.map intD) v616.shape)))), (124, (intPV v826)), (125, (.iptr [(intD v1227)])), (126, (intPV v1227)), (127, (.ptr 2 2)), (128, (.dat (.lst ((List.map intD) v619.shape)))), (129, (intPV v826)), (130, (.iptr [(intD v1228)])), (131, (intPV v1228)), (132, (intPV (W (v1227 + v1228)))), (133, (.dat (.lst ((List.map intD) p1)))), (134, (intPV v826)), (135, (.iptr [(intD v1229)])), (136, (intPV v1229)), (137, (boolPV ((W (v1227 + v1228)) != v1229))), (165, (boolPV v1230))], [(.tok 2 v607.length), (.box [(.dat (.lst ((List.map intD) v616.left))), (.dat (.lst ((List.map intD) v616.right))), (.dat (.lst ((List.map intD) v616.shape))), (.dat (.lst ((List.map intD) v616.starts))), (intPV v616.axis), (intPV v616.amount), (.dat (.lst ((List.map intD) v616.perm)))]), (.box [(.dat (.lst ((List.map intD) v619.left))), (.dat (.lst ((List.map intD) v619.right))), (.dat (.lst ((List.map intD) v619.shape))), (.dat (.lst ((List.map intD) v619.starts))), (intPV v619.axis), (intPV v619.amount), (.dat (.lst ((List.map intD) v619.perm)))])]⟩) (fun d => ?_) (fun hJ => ?_)
      · clear hs
        refine G_run 1 ?_
        refine G_split (p := v1230 = true) 166 (bool_dec _) (fun hc => ?_) (fun hc => ?_)
        · replace hm := pos_inv hc hm
          refine G_run 27 ?_
          refine G_end ⟨by kernel_rfl, ?_⟩
          obtain rfl := inj1 hm
          exact cut_leaf (by kernel_rfl)
        replace hm := neg_inv hc hm
        refine G_run 2 ?_
        obtain ⟨v1236, hx, hm⟩ := bind_inv hm
        refine I_idx 1 (numD .i8) p0 v826 v1236 (es := (List.map (numD .i8)) p0) (d := (numD .i8 v1236)) rfl hx rfl rfl ?_
        refine G_run 3 ?_
        refine G_split (p := v1236 < 0) 172 (rfl) (fun hc => ?_) (fun hc => ?_)
        · replace hm := pos_inv hc hm
          refine G_run 3 ?_
          obtain ⟨v1237, hx, hm⟩ := bind_inv hm
          refine I_idx 1 intD v619.starts v826 v1237 (es := (List.map intD) v619.starts) (d := (intD v1237)) rfl hx rfl rfl ?_
          refine G_run 3 ?_
          obtain ⟨v1238, hs, hm⟩ := bind_inv hm
          refine G_cut (j := 70) (fun d => ⟨sl d 194 [(0, (.dat (.lst ((List.map (numD .i8)) p0)))), (1, (.dat (.lst ((List.map intD) p1)))), (7, (.ptr 1 0)), (9, (.ptr 2 0)), (11, (intPV v826)), (116, (intPV v826)), (117, (.dat (.lst ((List.map intD) p1)))), (118, (intPV (p1.length : Int))), (119, (boolPV (decide (v826 < (p1.length : Int))))), (122, (.ptr 1 2)), (123, (.dat (.lst ((List.map intD) v616.shape)))), (124, (intPV v826)), (125, (.iptr [(intD v1227)])), (126, (intPV v1227)), (127, (.ptr 2 2)), (128, (.dat (.lst ((List.map intD) v619.shape)))), (129, (intPV v826)), (130, (.iptr [(intD v1228)])), (131, (intPV v1228)), (132, (intPV (W (v1227 + v1228)))), (133, (.dat (.lst ((List.map intD) p1)))), (134, (intPV v826)), (135, (.iptr [(intD v1229)])), (136, (intPV v1229)), (137, (boolPV ((W (v1227 + v1228)) != v1229))), (165, (boolPV v1230)), (166, (boolPV false)), (167, (.dat (.lst ((List.map (numD .i8)) p0)))), (168, (intPV v826)), (169, (.iptr [(numD .i8 v1236)])), (170, (.dat (numD .i8 v1236))), (171, (boolPV (decide (v1236 < 0)))), (172, (boolPV true)), (173, (.ptr 2 3)), (174, (.dat (.lst ((List.map intD) v619.starts)))), (175, (intPV v826)), (176, (.iptr [(intD v1237)])), (177, (intPV v1237)), (178, (boolPV (v1237 != 0))), (191, (boolPV v1238))], [(.tok 2 v607.length), (.box [(.dat (.lst ((List.map intD) v616.left))), (.dat (.lst ((List.map intD) v616.right))), (.dat (.lst ((List.map intD) v616.shape))), (.dat (.lst ((List.map intD) v616.starts))), (intPV v616.axis), (intPV v616.amount), (.dat (.lst ((List.map intD) v616.perm)))]), (.box [(.dat (.lst ((List.map intD) v619.left))), (.dat (.lst ((List.map intD) v619.right))), (.dat (.lst ((List.map intD) v619.shape))), (.dat (.lst ((List.map intD) v619.starts))), (intPV v619.axis), (intPV v619.amount), (.dat (.lst ((List.map intD) v619.perm)))])]⟩) (fun d => ?_) (fun hJ => ?_)
          · clear hs
            refine G_run 2 ?_
            refine G_end ⟨by kernel_rfl, ?_⟩
            obtain rfl := inj1 hm
            exact cut_leaf (by kernel_rfl)
          replace hm := hs
          clear hs
          refine G_split (p := v1237 ≠ 0) 179 (ne_dec _ _) (fun hc => ?_) (fun hc => ?_)
          · replace hm := pos_inv hc hm
            refine G_run 12 ?_
            obtain rfl := inj1 hm
            exact hJ _ _ (by kernel_rfl) (by kernel_rfl)
          replace hm := neg_inv hc hm
          refine G_run 3 ?_
          obtain ⟨v1239, hx, hm⟩ := bind_inv hm
          refine I_idx 1 intD v616.starts v826 v1239 (es := (List.map intD) v616.starts) (d := (intD v1239)) rfl hx rfl rfl ?_
          refine G_run 4 ?_
          obtain ⟨v1240, hx, hm⟩ := bind_inv hm
          refine I_idx 1 intD v619.shape v826 v1240 (es := (List.map intD) v619.shape) (d := (intD v1240)) rfl hx rfl rfl ?_
          refine G_run 3 ?_
          obtain rfl := inj1 hm
          exact hJ _ _ (by kernel_rfl) (by kernel_rfl)
        replace hm := neg_inv hc hm
        refine G_run 21 ?_
        refine G_end ⟨by kernel_rfl, ?_⟩
        obtain rfl := inj1 hm
        exact cut_leaf (by kernel_rfl)
      replace hm := hs
      clear hs
      refine G_split (p := (W (v1227 + v1228)) ≠ v1229) 138 (ne_dec _ _) (fun hc => ?_) (fun hc => ?_)
      · replace hm := pos_inv hc hm
        refine G_run 27 ?_
        obtain rfl := inj1 hm
        exact hJ _ _ (by kernel_rfl) (by kernel_rfl)
      replace hm := neg_inv hc hm
      refine G_run 2 ?_
      obtain ⟨v1231, hx, hm⟩ := bind_inv hm
      refine I_idx 1 (numD .i8) p0 v826 v1231 (es := (List.map (numD .i8)) p0) (d := (numD .i8 v1231)) rfl hx rfl rfl ?_
      refine G_run 3 ?_
      refine G_split (p := v1231 ≥ 0) 144 (rfl) (fun hc => ?_) (fun hc => ?_)
      · replace hm := pos_inv hc hm
        refine G_run 3 ?_
        obtain ⟨v1232, hx, hm⟩ := bind_inv hm
        refine I_idx 1 intD v616.starts v826 v1232 (es := (List.map intD) v616.starts) (d := (intD v1232)) rfl hx rfl rfl ?_
        refine G_run 3 ?_
        obtain ⟨v1233, hs, hm⟩ := bind_inv hm
        refine G_cut (j := 42) (fun d => ⟨sl d 194 [(0, (.dat (.lst ((List.map (numD .i8)) p0)))), (1, (.dat (.lst ((List.map intD) p1)))), (7, (.ptr 1 0)), (9, (.ptr 2 0)), (11, (intPV v826)), (116, (intPV v826)), (117, (.dat (.lst ((List.map intD) p1)))), (118, (intPV (p1.length : Int))), (119, (boolPV (decide (v826 < (p1.length : Int))))), (122, (.ptr 1 2)), (123, (.dat (.lst ((List.map intD) v616.shape)))), (124, (intPV v826)), (125, (.iptr [(intD v1227)])), (126, (intPV v1227)), (127, (.ptr 2 2)), (128, (.dat (.lst ((List.map intD) v619.shape)))), (129, (intPV v826)), (130, (.iptr [(intD v1228)])), (131, (intPV v1228)), (132, (intPV (W (v1227 + v1228)))), (133, (.dat (.lst ((List.map intD) p1)))), (134, (intPV v826)), (135, (.iptr [(intD v1229)])), (136, (intPV v1229)), (137, (boolPV ((W (v1227 + v1228)) != v1229))), (138, (boolPV false)), (139, (.dat (.lst ((List.map (numD .i8)) p0)))), (140, (intPV v826)), (141, (.iptr [(numD .i8 v1231)])), (142, (.dat (numD .i8 v1231))), (143, (boolPV (decide (v1231 ≥ 0)))), (144, (boolPV true)), (145, (.ptr 1 3)), (146, (.dat (.lst ((List.map intD) v616.starts)))), (147, (intPV v826)), (148, (.iptr [(intD v1232)])), (149, (intPV v1232)), (150, (boolPV (v1232 != 0))), (163, (boolPV v1233))], [(.tok 2 v607.length), (.box [(.dat (.lst ((List.map intD) v616.left))), (.dat (.lst ((List.map intD) v616.right))), (.dat (.lst ((List.map intD) v616.shape))), (.dat (.lst ((List.map intD) v616.starts))), (intPV v616.axis), (intPV v616.amount), (.dat (.lst ((List.map intD) v616.perm)))]), (.box [(.dat (.lst ((List.map intD) v619.left))), (.dat (.lst ((List.map intD) v619.right))), (.dat (.lst ((List.map intD) v619.shape))), (.dat (.lst ((List.map intD) v619.starts))), (intPV v619.axis), (intPV v619.amount), (.dat (.lst ((List.map intD) v619.perm)))])]⟩) (fun d => ?_) (fun hJ => ?_)
        · clear hs
          refine G_run 2 ?_
          obtain rfl := inj1 hm
          exact hJ _ _ (by kernel_rfl) (by kernel_rfl)
        replace hm := hs
        clear hs
        refine G_split (p := v1232 ≠ 0) 151 (ne_dec _ _) (fun hc => ?_) (fun hc => ?_)
        · replace hm := pos_inv hc hm
          refine G_run 12 ?_
          obtain rfl := inj1 hm
          exact hJ _ _ (by kernel_rfl) (by kernel_rfl)
        replace hm := neg_inv hc hm
        refine G_run 3 ?_
        obtain ⟨v1234, hx, hm⟩ := bind_inv hm
        refine I_idx 1 intD v619.starts v826 v1234 (es := (List.map intD) v619.starts) (d := (intD v1234)) rfl hx rfl rfl ?_
        refine G_run 4 ?_
        obtain ⟨v1235, hx, hm⟩ := bind_inv hm
        refine I_idx 1 intD v616.shape v826 v1235 (es := (List.map intD) v616.shape) (d := (intD v1235)) rfl hx rfl rfl ?_
        refine G_run 3 ?_
        obtain rfl := inj1 hm
        exact hJ _ _ (by kernel_rfl) (by kernel_rfl)
      replace hm := neg_inv hc hm
      refine G_run 21 ?_
      obtain rfl := inj1 hm
      exact hJ _ _ (by kernel_rfl) (by kernel_rfl)
    clear hs
    refine R_ifp (p := v1226 = true) (bool_dec _) (fun hc => ?_) (fun hc => ?_)
    · replace hm := pos_inv hc hm
      refine R_seq ?_
      refine R_G ?_
      refine G_run 1 ?_
      refine G_end ?_
      refine R_ret ?_
      obtain rfl := inj1 hm
      exact ⟨rfl, cut_leaf (by kernel_rfl)⟩
    replace hm := neg_inv hc hm
    refine R_skip ?_
    refine R_G ?_
    refine G_run 3 ?_
    refine G_end ?_
    exact w_law13_RuleTakesDrop_L2 _ _ hm _ (by kernel_rfl)
  replace hm := neg_inv hc hm
  refine R_exit ?_
  obtain rfl := inj1 hm
  exact ⟨rfl, cut_leaf (by kernel_rfl)⟩
def m_law13_RuleTakesDrop (x : ((List Int) × (List Int))) : Option Bool :=
  match x with
  | (p0, p1) =>
  (m_law13_awake () >>= fun (v2 : Bool) =>
  (if v2 = false then
    some true
  else
  m_ref02_Check p1 >>= fun (v4 : Int) =>
  some (v4 != 0)
  ) >>= fun (v3 : Bool) =>
  if v3 = true then
    some true
  else
  some ((p0.length : Int) != (p1.length : Int))
  ) >>= fun (v1 : Bool) =>
  if v1 = true then
    m_law13_awake () >>= fun (v5 : Bool) =>
    some v5
  else
  (
  m_law13_RuleTakesDrop_L1 (p0, p1, ([] : List Int), 0) >>= fun (out : Nat ⊕ (List Int)) =>
  match out with
  | .inl v606 =>
    some true
  | .inr (v607) =>
    m_law13_left v607 >>= fun (v615 : T_spec_Spec) =>
    m_rule_Take ((⟨v615.values, v615.scalar⟩ : T_spec_Spec), p1) >>= fun ((v616, v617) : (T_rule_Rule × Int)) =>
    m_law13_left v607 >>= fun (v618 : T_spec_Spec) =>
    m_rule_Drop ((⟨v618.values, v618.scalar⟩ : T_spec_Spec), p1) >>= fun ((v619, v620) : (T_rule_Rule × Int)) =>
    ((if v617 ≠ 0 then
      some true
    else
    some (v620 != 0)
    ) >>= fun (v622 : Bool) =>
    (if v622 = true then
      some true
    else
    some ((v616.shape.length : Int) != (p1.length : Int))
    ) >>= fun (v623 : Bool) =>
    (if v623 = true then
      some true
    else
    some ((v619.shape.length : Int) != (p1.length : Int))
    ) >>= fun (v624 : Bool) =>
    (if v624 = true then
      some true
    else
    some ((v616.starts.length : Int) != (p1.length : Int))
    ) >>= fun (v625 : Bool) =>
    if v625 = true then
      some true
    else
    some ((v619.starts.length : Int) != (p1.length : Int))
    ) >>= fun (v621 : Bool) =>
    if v621 = true then
      some false
    else
    (
    m_law13_RuleTakesDrop_L2 (p1, v616, v619, p0, v607, 0) >>= fun (out : Unit ⊕ Unit) =>
    match out with
    | .inl _ =>
      some false
    | .inr (_) =>
      some true
    )
  )
def P_law13_RuleTakesDrop : ((List Int) × (List Int)) → Bool → Prop := fun x r => match x, r with
  | (p0, p1), r0 => ∀ H, PC prog env 4 ([(.lst ((List.map (numD .i8)) p0)), (.lst ((List.map intD) p1))].map .dat) H (boolPV r0) H
theorem w_law13_RuleTakesDrop : ∀ x r, m_law13_RuleTakesDrop x = some r → P_law13_RuleTakesDrop x r := by
  intro x r0 hm
  unfold m_law13_RuleTakesDrop at hm
  unfold P_law13_RuleTakesDrop
  obtain ⟨p0, p1⟩ := x
  intro H
  refine PC_sx (ds := [(.lst ((List.map (numD .i8)) p0)), (.lst ((List.map intD) p1))]) (fn := f4) (by kernel_rfl) (by kernel_rfl) rfl ?_ (by kernel_rfl)
  refine R_seq ?_
  refine R_G ?_
  refine G_run 1 ?_
  refine G_end ?_
  refine R_seq ?_
  refine R_seq ?_
  obtain ⟨v1, hs, hm⟩ := bind_inv hm
  refine R_cut (fun d => ⟨sl d 194 [(0, (.dat (.lst ((List.map (numD .i8)) p0)))), (1, (.dat (.lst ((List.map intD) p1)))), (25, (boolPV v1))], []⟩) ?_ (fun d => ?_)
  · replace hm := hs
    clear hs
    refine R_GN ?_
    obtain ⟨v2, hx, hm⟩ := bind_inv hm
    have hq := w_law13_awake _ _ hx []
    refine G_callP hq ?_
    refine G_run 2 ?_
    obtain ⟨v3, hs, hm⟩ := bind_inv hm
    refine G_cut (j := 7) (fun d => ⟨sl d 194 [(0, (.dat (.lst ((List.map (numD .i8)) p0)))), (1, (.dat (.lst ((List.map intD) p1)))), (4, (boolPV false)), (12, (boolPV v2)), (13, (boolPV (!v2))), (18, (boolPV v3))], []⟩) (fun d => ?_) (fun hJ => ?_)
    · clear hs
      refine G_run 1 ?_
      refine G_split (p := v3 = true) 19 (bool_dec _) (fun hc => ?_) (fun hc => ?_)
      · replace hm := pos_inv hc hm
        refine G_run 6 ?_
        refine G_end ⟨by kernel_rfl, ?_⟩
        obtain rfl := inj1 hm
        exact cut_leaf (by kernel_rfl)
      replace hm := neg_inv hc hm
      refine G_run 1 ?_
      refine I_len (numD .i8) p0 (es := (List.map (numD .i8)) p0) rfl ?_
      refine G_run 1 ?_
      refine I_len intD p1 (es := (List.map intD) p1) rfl ?_
      refine G_run 2 ?_
      refine G_end ⟨by kernel_rfl, ?_⟩
      obtain rfl := inj1 hm
      exact cut_leaf (by kernel_rfl)
    replace hm := hs
    clear hs
    refine G_split (p := v2 = false) 14 (not_dec _) (fun hc => ?_) (fun hc => ?_)
    · replace hm := pos_inv hc hm
      refine G_run 4 ?_
      obtain rfl := inj1 hm
      exact hJ _ _ (by kernel_rfl) (by kernel_rfl)
    replace hm := neg_inv hc hm
    refine G_run 1 ?_
    obtain ⟨v4, hx, hm⟩ := bind_inv hm
    have hq := w_ref02_Check _ _ hx []
    refine G_callP hq ?_
    refine G_run 2 ?_
    obtain rfl := inj1 hm
    exact hJ _ _ (by kernel_rfl) (by kernel_rfl)
  clear hs
  refine R_ifp (p := v1 = true) (bool_dec _) (fun hc => ?_) (fun hc => ?_)
  · replace hm := pos_inv hc hm
    refine R_seq ?_
    refine R_G ?_
    obtain ⟨v5, hx, hm⟩ := bind_inv hm
    have hq := w_law13_awake _ _ hx []
    refine G_callP hq ?_
    refine G_run 1 ?_
    refine G_end ?_
    refine R_ret ?_
    obtain rfl := inj1 hm
    exact ⟨trivial, fin_pure (by kernel_rfl)⟩
  replace hm := neg_inv hc hm
  refine R_skip ?_
  refine R_seq ?_
  refine R_G ?_
  refine G_run 1 ?_
  refine G_end ?_
  refine R_seq ?_
  refine R_seq ?_
  refine R_G ?_
  refine G_run 1 ?_
  refine G_end ?_
  refine R_block ?_
  obtain ⟨out, hs, hm⟩ := bind_inv hm
  refine R_loop ?_
  rcases out with v606 | v607
  · refine RL_use (w_law13_RuleTakesDrop_L1 _ _ hs) (by kernel_rfl) ?_
    clear hs
    intro e s hp
    obtain ⟨rfl, d, rfl⟩ := hp
    obtain rfl := inj1 hm
    exact ⟨trivial, fin_pure (by kernel_rfl)⟩
  · refine RL_use (w_law13_RuleTakesDrop_L1 _ _ hs) (by kernel_rfl) ?_
    clear hs
    intro e s hp
    obtain ⟨rfl, d, rfl⟩ := hp
    refine R_seq ?_
    refine R_G ?_
    refine G_run 1 ?_
    obtain ⟨v615, hx, hm⟩ := bind_inv hm
    have hq := w_law13_left _ _ hx []
    refine G_callP hq ?_
    refine G_run 1 ?_
    obtain ⟨⟨v616, v617⟩, hx, hm⟩ := bind_inv hm
    have hq := w_rule_Take _ _ hx []
    refine G_callP hq ?_
    refine G_run 6 ?_
    refine G_end ?_
    refine R_seq ?_
    refine R_G ?_
    refine G_run 1 ?_
    obtain ⟨v618, hx, hm⟩ := bind_inv hm
    have hq := w_law13_left _ _ hx []
    refine G_callP hq ?_
    refine G_run 1 ?_
    obtain ⟨⟨v619, v620⟩, hx, hm⟩ := bind_inv hm
    have hq := w_rule_Drop _ _ hx []
    refine G_callP hq ?_
    refine G_run 6 ?_
    refine G_end ?_
    refine R_seq ?_
    refine R_seq ?_
    obtain ⟨v621, hs, hm⟩ := bind_inv hm
    refine R_cut (fun d => ⟨sl d 194 [(0, (.dat (.lst ((List.map (numD .i8)) p0)))), (1, (.dat (.lst ((List.map intD) p1)))), (7, (.ptr 1 0)), (9, (.ptr 2 0)), (115, (boolPV v621))], [(.tok 2 v607.length), (.box [(.dat (.lst ((List.map intD) v616.left))), (.dat (.lst ((List.map intD) v616.right))), (.dat (.lst ((List.map intD) v616.shape))), (.dat (.lst ((List.map intD) v616.starts))), (intPV v616.axis), (intPV v616.amount), (.dat (.lst ((List.map intD) v616.perm)))]), (.box [(.dat (.lst ((List.map intD) v619.left))), (.dat (.lst ((List.map intD) v619.right))), (.dat (.lst ((List.map intD) v619.shape))), (.dat (.lst ((List.map intD) v619.starts))), (intPV v619.axis), (intPV v619.amount), (.dat (.lst ((List.map intD) v619.perm)))])]⟩) ?_ (fun d => ?_)
    · replace hm := hs
      clear hs
      refine R_GN ?_
      refine G_run 3 ?_
      obtain ⟨v622, hs, hm⟩ := bind_inv hm
      refine G_cut (j := 6) (fun d => ⟨sl d 194 [(0, (.dat (.lst ((List.map (numD .i8)) p0)))), (1, (.dat (.lst ((List.map intD) p1)))), (5, (.vec 0 ((List.map intD) v607))), (7, (.ptr 1 0)), (8, (intPV v617)), (9, (.ptr 2 0)), (10, (intPV v620)), (64, (.tup [(.dat (.agg [(.lst ((List.map intD) v616.left)), (.lst ((List.map intD) v616.right)), (.lst ((List.map intD) v616.shape)), (.lst ((List.map intD) v616.starts)), (intD v616.axis), (intD v616.amount), (.lst ((List.map intD) v616.perm))])), (intPV v617)])), (65, (.vec 0 ((List.map intD) v607))), (66, (.dat (.agg [(.lst ((List.map intD) v615.values)), (boolD v615.scalar)]))), (67, (.dat (.lst ((List.map intD) p1)))), (68, (.tup [(.dat (.agg [(.lst ((List.map intD) v616.left)), (.lst ((List.map intD) v616.right)), (.lst ((List.map intD) v616.shape)), (.lst ((List.map intD) v616.starts)), (intD v616.axis), (intD v616.amount), (.lst ((List.map intD) v616.perm))])), (intPV v617)])), (69, (.dat (.agg [(.lst ((List.map intD) v616.left)), (.lst ((List.map intD) v616.right)), (.lst ((List.map intD) v616.shape)), (.lst ((List.map intD) v616.starts)), (intD v616.axis), (intD v616.amount), (.lst ((List.map intD) v616.perm))]))), (70, (intPV v617)), (71, (.tup [(.dat (.agg [(.lst ((List.map intD) v619.left)), (.lst ((List.map intD) v619.right)), (.lst ((List.map intD) v619.shape)), (.lst ((List.map intD) v619.starts)), (intD v619.axis), (intD v619.amount), (.lst ((List.map intD) v619.perm))])), (intPV v620)])), (72, (.vec 0 ((List.map intD) v607))), (73, (.dat (.agg [(.lst ((List.map intD) v618.values)), (boolD v618.scalar)]))), (74, (.dat (.lst ((List.map intD) p1)))), (75, (.tup [(.dat (.agg [(.lst ((List.map intD) v619.left)), (.lst ((List.map intD) v619.right)), (.lst ((List.map intD) v619.shape)), (.lst ((List.map intD) v619.starts)), (intD v619.axis), (intD v619.amount), (.lst ((List.map intD) v619.perm))])), (intPV v620)])), (76, (.dat (.agg [(.lst ((List.map intD) v619.left)), (.lst ((List.map intD) v619.right)), (.lst ((List.map intD) v619.shape)), (.lst ((List.map intD) v619.starts)), (intD v619.axis), (intD v619.amount), (.lst ((List.map intD) v619.perm))]))), (77, (intPV v620)), (78, (intPV v617)), (79, (boolPV (v617 != 0))), (83, (boolPV v622))], [(.tok 2 v607.length), (.box [(.dat (.lst ((List.map intD) v616.left))), (.dat (.lst ((List.map intD) v616.right))), (.dat (.lst ((List.map intD) v616.shape))), (.dat (.lst ((List.map intD) v616.starts))), (intPV v616.axis), (intPV v616.amount), (.dat (.lst ((List.map intD) v616.perm)))]), (.box [(.dat (.lst ((List.map intD) v619.left))), (.dat (.lst ((List.map intD) v619.right))), (.dat (.lst ((List.map intD) v619.shape))), (.dat (.lst ((List.map intD) v619.starts))), (intPV v619.axis), (intPV v619.amount), (.dat (.lst ((List.map intD) v619.perm)))])]⟩) (fun d => ?_) (fun hJ => ?_)
      · clear hs
        refine G_run 1 ?_
        obtain ⟨v623, hs, hm⟩ := bind_inv hm
        refine G_cut (j := 14) (fun d => ⟨sl d 194 [(0, (.dat (.lst ((List.map (numD .i8)) p0)))), (1, (.dat (.lst ((List.map intD) p1)))), (5, (.vec 0 ((List.map intD) v607))), (7, (.ptr 1 0)), (8, (intPV v617)), (9, (.ptr 2 0)), (10, (intPV v620)), (64, (.tup [(.dat (.agg [(.lst ((List.map intD) v616.left)), (.lst ((List.map intD) v616.right)), (.lst ((List.map intD) v616.shape)), (.lst ((List.map intD) v616.starts)), (intD v616.axis), (intD v616.amount), (.lst ((List.map intD) v616.perm))])), (intPV v617)])), (65, (.vec 0 ((List.map intD) v607))), (66, (.dat (.agg [(.lst ((List.map intD) v615.values)), (boolD v615.scalar)]))), (67, (.dat (.lst ((List.map intD) p1)))), (68, (.tup [(.dat (.agg [(.lst ((List.map intD) v616.left)), (.lst ((List.map intD) v616.right)), (.lst ((List.map intD) v616.shape)), (.lst ((List.map intD) v616.starts)), (intD v616.axis), (intD v616.amount), (.lst ((List.map intD) v616.perm))])), (intPV v617)])), (69, (.dat (.agg [(.lst ((List.map intD) v616.left)), (.lst ((List.map intD) v616.right)), (.lst ((List.map intD) v616.shape)), (.lst ((List.map intD) v616.starts)), (intD v616.axis), (intD v616.amount), (.lst ((List.map intD) v616.perm))]))), (70, (intPV v617)), (71, (.tup [(.dat (.agg [(.lst ((List.map intD) v619.left)), (.lst ((List.map intD) v619.right)), (.lst ((List.map intD) v619.shape)), (.lst ((List.map intD) v619.starts)), (intD v619.axis), (intD v619.amount), (.lst ((List.map intD) v619.perm))])), (intPV v620)])), (72, (.vec 0 ((List.map intD) v607))), (73, (.dat (.agg [(.lst ((List.map intD) v618.values)), (boolD v618.scalar)]))), (74, (.dat (.lst ((List.map intD) p1)))), (75, (.tup [(.dat (.agg [(.lst ((List.map intD) v619.left)), (.lst ((List.map intD) v619.right)), (.lst ((List.map intD) v619.shape)), (.lst ((List.map intD) v619.starts)), (intD v619.axis), (intD v619.amount), (.lst ((List.map intD) v619.perm))])), (intPV v620)])), (76, (.dat (.agg [(.lst ((List.map intD) v619.left)), (.lst ((List.map intD) v619.right)), (.lst ((List.map intD) v619.shape)), (.lst ((List.map intD) v619.starts)), (intD v619.axis), (intD v619.amount), (.lst ((List.map intD) v619.perm))]))), (77, (intPV v620)), (78, (intPV v617)), (79, (boolPV (v617 != 0))), (83, (boolPV v622)), (91, (boolPV v623))], [(.tok 2 v607.length), (.box [(.dat (.lst ((List.map intD) v616.left))), (.dat (.lst ((List.map intD) v616.right))), (.dat (.lst ((List.map intD) v616.shape))), (.dat (.lst ((List.map intD) v616.starts))), (intPV v616.axis), (intPV v616.amount), (.dat (.lst ((List.map intD) v616.perm)))]), (.box [(.dat (.lst ((List.map intD) v619.left))), (.dat (.lst ((List.map intD) v619.right))), (.dat (.lst ((List.map intD) v619.shape))), (.dat (.lst ((List.map intD) v619.starts))), (intPV v619.axis), (intPV v619.amount), (.dat (.lst ((List.map intD) v619.perm)))])]⟩) (fun d => ?_) (fun hJ => ?_)
        · clear hs
          refine G_run 1 ?_
          obtain ⟨v624, hs, hm⟩ := bind_inv hm
          refine G_cut (j := 22) (fun d => ⟨sl d 194 [(0, (.dat (.lst ((List.map (numD .i8)) p0)))), (1, (.dat (.lst ((List.map intD) p1)))), (5, (.vec 0 ((List.map intD) v607))), (7, (.ptr 1 0)), (8, (intPV v617)), (9, (.ptr 2 0)), (10, (intPV v620)), (64, (.tup [(.dat (.agg [(.lst ((List.map intD) v616.left)), (.lst ((List.map intD) v616.right)), (.lst ((List.map intD) v616.shape)), (.lst ((List.map intD) v616.starts)), (intD v616.axis), (intD v616.amount), (.lst ((List.map intD) v616.perm))])), (intPV v617)])), (65, (.vec 0 ((List.map intD) v607))), (66, (.dat (.agg [(.lst ((List.map intD) v615.values)), (boolD v615.scalar)]))), (67, (.dat (.lst ((List.map intD) p1)))), (68, (.tup [(.dat (.agg [(.lst ((List.map intD) v616.left)), (.lst ((List.map intD) v616.right)), (.lst ((List.map intD) v616.shape)), (.lst ((List.map intD) v616.starts)), (intD v616.axis), (intD v616.amount), (.lst ((List.map intD) v616.perm))])), (intPV v617)])), (69, (.dat (.agg [(.lst ((List.map intD) v616.left)), (.lst ((List.map intD) v616.right)), (.lst ((List.map intD) v616.shape)), (.lst ((List.map intD) v616.starts)), (intD v616.axis), (intD v616.amount), (.lst ((List.map intD) v616.perm))]))), (70, (intPV v617)), (71, (.tup [(.dat (.agg [(.lst ((List.map intD) v619.left)), (.lst ((List.map intD) v619.right)), (.lst ((List.map intD) v619.shape)), (.lst ((List.map intD) v619.starts)), (intD v619.axis), (intD v619.amount), (.lst ((List.map intD) v619.perm))])), (intPV v620)])), (72, (.vec 0 ((List.map intD) v607))), (73, (.dat (.agg [(.lst ((List.map intD) v618.values)), (boolD v618.scalar)]))), (74, (.dat (.lst ((List.map intD) p1)))), (75, (.tup [(.dat (.agg [(.lst ((List.map intD) v619.left)), (.lst ((List.map intD) v619.right)), (.lst ((List.map intD) v619.shape)), (.lst ((List.map intD) v619.starts)), (intD v619.axis), (intD v619.amount), (.lst ((List.map intD) v619.perm))])), (intPV v620)])), (76, (.dat (.agg [(.lst ((List.map intD) v619.left)), (.lst ((List.map intD) v619.right)), (.lst ((List.map intD) v619.shape)), (.lst ((List.map intD) v619.starts)), (intD v619.axis), (intD v619.amount), (.lst ((List.map intD) v619.perm))]))), (77, (intPV v620)), (78, (intPV v617)), (79, (boolPV (v617 != 0))), (83, (boolPV v622)), (91, (boolPV v623)), (99, (boolPV v624))], [(.tok 2 v607.length), (.box [(.dat (.lst ((List.map intD) v616.left))), (.dat (.lst ((List.map intD) v616.right))), (.dat (.lst ((List.map intD) v616.shape))), (.dat (.lst ((List.map intD) v616.starts))), (intPV v616.axis), (intPV v616.amount), (.dat (.lst ((List.map intD) v616.perm)))]), (.box [(.dat (.lst ((List.map intD) v619.left))), (.dat (.lst ((List.map intD) v619.right))), (.dat (.lst ((List.map intD) v619.shape))), (.dat (.lst ((List.map intD) v619.starts))), (intPV v619.axis), (intPV v619.amount), (.dat (.lst ((List.map intD) v619.perm)))])]⟩) (fun d => ?_) (fun hJ => ?_)
          · clear hs
            refine G_run 1 ?_
            obtain ⟨v625, hs, hm⟩ := bind_inv hm
            refine G_cut (j := 30) (fun d => ⟨sl d 194 [(0, (.dat (.lst ((List.map (numD .i8)) p0)))), (1, (.dat (.lst ((List.map intD) p1)))), (5, (.vec 0 ((List.map intD) v607))), (7, (.ptr 1 0)), (8, (intPV v617)), (9, (.ptr 2 0)), (10, (intPV v620)), (64, (.tup [(.dat (.agg [(.lst ((List.map intD) v616.left)), (.lst ((List.map intD) v616.right)), (.lst ((List.map intD) v616.shape)), (.lst ((List.map intD) v616.starts)), (intD v616.axis), (intD v616.amount), (.lst ((List.map intD) v616.perm))])), (intPV v617)])), (65, (.vec 0 ((List.map intD) v607))), (66, (.dat (.agg [(.lst ((List.map intD) v615.values)), (boolD v615.scalar)]))), (67, (.dat (.lst ((List.map intD) p1)))), (68, (.tup [(.dat (.agg [(.lst ((List.map intD) v616.left)), (.lst ((List.map intD) v616.right)), (.lst ((List.map intD) v616.shape)), (.lst ((List.map intD) v616.starts)), (intD v616.axis), (intD v616.amount), (.lst ((List.map intD) v616.perm))])), (intPV v617)])), (69, (.dat (.agg [(.lst ((List.map intD) v616.left)), (.lst ((List.map intD) v616.right)), (.lst ((List.map intD) v616.shape)), (.lst ((List.map intD) v616.starts)), (intD v616.axis), (intD v616.amount), (.lst ((List.map intD) v616.perm))]))), (70, (intPV v617)), (71, (.tup [(.dat (.agg [(.lst ((List.map intD) v619.left)), (.lst ((List.map intD) v619.right)), (.lst ((List.map intD) v619.shape)), (.lst ((List.map intD) v619.starts)), (intD v619.axis), (intD v619.amount), (.lst ((List.map intD) v619.perm))])), (intPV v620)])), (72, (.vec 0 ((List.map intD) v607))), (73, (.dat (.agg [(.lst ((List.map intD) v618.values)), (boolD v618.scalar)]))), (74, (.dat (.lst ((List.map intD) p1)))), (75, (.tup [(.dat (.agg [(.lst ((List.map intD) v619.left)), (.lst ((List.map intD) v619.right)), (.lst ((List.map intD) v619.shape)), (.lst ((List.map intD) v619.starts)), (intD v619.axis), (intD v619.amount), (.lst ((List.map intD) v619.perm))])), (intPV v620)])), (76, (.dat (.agg [(.lst ((List.map intD) v619.left)), (.lst ((List.map intD) v619.right)), (.lst ((List.map intD) v619.shape)), (.lst ((List.map intD) v619.starts)), (intD v619.axis), (intD v619.amount), (.lst ((List.map intD) v619.perm))]))), (77, (intPV v620)), (78, (intPV v617)), (79, (boolPV (v617 != 0))), (83, (boolPV v622)), (91, (boolPV v623)), (99, (boolPV v624)), (107, (boolPV v625))], [(.tok 2 v607.length), (.box [(.dat (.lst ((List.map intD) v616.left))), (.dat (.lst ((List.map intD) v616.right))), (.dat (.lst ((List.map intD) v616.shape))), (.dat (.lst ((List.map intD) v616.starts))), (intPV v616.axis), (intPV v616.amount), (.dat (.lst ((List.map intD) v616.perm)))]), (.box [(.dat (.lst ((List.map intD) v619.left))), (.dat (.lst ((List.map intD) v619.right))), (.dat (.lst ((List.map intD) v619.shape))), (.dat (.lst ((List.map intD) v619.starts))), (intPV v619.axis), (intPV v619.amount), (.dat (.lst ((List.map intD) v619.perm)))])]⟩) (fun d => ?_) (fun hJ => ?_)
            · clear hs
              refine G_run 1 ?_
              refine G_split (p := v625 = true) 108 (bool_dec _) (fun hc => ?_) (fun hc => ?_)
              · replace hm := pos_inv hc hm
                refine G_run 7 ?_
                refine G_end ⟨by kernel_rfl, ?_⟩
                obtain rfl := inj1 hm
                exact cut_leaf (by kernel_rfl)
              replace hm := neg_inv hc hm
              refine G_run 2 ?_
              refine I_len intD v619.starts (es := (List.map intD) v619.starts) rfl ?_
              refine G_run 1 ?_
              refine I_len intD p1 (es := (List.map intD) p1) rfl ?_
              refine G_run 2 ?_
              refine G_end ⟨by kernel_rfl, ?_⟩
              obtain rfl := inj1 hm
              exact cut_leaf (by kernel_rfl)
            replace hm := hs
            clear hs
            refine G_split (p := v624 = true) 100 (bool_dec _) (fun hc => ?_) (fun hc => ?_)
            · replace hm := pos_inv hc hm
              refine G_run 7 ?_
              obtain rfl := inj1 hm
              exact hJ _ _ (by kernel_rfl) (by kernel_rfl)
            replace hm := neg_inv hc hm
            refine G_run 2 ?_
            refine I_len intD v616.starts (es := (List.map intD) v616.starts) rfl ?_
            refine G_run 1 ?_
            refine I_len intD p1 (es := (List.map intD) p1) rfl ?_
            refine G_run 2 ?_
            obtain rfl := inj1 hm
            exact hJ _ _ (by kernel_rfl) (by kernel_rfl)
          replace hm := hs
          clear hs
          refine G_split (p := v623 = true) 92 (bool_dec _) (fun hc => ?_) (fun hc => ?_)
          · replace hm := pos_inv hc hm
            refine G_run 7 ?_
            obtain rfl := inj1 hm
            exact hJ _ _ (by kernel_rfl) (by kernel_rfl)
          replace hm := neg_inv hc hm
          refine G_run 2 ?_
          refine I_len intD v619.shape (es := (List.map intD) v619.shape) rfl ?_
          refine G_run 1 ?_
          refine I_len intD p1 (es := (List.map intD) p1) rfl ?_
          refine G_run 2 ?_
          obtain rfl := inj1 hm
          exact hJ _ _ (by kernel_rfl) (by kernel_rfl)
        replace hm := hs
        clear hs
        refine G_split (p := v622 = true) 84 (bool_dec _) (fun hc => ?_) (fun hc => ?_)
        · replace hm := pos_inv hc hm
          refine G_run 7 ?_
          obtain rfl := inj1 hm
          exact hJ _ _ (by kernel_rfl) (by kernel_rfl)
        replace hm := neg_inv hc hm
        refine G_run 2 ?_
        refine I_len intD v616.shape (es := (List.map intD) v616.shape) rfl ?_
        refine G_run 1 ?_
        refine I_len intD p1 (es := (List.map intD) p1) rfl ?_
        refine G_run 2 ?_
        obtain rfl := inj1 hm
        exact hJ _ _ (by kernel_rfl) (by kernel_rfl)
      replace hm := hs
      clear hs
      refine G_split (p := v617 ≠ 0) 80 (ne_dec _ _) (fun hc => ?_) (fun hc => ?_)
      · replace hm := pos_inv hc hm
        refine G_run 3 ?_
        obtain rfl := inj1 hm
        exact hJ _ _ (by kernel_rfl) (by kernel_rfl)
      replace hm := neg_inv hc hm
      refine G_run 3 ?_
      obtain rfl := inj1 hm
      exact hJ _ _ (by kernel_rfl) (by kernel_rfl)
    clear hs
    refine R_ifp (p := v621 = true) (bool_dec _) (fun hc => ?_) (fun hc => ?_)
    · replace hm := pos_inv hc hm
      refine R_seq ?_
      refine R_G ?_
      refine G_run 1 ?_
      refine G_end ?_
      refine R_ret ?_
      obtain rfl := inj1 hm
      exact ⟨trivial, fin_pure (by kernel_rfl)⟩
    replace hm := neg_inv hc hm
    refine R_skip ?_
    refine R_seq ?_
    refine R_seq ?_
    refine R_G ?_
    refine G_run 1 ?_
    refine G_end ?_
    refine R_block ?_
    obtain ⟨out, hs, hm⟩ := bind_inv hm
    refine R_loop ?_
    rcases out with _ | _
    · refine RL_use (w_law13_RuleTakesDrop_L2 _ _ hs) (by kernel_rfl) ?_
      clear hs
      intro e s hp
      obtain ⟨rfl, d, rfl⟩ := hp
      obtain rfl := inj1 hm
      exact ⟨trivial, fin_pure (by kernel_rfl)⟩
    · refine RL_use (w_law13_RuleTakesDrop_L2 _ _ hs) (by kernel_rfl) ?_
      clear hs
      intro e s hp
      obtain ⟨rfl, d, rfl⟩ := hp
      refine R_seq ?_
      refine R_G ?_
      refine G_run 1 ?_
      refine G_end ?_
      refine R_ret ?_
      obtain rfl := inj1 hm
      exact ⟨trivial, fin_pure (by kernel_rfl)⟩
end Go.Proofs.Try
namespace Go.Proofs.Try
open Go Go.Pm
set_option linter.unusedVariables false
set_option maxHeartbeats 2000000
set_option maxRecDepth 2000
def m_slices_Clone_int64_int64 (x : List Int) : Option (List Int) := app 8 [] x
def cgm_slices_Clone_int64_int64 (l : List Int) : Nat := match l with | [] => 0 | _ => 1
def P_slices_Clone_int64_int64 : List Int → List Int → Prop := fun x r => PC prog env 102 [.dat (.lst ((List.map intD) x))] [] (.ms 0 (cgm_slices_Clone_int64_int64 r) 0 r.length r.length) [.mt 2 (cgm_slices_Clone_int64_int64 r) (cellsOf intD r)]
theorem w_slices_Clone_int64_int64 : ∀ x r, m_slices_Clone_int64_int64 x = some r → P_slices_Clone_int64_int64 x r := by
  intro x r hm
  obtain ⟨hroom, hr⟩ := app_some hm
  have hr : r = x := hr
  subst hr
  unfold P_slices_Clone_int64_int64
  cases r with
  | nil => exact PC_of (n := 20) (by kernel_rfl)
  | cons a l =>
    refine PC_sxB (fn := f102) (by kernel_rfl) (by kernel_rfl) rfl ?_
    refine R_seq ?_
    refine R_G ?_
    refine G_run 1 ?_
    refine G_end ?_
    refine R_seq ?_
    refine R_seq ?_
    refine R_G ?_
    refine G_run 1 ?_
    refine G_semN rfl (by kernel_rfl) (fun _ => E_lstNil (p := .dat (.lst ((List.map intD) (a :: l)))) (b := false) rfl (by kernel_rfl) (by kernel_rfl) (by kernel_rfl)) ?_
    refine G_end ?_
    refine R_false (by kernel_rfl) ?_
    refine R_skip ?_
    refine R_seq ?_
    refine R_G ?_
    refine G_run 2 ?_
    refine G_semH (v := .ms 0 1 0 (a :: l).length (a :: l).length) (fun H => H.set 0 (.mt 2 1 (cellsOf intD (a :: l)))) rfl (by kernel_rfl) (fun _ hk => E_apMs intD (l := []) (es := a :: l) (bytes := 8) (e := 2) (tt := 0) (g := 0) (m := 0) hm (fun _ => rfl) (by kernel_rfl) (by kernel_rfl) (by kernel_rfl) (by kernel_rfl) rfl rfl (by kernel_rfl) rfl (by kernel_rfl) (source_lst (fun _ => rfl)) hk) ?_
    refine G_run 1 ?_
    refine G_end ?_
    refine R_ret ?_
    exact ⟨trivial, fin_body (by kernel_rfl) (by kernel_rfl)⟩
end Go.Proofs.Try
namespace Go.Proofs.Try
open Go Go.Pm
set_option linter.unusedVariables false
set_option maxHeartbeats 2000000
set_option maxRecDepth 2000
def m_spec_Exactly (x : (T_spec_Spec × Int)) : Option ((List Int) × Int) :=
  match x with
  | (p0, p1) =>
  if (p0.values.length : Int) ≠ p1 then
    some (([] : (List Int)), 5)
  else
  m_slices_Clone_int64_int64 p0.values >>= fun v1 =>
  some (v1, 0)
def P_spec_Exactly : (T_spec_Spec × Int) → ((List Int) × Int) → Prop := fun x r => match x, r with
  | (p0, p1), (r0, r1) => ∀ H, PC prog env 77 ([(T_spec_Spec.toD p0), (intD p1)].map .dat) H (.tup [(.dat (.lst ((List.map intD) r0))), (intPV r1)]) H
theorem w_spec_Exactly : ∀ x r, m_spec_Exactly x = some r → P_spec_Exactly x r := by
  intro x r hm
  unfold m_spec_Exactly at hm
  unfold P_spec_Exactly
  obtain ⟨p0, p1⟩ := x
  obtain ⟨r0, r1⟩ := r
  intro H
  refine PC_sx (ds := [(T_spec_Spec.toD p0), (intD p1)]) (fn := f77) (by kernel_rfl) (by kernel_rfl) rfl ?_ (by kernel_rfl)
  refine R_seq ?_
  refine R_G ?_
  refine G_run 3 ?_
  refine G_end ?_
  refine R_seq ?_
  refine R_seq ?_
  refine R_G ?_
  refine G_run 2 ?_
  refine I_len intD p0.values (es := (List.map intD) p0.values) rfl ?_
  refine G_run 2 ?_
  refine G_end ?_
  refine R_ifp (p := (p0.values.length : Int) ≠ p1) (ne_dec _ _) (fun hc => ?_) (fun hc => ?_)
  · replace hm := pos_inv hc hm
    refine R_seq ?_
    refine R_G ?_
    refine G_run 2 ?_
    refine G_end ?_
    refine R_ret ?_
    obtain ⟨rfl, rfl⟩ := inj2 hm
    exact ⟨trivial, fin_pure (by kernel_rfl)⟩
  replace hm := neg_inv hc hm
  refine R_skip ?_
  refine R_seq ?_
  refine R_G ?_
  refine G_run 2 ?_
  obtain ⟨v1, hx, hm⟩ := bind_inv hm
  have hq := w_slices_Clone_int64_int64 _ _ hx
  dsimp only [P_slices_Clone_int64_int64] at hq
  have hl9 : mtOf [Blk.mt 2 (cgm_slices_Clone_int64_int64 v1) (cellsOf intD v1)] 0 = some (2, cgm_slices_Clone_int64_int64 v1, cellsOf intD v1) := mtOf_at (by kernel_rfl)
  refine G_semH (v := .ms 1 1 0 v1.length v1.length) (fun H => H ++ [.mt 2 1 (cellsOf intD v1)]) rfl (by kernel_rfl) ?_ ?_
  · intro K hk
    refine E_callOwnN 1 (first := #[]) (cap := #[]) (j := (0, 2)) (ow' := []) (f0 := intD) (l := v1) rfl ?_ ?_ ?_ (ds := [.lst ((List.map intD) p0.values)]) ?_ hq hl9 ?_ ?_ ?_
    · kernel_rfl
    · kernel_rfl
    · kernel_rfl
    · kernel_rfl
    · exact hk
    · kernel_rfl
    · decide
  refine G_run 2 ?_
  refine G_end ?_
  refine R_ret ?_
  obtain ⟨rfl, rfl⟩ := inj2 hm
  exact ⟨trivial, fin_pureX [(.ms 1 1 0 v1.length v1.length), (intPV 0)] (by kernel_rfl) (po_tup (ps_cons (p1_ms (pc_ms (e := 2) intD v1 rfl (fun _ => rfl) (by kernel_rfl))) (ps_cons (by kernel_rfl) ps_nil)))⟩
end Go.Proofs.Try
namespace Go.Proofs.Try
open Go Go.Pm
set_option linter.unusedVariables false
set_option maxHeartbeats 2000000
set_option maxRecDepth 2000
def m_spec_Permutation_1_beec8 (x : (Int × (List Int) × Bool × Int)) : Option (((List Int) × Int × Int)) :=
  match x with
  | (q0, q1, q2, q3) =>
  (if q0 < 0 then
    some true
  else
  some (decide (q0 ≥ q3))
  ) >>= fun (v1 : Bool) =>
  if v1 = true then
    some (([] : List Int), 0, 6)
  else
  some ((insK ([] : List Int) q0), q0, 0)
def P_spec_Permutation_1_beec8 : (Int × (List Int) × Bool × Int) → ((List Int) × Int × Int) → Prop := fun x r => match x with
  | (q0, q1, q2, q3) => PC prog env 79 [(intPV q0), (.ptr 1 0), (.ptr 3 0)] [(.box [(.dat (.lst ((List.map intD) q1))), (boolPV q2)]), (.box [(intPV q3)]), (.map (setE .i64 (boolD true) ([] : List Int))), (.box [(.mapv 2)]), (.tok 3 (([] : List Int).length))] (match r with | (v5001, v5002, v5003) => (.tup [(intPV v5002), (intPV v5003)])) (match r with | (v5001, v5002, v5003) => [(.box [(.dat (.lst ((List.map intD) q1))), (boolPV q2)]), (.box [(intPV q3)]), (.map (setE .i64 (boolD true) v5001)), (.box [(.mapv 2)]), (.tok 3 (([] : List Int).length))])
theorem w_spec_Permutation_1_beec8 : ∀ x r, m_spec_Permutation_1_beec8 x = some r → P_spec_Permutation_1_beec8 x r := by
  intro x r hm
  unfold m_spec_Permutation_1_beec8 at hm
  unfold P_spec_Permutation_1_beec8
  obtain ⟨q0, q1, q2, q3⟩ := x
  refine PC_sxB (fn := f79) (by kernel_rfl) (by kernel_rfl) rfl ?_
  refine R_seq ?_
  refine R_G ?_
  refine G_run 2 ?_
  refine G_end ?_
  refine R_seq ?_
  refine R_seq ?_
  obtain ⟨v1, hs, hm⟩ := bind_inv hm
  refine R_cut (fun d => ⟨sl d 16 [(0, (intPV q0)), (2, (.ptr 3 0)), (12, (boolPV v1))], [(.box [(.dat (.lst ((List.map intD) q1))), (boolPV q2)]), (.box [(intPV q3)]), (.map (setE .i64 (boolD true) ([] : List Int))), (.box [(.mapv 2)]), (.tok 3 (([] : List Int).length))]⟩) ?_ (fun d => ?_)
  · replace hm := hs
    clear hs
    refine R_G ?_
    refine G_run 3 ?_
    refine G_split (p := q0 < 0) 8 (rfl) (fun hc => ?_) (fun hc => ?_)
    · replace hm := pos_inv hc hm
      refine G_run 4 ?_
      refine G_end ?_
      obtain rfl := inj1 hm
      exact cut_leaf (by kernel_rfl)
    replace hm := neg_inv hc hm
    refine G_run 4 ?_
    refine G_end ?_
    obtain rfl := inj1 hm
    exact cut_leaf (by kernel_rfl)
  clear hs
  refine R_ifp (p := v1 = true) (bool_dec _) (fun hc => ?_) (fun hc => ?_)
  · replace hm := pos_inv hc hm
    refine R_seq ?_
    refine R_G ?_
    refine G_run 2 ?_
    refine G_end ?_
    refine R_ret ?_
    obtain rfl := inj1 hm
    exact ⟨trivial, fin_body (by kernel_rfl) (by kernel_rfl)⟩
  replace hm := neg_inv hc hm
  refine R_skip ?_
  refine R_seq ?_
  refine R_G ?_
  refine G_run 2 ?_
  refine G_semH (fun H => H.set 2 (.map (setE .i64 (boolD true) (insK ([] : List Int) q0)))) rfl (by kernel_rfl) (fun _ => E_setAdd (i := 2) (kt := 3) (e := 4) (ik := .i64) (l := ([] : List Int)) (n := q0) (v := (boolD true)) (by kernel_rfl) (by kernel_rfl) rfl (by kernel_rfl) (by kernel_rfl) (by kernel_rfl) (by kernel_rfl)) ?_
  refine G_end ?_
  refine R_seq ?_
  refine R_G ?_
  refine G_run 3 ?_
  refine G_end ?_
  refine R_ret ?_
  obtain rfl := inj1 hm
  exact ⟨trivial, fin_body (by kernel_rfl) (by kernel_rfl)⟩
end Go.Proofs.Try
namespace Go.Proofs.Try
open Go Go.Pm
set_option linter.unusedVariables false
set_option maxHeartbeats 2000000
set_option maxRecDepth 2000
def m_spec_Permutation_1_b8aa6 (x : (Int × (List Int) × Bool × Int × (List Int) × Nat)) : Option (((List Int) × Int × Int)) :=
  match x with
  | (q0, q1, q2, q3, q4, q5) =>
  (if q0 < 0 then
    some true
  else
  some (decide (q0 ≥ q3))
  ) >>= fun (v1 : Bool) =>
  if v1 = true then
    some (q4, 0, 6)
  else
  some ((insK q4 q0), q0, 0)
def P_spec_Permutation_1_b8aa6 : (Int × (List Int) × Bool × Int × (List Int) × Nat) → ((List Int) × Int × Int) → Prop := fun x r => match x with
  | (q0, q1, q2, q3, q4, q5) => PC prog env 79 [(intPV q0), (.ptr 1 0), (.ptr 3 0)] [(.box [(.dat (.lst ((List.map intD) q1))), (boolPV q2)]), (.box [(intPV q3)]), (.map (setE .i64 (boolD true) q4)), (.box [(.mapv 2)]), (.tok 3 q5)] (match r with | (v5001, v5002, v5003) => (.tup [(intPV v5002), (intPV v5003)])) (match r with | (v5001, v5002, v5003) => [(.box [(.dat (.lst ((List.map intD) q1))), (boolPV q2)]), (.box [(intPV q3)]), (.map (setE .i64 (boolD true) v5001)), (.box [(.mapv 2)]), (.tok 3 q5)])
theorem w_spec_Permutation_1_b8aa6 : ∀ x r, m_spec_Permutation_1_b8aa6 x = some r → P_spec_Permutation_1_b8aa6 x r := by
  intro x r hm
  unfold m_spec_Permutation_1_b8aa6 at hm
  unfold P_spec_Permutation_1_b8aa6
  obtain ⟨q0, q1, q2, q3, q4, q5⟩ := x
  refine PC_sxB (fn := f79) (by kernel_rfl) (by kernel_rfl) rfl ?_
  refine R_seq ?_
  refine R_G ?_
  refine G_run 2 ?_
  refine G_end ?_
  refine R_seq ?_
  refine R_seq ?_
  obtain ⟨v1, hs, hm⟩ := bind_inv hm
  refine R_cut (fun d => ⟨sl d 16 [(0, (intPV q0)), (2, (.ptr 3 0)), (12, (boolPV v1))], [(.box [(.dat (.lst ((List.map intD) q1))), (boolPV q2)]), (.box [(intPV q3)]), (.map (setE .i64 (boolD true) q4)), (.box [(.mapv 2)]), (.tok 3 q5)]⟩) ?_ (fun d => ?_)
  · replace hm := hs
    clear hs
    refine R_G ?_
    refine G_run 3 ?_
    refine G_split (p := q0 < 0) 8 (rfl) (fun hc => ?_) (fun hc => ?_)
    · replace hm := pos_inv hc hm
      refine G_run 4 ?_
      refine G_end ?_
      obtain rfl := inj1 hm
      exact cut_leaf (by kernel_rfl)
    replace hm := neg_inv hc hm
    refine G_run 4 ?_
    refine G_end ?_
    obtain rfl := inj1 hm
    exact cut_leaf (by kernel_rfl)
  clear hs
  refine R_ifp (p := v1 = true) (bool_dec _) (fun hc => ?_) (fun hc => ?_)
  · replace hm := pos_inv hc hm
    refine R_seq ?_
    refine R_G ?_
    refine G_run 2 ?_
    refine G_end ?_
    refine R_ret ?_
    obtain rfl := inj1 hm
    exact ⟨trivial, fin_body (by kernel_rfl) (by kernel_rfl)⟩
  replace hm := neg_inv hc hm
  refine R_skip ?_
  refine R_seq ?_
  refine R_G ?_
  refine G_run 2 ?_
  refine G_semH (fun H => H.set 2 (.map (setE .i64 (boolD true) (insK q4 q0)))) rfl (by kernel_rfl) (fun _ => E_setAdd (i := 2) (kt := 3) (e := 4) (ik := .i64) (l := q4) (n := q0) (v := (boolD true)) (by kernel_rfl) (by kernel_rfl) rfl (by kernel_rfl) (by kernel_rfl) (by kernel_rfl) (by kernel_rfl)) ?_
  refine G_end ?_
  refine R_seq ?_
  refine R_G ?_
  refine G_run 3 ?_
  refine G_end ?_
  refine R_ret ?_
  obtain rfl := inj1 hm
  exact ⟨trivial, fin_body (by kernel_rfl) (by kernel_rfl)⟩
end Go.Proofs.Try
namespace Go.Proofs.Try
open Go Go.Pm
set_option linter.unusedVariables false
set_option maxHeartbeats 2000000
set_option maxRecDepth 2000
def m_spec_converted_int64_int_bf2e7_L1 (x : ((List Int) × (List Int) × Bool × Int × (List Int) × (List Int) × Int)) : Option (((List Int) × Int × Nat) ⊕ ((List Int) × (List Int))) :=
  match x with
  | (q0, q1, q2, q3, v201, v202, v203) =>
  if v203 < (q0.length : Int) then
    idx q0 v203 >>= fun v606 =>
    m_spec_Permutation_1_b8aa6 (v606, q1, q2, q3, v201, v202.length) >>= fun ((v607, v608, v609) : ((List Int) × Int × Int)) =>
    if v609 ≠ 0 then
      some (Sum.inl (v607, v609, v202.length))
    else
    app 8 v202 ([v608] : List Int) >>= fun v610 =>
    m_spec_converted_int64_int_bf2e7_L1 (q0, q1, q2, q3, v607, v610, (W (v203 + 1)))
  else
  some (Sum.inr (v201, v202))
  partial_fixpoint
def P_spec_converted_int64_int_bf2e7_L1 : ((List Int) × (List Int) × Bool × Int × (List Int) × (List Int) × Int) → (((List Int) × Int × Nat) ⊕ ((List Int) × (List Int))) → Prop := fun x r => match x with
  | (q0, q1, q2, q3, v201, v202, v203) => ∀ st, prune 5 ((firstRegion (codeAt [1, 1, 0, 1, 0, 0] (bodyOf f78))).bind (env.hint 78).keepAt) st = ⟨kp 35 [(1, (.fn 79 [(.ptr 1 0), (.ptr 3 0)])), (6, (.vec 4 ((List.map intD) v202))), (14, (.dat (.lst ((List.map intD) q0)))), (15, (intPV (q0.length : Int))), (16, (intPV v203))], [(.box [(.dat (.lst ((List.map intD) q1))), (boolPV q2)]), (.box [(intPV q3)]), (.map (setE .i64 (boolD true) v201)), (.box [(.mapv 2)]), (.tok 3 v202.length)]⟩ →
    RL prog env (env.hint 78) true (codeAt [1, 1, 0, 1, 0, 0] (bodyOf f78)) 5 st (fun e s => match r with | .inl (v601, v602, v603) => e = .ret ∧ ∃ d, s = ⟨sl d 35 [(4, (.dat (.lst ((List.map intD) [])))), (5, (intPV v602))], [(.box [(.dat (.lst ((List.map intD) q1))), (boolPV q2)]), (.box [(intPV q3)]), (.map (setE .i64 (boolD true) v601)), (.box [(.mapv 2)]), (.tok 3 v603)]⟩ | .inr ((v604, v605)) => e = .exit 0 ∧ ∃ d, s = ⟨sl d 35 [(6, (.vec 4 ((List.map intD) v605)))], [(.box [(.dat (.lst ((List.map intD) q1))), (boolPV q2)]), (.box [(intPV q3)]), (.map (setE .i64 (boolD true) v604)), (.box [(.mapv 2)]), (.tok 3 v605.length)]⟩)
theorem w_spec_converted_int64_int_bf2e7_L1 : ∀ x r, m_spec_converted_int64_int_bf2e7_L1 x = some r → P_spec_converted_int64_int_bf2e7_L1 x r := by
  refine m_spec_converted_int64_int_bf2e7_L1.partial_correctness _ (fun m_spec_converted_int64_int_bf2e7_L1 w_spec_converted_int64_int_bf2e7_L1 x r hm => ?_)
  unfold P_spec_converted_int64_int_bf2e7_L1
  obtain ⟨q0, q1, q2, q3, v201, v202, v203⟩ := x
  intro st hst
  refine RL_at hst ?_
  clear hst
  refine R_seq ?_
  refine R_G ?_
  refine G_run 1 ?_
  refine G_end ?_
  refine R_seq ?_
  refine R_ifp (p := v203 < (q0.length : Int)) (rfl) (fun hc => ?_) (fun hc => ?_)
  · replace hm := pos_inv hc hm
    refine R_skip ?_
    refine R_seq ?_
    refine R_block ?_
    refine R_seq ?_
    refine R_G ?_
    obtain ⟨v606, hx, hm⟩ := bind_inv hm
    refine I_idx 1 intD q0 v203 v606 (es := (List.map intD) q0) (d := (intD v606)) rfl hx rfl rfl ?_
    refine G_run 2 ?_
    refine G_end ?_
    refine R_seq ?_
    refine R_G ?_
    refine G_run 2 ?_
    obtain ⟨⟨v607, v608, v609⟩, hx, hm⟩ := bind_inv hm
    have hq := w_spec_Permutation_1_b8aa6 _ _ hx
    dsimp only [P_spec_Permutation_1_b8aa6] at hq
    refine G_callB hq ?_
    refine G_run 5 ?_
    refine G_end ?_
    refine R_seq ?_
    refine R_seq ?_
    refine R_G ?_
    refine G_run 2 ?_
    refine G_end ?_
    refine R_ifp (p := v609 ≠ 0) (ne_dec _ _) (fun hc => ?_) (fun hc => ?_)
    · replace hm := pos_inv hc hm
      refine R_seq ?_
      refine R_G ?_
      refine G_run 3 ?_
      refine G_end ?_
      refine R_ret ?_
      obtain rfl := inj1 hm
      exact ⟨rfl, cut_leaf (by kernel_rfl)⟩
    replace hm := neg_inv hc hm
    refine R_skip ?_
    refine R_G ?_
    refine G_run 3 ?_
    obtain ⟨v610, hx, hm⟩ := bind_inv hm
    refine I_app 3 1 8 4 intD v202 ([v608] : List Int) v610 (xs := (List.map intD) v202) (es := (List.map intD) ([v608] : List Int)) (L := (List.map intD)) (fun _ => rfl) rfl rfl (fun _ => rfl) hx ?_
    refine G_run 1 ?_
    refine G_end ?_
    refine R_G ?_
    refine G_run 2 ?_
    refine G_end ?_
    exact w_spec_converted_int64_int_bf2e7_L1 _ _ hm _ (prune_of2 [(.box [(.dat (.lst ((List.map intD) q1))), (boolPV q2)]), (.box [(intPV q3)]), (.map (setE .i64 (boolD true) v607)), (.box [(.mapv 2)]), (.tok 3 v610.length)] (fun _ => (pg_cons (by kernel_rfl) (pg_cons (by kernel_rfl) (pg_cons (purge_set _ _ _ _ _) (pg_cons (by kernel_rfl) (pg_cons (by kernel_rfl) pg_nil)))))) rfl)
  replace hm := neg_inv hc hm
  refine R_exit ?_
  obtain rfl := inj1 hm
  exact ⟨rfl, cut_leaf (by kernel_rfl)⟩
def m_spec_converted_int64_int_bf2e7 (x : ((List Int) × (List Int) × Bool × Int)) : Option (((List Int) × Int × Nat) ⊕ ((List Int) × (List Int))) :=
  match x with
  | (q0, q1, q2, q3) =>
  guardM (0 ≤ (q0.length : Int) ∧ (q0.length : Int) * (8 : Int) ≤ (room : Int) ∧ (q0.length : Int) ≤ 9223372036854775807) >>= fun (_ : Unit) =>
  (
  m_spec_converted_int64_int_bf2e7_L1 (q0, q1, q2, q3, ([] : List Int), ([] : List Int), 0) >>= fun (out : ((List Int) × Int × Nat) ⊕ ((List Int) × (List Int))) =>
  match out with
  | .inl (v601, v602, v603) =>
    some (Sum.inl (v601, v602, v603))
  | .inr ((v604, v605)) =>
    some (Sum.inr (v604, v605))
  )
def P_spec_converted_int64_int_bf2e7 : ((List Int) × (List Int) × Bool × Int) → (((List Int) × Int × Nat) ⊕ ((List Int) × (List Int))) → Prop := fun x r => match x with
  | (q0, q1, q2, q3) => PC prog env 78 [(.dat (.lst ((List.map intD) q0))), (.fn 79 [(.ptr 1 0), (.ptr 3 0)])] [(.box [(.dat (.lst ((List.map intD) q1))), (boolPV q2)]), (.box [(intPV q3)]), (.map (setE .i64 (boolD true) ([] : List Int))), (.box [(.mapv 2)])] (match r with | .inl (v5001, v5002, v5003) => (.tup [(.dat (.lst ((List.map intD) []))), (intPV v5002)]) | .inr ((v5004, v5005)) => (.tup [(.vec 4 ((List.map intD) v5005)), (intPV 0)])) (match r with | .inl (v5001, v5002, v5003) => [(.box [(.dat (.lst ((List.map intD) q1))), (boolPV q2)]), (.box [(intPV q3)]), (.map (setE .i64 (boolD true) v5001)), (.box [(.mapv 2)]), (.tok 3 v5003)] | .inr ((v5004, v5005)) => [(.box [(.dat (.lst ((List.map intD) q1))), (boolPV q2)]), (.box [(intPV q3)]), (.map (setE .i64 (boolD true) v5004)), (.box [(.mapv 2)]), (.tok 3 v5005.length)])
theorem w_spec_converted_int64_int_bf2e7 : ∀ x r, m_spec_converted_int64_int_bf2e7 x = some r → P_spec_converted_int64_int_bf2e7 x r := by
  intro x r hm
  unfold m_spec_converted_int64_int_bf2e7 at hm
  unfold P_spec_converted_int64_int_bf2e7
  obtain ⟨q0, q1, q2, q3⟩ := x
  refine PC_sxB (fn := f78) (by kernel_rfl) (by kernel_rfl) rfl ?_
  refine R_seq ?_
  refine R_G ?_
  refine G_run 2 ?_
  refine G_end ?_
  refine R_seq ?_
  refine R_G ?_
  refine G_run 1 ?_
  refine I_len intD q0 (es := (List.map intD) q0) rfl ?_
  obtain ⟨_, hx, hm⟩ := bind_inv hm
  replace hx := guard_inv hx
  refine G_semH (v := .vec 4 []) (fun H => H ++ [.tok 3 0]) rfl (by kernel_rfl) ?_ ?_
  · intro K hk
    exact E_mkOwnN 4 (n := (q0.length : Int)) (j := 0) (os := []) (bytes := 8) (z := (intD 0)) hx (by kernel_rfl) (by kernel_rfl) (by kernel_rfl) (by kernel_rfl) (by kernel_rfl) (by kernel_rfl) rfl (by kernel_rfl) (by kernel_rfl) hk
  refine G_run 1 ?_
  refine G_end ?_
  refine R_seq ?_
  refine R_seq ?_
  refine R_G ?_
  refine G_run 1 ?_
  refine I_len intD q0 (es := (List.map intD) q0) rfl ?_
  refine G_run 1 ?_
  refine G_end ?_
  refine R_block ?_
  obtain ⟨out, hs, hm⟩ := bind_inv hm
  refine R_loop ?_
  rcases out with ⟨v601, v602, v603⟩ | ⟨v604, v605⟩
  · refine RL_use (w_spec_converted_int64_int_bf2e7_L1 _ _ hs) (prune_of2 [(.box [(.dat (.lst ((List.map intD) q1))), (boolPV q2)]), (.box [(intPV q3)]), (.map (setE .i64 (boolD true) ([] : List Int))), (.box [(.mapv 2)]), (.tok 3 (([] : List Int).length))] (fun _ => (pg_cons (by kernel_rfl) (pg_cons (by kernel_rfl) (pg_cons (purge_set _ _ _ _ _) (pg_cons (by kernel_rfl) (pg_cons (by kernel_rfl) pg_nil)))))) rfl) ?_
    clear hs
    intro e s hp
    obtain ⟨rfl, d, rfl⟩ := hp
    obtain rfl := inj1 hm
    exact ⟨trivial, fin_body (by kernel_rfl) (by kernel_rfl)⟩
  · refine RL_use (w_spec_converted_int64_int_bf2e7_L1 _ _ hs) (prune_of2 [(.box [(.dat (.lst ((List.map intD) q1))), (boolPV q2)]), (.box [(intPV q3)]), (.map (setE .i64 (boolD true) ([] : List Int))), (.box [(.mapv 2)]), (.tok 3 (([] : List Int).length))] (fun _ => (pg_cons (by kernel_rfl) (pg_cons (by kernel_rfl) (pg_cons (purge_set _ _ _ _ _) (pg_cons (by kernel_rfl) (pg_cons (by kernel_rfl) pg_nil)))))) rfl) ?_
    clear hs
    intro e s hp
    obtain ⟨rfl, d, rfl⟩ := hp
    refine R_seq ?_
    refine R_G ?_
    refine G_run 3 ?_
    refine G_end ?_
    refine R_ret ?_
    obtain rfl := inj1 hm
    exact ⟨trivial, fin_body (by kernel_rfl) (by kernel_rfl)⟩
end Go.Proofs.Try
namespace Go.Proofs.Try
open Go Go.Pm
set_option linter.unusedVariables false
set_option maxHeartbeats 2000000
set_option maxRecDepth 2000
def m_slices_Max_int_int_L1 (x : ((List Int) × Int × Int)) : Option (Int) :=
  match x with
  | (p0, v202, v203) =>
  if v203 < (p0.length : Int) then
    idx p0 v203 >>= fun v603 =>
    m_slices_Max_int_int_L1 (p0, (if v202 < v603 then v603 else v202), (W (v203 + 1)))
  else
  some v202
  partial_fixpoint
def P_slices_Max_int_int_L1 : ((List Int) × Int × Int) → Int → Prop := fun x r => match x with
  | (p0, v202, v203) => ∀ st, prune 0 ((firstRegion (codeAt [1, 1, 1, 0, 1, 0, 0] (bodyOf f80))).bind (env.hint 80).keepAt) st = ⟨kp 25 [(0, (.dat (.lst ((List.map intD) p0)))), (3, (intPV v202)), (4, (intPV v203))], []⟩ →
    RL prog env (env.hint 80) true (codeAt [1, 1, 1, 0, 1, 0, 0] (bodyOf f80)) 0 st (fun e s => match r with | v602 => e = .exit 0 ∧ ∃ d, s = ⟨sl d 25 [(3, (intPV v602))], []⟩)
theorem w_slices_Max_int_int_L1 : ∀ x r, m_slices_Max_int_int_L1 x = some r → P_slices_Max_int_int_L1 x r := by
  refine m_slices_Max_int_int_L1.partial_correctness _ (fun m_slices_Max_int_int_L1 w_slices_Max_int_int_L1 x r hm => ?_)
  unfold P_slices_Max_int_int_L1
  obtain ⟨p0, v202, v203⟩ := x
  intro st hst
  refine RL_at hst ?_
  clear hst
  refine R_seq ?_
  refine R_seq ?_
  refine R_G ?_
  refine G_run 2 ?_
  refine I_len intD p0 (es := (List.map intD) p0) rfl ?_
  refine G_run 1 ?_
  refine G_end ?_
  refine R_ifp (p := v203 < (p0.length : Int)) (rfl) (fun hc => ?_) (fun hc => ?_)
  · replace hm := pos_inv hc hm
    refine R_skip ?_
    refine R_seq ?_
    refine R_block ?_
    refine R_G ?_
    refine G_run 3 ?_
    obtain ⟨v603, hx, hm⟩ := bind_inv hm
    refine I_idx 1 intD p0 v203 v603 (es := (List.map intD) p0) (d := (intD v603)) rfl hx rfl rfl ?_
    refine G_run 1 ?_
    refine G_semN rfl (by kernel_rfl) (fun _ => E_max (k := .i64) (m := v202) (n := v603) rfl (by kernel_rfl) (by kernel_rfl)) ?_
    refine G_run 1 ?_
    refine G_end ?_
    refine R_G ?_
    refine G_run 3 ?_
    refine G_end ?_
    exact w_slices_Max_int_int_L1 _ _ hm _ (by kernel_rfl)
  replace hm := neg_inv hc hm
  refine R_exit ?_
  obtain rfl := inj1 hm
  exact ⟨rfl, cut_leaf (by kernel_rfl)⟩
def m_slices_Max_int_int (x : (List Int)) : Option Int :=
  match x with
  | p0 =>
  if (p0.length : Int) < 1 then
    none
  else
  idx p0 0 >>= fun v1 =>
  m_slices_Max_int_int_L1 (p0, v1, 1) >>= fun (v602 : Int) =>
  some v602
def P_slices_Max_int_int : (List Int) → Int → Prop := fun x r => match x, r with
  | p0, r0 => ∀ H, PC prog env 80 ([(.lst ((List.map intD) p0))].map .dat) H (intPV r0) H
theorem w_slices_Max_int_int : ∀ x r, m_slices_Max_int_int x = some r → P_slices_Max_int_int x r := by
  intro p0 r0 hm
  unfold m_slices_Max_int_int at hm
  unfold P_slices_Max_int_int
  intro H
  refine PC_sx (ds := [(.lst ((List.map intD) p0))]) (fn := f80) (by kernel_rfl) (by kernel_rfl) rfl ?_ (by kernel_rfl)
  refine R_seq ?_
  refine R_G ?_
  refine G_run 1 ?_
  refine G_end ?_
  refine R_seq ?_
  refine R_seq ?_
  refine R_G ?_
  refine G_run 1 ?_
  refine I_len intD p0 (es := (List.map intD) p0) rfl ?_
  refine G_run 1 ?_
  refine G_end ?_
  refine R_ifp (p := (p0.length : Int) < 1) (rfl) (fun hc => ?_) (fun hc => ?_)
  · replace hm := pos_inv hc hm
    refine R_G ?_
    exact (none_inv hm).elim
  replace hm := neg_inv hc hm
  refine R_skip ?_
  refine R_seq ?_
  refine R_G ?_
  refine G_run 1 ?_
  obtain ⟨v1, hx, hm⟩ := bind_inv hm
  refine I_idx 1 intD p0 0 v1 (es := (List.map intD) p0) (d := (intD v1)) rfl hx rfl rfl ?_
  refine G_run 2 ?_
  refine G_end ?_
  refine R_seq ?_
  refine R_seq ?_
  refine R_G ?_
  refine G_run 1 ?_
  refine G_end ?_
  refine R_block ?_
  obtain ⟨v602, hs, hm⟩ := bind_inv hm
  refine R_loop ?_
  refine RL_use (w_slices_Max_int_int_L1 _ _ hs) (by kernel_rfl) ?_
  clear hs
  intro e s hp
  obtain ⟨rfl, d, rfl⟩ := hp
  refine R_seq ?_
  refine R_G ?_
  refine G_run 2 ?_
  refine G_end ?_
  refine R_ret ?_
  obtain rfl := inj1 hm
  exact ⟨trivial, fin_pure (by kernel_rfl)⟩
end Go.Proofs.Try
namespace Go.Proofs.Try
open Go Go.Pm
set_option linter.unusedVariables false
set_option maxHeartbeats 2000000
set_option maxRecDepth 2000
def m_spec_Permutation (x : (T_spec_Spec × Int)) : Option ((List Int) × Int) :=
  match x with
  | (p0, p1) =>
  m_spec_Exactly (p0, p1) >>= fun ((v1, v2) : ((List Int) × Int)) =>
  if v2 ≠ 0 then
    some (([] : (List Int)), v2)
  else
  (
  m_spec_converted_int64_int_bf2e7 (v1, p0.values, p0.scalar, p1) >>= fun (out : ((List Int) × Int × Nat) ⊕ ((List Int) × (List Int))) =>
  match out with
  | .inl (v3, v4, v5) =>
    ((if v4 = 0 then
      some (decide (p1 > 0))
    else
    some false
    ) >>= fun (v9 : Bool) =>
    if v9 = true then
      m_slices_Max_int_int ([] : (List Int)) >>= fun (v10 : Int) =>
      some ((v3.length : Int) != (W (v10 + 1)))
    else
    some false
    ) >>= fun (v8 : Bool) =>
    if v8 = true then
      some (([] : (List Int)), 6)
    else
    some (([] : (List Int)), v4)
  | .inr ((v6, v7)) =>
    (if p1 > 0 then
      m_slices_Max_int_int v7 >>= fun (v12 : Int) =>
      some ((v6.length : Int) != (W (v12 + 1)))
    else
    some false
    ) >>= fun (v11 : Bool) =>
    if v11 = true then
      some (([] : (List Int)), 6)
    else
    some (v7, 0)
  )
def P_spec_Permutation : (T_spec_Spec × Int) → ((List Int) × Int) → Prop := fun x r => match x, r with
  | (p0, p1), (r0, r1) => ∀ H, PC prog env 43 ([(T_spec_Spec.toD p0), (intD p1)].map .dat) H (.tup [(.dat (.lst ((List.map intD) r0))), (intPV r1)]) H
theorem w_spec_Permutation : ∀ x r, m_spec_Permutation x = some r → P_spec_Permutation x r := by
  intro x r hm
  unfold m_spec_Permutation at hm
  unfold P_spec_Permutation
  obtain ⟨p0, p1⟩ := x
  obtain ⟨r0, r1⟩ := r
  intro H
  refine PC_sx (ds := [(T_spec_Spec.toD p0), (intD p1)]) (fn := f43) (by kernel_rfl) (by kernel_rfl) rfl ?_ (by kernel_rfl)
  refine R_seq ?_
  refine R_G ?_
  refine G_run 4 ?_
  refine G_end ?_
  refine R_seq ?_
  refine R_G ?_
  refine G_run 2 ?_
  obtain ⟨⟨v1, v2⟩, hx, hm⟩ := bind_inv hm
  have hq := w_spec_Exactly _ _ hx []
  refine G_callP hq ?_
  refine G_run 5 ?_
  refine G_end ?_
  refine R_seq ?_
  refine R_seq ?_
  refine R_G ?_
  refine G_run 2 ?_
  refine G_end ?_
  refine R_ifp (p := v2 ≠ 0) (ne_dec _ _) (fun hc => ?_) (fun hc => ?_)
  · replace hm := pos_inv hc hm
    refine R_seq ?_
    refine R_G ?_
    refine G_run 3 ?_
    refine G_end ?_
    refine R_ret ?_
    obtain ⟨rfl, rfl⟩ := inj2 hm
    exact ⟨trivial, fin_pure (by kernel_rfl)⟩
  replace hm := neg_inv hc hm
  refine R_skip ?_
  refine R_seq ?_
  refine R_G ?_
  refine G_run 1 ?_
  refine G_run 2 ?_
  refine G_end ?_
  refine R_seq ?_
  refine R_G ?_
  refine G_run 2 ?_
  obtain ⟨out, hx, hm⟩ := bind_inv hm
  rcases out with ⟨v3, v4, v5⟩ | ⟨v6, v7⟩
  · have hq := w_spec_converted_int64_int_bf2e7 _ _ hx
    dsimp only [P_spec_converted_int64_int_bf2e7] at hq
    refine G_callB hq ?_
    refine G_run 5 ?_
    refine G_end ?_
    refine R_seq ?_
    refine R_seq ?_
    obtain ⟨v8, hs, hm⟩ := bind_inv hm
    refine R_cut (fun d => ⟨sl d 42 [(7, (intPV v4)), (9, (.dat (.lst ((List.map intD) [])))), (39, (boolPV v8))], [(.box [(.dat (.lst ((List.map intD) p0.values))), (boolPV p0.scalar)]), (.box [(intPV p1)]), (.map (setE .i64 (boolD true) v3)), (.box [(.mapv 2)]), (.tok 3 v5)]⟩) ?_ (fun d => ?_)
    · replace hm := hs
      clear hs
      refine R_GN ?_
      refine G_run 3 ?_
      obtain ⟨v9, hs, hm⟩ := bind_inv hm
      refine G_cut (j := 6) (fun d => ⟨sl d 42 [(0, (.dat (.agg [(.lst ((List.map intD) p0.values)), (boolD p0.scalar)]))), (1, (intPV p1)), (2, (.ptr 0 0)), (3, (.ptr 1 0)), (4, (.dat (.lst ((List.map intD) [])))), (5, (intPV 0)), (6, (.dat (.lst ((List.map intD) v1)))), (7, (intPV v4)), (8, (.ptr 3 0)), (9, (.dat (.lst ((List.map intD) [])))), (10, (.tup [(.dat (.lst ((List.map intD) v1))), (intPV v2)])), (11, (.dat (.agg [(.lst ((List.map intD) p0.values)), (boolD p0.scalar)]))), (12, (intPV p1)), (13, (.tup [(.dat (.lst ((List.map intD) v1))), (intPV v2)])), (14, (.dat (.lst ((List.map intD) v1)))), (15, (intPV v2)), (16, (intPV v2)), (17, (boolPV (v2 != 0))), (19, (.mapv 2)), (20, (.tup [(.dat (.lst ((List.map intD) []))), (intPV v4)])), (21, (.dat (.lst ((List.map intD) v1)))), (22, (.fn 79 [(.ptr 1 0), (.ptr 3 0)])), (23, (.tup [(.dat (.lst ((List.map intD) []))), (intPV v4)])), (24, (.dat (.lst ((List.map intD) [])))), (25, (intPV v4)), (26, (intPV v4)), (27, (boolPV (v4 == 0))), (31, (boolPV v9))], [(.box [(.dat (.lst ((List.map intD) p0.values))), (boolPV p0.scalar)]), (.box [(intPV p1)]), (.map (setE .i64 (boolD true) v3)), (.box [(.mapv 2)]), (.tok 3 v5)]⟩) (fun d => ?_) (fun hJ => ?_)
      · clear hs
        refine G_run 1 ?_
        refine G_split (p := v9 = true) 32 (bool_dec _) (fun hc => ?_) (fun hc => ?_)
        · replace hm := pos_inv hc hm
          refine G_run 1 ?_
          refine G_semN rfl (by kernel_rfl) (fun _ => E_setLen (kt := 3) (e := 4) (i := 2) (kk := .i64) (v := (boolD true)) (l := v3) (by kernel_rfl) rfl (by kernel_rfl) (by kernel_rfl)) ?_
          refine G_run 1 ?_
          obtain ⟨v10, hx, hm⟩ := bind_inv hm
          have hq := w_slices_Max_int_int _ _ hx []
          refine G_callP hq ?_
          refine G_run 3 ?_
          refine G_end ⟨by kernel_rfl, ?_⟩
          obtain rfl := inj1 hm
          exact cut_leaf (by kernel_rfl)
        replace hm := neg_inv hc hm
        refine G_run 7 ?_
        refine G_end ⟨by kernel_rfl, ?_⟩
        obtain rfl := inj1 hm
        exact cut_leaf (by kernel_rfl)
      replace hm := hs
      clear hs
      refine G_split (p := v4 = 0) 28 (eq_dec _ _) (fun hc => ?_) (fun hc => ?_)
      · replace hm := pos_inv hc hm
        refine G_run 3 ?_
        obtain rfl := inj1 hm
        exact hJ _ _ (by kernel_rfl) (by kernel_rfl)
      replace hm := neg_inv hc hm
      refine G_run 3 ?_
      obtain rfl := inj1 hm
      exact hJ _ _ (by kernel_rfl) (by kernel_rfl)
    clear hs
    refine R_ifp (p := v8 = true) (bool_dec _) (fun hc => ?_) (fun hc => ?_)
    · replace hm := pos_inv hc hm
      refine R_seq ?_
      refine R_G ?_
      refine G_run 2 ?_
      refine G_end ?_
      refine R_ret ?_
      obtain ⟨rfl, rfl⟩ := inj2 hm
      exact ⟨trivial, fin_pure (by kernel_rfl)⟩
    replace hm := neg_inv hc hm
    refine R_skip ?_
    refine R_seq ?_
    refine R_G ?_
    refine G_run 4 ?_
    refine G_end ?_
    refine R_ret ?_
    obtain ⟨rfl, rfl⟩ := inj2 hm
    exact ⟨trivial, fin_pure (by kernel_rfl)⟩
  · have hq := w_spec_converted_int64_int_bf2e7 _ _ hx
    dsimp only [P_spec_converted_int64_int_bf2e7] at hq
    refine G_callB hq ?_
    refine G_run 5 ?_
    refine G_end ?_
    refine R_seq ?_
    refine R_seq ?_
    obtain ⟨v11, hs, hm⟩ := bind_inv hm
    refine R_cut (fun d => ⟨sl d 42 [(7, (intPV 0)), (9, (.vec 4 ((List.map intD) v7))), (39, (boolPV v11))], [(.box [(.dat (.lst ((List.map intD) p0.values))), (boolPV p0.scalar)]), (.box [(intPV p1)]), (.map (setE .i64 (boolD true) v6)), (.box [(.mapv 2)]), (.tok 3 v7.length)]⟩) ?_ (fun d => ?_)
    · replace hm := hs
      clear hs
      refine R_GN ?_
      refine G_run 7 ?_
      refine G_split (p := p1 > 0) 32 (rfl) (fun hc => ?_) (fun hc => ?_)
      · replace hm := pos_inv hc hm
        refine G_run 1 ?_
        refine G_semN rfl (by kernel_rfl) (fun _ => E_setLen (kt := 3) (e := 4) (i := 2) (kk := .i64) (v := (boolD true)) (l := v6) (by kernel_rfl) rfl (by kernel_rfl) (by kernel_rfl)) ?_
        refine G_run 1 ?_
        obtain ⟨v12, hx, hm⟩ := bind_inv hm
        have hq := w_slices_Max_int_int _ _ hx []
        refine G_callP hq ?_
        refine G_run 3 ?_
        refine G_end ⟨by kernel_rfl, ?_⟩
        obtain rfl := inj1 hm
        exact cut_leaf (by kernel_rfl)
      replace hm := neg_inv hc hm
      refine G_run 7 ?_
      refine G_end ⟨by kernel_rfl, ?_⟩
      obtain rfl := inj1 hm
      exact cut_leaf (by kernel_rfl)
    clear hs
    refine R_ifp (p := v11 = true) (bool_dec _) (fun hc => ?_) (fun hc => ?_)
    · replace hm := pos_inv hc hm
      refine R_seq ?_
      refine R_G ?_
      refine G_run 2 ?_
      refine G_end ?_
      refine R_ret ?_
      obtain ⟨rfl, rfl⟩ := inj2 hm
      exact ⟨trivial, fin_pure (by kernel_rfl)⟩
    replace hm := neg_inv hc hm
    refine R_skip ?_
    refine R_seq ?_
    refine R_G ?_
    refine G_run 4 ?_
    refine G_end ?_
    refine R_ret ?_
    obtain ⟨rfl, rfl⟩ := inj2 hm
    exact ⟨trivial, fin_pure (by kernel_rfl)⟩
end Go.Proofs.Try
namespace Go.Proofs.Try
open Go Go.Pm
set_option linter.unusedVariables false
set_option maxHeartbeats 2000000
set_option maxRecDepth 2000
def m_rule_permuted_1_b7767 (x : ((List Int) × Nat × (List Int) × (List Int) × (List Int))) : Option (Unit) :=
  match x with
  | (q0, q1, q2, q3, q4) =>
  some ()
def P_rule_permuted_1_b7767 : ((List Int) × Nat × (List Int) × (List Int) × (List Int)) → Unit → Prop := fun x r => match x with
  | (q0, q1, q2, q3, q4) => PC prog env 81 [(.ptr 7 0), (.ptr 0 0)] [(.box [(.dat (.lst ((List.map intD) q0)))]), (.box [(.dat (.lst ((List.map intD) []))), (.dat (.lst ((List.map intD) []))), (.dat (.lst ((List.map intD) []))), (.dat (.lst ((List.map intD) []))), (intPV 0), (intPV 0), (.dat (.lst ((List.map intD) [])))]), (.mt 3 q1 (cellsOf intD q2)), (.box [(.fn 81 [(.ptr 0 0)])]), (.box [(.dat (.lst ((List.map intD) []))), (.dat (.lst ((List.map intD) []))), (.dat (.lst ((List.map intD) []))), (.dat (.lst ((List.map intD) []))), (intPV 0), (intPV 0), (.dat (.lst ((List.map intD) [])))]), (.mt 3 1 (cellsOf intD q3)), (.mt 3 1 (cellsOf intD q4)), (.box [(.dat (.lst ((List.map intD) []))), (.ms 5 1 0 q3.length q3.length), (.ms 6 1 0 q4.length q4.length), (.dat (.lst ((List.map intD) []))), (intPV (-1)), (intPV 0), (.dat (.lst ((List.map intD) [])))])] (match r with | _ => (.tup [])) (match r with | _ => [(.box [(.dat (.lst ((List.map intD) q0)))]), (.box [(.dat (.lst ((List.map intD) []))), (.dat (.lst ((List.map intD) []))), (.dat (.lst ((List.map intD) []))), (.dat (.lst ((List.map intD) []))), (intPV 0), (intPV 0), (.dat (.lst ((List.map intD) [])))]), (.mt 3 q1 (cellsOf intD q2)), (.box [(.fn 81 [(.ptr 0 0)])]), (.box [(.dat (.lst ((List.map intD) []))), (.dat (.lst ((List.map intD) []))), (.dat (.lst ((List.map intD) []))), (.dat (.lst ((List.map intD) []))), (intPV 0), (intPV 0), (.dat (.lst ((List.map intD) [])))]), (.mt 3 1 (cellsOf intD q3)), (.mt 3 1 (cellsOf intD q4)), (.box [(.dat (.lst ((List.map intD) []))), (.ms 5 1 0 q3.length q3.length), (.ms 6 1 0 q4.length q4.length), (.dat (.lst ((List.map intD) []))), (intPV (-1)), (intPV 0), (.dat (.lst ((List.map intD) q0)))])])
theorem w_rule_permuted_1_b7767 : ∀ x r, m_rule_permuted_1_b7767 x = some r → P_rule_permuted_1_b7767 x r := by
  intro x r hm
  unfold m_rule_permuted_1_b7767 at hm
  unfold P_rule_permuted_1_b7767
  obtain ⟨q0, q1, q2, q3, q4⟩ := x
  refine PC_sxB (fn := f81) (by kernel_rfl) (by kernel_rfl) rfl ?_
  refine R_G ?_
  refine G_run 5 ?_
  refine G_end ?_
  obtain rfl := inj1 hm
  exact ⟨trivial, fin_body (by kernel_rfl) (by kernel_rfl)⟩
end Go.Proofs.Try
namespace Go.Proofs.Try
open Go Go.Pm
set_option linter.unusedVariables false
set_option maxHeartbeats 2000000
set_option maxRecDepth 2000
def m_rule_made_b0950 (x : ((List Int) × Nat × (List Int) × Nat × (List Int))) : Option (Int ⊕ ((List Int) × (List Int))) :=
  match x with
  | (q0, q1, q2, q3, q4) =>
  guardM (q2.length = q3) >>= fun (_ : Unit) =>
  m_shape_Check q2 >>= fun (v2 : Int) =>
  if v2 ≠ 0 then
    some (Sum.inl v2)
  else
  m_slices_Clone_int_int q0 >>= fun v3 =>
  guardM (q2.length = q3) >>= fun (_ : Unit) =>
  m_slices_Clone_int_int q2 >>= fun v5 =>
  m_rule_permuted_1_b7767 (q4, q1, q2, v3, v5) >>= fun (_ : Unit) =>
  some (Sum.inr (v3, v5))
def P_rule_made_b0950 : ((List Int) × Nat × (List Int) × Nat × (List Int)) → (Int ⊕ ((List Int) × (List Int))) → Prop := fun x r => match x with
  | (q0, q1, q2, q3, q4) => PC prog env 40 [(.dat (.lst ((List.map intD) q0))), (.ms 2 q1 0 q3 q3), (.arr 3 0 1 1)] [(.box [(.dat (.lst ((List.map intD) q4)))]), (.box [(.dat (.lst ((List.map intD) []))), (.dat (.lst ((List.map intD) []))), (.dat (.lst ((List.map intD) []))), (.dat (.lst ((List.map intD) []))), (intPV 0), (intPV 0), (.dat (.lst ((List.map intD) [])))]), (.mt 3 q1 (cellsOf intD q2)), (.box [(.fn 81 [(.ptr 0 0)])])] (match r with | .inl v5001 => (.tup [(.dat (.agg [(.lst ((List.map intD) [])), (.lst ((List.map intD) [])), (.lst ((List.map intD) [])), (.lst ((List.map intD) [])), (intD 0), (intD 0), (.lst ((List.map intD) []))])), (intPV v5001)]) | .inr ((v5002, v5003)) => (.tup [(.agg [(.dat (.lst ((List.map intD) []))), (.ms 5 1 0 v5002.length v5002.length), (.ms 6 1 0 v5003.length v5003.length), (.dat (.lst ((List.map intD) []))), (intPV (-1)), (intPV 0), (.dat (.lst ((List.map intD) q4)))]), (intPV 0)])) (match r with | .inl v5001 => [(.box [(.dat (.lst ((List.map intD) q4)))]), (.box [(.dat (.lst ((List.map intD) []))), (.dat (.lst ((List.map intD) []))), (.dat (.lst ((List.map intD) []))), (.dat (.lst ((List.map intD) []))), (intPV 0), (intPV 0), (.dat (.lst ((List.map intD) [])))]), (.mt 3 q1 (cellsOf intD q2)), (.box [(.fn 81 [(.ptr 0 0)])]), (.box [(.dat (.lst ((List.map intD) []))), (.dat (.lst ((List.map intD) []))), (.dat (.lst ((List.map intD) []))), (.dat (.lst ((List.map intD) []))), (intPV 0), (intPV 0), (.dat (.lst ((List.map intD) [])))])] | .inr ((v5002, v5003)) => [(.box [(.dat (.lst ((List.map intD) q4)))]), (.box [(.dat (.lst ((List.map intD) []))), (.dat (.lst ((List.map intD) []))), (.dat (.lst ((List.map intD) []))), (.dat (.lst ((List.map intD) []))), (intPV 0), (intPV 0), (.dat (.lst ((List.map intD) [])))]), (.mt 3 q1 (cellsOf intD q2)), (.box [(.fn 81 [(.ptr 0 0)])]), (.box [(.dat (.lst ((List.map intD) []))), (.ms 5 1 0 v5002.length v5002.length), (.ms 6 1 0 v5003.length v5003.length), (.dat (.lst ((List.map intD) []))), (intPV (-1)), (intPV 0), (.dat (.lst ((List.map intD) q4)))]), (.mt 3 1 (cellsOf intD v5002)), (.mt 3 1 (cellsOf intD v5003)), (.box [(.dat (.lst ((List.map intD) []))), (.ms 5 1 0 v5002.length v5002.length), (.ms 6 1 0 v5003.length v5003.length), (.dat (.lst ((List.map intD) []))), (intPV (-1)), (intPV 0), (.dat (.lst ((List.map intD) q4)))])])
theorem w_rule_made_b0950 : ∀ x r, m_rule_made_b0950 x = some r → P_rule_made_b0950 x r := by
  intro x r hm
  unfold m_rule_made_b0950 at hm
  unfold P_rule_made_b0950
  obtain ⟨q0, q1, q2, q3, q4⟩ := x
  refine PC_sxB (fn := f40) (by kernel_rfl) (by kernel_rfl) rfl ?_
  refine R_seq ?_
  refine R_G ?_
  refine G_run 2 ?_
  refine G_end ?_
  refine R_seq ?_
  refine R_seq ?_
  refine R_G ?_
  refine G_run 1 ?_
  obtain ⟨_, hl1, hm⟩ := bind_inv hm
  replace hl1 := guard_inv hl1
  obtain ⟨v2, hx, hm⟩ := bind_inv hm
  have hq := w_shape_Check _ _ hx []
  refine G_callL (args := [(.ms 2 q1 0 q3 q3)]) hq (ps_cons (p1_ms (pc_ms (e := 3) intD q2 hl1 (fun _ => rfl) (by kernel_rfl))) ps_nil) ?_
  refine G_run 1 ?_
  refine G_end ?_
  refine R_seq ?_
  refine R_G ?_
  refine G_run 2 ?_
  refine G_end ?_
  refine R_ifp (p := v2 ≠ 0) (ne_dec _ _) (fun hc => ?_) (fun hc => ?_)
  · replace hm := pos_inv hc hm
    refine R_seq ?_
    refine R_G ?_
    refine G_run 4 ?_
    refine G_end ?_
    refine R_ret ?_
    obtain rfl := inj1 hm
    exact ⟨trivial, fin_body (by kernel_rfl) (by kernel_rfl)⟩
  replace hm := neg_inv hc hm
  refine R_skip ?_
  refine R_seq ?_
  refine R_G ?_
  refine G_run 1 ?_
  obtain ⟨v3, hx, hm⟩ := bind_inv hm
  have hq := w_slices_Clone_int_int _ _ hx
  dsimp only [P_slices_Clone_int_int] at hq
  have hl9 : mtOf [Blk.mt 3 (cgm_slices_Clone_int_int v3) (cellsOf intD v3)] 0 = some (3, cgm_slices_Clone_int_int v3, cellsOf intD v3) := mtOf_at (by kernel_rfl)
  refine G_semH (v := .ms 5 1 0 v3.length v3.length) (fun H => H ++ [.mt 3 1 (cellsOf intD v3)]) rfl (by kernel_rfl) ?_ ?_
  · intro K hk
    refine E_callOwnN 5 (first := #[]) (cap := #[]) (j := (0, 3)) (ow' := []) (f0 := intD) (l := v3) rfl ?_ ?_ ?_ (ds := [.lst ((List.map intD) q0)]) ?_ hq hl9 ?_ ?_ ?_
    · kernel_rfl
    · kernel_rfl
    · kernel_rfl
    · kernel_rfl
    · exact hk
    · kernel_rfl
    · decide
  refine G_run 1 ?_
  obtain ⟨_, hl4, hm⟩ := bind_inv hm
  replace hl4 := guard_inv hl4
  obtain ⟨v5, hx, hm⟩ := bind_inv hm
  have hq := w_slices_Clone_int_int _ _ hx
  dsimp only [P_slices_Clone_int_int] at hq
  have hl9 : mtOf [Blk.mt 3 (cgm_slices_Clone_int_int v5) (cellsOf intD v5)] 0 = some (3, cgm_slices_Clone_int_int v5, cellsOf intD v5) := mtOf_at (by kernel_rfl)
  refine G_semH (v := .ms 6 1 0 v5.length v5.length) (fun H => H ++ [.mt 3 1 (cellsOf intD v5)]) rfl (by kernel_rfl) ?_ ?_
  · intro K hk
    refine E_callOwnN 6 (first := #[]) (cap := #[]) (j := (0, 3)) (ow' := []) (f0 := intD) (l := v5) rfl ?_ ?_ ?_ (ds := [.lst ((List.map intD) q2)]) ?_ hq hl9 ?_ ?_ ?_
    · kernel_rfl
    · kernel_rfl
    · exact plain_or (cellsOf_plain (fun _ => rfl) _)
    · exact ps_one (v := (.ms 2 q1 0 q3 q3)) (by kernel_rfl) (p1_ms (pc_ms (e := 3) intD q2 hl4 (fun _ => rfl) (by kernel_rfl)))
    · exact hk
    · kernel_rfl
    · decide
  refine G_run 3 ?_
  refine G_end ?_
  refine R_seq ?_
  refine R_seq ?_
  refine R_G ?_
  refine G_run 1 ?_
  refine G_run 1 ?_
  refine G_run 1 ?_
  refine G_end ?_
  refine R_block ?_
  refine R_loop ?_
  refine RL_at (st' := ⟨kp 33 [(6, (.ptr 4 0)), (9, (.ptr 7 0)), (23, (.arr 3 0 1 1)), (24, (intPV 1)), (25, (intPV 0))], [(.box [(.dat (.lst ((List.map intD) q4)))]), (.box [(.dat (.lst ((List.map intD) []))), (.dat (.lst ((List.map intD) []))), (.dat (.lst ((List.map intD) []))), (.dat (.lst ((List.map intD) []))), (intPV 0), (intPV 0), (.dat (.lst ((List.map intD) [])))]), (.mt 3 q1 (cellsOf intD q2)), (.box [(.fn 81 [(.ptr 0 0)])]), (.box [(.dat (.lst ((List.map intD) []))), (.dat (.lst ((List.map intD) []))), (.dat (.lst ((List.map intD) []))), (.dat (.lst ((List.map intD) []))), (intPV 0), (intPV 0), (.dat (.lst ((List.map intD) [])))]), (.mt 3 1 (cellsOf intD v3)), (.mt 3 1 (cellsOf intD v5)), (.box [(.dat (.lst ((List.map intD) []))), (.ms 5 1 0 v3.length v3.length), (.ms 6 1 0 v5.length v5.length), (.dat (.lst ((List.map intD) []))), (intPV (-1)), (intPV 0), (.dat (.lst ((List.map intD) [])))])]⟩) (prune_of2 [(.box [(.dat (.lst ((List.map intD) q4)))]), (.box [(.dat (.lst ((List.map intD) []))), (.dat (.lst ((List.map intD) []))), (.dat (.lst ((List.map intD) []))), (.dat (.lst ((List.map intD) []))), (intPV 0), (intPV 0), (.dat (.lst ((List.map intD) [])))]), (.mt 3 q1 (cellsOf intD q2)), (.box [(.fn 81 [(.ptr 0 0)])]), (.box [(.dat (.lst ((List.map intD) []))), (.dat (.lst ((List.map intD) []))), (.dat (.lst ((List.map intD) []))), (.dat (.lst ((List.map intD) []))), (intPV 0), (intPV 0), (.dat (.lst ((List.map intD) [])))]), (.mt 3 1 (cellsOf intD v3)), (.mt 3 1 (cellsOf intD v5)), (.box [(.dat (.lst ((List.map intD) []))), (.ms 5 1 0 v3.length v3.length), (.ms 6 1 0 v5.length v5.length), (.dat (.lst ((List.map intD) []))), (intPV (-1)), (intPV 0), (.dat (.lst ((List.map intD) [])))])] (fun _ => (pg_cons (by kernel_rfl) (pg_cons (by kernel_rfl) (pg_cons (purge_mt intD _ _ _ _ _) (pg_cons (by kernel_rfl) (pg_cons (by kernel_rfl) (pg_cons (purge_mt intD _ _ _ _ _) (pg_cons (purge_mt intD _ _ _ _ _) (pg_cons (by kernel_rfl) pg_nil))))))))) rfl) ?_
  refine R_seq ?_
  refine R_G ?_
  refine G_run 1 ?_
  refine G_end ?_
  refine R_seq ?_
  refine R_true (by kernel_rfl) ?_
  refine R_skip ?_
  refine R_seq ?_
  refine R_block ?_
  refine R_seq ?_
  refine R_G ?_
  refine G_run 1 ?_
  refine G_run 2 ?_
  refine G_end ?_
  refine R_G ?_
  refine G_run 1 ?_
  obtain ⟨_, hx, hm⟩ := bind_inv hm
  have hq := w_rule_permuted_1_b7767 _ _ hx
  dsimp only [P_rule_permuted_1_b7767] at hq
  refine G_callB hq ?_
  refine G_end ?_
  refine R_G ?_
  refine G_run 2 ?_
  refine G_end ?_
  refine RL_at (st' := ⟨kp 33 [(6, (.ptr 4 0)), (9, (.ptr 7 0)), (23, (.arr 3 0 1 1)), (24, (intPV 1)), (25, (intPV 1))], [(.box [(.dat (.lst ((List.map intD) q4)))]), (.box [(.dat (.lst ((List.map intD) []))), (.dat (.lst ((List.map intD) []))), (.dat (.lst ((List.map intD) []))), (.dat (.lst ((List.map intD) []))), (intPV 0), (intPV 0), (.dat (.lst ((List.map intD) [])))]), (.mt 3 q1 (cellsOf intD q2)), (.box [(.fn 81 [(.ptr 0 0)])]), (.box [(.dat (.lst ((List.map intD) []))), (.dat (.lst ((List.map intD) []))), (.dat (.lst ((List.map intD) []))), (.dat (.lst ((List.map intD) []))), (intPV 0), (intPV 0), (.dat (.lst ((List.map intD) [])))]), (.mt 3 1 (cellsOf intD v3)), (.mt 3 1 (cellsOf intD v5)), (.box [(.dat (.lst ((List.map intD) []))), (.ms 5 1 0 v3.length v3.length), (.ms 6 1 0 v5.length v5.length), (.dat (.lst ((List.map intD) []))), (intPV (-1)), (intPV 0), (.dat (.lst ((List.map intD) q4)))])]⟩) (prune_of2 [(.box [(.dat (.lst ((List.map intD) q4)))]), (.box [(.dat (.lst ((List.map intD) []))), (.dat (.lst ((List.map intD) []))), (.dat (.lst ((List.map intD) []))), (.dat (.lst ((List.map intD) []))), (intPV 0), (intPV 0), (.dat (.lst ((List.map intD) [])))]), (.mt 3 q1 (cellsOf intD q2)), (.box [(.fn 81 [(.ptr 0 0)])]), (.box [(.dat (.lst ((List.map intD) []))), (.dat (.lst ((List.map intD) []))), (.dat (.lst ((List.map intD) []))), (.dat (.lst ((List.map intD) []))), (intPV 0), (intPV 0), (.dat (.lst ((List.map intD) [])))]), (.mt 3 1 (cellsOf intD v3)), (.mt 3 1 (cellsOf intD v5)), (.box [(.dat (.lst ((List.map intD) []))), (.ms 5 1 0 v3.length v3.length), (.ms 6 1 0 v5.length v5.length), (.dat (.lst ((List.map intD) []))), (intPV (-1)), (intPV 0), (.dat (.lst ((List.map intD) q4)))])] (fun _ => (pg_cons (by kernel_rfl) (pg_cons (by kernel_rfl) (pg_cons (purge_mt intD _ _ _ _ _) (pg_cons (by kernel_rfl) (pg_cons (by kernel_rfl) (pg_cons (purge_mt intD _ _ _ _ _) (pg_cons (purge_mt intD _ _ _ _ _) (pg_cons (by kernel_rfl) pg_nil))))))))) rfl) ?_
  refine R_seq ?_
  refine R_G ?_
  refine G_run 1 ?_
  refine G_end ?_
  refine R_seq ?_
  refine R_false (by kernel_rfl) ?_
  refine R_exit ?_
  refine R_seq ?_
  refine R_G ?_
  refine G_run 3 ?_
  refine G_end ?_
  refine R_ret ?_
  obtain rfl := inj1 hm
  exact ⟨trivial, fin_body (by kernel_rfl) (by kernel_rfl)⟩
end Go.Proofs.Try
namespace Go.Proofs.Try
open Go Go.Pm
set_option linter.unusedVariables false
set_option maxHeartbeats 2000000
set_option maxRecDepth 2000
def m_rule_permuted_L2 (x : (Int × (List Int) × Int × (List Int) × Nat × (List Int) × Nat)) : Option ((Nat × (List Int) × Nat)) :=
  match x with
  | (v604, p1, v204, p0, v805, v806, v807) =>
  if (v807 : Int) ≤ v604 then
    guardM (v806.length = v807) >>= fun (_ : Unit) =>
    app 8 v806 ([65536] : List Int) >>= fun v1209 =>
    m_rule_permuted_L2 (v604, p1, v204, p0, (gb v805 ([65536] : List Int).isEmpty), v1209, v1209.length)
  else
  some (v805, v806, v807)
  partial_fixpoint
def P_rule_permuted_L2 : (Int × (List Int) × Int × (List Int) × Nat × (List Int) × Nat) → (Nat × (List Int) × Nat) → Prop := fun x r => match x with
  | (v604, p1, v204, p0, v805, v806, v807) => ∀ st, prune 3 ((firstRegion (codeAt [1, 1, 0, 1, 0, 0, 1, 1, 0, 0, 1, 0, 0, 0] (bodyOf f44))).bind (env.hint 44).keepAt) st = ⟨kp 43 [(1, (.dat (.lst ((List.map intD) p1)))), (2, (.ptr 0 0)), (4, (.ptr 1 0)), (6, (.ms 2 v805 0 v807 v807)), (7, (intPV v204)), (8, (intPV v604)), (9, (.dat (.lst ((List.map intD) p0)))), (10, (intPV (p0.length : Int))), (11, (intPV v204))], [(.box [(.dat (.lst ((List.map intD) p0)))]), (.box [(.dat (.lst ((List.map intD) []))), (.dat (.lst ((List.map intD) []))), (.dat (.lst ((List.map intD) []))), (.dat (.lst ((List.map intD) []))), (intPV 0), (intPV 0), (.dat (.lst ((List.map intD) [])))]), (.mt 3 v805 (cellsOf intD v806))]⟩ →
    RL prog env (env.hint 44) true (codeAt [1, 1, 0, 1, 0, 0, 1, 1, 0, 0, 1, 0, 0, 0] (bodyOf f44)) 3 st (fun e s => match r with | (v1205, v1206, v1207) => e = .exit 2 ∧ ∃ d, s = ⟨sl d 43 [(1, (.dat (.lst ((List.map intD) p1)))), (2, (.ptr 0 0)), (4, (.ptr 1 0)), (6, (.ms 2 v1205 0 v1207 v1207)), (7, (intPV v204)), (8, (intPV v604)), (9, (.dat (.lst ((List.map intD) p0)))), (10, (intPV (p0.length : Int))), (11, (intPV v204))], [(.box [(.dat (.lst ((List.map intD) p0)))]), (.box [(.dat (.lst ((List.map intD) []))), (.dat (.lst ((List.map intD) []))), (.dat (.lst ((List.map intD) []))), (.dat (.lst ((List.map intD) []))), (intPV 0), (intPV 0), (.dat (.lst ((List.map intD) [])))]), (.mt 3 v1205 (cellsOf intD v1206))]⟩)
theorem w_rule_permuted_L2 : ∀ x r, m_rule_permuted_L2 x = some r → P_rule_permuted_L2 x r := by
  refine m_rule_permuted_L2.partial_correctness _ (fun m_rule_permuted_L2 w_rule_permuted_L2 x r hm => ?_)
  unfold P_rule_permuted_L2
  obtain ⟨v604, p1, v204, p0, v805, v806, v807⟩ := x
  intro st hst
  refine RL_at hst ?_
  clear hst
  refine R_seq ?_
  refine R_seq ?_
  refine R_G ?_
  refine G_run 1 ?_
  refine G_run 1 ?_
  refine G_run 2 ?_
  refine G_end ?_
  refine R_ifp (p := (v807 : Int) ≤ v604) (rfl) (fun hc => ?_) (fun hc => ?_)
  · replace hm := pos_inv hc hm
    refine R_skip ?_
    refine R_block ?_
    refine R_G ?_
    refine G_run 2 ?_
    obtain ⟨_, hl1208, hm⟩ := bind_inv hm
    replace hl1208 := guard_inv hl1208
    obtain ⟨v1209, hx, hm⟩ := bind_inv hm
    refine G_semH (v := .ms 2 (gb v805 ([65536] : List Int).isEmpty) 0 v1209.length v1209.length) (fun H => H.set 2 (.mt 3 (gb v805 ([65536] : List Int).isEmpty) (cellsOf intD v1209))) rfl (by kernel_rfl) (fun _ hk => E_apMs intD (l := v806) (es := ([65536] : List Int)) (bytes := 8) (e := 3) (tt := 2) (g := v805) (m := v807) hx (fun _ => rfl) (by kernel_rfl) (by kernel_rfl) (by kernel_rfl) (by kernel_rfl) rfl rfl (by kernel_rfl) hl1208 (by kernel_rfl) (by kernel_rfl) hk) ?_
    refine G_run 1 ?_
    refine G_end ?_
    exact w_rule_permuted_L2 _ _ hm _ (prune_of2 [(.box [(.dat (.lst ((List.map intD) p0)))]), (.box [(.dat (.lst ((List.map intD) []))), (.dat (.lst ((List.map intD) []))), (.dat (.lst ((List.map intD) []))), (.dat (.lst ((List.map intD) []))), (intPV 0), (intPV 0), (.dat (.lst ((List.map intD) [])))]), (.mt 3 (gb v805 ([65536] : List Int).isEmpty) (cellsOf intD v1209))] (fun _ => (pg_cons (by kernel_rfl) (pg_cons (by kernel_rfl) (pg_cons (purge_mt intD _ _ _ _ _) pg_nil)))) rfl)
  replace hm := neg_inv hc hm
  refine R_exit ?_
  obtain rfl := inj1 hm
  exact ⟨rfl, cut_leaf (by kernel_rfl)⟩
def m_rule_permuted_L1 (x : ((List Int) × (List Int) × Nat × (List Int) × Nat × Int)) : Option ((Nat × (List Int) × Nat)) :=
  match x with
  | (p0, p1, v201, v202, v203, v204) =>
  if v204 < (p0.length : Int) then
    idx p0 v204 >>= fun v604 =>
    m_rule_permuted_L2 (v604, p1, v204, p0, v201, v202, v203) >>= fun ((v1205, v1206, v1207) : (Nat × (List Int) × Nat)) =>
    guardM (v1206.length = v1207) >>= fun (_ : Unit) =>
    idx v1206 v604 >>= fun v1210 =>
    idx v1206 v604 >>= fun v1212 =>
    idx p1 v204 >>= fun v1213 =>
    guardM (v1206.length = v1207) >>= fun (_ : Unit) =>
    idx v1206 v604 >>= fun v1214 =>
    setM v1206 v604 (if v1213 < v1212 then v1213 else v1212) >>= fun v1216 =>
    m_rule_permuted_L1 (p0, p1, v1205, v1216, v1207, (W (v204 + 1)))
  else
  some (v201, v202, v203)
  partial_fixpoint
def P_rule_permuted_L1 : ((List Int) × (List Int) × Nat × (List Int) × Nat × Int) → (Nat × (List Int) × Nat) → Prop := fun x r => match x with
  | (p0, p1, v201, v202, v203, v204) => ∀ st, prune 3 ((firstRegion (codeAt [1, 1, 0, 1, 0, 0] (bodyOf f44))).bind (env.hint 44).keepAt) st = ⟨kp 43 [(1, (.dat (.lst ((List.map intD) p1)))), (2, (.ptr 0 0)), (4, (.ptr 1 0)), (6, (.ms 2 v201 0 v203 v203)), (9, (.dat (.lst ((List.map intD) p0)))), (10, (intPV (p0.length : Int))), (11, (intPV v204))], [(.box [(.dat (.lst ((List.map intD) p0)))]), (.box [(.dat (.lst ((List.map intD) []))), (.dat (.lst ((List.map intD) []))), (.dat (.lst ((List.map intD) []))), (.dat (.lst ((List.map intD) []))), (intPV 0), (intPV 0), (.dat (.lst ((List.map intD) [])))]), (.mt 3 v201 (cellsOf intD v202))]⟩ →
    RL prog env (env.hint 44) true (codeAt [1, 1, 0, 1, 0, 0] (bodyOf f44)) 3 st (fun e s => match r with | (v601, v602, v603) => e = .exit 0 ∧ ∃ d, s = ⟨sl d 43 [(1, (.dat (.lst ((List.map intD) p1)))), (2, (.ptr 0 0)), (4, (.ptr 1 0)), (6, (.ms 2 v601 0 v603 v603))], [(.box [(.dat (.lst ((List.map intD) p0)))]), (.box [(.dat (.lst ((List.map intD) []))), (.dat (.lst ((List.map intD) []))), (.dat (.lst ((List.map intD) []))), (.dat (.lst ((List.map intD) []))), (intPV 0), (intPV 0), (.dat (.lst ((List.map intD) [])))]), (.mt 3 v601 (cellsOf intD v602))]⟩)
theorem w_rule_permuted_L1 : ∀ x r, m_rule_permuted_L1 x = some r → P_rule_permuted_L1 x r := by
  refine m_rule_permuted_L1.partial_correctness _ (fun m_rule_permuted_L1 w_rule_permuted_L1 x r hm => ?_)
  unfold P_rule_permuted_L1
  obtain ⟨p0, p1, v201, v202, v203, v204⟩ := x
  intro st hst
  refine RL_at hst ?_
  clear hst
  refine R_seq ?_
  refine R_G ?_
  refine G_run 1 ?_
  refine G_end ?_
  refine R_seq ?_
  refine R_ifp (p := v204 < (p0.length : Int)) (rfl) (fun hc => ?_) (fun hc => ?_)
  · replace hm := pos_inv hc hm
    refine R_skip ?_
    refine R_seq ?_
    refine R_block ?_
    refine R_seq ?_
    refine R_G ?_
    refine G_run 1 ?_
    obtain ⟨v604, hx, hm⟩ := bind_inv hm
    refine I_idx 1 intD p0 v204 v604 (es := (List.map intD) p0) (d := (intD v604)) rfl hx rfl rfl ?_
    refine G_run 3 ?_
    refine G_end ?_
    refine R_seq ?_
    refine R_block ?_
    obtain ⟨⟨v1205, v1206, v1207⟩, hs, hm⟩ := bind_inv hm
    refine R_loop ?_
    refine RL_use (w_rule_permuted_L2 _ _ hs) (prune_of2 [(.box [(.dat (.lst ((List.map intD) p0)))]), (.box [(.dat (.lst ((List.map intD) []))), (.dat (.lst ((List.map intD) []))), (.dat (.lst ((List.map intD) []))), (.dat (.lst ((List.map intD) []))), (intPV 0), (intPV 0), (.dat (.lst ((List.map intD) [])))]), (.mt 3 v201 (cellsOf intD v202))] (fun _ => (pg_cons (by kernel_rfl) (pg_cons (by kernel_rfl) (pg_cons (purge_mt intD _ _ _ _ _) pg_nil)))) rfl) ?_
    clear hs
    intro e s hp
    obtain ⟨rfl, d, rfl⟩ := hp
    refine R_GD ?_
    refine G_run 4 ?_
    obtain ⟨_, hl1211, hm⟩ := bind_inv hm
    replace hl1211 := guard_inv hl1211
    obtain ⟨v1210, hx, hm⟩ := bind_inv hm
    refine G_semN rfl (by kernel_rfl) (fun _ => E_indexMs (e := 3) (n := v604) (j := (v604).toNat) (tt := 2) (g := v1205) (lo := 0) (len := v1207) (cap := v1207) (k := .i64) (by kernel_rfl) (by kernel_rfl) rfl (by kernel_rfl) (by kernel_rfl) (idx_nat hx) (Nat.lt_of_lt_of_eq (idx_lt hx) hl1211)) ?_
    obtain ⟨v1212, hx, hm⟩ := bind_inv hm
    refine G_semN rfl (by kernel_rfl) (fun _ => E_loadMs (tt := 2) (g := v1205) (j := (0 + (v604).toNat)) (e := 3) (cs := cellsOf intD v1206) (v := .dat (intD v1212)) (by kernel_rfl) (by kernel_rfl) rfl (by kernel_rfl) (mtOf_at (by kernel_rfl)) (cells_idx intD hx)) ?_
    refine G_run 2 ?_
    obtain ⟨v1213, hx, hm⟩ := bind_inv hm
    refine I_idx 1 intD p1 v204 v1213 (es := (List.map intD) p1) (d := (intD v1213)) rfl hx rfl rfl ?_
    refine G_run 1 ?_
    refine G_semN rfl (by kernel_rfl) (fun _ => E_min (k := .i64) (m := v1212) (n := v1213) rfl (by kernel_rfl) (by kernel_rfl)) ?_
    obtain ⟨_, hl1215, hm⟩ := bind_inv hm
    replace hl1215 := guard_inv hl1215
    obtain ⟨v1214, hx, hm⟩ := bind_inv hm
    refine G_semN rfl (by kernel_rfl) (fun _ => E_indexMs (e := 3) (n := v604) (j := (v604).toNat) (tt := 2) (g := v1205) (lo := 0) (len := v1207) (cap := v1207) (k := .i64) (by kernel_rfl) (by kernel_rfl) rfl (by kernel_rfl) (by kernel_rfl) (idx_nat hx) (Nat.lt_of_lt_of_eq (idx_lt hx) hl1215)) ?_
    obtain ⟨v1216, hx, hm⟩ := bind_inv hm
    refine G_semH (fun H => H.set 2 (.mt 3 v1205 (cellsOf intD v1216))) rfl (by kernel_rfl) (fun _ => E_stMs intD (l := v1206) (n := v604) (y := (if v1213 < v1212 then v1213 else v1212)) hx (fun _ => rfl) (by kernel_rfl) rfl (by kernel_rfl) (by kernel_rfl) (by kernel_rfl) (by kernel_rfl)) ?_
    refine G_end ⟨by kernel_rfl, ?_⟩
    refine R_G ?_
    refine G_run 2 ?_
    refine G_end ?_
    exact w_rule_permuted_L1 _ _ hm _ (prune_of2 [(.box [(.dat (.lst ((List.map intD) p0)))]), (.box [(.dat (.lst ((List.map intD) []))), (.dat (.lst ((List.map intD) []))), (.dat (.lst ((List.map intD) []))), (.dat (.lst ((List.map intD) []))), (intPV 0), (intPV 0), (.dat (.lst ((List.map intD) [])))]), (.mt 3 v1205 (cellsOf intD v1216))] (fun _ => (pg_cons (by kernel_rfl) (pg_cons (by kernel_rfl) (pg_cons (purge_mt intD _ _ _ _ _) pg_nil)))) rfl)
  replace hm := neg_inv hc hm
  refine R_exit ?_
  obtain rfl := inj1 hm
  exact ⟨rfl, cut_leaf (by kernel_rfl)⟩
def m_rule_permuted (x : ((List Int) × (List Int))) : Option (T_rule_Rule × Int) :=
  match x with
  | (p0, p1) =>
  m_rule_permuted_L1 (p0, p1, 0, ([] : List Int), ([] : List Int).length, 0) >>= fun ((v601, v602, v603) : (Nat × (List Int) × Nat)) =>
  (
  m_rule_made_b0950 (p1, v601, v602, v603, p0) >>= fun (out : Int ⊕ ((List Int) × (List Int))) =>
  match out with
  | .inl v1217 =>
    some ((⟨([] : (List Int)), ([] : (List Int)), ([] : (List Int)), ([] : (List Int)), 0, 0, ([] : (List Int))⟩ : T_rule_Rule), v1217)
  | .inr ((v1218, v1219)) =>
    some ((⟨([] : (List Int)), v1218, v1219, ([] : (List Int)), (-1), 0, p0⟩ : T_rule_Rule), 0)
  )
def P_rule_permuted : ((List Int) × (List Int)) → (T_rule_Rule × Int) → Prop := fun x r => match x, r with
  | (p0, p1), (r0, r1) => ∀ H, PC prog env 44 ([(.lst ((List.map intD) p0)), (.lst ((List.map intD) p1))].map .dat) H (.tup [(.dat (T_rule_Rule.toD r0)), (intPV r1)]) H
theorem w_rule_permuted : ∀ x r, m_rule_permuted x = some r → P_rule_permuted x r := by
  intro x r hm
  unfold m_rule_permuted at hm
  unfold P_rule_permuted
  obtain ⟨p0, p1⟩ := x
  obtain ⟨r0, r1⟩ := r
  intro H
  refine PC_sx (ds := [(.lst ((List.map intD) p0)), (.lst ((List.map intD) p1))]) (fn := f44) (by kernel_rfl) (by kernel_rfl) rfl ?_ (by kernel_rfl)
  refine R_seq ?_
  refine R_G ?_
  refine G_run 3 ?_
  refine G_end ?_
  refine R_seq ?_
  refine R_G ?_
  refine G_run 1 ?_
  refine G_end ?_
  refine R_seq ?_
  refine R_seq ?_
  refine R_G ?_
  refine G_run 1 ?_
  refine I_len intD p0 (es := (List.map intD) p0) rfl ?_
  refine G_run 1 ?_
  refine G_end ?_
  refine R_block ?_
  obtain ⟨⟨v601, v602, v603⟩, hs, hm⟩ := bind_inv hm
  refine R_loop ?_
  refine RL_use (w_rule_permuted_L1 _ _ hs) (prune_of2 [(.box [(.dat (.lst ((List.map intD) p0)))]), (.box [(.dat (.lst ((List.map intD) []))), (.dat (.lst ((List.map intD) []))), (.dat (.lst ((List.map intD) []))), (.dat (.lst ((List.map intD) []))), (intPV 0), (intPV 0), (.dat (.lst ((List.map intD) [])))]), (.mt 3 0 (cellsOf intD ([] : List Int)))] (fun _ => (pg_cons (by kernel_rfl) (pg_cons (by kernel_rfl) (pg_cons (purge_mt intD _ _ _ _ _) pg_nil)))) rfl) ?_
  clear hs
  intro e s hp
  obtain ⟨rfl, d, rfl⟩ := hp
  refine R_seq ?_
  refine R_G ?_
  refine G_run 4 ?_
  obtain ⟨out, hx, hm⟩ := bind_inv hm
  rcases out with v1217 | ⟨v1218, v1219⟩
  · have hq := w_rule_made_b0950 _ _ hx
    dsimp only [P_rule_made_b0950] at hq
    refine G_callB hq ?_
    refine G_run 4 ?_
    refine G_end ?_
    refine R_ret ?_
    obtain ⟨rfl, rfl⟩ := inj2 hm
    exact ⟨trivial, fin_pure (by kernel_rfl)⟩
  · have hq := w_rule_made_b0950 _ _ hx
    dsimp only [P_rule_made_b0950] at hq
    refine G_callB hq ?_
    refine G_run 4 ?_
    refine G_end ?_
    refine R_ret ?_
    obtain ⟨rfl, rfl⟩ := inj2 hm
    exact ⟨trivial, fin_pureX [(.agg [(.dat (.lst ((List.map intD) []))), (.ms 5 1 0 v1218.length v1218.length), (.ms 6 1 0 v1219.length v1219.length), (.dat (.lst ((List.map intD) []))), (intPV (-1)), (intPV 0), (.dat (.lst ((List.map intD) p0)))]), (intPV 0)] (by kernel_rfl) (po_tup (ps_cons (p1_agg (pc_cons (by kernel_rfl) (pc_cons (pc_ms (e := 3) intD v1218 rfl (fun _ => rfl) (by kernel_rfl)) (pc_cons (pc_ms (e := 3) intD v1219 rfl (fun _ => rfl) (by kernel_rfl)) (pc_cons (by kernel_rfl) (pc_cons (by kernel_rfl) (pc_cons (by kernel_rfl) (pc_cons (by kernel_rfl) pc_nil)))))))) (ps_cons (by kernel_rfl) ps_nil)))⟩
end Go.Proofs.Try
namespace Go.Proofs.Try
open Go Go.Pm
set_option linter.unusedVariables false
set_option maxHeartbeats 2000000
set_option maxRecDepth 2000
def m_rule_Transpose (x : (T_spec_Spec × (List Int))) : Option (T_rule_Rule × Int) :=
  match x with
  | (p0, p1) =>
  m_spec_Permutation ((⟨p0.values, p0.scalar⟩ : T_spec_Spec), (p1.length : Int)) >>= fun ((v1, v2) : ((List Int) × Int)) =>
  if v2 ≠ 0 then
    m_rule_failed v2 >>= fun ((v3, v4) : (T_rule_Rule × Int)) =>
    some (v3, v4)
  else
  m_rule_permuted (v1, p1) >>= fun ((v5, v6) : (T_rule_Rule × Int)) =>
  some (v5, v6)
def P_rule_Transpose : (T_spec_Spec × (List Int)) → (T_rule_Rule × Int) → Prop := fun x r => match x, r with
  | (p0, p1), (r0, r1) => ∀ H, PC prog env 14 ([(T_spec_Spec.toD p0), (.lst ((List.map intD) p1))].map .dat) H (.tup [(.dat (T_rule_Rule.toD r0)), (intPV r1)]) H
theorem w_rule_Transpose : ∀ x r, m_rule_Transpose x = some r → P_rule_Transpose x r := by
  intro x r hm
  unfold m_rule_Transpose at hm
  unfold P_rule_Transpose
  obtain ⟨p0, p1⟩ := x
  obtain ⟨r0, r1⟩ := r
  intro H
  refine PC_sx (ds := [(T_spec_Spec.toD p0), (.lst ((List.map intD) p1))]) (fn := f14) (by kernel_rfl) (by kernel_rfl) rfl ?_ (by kernel_rfl)
  refine R_seq ?_
  refine R_G ?_
  refine G_run 3 ?_
  refine G_end ?_
  refine R_seq ?_
  refine R_G ?_
  refine G_run 2 ?_
  refine I_len intD p1 (es := (List.map intD) p1) rfl ?_
  obtain ⟨⟨v1, v2⟩, hx, hm⟩ := bind_inv hm
  have hq := w_spec_Permutation _ _ hx []
  refine G_callP hq ?_
  refine G_run 5 ?_
  refine G_end ?_
  refine R_seq ?_
  refine R_seq ?_
  refine R_G ?_
  refine G_run 2 ?_
  refine G_end ?_
  refine R_ifp (p := v2 ≠ 0) (ne_dec _ _) (fun hc => ?_) (fun hc => ?_)
  · replace hm := pos_inv hc hm
    refine R_seq ?_
    refine R_G ?_
    refine G_run 1 ?_
    obtain ⟨⟨v3, v4⟩, hx, hm⟩ := bind_inv hm
    have hq := w_rule_failed _ _ hx []
    refine G_callP hq ?_
    refine G_run 4 ?_
    refine G_end ?_
    refine R_ret ?_
    obtain ⟨rfl, rfl⟩ := inj2 hm
    exact ⟨trivial, fin_pure (by kernel_rfl)⟩
  replace hm := neg_inv hc hm
  refine R_skip ?_
  refine R_seq ?_
  refine R_G ?_
  refine G_run 2 ?_
  obtain ⟨⟨v5, v6⟩, hx, hm⟩ := bind_inv hm
  have hq := w_rule_permuted _ _ hx []
  refine G_callP hq ?_
  refine G_run 4 ?_
  refine G_end ?_
  refine R_ret ?_
  obtain ⟨rfl, rfl⟩ := inj2 hm
  exact ⟨trivial, fin_pure (by kernel_rfl)⟩
end Go.Proofs.Try
namespace Go.Proofs.Try
open Go Go.Pm
set_option linter.unusedVariables false
set_option maxHeartbeats 2000000
set_option maxRecDepth 2000
def m_spec_Dimensions_1 (x : Int) : Option Bool :=
  match x with
  | p0 =>
  some (decide (p0 < 0))
def P_spec_Dimensions_1 : Int → Bool → Prop := fun x r => match x, r with
  | p0, r0 => ∀ H, PC prog env 85 ([(intD p0)].map .dat) H (boolPV r0) H
theorem w_spec_Dimensions_1 : ∀ x r, m_spec_Dimensions_1 x = some r → P_spec_Dimensions_1 x r := by
  intro p0 r0 hm
  unfold m_spec_Dimensions_1 at hm
  unfold P_spec_Dimensions_1
  intro H
  refine PC_sx (ds := [(intD p0)]) (fn := f85) (by kernel_rfl) (by kernel_rfl) rfl ?_ (by kernel_rfl)
  refine R_seq ?_
  refine R_G ?_
  refine G_run 1 ?_
  refine G_end ?_
  refine R_seq ?_
  refine R_G ?_
  refine G_run 3 ?_
  refine G_end ?_
  refine R_ret ?_
  obtain rfl := inj1 hm
  exact ⟨trivial, fin_pure (by kernel_rfl)⟩
end Go.Proofs.Try
