/-
  Models of functions, their walks, and plain laws.
-/
import Derived.Test.YtihmepianhmphaaGreatPmSx
import Derived.Test.YtihmepianhmphaaGreatProg
import Derived.Test.YtihmepianhmphaaGreatPmStr
namespace Go.Proofs.Tryz
open Go Go.Pm
set_option linter.unusedVariables false
set_option linter.unusedSimpArgs false
set_option maxRecDepth 2000
/-- lists that a machine can hold -/
def Sm (n : Nat) : Prop := n ≤ 9223372036854775807
theorem Sm_of {n m : Nat} (h : n ≤ m) (hm : m ≤ 9223372036854775807 := by decide) : Sm n := Nat.le_trans h hm
theorem idx_ok {α : Type} {l : List α} {j : Nat} (h : j < l.length) : idx l (j : Int) = some l[j] := by simp [idx, h]
theorem app_ok {α : Type} {b : Nat} {l es : List α} (h : (l.length + es.length) * b ≤ room) : app b l es = some (l ++ es) := if_pos h
theorem W_ok {n : Int} (h1 : -9223372036854775808 ≤ n) (h2 : n < 9223372036854775808) : W n = n := by
  simp only [W, IntKind.wrap, IntKind.bits, IntKind.signed]; simp; split <;> omega
theorem W_succ {j : Nat} (h : j < 9223372036854775807) : W ((j : Int) + 1) = ((j + 1 : Nat) : Int) := by rw [W_ok (by omega) (by omega)]; omega
/-! a loop over a list: what lies behind, what lies ahead -/
section
variable {α : Type} {p s : List α} {x : α}
theorem mid_lt : ((p.length : Int) < ((p ++ x :: s).length : Int)) := by simp; omega
theorem end_lt : ¬ ((p.length : Int) < ((p ++ ([] : List α)).length : Int)) := by simp
theorem mid_idx : idx (p ++ x :: s) (p.length : Int) = some x := by simp [idx]
theorem mid_app : p ++ x :: s = (p ++ [x]) ++ s := by simp
theorem mid_W (hs : Sm (p ++ x :: s).length) : W ((p.length : Int) + 1) = ((p ++ [x]).length : Int) := by
  unfold Sm at hs
  rw [W_ok (by omega) (by simp at hs; omega)]; simp
end
theorem bind_ok {α β : Type} (a : α) (f : α → Option β) : (some a >>= f) = f a := rfl
end Go.Proofs.Tryz
namespace Go.Proofs.Tryz
open Go Go.Pm
set_option linter.unusedVariables false
set_option maxHeartbeats 2000000
set_option maxRecDepth 2000
def hintOf : FuncId → Hint
  | 3 => { own := [], keep := [(9, [0, 5, 7, 8])] }
  | 5 => { own := [], keep := [(5, [0, 1, 5, 6])] }
  | 6 => { own := [((1, 1), [(7000, 3)])], keep := [] }
  | 7 => { own := [((1, 1), [(7000, 3)])], keep := [] }
  | 8 => { own := [], keep := [(4, [0, 1, 5])] }
  | 9 => { own := [((1, 0), [(0, 62)])], keep := [(3, [0, 3, 4])] }
  | 12 => { own := [((1, 0), [(0, 47)])], keep := [(3, [0, 1, 5, 8, 9, 10])] }
  | 13 => { own := [((1, 0), [(0, 38)])], keep := [(4, [1, 5, 6, 7])] }
  | 14 => { own := [((1, 0), [(0, 49)]), ((13, 2), [(8000, 3)]), ((14, 1), [(7000, 3)])], keep := [(3, [1, 2, 3, 9, 18, 19, 20]), (7, [1, 2, 3, 9, 11, 12, 18, 19, 20, 26, 27, 28]), (15, [9, 63, 64, 65])] }
  | 16 => { own := [((1, 0), [(0, 49)])], keep := [(3, [1, 2, 3, 9, 12, 13, 14])] }
  | 17 => { own := [((0, 0), [(9000, 3)]), ((1, 0), [(0, 49)])], keep := [(3, [1, 5, 7, 10, 11, 12])] }
  | 18 => { own := [((1, 0), [(0, 49)]), ((12, 8), [(5000, 3)])], keep := [(3, [1, 2, 7, 13, 14, 15]), (7, [1, 2, 7, 9, 10, 13, 14, 15, 21, 22, 23])] }
  | 19 => { own := [((1, 1), [(0, 49)]), ((12, 0), [(5000, 49)])], keep := [(3, [0, 2, 3, 9, 16, 17, 18]), (8, [2, 9, 33, 34, 35])] }
  | 20 => { own := [], keep := [(2, [0, 3])] }
  | 22 => { own := [((1, 1), [(0, 49)])], keep := [] }
  | 23 => { own := [((1, 2), [(1000, 3)]), ((1, 4), [(0, 3)])], keep := [] }
  | 27 => { own := [((6, 0), [(0, 62)])], keep := [(4, [0, 3, 5])] }
  | 30 => { own := [], keep := [(4, [1, 19, 20, 21])] }
  | 32 => { own := [((1, 17), [(0, 3)])], keep := [] }
  | 35 => { own := [], keep := [(3, [0, 1, 5, 12, 13, 14]), (9, [0, 1, 5, 7, 12, 13, 14, 29, 30, 31])] }
  | 36 => { own := [((5, 0), [(0, 23)]), ((12, 1), [(0, 3)])], keep := [(3, [0, 3, 4]), (7, [0, 3, 4, 5, 6]), (10, [0, 3, 4, 5, 6, 7])] }
  | 37 => { own := [], keep := [(2, [0, 1, 4, 6])] }
  | 39 => { own := [((1, 0), [(0, 3), (1, 3)])], keep := [(3, [0, 1, 2, 8, 9, 13, 14, 15])] }
  | 40 => { own := [((3, 2), [(0, 3)]), ((3, 5), [(0, 3)]), ((4, 0), [(0, 47)])], keep := [(7, [2, 5, 7, 8, 30, 31])] }
  | 41 => { own := [], keep := [(2, [0, 1, 7, 8])] }
  | 43 => { own := [], keep := [(4, [2, 13, 14, 15])] }
  | 45 => { own := [((0, 1), [(9000, 3)]), ((0, 2), [(9000, 3)]), ((0, 3), [(9000, 3)])], keep := [] }
  | 46 => { own := [((0, 1), [(9000, 3)]), ((1, 3), [(0, 3)]), ((1, 7), [(0, 3)]), ((2, 17), [(6000, 3)]), ((3, 0), [(5000, 3)])], keep := [], late := [(2, 1), (2, 4), (2, 22), (2, 24)] }
  | 50 => { own := [((2, 0), [(1000, 49)]), ((3, 0), [(1000, 49)])], keep := [] }
  | 51 => { own := [], keep := [(3, [0, 4, 5]), (9, [0, 4, 6]), (17, [0, 7, 8])] }
  | 52 => { own := [((1, 0), [(1000, 49)])], keep := [(3, [1, 5, 8, 9, 10])] }
  | 55 => { own := [((2, 0), [(1000, 3)]), ((3, 0), [(1000, 3)])], keep := [] }
  | 56 => { own := [], keep := [(8, [0, 3, 4, 18, 19])] }
  | 57 => { own := [], keep := [(4, [0, 1, 5])] }
  | 58 => { own := [], keep := [(2, [1, 3])] }
  | 59 => { own := [], keep := [(2, [0, 1, 5])] }
  | 60 => { own := [((3, 0), [(0, 3)])], keep := [(5, [0, 3, 4]), (11, [0, 3, 4, 5, 6])] }
  | 61 => { own := [], keep := [(3, [0, 1, 5, 9, 10]), (9, [0, 1, 5, 24, 25])] }
  | 64 => { own := [((0, 0), [(9000, 3)]), ((0, 1), [(9000, 3)])], keep := [] }
  | 65 => { own := [], keep := [(2, [0, 1, 9, 10, 11])] }
  | 67 => { own := [], keep := [(4, [0, 19, 20, 21])] }
  | 70 => { own := [], keep := [(4, [1, 2, 5])] }
  | 76 => { own := [((1, 2), [(0, 3)]), ((1, 5), [(0, 3)])], keep := [], late := [(2, 1), (2, 4), (2, 9), (2, 11)] }
  | 77 => { own := [((1, 4), [(0, 3)])], keep := [] }
  | 84 => { own := [((0, 1), [(1000, 3)])], keep := [(2, [0, 6, 11, 12, 13])] }
  | 85 => { own := [], keep := [(2, [0, 1, 2, 3, 4, 10, 11])] }
  | 87 => { own := [], keep := [(2, [0, 1, 7, 8])] }
  | 88 => { own := [], keep := [(4, [0, 1, 12, 13])] }
  | 95 => { own := [((1, 0), [(0, 3)])], keep := [(3, [1, 2, 7, 10, 11, 12])] }
  | 98 => { own := [], keep := [(3, [0, 1, 5, 6])] }
  | 100 => { own := [], keep := [(5, [0, 1, 5, 6])] }
  | 102 => { own := [], keep := [(3, [0, 1, 5, 11, 12])] }
  | 103 => { own := [], keep := [(3, [3, 6, 7, 8])] }
  | 104 => { own := [], keep := [(1, [0, 1, 2, 3, 8]), (4, [0, 1, 2, 3, 8, 9])] }
  | 105 => { own := [], keep := [(4, [0, 3, 8, 9, 10, 11]), (8, [0, 3, 8, 9, 12])] }
  | 106 => { own := [], keep := [(5, [0, 1, 8, 9, 10, 11])] }
  | 108 => { own := [], keep := [(2, [0, 8, 9])] }
  | 109 => { own := [], keep := [(3, [0, 1, 2, 3, 9, 10]), (5, [0, 1, 2, 3, 9, 10]), (14, [0, 1, 2, 3, 9, 10, 11]), (20, [0, 1, 2, 3, 9, 10, 12])] }
  | 110 => { own := [], keep := [(3, [0, 1, 4, 11, 12]), (5, [0, 1, 4, 11, 12])] }
  | 111 => { own := [], keep := [(3, [0, 1, 4, 12, 13]), (5, [0, 1, 4, 12, 13]), (13, [0, 1, 4, 12, 13]), (15, [0, 1, 4, 12, 13])] }
  | 117 => { own := [], keep := [(2, [0, 1, 7, 8])] }
  | 118 => { own := [], keep := [(3, [2, 8, 13, 14, 15])] }
  | 119 => { own := [], keep := [(2, [0, 1, 7, 8])] }
  | 120 => { own := [], keep := [(1, [0, 2, 3, 4, 10])] }
  | _ => {}
def env : Env where
  summ := fun _ => none
  hint := hintOf
  pure := fun f => f != 23 && f != 41 && f != 42 && f != 46 && f != 47 && f != 50 && f != 52 && f != 54 && f != 55 && f != 72 && f != 73 && f != 74 && f != 77 && f != 80 && f != 81 && f != 82 && f != 83 && f != 84 && f != 85 && f != 99 && f != 104
  split := fun f => f == 55 || f == 50

end Go.Proofs.Tryz
namespace Go.Proofs.Tryz
open Go Go.Pm
set_option linter.unusedVariables false
set_option maxHeartbeats 2000000
set_option maxRecDepth 2000
structure T_box_Box where
  lo : (List Int)
  hi : (List Int)
  deriving DecidableEq
def T_box_Box.toD (x : T_box_Box) : Dat := .agg [(.lst ((List.map intD) x.lo)), (.lst ((List.map intD) x.hi))]
theorem T_box_Box.fit (x : T_box_Box) : Dat.fits 2 x.toD = true := rfl
structure T_access_Access where
  kind : Int
  buffer : Int
  base : Int
  strides : (List Int)
  start : Int
  step : Int
  mod : Int
  deriving DecidableEq
def T_access_Access.toD (x : T_access_Access) : Dat := .agg [(intD x.kind), (intD x.buffer), (intD x.base), (.lst ((List.map intD) x.strides)), (intD x.start), (intD x.step), (intD x.mod)]
theorem T_access_Access.fit (x : T_access_Access) : Dat.fits 7 x.toD = true := rfl
structure T_piece_Piece where
  box : T_box_Box
  access : T_access_Access
  deriving DecidableEq
def T_piece_Piece.toD (x : T_piece_Piece) : Dat := .agg [(.lst ((List.map intD) x.box.lo)), (.lst ((List.map intD) x.box.hi)), (intD x.access.kind), (intD x.access.buffer), (intD x.access.base), (.lst ((List.map intD) x.access.strides)), (intD x.access.start), (intD x.access.step), (intD x.access.mod)]
theorem T_piece_Piece.fit (x : T_piece_Piece) : Dat.fits 9 x.toD = true := rfl
structure T_psi_Cell where
  fill : Bool
  buffer : Int
  offset : Int
  deriving DecidableEq
def T_psi_Cell.toD (x : T_psi_Cell) : Dat := .agg [(boolD x.fill), (intD x.buffer), (intD x.offset)]
theorem T_psi_Cell.fit (x : T_psi_Cell) : Dat.fits 3 x.toD = true := rfl
structure T_ref06_Box where
  lo : (List Int)
  hi : (List Int)
  deriving DecidableEq
def T_ref06_Box.toD (x : T_ref06_Box) : Dat := .agg [(.lst ((List.map intD) x.lo)), (.lst ((List.map intD) x.hi))]
theorem T_ref06_Box.fit (x : T_ref06_Box) : Dat.fits 2 x.toD = true := rfl
structure T_ref17_Access where
  kind : Int
  buffer : Int
  base : Int
  strides : (List Int)
  start : Int
  step : Int
  mod : Int
  deriving DecidableEq
def T_ref17_Access.toD (x : T_ref17_Access) : Dat := .agg [(intD x.kind), (intD x.buffer), (intD x.base), (.lst ((List.map intD) x.strides)), (intD x.start), (intD x.step), (intD x.mod)]
theorem T_ref17_Access.fit (x : T_ref17_Access) : Dat.fits 7 x.toD = true := rfl
structure T_ref18_Piece where
  box : T_ref06_Box
  access : T_ref17_Access
  deriving DecidableEq
def T_ref18_Piece.toD (x : T_ref18_Piece) : Dat := .agg [(.lst ((List.map intD) x.box.lo)), (.lst ((List.map intD) x.box.hi)), (intD x.access.kind), (intD x.access.buffer), (intD x.access.base), (.lst ((List.map intD) x.access.strides)), (intD x.access.start), (intD x.access.step), (intD x.access.mod)]
theorem T_ref18_Piece.fit (x : T_ref18_Piece) : Dat.fits 9 x.toD = true := rfl
structure T_ref16_Cell where
  fill : Bool
  buffer : Int
  offset : Int
  deriving DecidableEq
def T_ref16_Cell.toD (x : T_ref16_Cell) : Dat := .agg [(boolD x.fill), (intD x.buffer), (intD x.offset)]
theorem T_ref16_Cell.fit (x : T_ref16_Cell) : Dat.fits 3 x.toD = true := rfl
end Go.Proofs.Tryz
namespace Go.Proofs.Tryz
open Go Go.Pm
set_option linter.unusedVariables false
set_option maxHeartbeats 2000000
set_option maxRecDepth 2000
def m_slices_Clone_int_int (x : List Int) : Option (List Int) := app 8 [] x
def cgm_slices_Clone_int_int (l : List Int) : Nat := match l with | [] => 0 | _ => 1
def P_slices_Clone_int_int : List Int → List Int → Prop := fun x r => PC prog env 55 [.dat (.lst ((List.map intD) x))] [] (.ms 0 (cgm_slices_Clone_int_int r) 0 r.length r.length) [.mt 3 (cgm_slices_Clone_int_int r) (cellsOf intD r)]
theorem w_slices_Clone_int_int : ∀ x r, m_slices_Clone_int_int x = some r → P_slices_Clone_int_int x r := by
  intro x r hm
  obtain ⟨hroom, hr⟩ := app_some hm
  have hr : r = x := hr
  subst hr
  unfold P_slices_Clone_int_int
  cases r with
  | nil => exact PC_of (n := 20) (by kernel_rfl)
  | cons a l =>
    refine PC_sxB (fn := f55) (by kernel_rfl) (by kernel_rfl) rfl ?_
    refine R_seq ?_
    refine R_G ?_
    refine G_run 1 ?_
    refine G_end ?_
    refine R_seq ?_
    refine R_seq ?_
    refine R_G ?_
    refine G_run 1 ?_
    refine G_semN rfl (by kernel_rfl) (fun _ => E_lstNil (p := .dat (.lst ((List.map intD) (a :: l)))) (b := false) rfl (by kernel_rfl) (by kernel_rfl) (by kernel_rfl)) ?_
    refine G_end ?_
    refine R_false (by kernel_rfl) ?_
    refine R_skip ?_
    refine R_seq ?_
    refine R_G ?_
    refine G_run 2 ?_
    refine G_semH (v := .ms 0 1 0 (a :: l).length (a :: l).length) (fun H => H.set 0 (.mt 3 1 (cellsOf intD (a :: l)))) rfl (by kernel_rfl) (fun _ hk => E_apMs intD (l := []) (es := a :: l) (bytes := 8) (e := 3) (tt := 0) (g := 0) (m := 0) hm (fun _ => rfl) (by kernel_rfl) (by kernel_rfl) (by kernel_rfl) (by kernel_rfl) rfl rfl (by kernel_rfl) rfl (by kernel_rfl) (source_lst (fun _ => rfl)) hk) ?_
    refine G_run 1 ?_
    refine G_end ?_
    refine R_ret ?_
    exact ⟨trivial, fin_body (by kernel_rfl) (by kernel_rfl)⟩
end Go.Proofs.Tryz
namespace Go.Proofs.Tryz
open Go Go.Pm
set_option linter.unusedVariables false
set_option maxHeartbeats 2000000
set_option maxRecDepth 2000
def m_box_Whole_b4e7c (x : (List Int)) : Option ((Nat × (List Int) × (List Int))) :=
  match x with
  | q0 =>
  makeM 8 (q0.length : Int) 0 >>= fun v1 =>
  m_slices_Clone_int_int q0 >>= fun v2 =>
  some ((mg v1), v1, v2)
def P_box_Whole_b4e7c : (List Int) → (Nat × (List Int) × (List Int)) → Prop := fun x r => match x with
  | q0 => PC prog env 23 [(.dat (.lst ((List.map intD) q0)))] [] (match r with | (v5001, v5002, v5003) => (.agg [(.ms 1 v5001 0 v5002.length v5002.length), (.ms 2 1 0 v5003.length v5003.length)])) (match r with | (v5001, v5002, v5003) => [(.box [(.ms 1 v5001 0 v5002.length v5002.length), (.ms 2 1 0 v5003.length v5003.length)]), (.mt 3 v5001 (cellsOf intD v5002)), (.mt 3 1 (cellsOf intD v5003))])
theorem w_box_Whole_b4e7c : ∀ x r, m_box_Whole_b4e7c x = some r → P_box_Whole_b4e7c x r := by
  intro q0 r hm
  unfold m_box_Whole_b4e7c at hm
  unfold P_box_Whole_b4e7c
  refine PC_sxB (fn := f23) (by kernel_rfl) (by kernel_rfl) rfl ?_
  refine R_seq ?_
  refine R_G ?_
  refine G_run 1 ?_
  refine G_end ?_
  refine R_seq ?_
  refine R_GD ?_
  refine G_run 1 ?_
  refine I_len intD q0 (es := (List.map intD) q0) rfl ?_
  obtain ⟨v1, hx, hm⟩ := bind_inv hm
  refine G_semH (v := .ms 1 (mg v1) 0 v1.length v1.length) (fun H => H ++ [.mt 3 (mg v1) (cellsOf intD v1)]) rfl (by kernel_rfl) ?_ ?_
  · intro K hk
    exact E_mkMsN 1 intD (z := 0) (n := (q0.length : Int)) (bytes := 8) (e := 3) (os := []) hx (by kernel_rfl) (by kernel_rfl) (by kernel_rfl) (by kernel_rfl) rfl rfl rfl (by kernel_rfl) (by kernel_rfl) (by kernel_rfl) hk
  refine G_run 1 ?_
  obtain ⟨v2, hx, hm⟩ := bind_inv hm
  have hq := w_slices_Clone_int_int _ _ hx
  dsimp only [P_slices_Clone_int_int] at hq
  have hl9 : mtOf [Blk.mt 3 (cgm_slices_Clone_int_int v2) (cellsOf intD v2)] 0 = some (3, cgm_slices_Clone_int_int v2, cellsOf intD v2) := mtOf_at (by kernel_rfl)
  refine G_semH (v := .ms 2 1 0 v2.length v2.length) (fun H => H ++ [.mt 3 1 (cellsOf intD v2)]) rfl (by kernel_rfl) ?_ ?_
  · intro K hk
    refine E_callOwnN 2 (first := #[]) (cap := #[]) (j := (0, 3)) (ow' := []) (f0 := intD) (l := v2) rfl ?_ ?_ ?_ (ds := [.lst ((List.map intD) q0)]) ?_ hq hl9 ?_ ?_ ?_
    · kernel_rfl
    · kernel_rfl
    · kernel_rfl
    · kernel_rfl
    · exact hk
    · kernel_rfl
    · decide
  refine G_run 2 ?_
  refine G_end ⟨by kernel_rfl, ?_⟩
  refine R_ret ?_
  obtain rfl := inj1 hm
  exact ⟨trivial, fin_body (by kernel_rfl) (by kernel_rfl)⟩
end Go.Proofs.Tryz
namespace Go.Proofs.Tryz
open Go Go.Pm
set_option linter.unusedVariables false
set_option maxHeartbeats 2000000
set_option maxRecDepth 2000
def m_size_check_1 (x : Int) : Option Bool :=
  match x with
  | p0 =>
  some (decide (p0 < 0))
def P_size_check_1 : Int → Bool → Prop := fun x r => match x, r with
  | p0, r0 => ∀ H, PC prog env 115 ([(intD p0)].map .dat) H (boolPV r0) H
theorem w_size_check_1 : ∀ x r, m_size_check_1 x = some r → P_size_check_1 x r := by
  intro p0 r0 hm
  unfold m_size_check_1 at hm
  unfold P_size_check_1
  intro H
  refine PC_sx (ds := [(intD p0)]) (fn := f115) (by kernel_rfl) (by kernel_rfl) rfl ?_ (by kernel_rfl)
  refine R_seq ?_
  refine R_G ?_
  refine G_run 1 ?_
  refine G_end ?_
  refine R_seq ?_
  refine R_G ?_
  refine G_run 3 ?_
  refine G_end ?_
  refine R_ret ?_
  obtain rfl := inj1 hm
  exact ⟨trivial, fin_pure (by kernel_rfl)⟩
end Go.Proofs.Tryz
namespace Go.Proofs.Tryz
open Go Go.Pm
set_option linter.unusedVariables false
set_option maxHeartbeats 2000000
set_option maxRecDepth 2000
def m_slices_IndexFunc_int_int_size_check_1_L1 (x : ((List Int) × Int)) : Option (Int ⊕ Unit) :=
  match x with
  | (p0, v201) =>
  if v201 < (p0.length : Int) then
    idx p0 v201 >>= fun v602 =>
    m_size_check_1 v602 >>= fun (v603 : Bool) =>
    if v603 = true then
      some (Sum.inl v201)
    else
    m_slices_IndexFunc_int_int_size_check_1_L1 (p0, (W (v201 + 1)))
  else
  some (Sum.inr ())
  partial_fixpoint
def P_slices_IndexFunc_int_int_size_check_1_L1 : ((List Int) × Int) → (Int ⊕ Unit) → Prop := fun x r => match x with
  | (p0, v201) => ∀ st, prune 0 ((firstRegion (codeAt [1, 0, 1, 0, 0] (bodyOf f87))).bind (env.hint 87).keepAt) st = ⟨kp 19 [(0, (.dat (.lst ((List.map intD) p0)))), (1, (.dat (.raw (.func (.func 115) #[] #[])))), (7, (intPV (p0.length : Int))), (8, (intPV v201))], []⟩ →
    RL prog env (env.hint 87) true (codeAt [1, 0, 1, 0, 0] (bodyOf f87)) 0 st (fun e s => match r with | .inl v601 => e = .ret ∧ ∃ d, s = ⟨sl d 19 [(4, (intPV v601))], []⟩ | .inr (_) => e = .exit 0 ∧ ∃ d, s = ⟨sl d 19 [], []⟩)
theorem w_slices_IndexFunc_int_int_size_check_1_L1 : ∀ x r, m_slices_IndexFunc_int_int_size_check_1_L1 x = some r → P_slices_IndexFunc_int_int_size_check_1_L1 x r := by
  refine m_slices_IndexFunc_int_int_size_check_1_L1.partial_correctness _ (fun m_slices_IndexFunc_int_int_size_check_1_L1 w_slices_IndexFunc_int_int_size_check_1_L1 x r hm => ?_)
  unfold P_slices_IndexFunc_int_int_size_check_1_L1
  obtain ⟨p0, v201⟩ := x
  intro st hst
  refine RL_at hst ?_
  clear hst
  refine R_seq ?_
  refine R_G ?_
  refine G_run 1 ?_
  refine G_end ?_
  refine R_seq ?_
  refine R_ifp (p := v201 < (p0.length : Int)) (rfl) (fun hc => ?_) (fun hc => ?_)
  · replace hm := pos_inv hc hm
    refine R_skip ?_
    refine R_seq ?_
    refine R_block ?_
    refine R_seq ?_
    refine R_G ?_
    refine G_run 2 ?_
    refine G_end ?_
    refine R_seq ?_
    refine R_G ?_
    refine G_run 3 ?_
    obtain ⟨v602, hx, hm⟩ := bind_inv hm
    refine I_idx 1 intD p0 v201 v602 (es := (List.map intD) p0) (d := (intD v602)) rfl hx rfl rfl ?_
    refine G_run 1 ?_
    obtain ⟨v603, hx, hm⟩ := bind_inv hm
    have hq := w_size_check_1 _ _ hx []
    refine G_callP hq ?_
    refine G_end ?_
    refine R_ifp (p := v603 = true) (bool_dec _) (fun hc => ?_) (fun hc => ?_)
    · replace hm := pos_inv hc hm
      refine R_seq ?_
      refine R_G ?_
      refine G_run 2 ?_
      refine G_end ?_
      refine R_ret ?_
      obtain rfl := inj1 hm
      exact ⟨rfl, cut_leaf (by kernel_rfl)⟩
    replace hm := neg_inv hc hm
    refine R_skip ?_
    refine R_G ?_
    refine G_run 2 ?_
    refine G_end ?_
    exact w_slices_IndexFunc_int_int_size_check_1_L1 _ _ hm _ (by kernel_rfl)
  replace hm := neg_inv hc hm
  refine R_exit ?_
  obtain rfl := inj1 hm
  exact ⟨rfl, cut_leaf (by kernel_rfl)⟩
def m_slices_IndexFunc_int_int_size_check_1 (x : (List Int)) : Option Int :=
  match x with
  | p0 =>
  (
  m_slices_IndexFunc_int_int_size_check_1_L1 (p0, 0) >>= fun (out : Int ⊕ Unit) =>
  match out with
  | .inl v601 =>
    some v601
  | .inr (_) =>
    some (-1)
  )
def P_slices_IndexFunc_int_int_size_check_1 : (List Int) → Int → Prop := fun x r => match x, r with
  | p0, r0 => ∀ H, PC prog env 87 ([(.lst ((List.map intD) p0)), (.raw (.func (.func 115) #[] #[]))].map .dat) H (intPV r0) H
theorem w_slices_IndexFunc_int_int_size_check_1 : ∀ x r, m_slices_IndexFunc_int_int_size_check_1 x = some r → P_slices_IndexFunc_int_int_size_check_1 x r := by
  intro p0 r0 hm
  unfold m_slices_IndexFunc_int_int_size_check_1 at hm
  unfold P_slices_IndexFunc_int_int_size_check_1
  intro H
  refine PC_sx (ds := [(.lst ((List.map intD) p0)), (.raw (.func (.func 115) #[] #[]))]) (fn := f87) (by kernel_rfl) (by kernel_rfl) rfl ?_ (by kernel_rfl)
  refine R_seq ?_
  refine R_G ?_
  refine G_run 1 ?_
  refine G_end ?_
  refine R_seq ?_
  refine R_seq ?_
  refine R_G ?_
  refine G_run 1 ?_
  refine I_len intD p0 (es := (List.map intD) p0) rfl ?_
  refine G_run 1 ?_
  refine G_end ?_
  refine R_block ?_
  obtain ⟨out, hs, hm⟩ := bind_inv hm
  refine R_loop ?_
  rcases out with v601 | _
  · refine RL_use (w_slices_IndexFunc_int_int_size_check_1_L1 _ _ hs) (by kernel_rfl) ?_
    clear hs
    intro e s hp
    obtain ⟨rfl, d, rfl⟩ := hp
    obtain rfl := inj1 hm
    exact ⟨trivial, fin_pure (by kernel_rfl)⟩
  · refine RL_use (w_slices_IndexFunc_int_int_size_check_1_L1 _ _ hs) (by kernel_rfl) ?_
    clear hs
    intro e s hp
    obtain ⟨rfl, d, rfl⟩ := hp
    refine R_seq ?_
    refine R_G ?_
    refine G_run 1 ?_
    refine G_end ?_
    refine R_ret ?_
    obtain rfl := inj1 hm
    exact ⟨trivial, fin_pure (by kernel_rfl)⟩
end Go.Proofs.Tryz
namespace Go.Proofs.Tryz
open Go Go.Pm
set_option linter.unusedVariables false
set_option maxHeartbeats 2000000
set_option maxRecDepth 2000
def m_slices_ContainsFunc_int_int_size_check_1 (x : (List Int)) : Option Bool :=
  match x with
  | p0 =>
  m_slices_IndexFunc_int_int_size_check_1 p0 >>= fun (v1 : Int) =>
  some (decide (v1 ≥ 0))
def P_slices_ContainsFunc_int_int_size_check_1 : (List Int) → Bool → Prop := fun x r => match x, r with
  | p0, r0 => ∀ H, PC prog env 62 ([(.lst ((List.map intD) p0)), (.raw (.func (.func 115) #[] #[]))].map .dat) H (boolPV r0) H
theorem w_slices_ContainsFunc_int_int_size_check_1 : ∀ x r, m_slices_ContainsFunc_int_int_size_check_1 x = some r → P_slices_ContainsFunc_int_int_size_check_1 x r := by
  intro p0 r0 hm
  unfold m_slices_ContainsFunc_int_int_size_check_1 at hm
  unfold P_slices_ContainsFunc_int_int_size_check_1
  intro H
  refine PC_sx (ds := [(.lst ((List.map intD) p0)), (.raw (.func (.func 115) #[] #[]))]) (fn := f62) (by kernel_rfl) (by kernel_rfl) rfl ?_ (by kernel_rfl)
  refine R_seq ?_
  refine R_G ?_
  refine G_run 1 ?_
  refine G_end ?_
  refine R_seq ?_
  refine R_G ?_
  refine G_run 2 ?_
  obtain ⟨v1, hx, hm⟩ := bind_inv hm
  have hq := w_slices_IndexFunc_int_int_size_check_1 _ _ hx []
  refine G_callP hq ?_
  refine G_run 2 ?_
  refine G_end ?_
  refine R_ret ?_
  obtain rfl := inj1 hm
  exact ⟨trivial, fin_pure (by kernel_rfl)⟩
end Go.Proofs.Tryz
namespace Go.Proofs.Tryz
open Go Go.Pm
set_option linter.unusedVariables false
set_option maxHeartbeats 2000000
set_option maxRecDepth 2000
def m_size_check_2 (x : Int) : Option Bool :=
  match x with
  | p0 =>
  some (decide (p0 > 65536))
def P_size_check_2 : Int → Bool → Prop := fun x r => match x, r with
  | p0, r0 => ∀ H, PC prog env 116 ([(intD p0)].map .dat) H (boolPV r0) H
theorem w_size_check_2 : ∀ x r, m_size_check_2 x = some r → P_size_check_2 x r := by
  intro p0 r0 hm
  unfold m_size_check_2 at hm
  unfold P_size_check_2
  intro H
  refine PC_sx (ds := [(intD p0)]) (fn := f116) (by kernel_rfl) (by kernel_rfl) rfl ?_ (by kernel_rfl)
  refine R_seq ?_
  refine R_G ?_
  refine G_run 1 ?_
  refine G_end ?_
  refine R_seq ?_
  refine R_G ?_
  refine G_run 3 ?_
  refine G_end ?_
  refine R_ret ?_
  obtain rfl := inj1 hm
  exact ⟨trivial, fin_pure (by kernel_rfl)⟩
end Go.Proofs.Tryz
namespace Go.Proofs.Tryz
open Go Go.Pm
set_option linter.unusedVariables false
set_option maxHeartbeats 2000000
set_option maxRecDepth 2000
def m_slices_IndexFunc_int_int_size_check_2_L1 (x : ((List Int) × Int)) : Option (Int ⊕ Unit) :=
  match x with
  | (p0, v201) =>
  if v201 < (p0.length : Int) then
    idx p0 v201 >>= fun v602 =>
    m_size_check_2 v602 >>= fun (v603 : Bool) =>
    if v603 = true then
      some (Sum.inl v201)
    else
    m_slices_IndexFunc_int_int_size_check_2_L1 (p0, (W (v201 + 1)))
  else
  some (Sum.inr ())
  partial_fixpoint
def P_slices_IndexFunc_int_int_size_check_2_L1 : ((List Int) × Int) → (Int ⊕ Unit) → Prop := fun x r => match x with
  | (p0, v201) => ∀ st, prune 0 ((firstRegion (codeAt [1, 0, 1, 0, 0] (bodyOf f87))).bind (env.hint 87).keepAt) st = ⟨kp 19 [(0, (.dat (.lst ((List.map intD) p0)))), (1, (.dat (.raw (.func (.func 116) #[] #[])))), (7, (intPV (p0.length : Int))), (8, (intPV v201))], []⟩ →
    RL prog env (env.hint 87) true (codeAt [1, 0, 1, 0, 0] (bodyOf f87)) 0 st (fun e s => match r with | .inl v601 => e = .ret ∧ ∃ d, s = ⟨sl d 19 [(4, (intPV v601))], []⟩ | .inr (_) => e = .exit 0 ∧ ∃ d, s = ⟨sl d 19 [], []⟩)
theorem w_slices_IndexFunc_int_int_size_check_2_L1 : ∀ x r, m_slices_IndexFunc_int_int_size_check_2_L1 x = some r → P_slices_IndexFunc_int_int_size_check_2_L1 x r := by
  refine m_slices_IndexFunc_int_int_size_check_2_L1.partial_correctness _ (fun m_slices_IndexFunc_int_int_size_check_2_L1 w_slices_IndexFunc_int_int_size_check_2_L1 x r hm => ?_)
  unfold P_slices_IndexFunc_int_int_size_check_2_L1
  obtain ⟨p0, v201⟩ := x
  intro st hst
  refine RL_at hst ?_
  clear hst
  refine R_seq ?_
  refine R_G ?_
  refine G_run 1 ?_
  refine G_end ?_
  refine R_seq ?_
  refine R_ifp (p := v201 < (p0.length : Int)) (rfl) (fun hc => ?_) (fun hc => ?_)
  · replace hm := pos_inv hc hm
    refine R_skip ?_
    refine R_seq ?_
    refine R_block ?_
    refine R_seq ?_
    refine R_G ?_
    refine G_run 2 ?_
    refine G_end ?_
    refine R_seq ?_
    refine R_G ?_
    refine G_run 3 ?_
    obtain ⟨v602, hx, hm⟩ := bind_inv hm
    refine I_idx 1 intD p0 v201 v602 (es := (List.map intD) p0) (d := (intD v602)) rfl hx rfl rfl ?_
    refine G_run 1 ?_
    obtain ⟨v603, hx, hm⟩ := bind_inv hm
    have hq := w_size_check_2 _ _ hx []
    refine G_callP hq ?_
    refine G_end ?_
    refine R_ifp (p := v603 = true) (bool_dec _) (fun hc => ?_) (fun hc => ?_)
    · replace hm := pos_inv hc hm
      refine R_seq ?_
      refine R_G ?_
      refine G_run 2 ?_
      refine G_end ?_
      refine R_ret ?_
      obtain rfl := inj1 hm
      exact ⟨rfl, cut_leaf (by kernel_rfl)⟩
    replace hm := neg_inv hc hm
    refine R_skip ?_
    refine R_G ?_
    refine G_run 2 ?_
    refine G_end ?_
    exact w_slices_IndexFunc_int_int_size_check_2_L1 _ _ hm _ (by kernel_rfl)
  replace hm := neg_inv hc hm
  refine R_exit ?_
  obtain rfl := inj1 hm
  exact ⟨rfl, cut_leaf (by kernel_rfl)⟩
def m_slices_IndexFunc_int_int_size_check_2 (x : (List Int)) : Option Int :=
  match x with
  | p0 =>
  (
  m_slices_IndexFunc_int_int_size_check_2_L1 (p0, 0) >>= fun (out : Int ⊕ Unit) =>
  match out with
  | .inl v601 =>
    some v601
  | .inr (_) =>
    some (-1)
  )
def P_slices_IndexFunc_int_int_size_check_2 : (List Int) → Int → Prop := fun x r => match x, r with
  | p0, r0 => ∀ H, PC prog env 87 ([(.lst ((List.map intD) p0)), (.raw (.func (.func 116) #[] #[]))].map .dat) H (intPV r0) H
theorem w_slices_IndexFunc_int_int_size_check_2 : ∀ x r, m_slices_IndexFunc_int_int_size_check_2 x = some r → P_slices_IndexFunc_int_int_size_check_2 x r := by
  intro p0 r0 hm
  unfold m_slices_IndexFunc_int_int_size_check_2 at hm
  unfold P_slices_IndexFunc_int_int_size_check_2
  intro H
  refine PC_sx (ds := [(.lst ((List.map intD) p0)), (.raw (.func (.func 116) #[] #[]))]) (fn := f87) (by kernel_rfl) (by kernel_rfl) rfl ?_ (by kernel_rfl)
  refine R_seq ?_
  refine R_G ?_
  refine G_run 1 ?_
  refine G_end ?_
  refine R_seq ?_
  refine R_seq ?_
  refine R_G ?_
  refine G_run 1 ?_
  refine I_len intD p0 (es := (List.map intD) p0) rfl ?_
  refine G_run 1 ?_
  refine G_end ?_
  refine R_block ?_
  obtain ⟨out, hs, hm⟩ := bind_inv hm
  refine R_loop ?_
  rcases out with v601 | _
  · refine RL_use (w_slices_IndexFunc_int_int_size_check_2_L1 _ _ hs) (by kernel_rfl) ?_
    clear hs
    intro e s hp
    obtain ⟨rfl, d, rfl⟩ := hp
    obtain rfl := inj1 hm
    exact ⟨trivial, fin_pure (by kernel_rfl)⟩
  · refine RL_use (w_slices_IndexFunc_int_int_size_check_2_L1 _ _ hs) (by kernel_rfl) ?_
    clear hs
    intro e s hp
    obtain ⟨rfl, d, rfl⟩ := hp
    refine R_seq ?_
    refine R_G ?_
    refine G_run 1 ?_
    refine G_end ?_
    refine R_ret ?_
    obtain rfl := inj1 hm
    exact ⟨trivial, fin_pure (by kernel_rfl)⟩
end Go.Proofs.Tryz
namespace Go.Proofs.Tryz
open Go Go.Pm
set_option linter.unusedVariables false
set_option maxHeartbeats 2000000
set_option maxRecDepth 2000
def m_slices_ContainsFunc_int_int_size_check_2 (x : (List Int)) : Option Bool :=
  match x with
  | p0 =>
  m_slices_IndexFunc_int_int_size_check_2 p0 >>= fun (v1 : Int) =>
  some (decide (v1 ≥ 0))
def P_slices_ContainsFunc_int_int_size_check_2 : (List Int) → Bool → Prop := fun x r => match x, r with
  | p0, r0 => ∀ H, PC prog env 62 ([(.lst ((List.map intD) p0)), (.raw (.func (.func 116) #[] #[]))].map .dat) H (boolPV r0) H
theorem w_slices_ContainsFunc_int_int_size_check_2 : ∀ x r, m_slices_ContainsFunc_int_int_size_check_2 x = some r → P_slices_ContainsFunc_int_int_size_check_2 x r := by
  intro p0 r0 hm
  unfold m_slices_ContainsFunc_int_int_size_check_2 at hm
  unfold P_slices_ContainsFunc_int_int_size_check_2
  intro H
  refine PC_sx (ds := [(.lst ((List.map intD) p0)), (.raw (.func (.func 116) #[] #[]))]) (fn := f62) (by kernel_rfl) (by kernel_rfl) rfl ?_ (by kernel_rfl)
  refine R_seq ?_
  refine R_G ?_
  refine G_run 1 ?_
  refine G_end ?_
  refine R_seq ?_
  refine R_G ?_
  refine G_run 2 ?_
  obtain ⟨v1, hx, hm⟩ := bind_inv hm
  have hq := w_slices_IndexFunc_int_int_size_check_2 _ _ hx []
  refine G_callP hq ?_
  refine G_run 2 ?_
  refine G_end ?_
  refine R_ret ?_
  obtain rfl := inj1 hm
  exact ⟨trivial, fin_pure (by kernel_rfl)⟩
end Go.Proofs.Tryz
namespace Go.Proofs.Tryz
open Go Go.Pm
set_option linter.unusedVariables false
set_option maxHeartbeats 2000000
set_option maxRecDepth 2000
def m_size_check (x : (List Int)) : Option Int :=
  match x with
  | p0 =>
  m_slices_ContainsFunc_int_int_size_check_1 p0 >>= fun (v1 : Bool) =>
  if v1 = true then
    some 6
  else
  m_slices_ContainsFunc_int_int_size_check_2 p0 >>= fun (v2 : Bool) =>
  if v2 = true then
    some 7
  else
  some 0
def P_size_check : (List Int) → Int → Prop := fun x r => match x, r with
  | p0, r0 => ∀ H, PC prog env 90 ([(.lst ((List.map intD) p0))].map .dat) H (intPV r0) H
theorem w_size_check : ∀ x r, m_size_check x = some r → P_size_check x r := by
  intro p0 r0 hm
  unfold m_size_check at hm
  unfold P_size_check
  intro H
  refine PC_sx (ds := [(.lst ((List.map intD) p0))]) (fn := f90) (by kernel_rfl) (by kernel_rfl) rfl ?_ (by kernel_rfl)
  refine R_seq ?_
  refine R_G ?_
  refine G_run 1 ?_
  refine G_end ?_
  refine R_seq ?_
  refine R_block ?_
  refine R_seq ?_
  refine R_G ?_
  refine G_run 1 ?_
  obtain ⟨v1, hx, hm⟩ := bind_inv hm
  have hq := w_slices_ContainsFunc_int_int_size_check_1 _ _ hx []
  refine G_callP hq ?_
  refine G_run 1 ?_
  refine G_end ?_
  refine R_ifp (p := v1 = true) (bool_dec _) (fun hc => ?_) (fun hc => ?_)
  · replace hm := pos_inv hc hm
    refine R_seq ?_
    refine R_G ?_
    refine G_run 1 ?_
    refine G_end ?_
    refine R_ret ?_
    obtain rfl := inj1 hm
    exact ⟨trivial, fin_pure (by kernel_rfl)⟩
  replace hm := neg_inv hc hm
  refine R_seq ?_
  refine R_G ?_
  refine G_run 1 ?_
  obtain ⟨v2, hx, hm⟩ := bind_inv hm
  have hq := w_slices_ContainsFunc_int_int_size_check_2 _ _ hx []
  refine G_callP hq ?_
  refine G_run 1 ?_
  refine G_end ?_
  refine R_ifp (p := v2 = true) (bool_dec _) (fun hc => ?_) (fun hc => ?_)
  · replace hm := pos_inv hc hm
    refine R_seq ?_
    refine R_G ?_
    refine G_run 1 ?_
    refine G_end ?_
    refine R_ret ?_
    obtain rfl := inj1 hm
    exact ⟨trivial, fin_pure (by kernel_rfl)⟩
  replace hm := neg_inv hc hm
  refine R_skip ?_
  refine R_seq ?_
  refine R_G ?_
  refine G_run 1 ?_
  refine G_end ?_
  refine R_ret ?_
  obtain rfl := inj1 hm
  exact ⟨trivial, fin_pure (by kernel_rfl)⟩
end Go.Proofs.Tryz
namespace Go.Proofs.Tryz
open Go Go.Pm
set_option linter.unusedVariables false
set_option maxHeartbeats 2000000
set_option maxRecDepth 2000
def m_slices_Index_int_int_L1 (x : ((List Int) × Int × Int)) : Option (Int ⊕ Unit) :=
  match x with
  | (p0, p1, v201) =>
  if v201 < (p0.length : Int) then
    idx p0 v201 >>= fun v602 =>
    if p1 = v602 then
      some (Sum.inl v201)
    else
    m_slices_Index_int_int_L1 (p0, p1, (W (v201 + 1)))
  else
  some (Sum.inr ())
  partial_fixpoint
def P_slices_Index_int_int_L1 : ((List Int) × Int × Int) → (Int ⊕ Unit) → Prop := fun x r => match x with
  | (p0, p1, v201) => ∀ st, prune 0 ((firstRegion (codeAt [1, 0, 1, 0, 0] (bodyOf f117))).bind (env.hint 117).keepAt) st = ⟨kp 19 [(0, (.dat (.lst ((List.map intD) p0)))), (1, (intPV p1)), (7, (intPV (p0.length : Int))), (8, (intPV v201))], []⟩ →
    RL prog env (env.hint 117) true (codeAt [1, 0, 1, 0, 0] (bodyOf f117)) 0 st (fun e s => match r with | .inl v601 => e = .ret ∧ ∃ d, s = ⟨sl d 19 [(4, (intPV v601))], []⟩ | .inr (_) => e = .exit 0 ∧ ∃ d, s = ⟨sl d 19 [], []⟩)
theorem w_slices_Index_int_int_L1 : ∀ x r, m_slices_Index_int_int_L1 x = some r → P_slices_Index_int_int_L1 x r := by
  refine m_slices_Index_int_int_L1.partial_correctness _ (fun m_slices_Index_int_int_L1 w_slices_Index_int_int_L1 x r hm => ?_)
  unfold P_slices_Index_int_int_L1
  obtain ⟨p0, p1, v201⟩ := x
  intro st hst
  refine RL_at hst ?_
  clear hst
  refine R_seq ?_
  refine R_G ?_
  refine G_run 1 ?_
  refine G_end ?_
  refine R_seq ?_
  refine R_ifp (p := v201 < (p0.length : Int)) (rfl) (fun hc => ?_) (fun hc => ?_)
  · replace hm := pos_inv hc hm
    refine R_skip ?_
    refine R_seq ?_
    refine R_block ?_
    refine R_seq ?_
    refine R_G ?_
    refine G_run 2 ?_
    refine G_end ?_
    refine R_seq ?_
    refine R_G ?_
    refine G_run 3 ?_
    obtain ⟨v602, hx, hm⟩ := bind_inv hm
    refine I_idx 1 intD p0 v201 v602 (es := (List.map intD) p0) (d := (intD v602)) rfl hx rfl rfl ?_
    refine G_run 2 ?_
    refine G_end ?_
    refine R_ifp (p := p1 = v602) (eq_dec _ _) (fun hc => ?_) (fun hc => ?_)
    · replace hm := pos_inv hc hm
      refine R_seq ?_
      refine R_G ?_
      refine G_run 2 ?_
      refine G_end ?_
      refine R_ret ?_
      obtain rfl := inj1 hm
      exact ⟨rfl, cut_leaf (by kernel_rfl)⟩
    replace hm := neg_inv hc hm
    refine R_skip ?_
    refine R_G ?_
    refine G_run 2 ?_
    refine G_end ?_
    exact w_slices_Index_int_int_L1 _ _ hm _ (by kernel_rfl)
  replace hm := neg_inv hc hm
  refine R_exit ?_
  obtain rfl := inj1 hm
  exact ⟨rfl, cut_leaf (by kernel_rfl)⟩
def m_slices_Index_int_int (x : ((List Int) × Int)) : Option Int :=
  match x with
  | (p0, p1) =>
  (
  m_slices_Index_int_int_L1 (p0, p1, 0) >>= fun (out : Int ⊕ Unit) =>
  match out with
  | .inl v601 =>
    some v601
  | .inr (_) =>
    some (-1)
  )
def P_slices_Index_int_int : ((List Int) × Int) → Int → Prop := fun x r => match x, r with
  | (p0, p1), r0 => ∀ H, PC prog env 117 ([(.lst ((List.map intD) p0)), (intD p1)].map .dat) H (intPV r0) H
theorem w_slices_Index_int_int : ∀ x r, m_slices_Index_int_int x = some r → P_slices_Index_int_int x r := by
  intro x r0 hm
  unfold m_slices_Index_int_int at hm
  unfold P_slices_Index_int_int
  obtain ⟨p0, p1⟩ := x
  intro H
  refine PC_sx (ds := [(.lst ((List.map intD) p0)), (intD p1)]) (fn := f117) (by kernel_rfl) (by kernel_rfl) rfl ?_ (by kernel_rfl)
  refine R_seq ?_
  refine R_G ?_
  refine G_run 1 ?_
  refine G_end ?_
  refine R_seq ?_
  refine R_seq ?_
  refine R_G ?_
  refine G_run 1 ?_
  refine I_len intD p0 (es := (List.map intD) p0) rfl ?_
  refine G_run 1 ?_
  refine G_end ?_
  refine R_block ?_
  obtain ⟨out, hs, hm⟩ := bind_inv hm
  refine R_loop ?_
  rcases out with v601 | _
  · refine RL_use (w_slices_Index_int_int_L1 _ _ hs) (by kernel_rfl) ?_
    clear hs
    intro e s hp
    obtain ⟨rfl, d, rfl⟩ := hp
    obtain rfl := inj1 hm
    exact ⟨trivial, fin_pure (by kernel_rfl)⟩
  · refine RL_use (w_slices_Index_int_int_L1 _ _ hs) (by kernel_rfl) ?_
    clear hs
    intro e s hp
    obtain ⟨rfl, d, rfl⟩ := hp
    refine R_seq ?_
    refine R_G ?_
    refine G_run 1 ?_
    refine G_end ?_
    refine R_ret ?_
    obtain rfl := inj1 hm
    exact ⟨trivial, fin_pure (by kernel_rfl)⟩
end Go.Proofs.Tryz
namespace Go.Proofs.Tryz
open Go Go.Pm
set_option linter.unusedVariables false
set_option maxHeartbeats 2000000
set_option maxRecDepth 2000
def m_slices_Contains_int_int (x : ((List Int) × Int)) : Option Bool :=
  match x with
  | (p0, p1) =>
  m_slices_Index_int_int (p0, p1) >>= fun (v1 : Int) =>
  some (decide (v1 ≥ 0))
def P_slices_Contains_int_int : ((List Int) × Int) → Bool → Prop := fun x r => match x, r with
  | (p0, p1), r0 => ∀ H, PC prog env 91 ([(.lst ((List.map intD) p0)), (intD p1)].map .dat) H (boolPV r0) H
theorem w_slices_Contains_int_int : ∀ x r, m_slices_Contains_int_int x = some r → P_slices_Contains_int_int x r := by
  intro x r0 hm
  unfold m_slices_Contains_int_int at hm
  unfold P_slices_Contains_int_int
  obtain ⟨p0, p1⟩ := x
  intro H
  refine PC_sx (ds := [(.lst ((List.map intD) p0)), (intD p1)]) (fn := f91) (by kernel_rfl) (by kernel_rfl) rfl ?_ (by kernel_rfl)
  refine R_seq ?_
  refine R_G ?_
  refine G_run 1 ?_
  refine G_end ?_
  refine R_seq ?_
  refine R_G ?_
  refine G_run 2 ?_
  obtain ⟨v1, hx, hm⟩ := bind_inv hm
  have hq := w_slices_Index_int_int _ _ hx []
  refine G_callP hq ?_
  refine G_run 2 ?_
  refine G_end ?_
  refine R_ret ?_
  obtain rfl := inj1 hm
  exact ⟨trivial, fin_pure (by kernel_rfl)⟩
end Go.Proofs.Tryz
namespace Go.Proofs.Tryz
open Go Go.Pm
set_option linter.unusedVariables false
set_option maxHeartbeats 2000000
set_option maxRecDepth 2000
def m_size_Mul (x : (Int × Int × Int)) : Option (Int × Bool) :=
  match x with
  | (p0, p1, p2) =>
  ((if p0 < 0 then
    some true
  else
  some (decide (p1 < 0))
  ) >>= fun (v2 : Bool) =>
  (if v2 = true then
    some true
  else
  some (decide (p0 > p2))
  ) >>= fun (v3 : Bool) =>
  (if v3 = true then
    some true
  else
  some (decide (p1 > p2))
  ) >>= fun (v4 : Bool) =>
  if v4 = true then
    some true
  else
  if p1 > 0 then
    quoM p2 p1 >>= fun v5 =>
    some (decide (p0 > v5))
  else
  some false
  ) >>= fun (v1 : Bool) =>
  if v1 = true then
    some (0, false)
  else
  some ((W (p0 * p1)), true)
def P_size_Mul : (Int × Int × Int) → (Int × Bool) → Prop := fun x r => match x, r with
  | (p0, p1, p2), (r0, r1) => ∀ H, PC prog env 94 ([(intD p0), (intD p1), (intD p2)].map .dat) H (.tup [(intPV r0), (boolPV r1)]) H
theorem w_size_Mul : ∀ x r, m_size_Mul x = some r → P_size_Mul x r := by
  intro x r hm
  unfold m_size_Mul at hm
  unfold P_size_Mul
  obtain ⟨p0, p1, p2⟩ := x
  obtain ⟨r0, r1⟩ := r
  intro H
  refine PC_sx (ds := [(intD p0), (intD p1), (intD p2)]) (fn := f94) (by kernel_rfl) (by kernel_rfl) rfl ?_ (by kernel_rfl)
  refine R_seq ?_
  refine R_G ?_
  refine G_run 2 ?_
  refine G_end ?_
  refine R_seq ?_
  refine R_seq ?_
  obtain ⟨v1, hs, hm⟩ := bind_inv hm
  refine R_cut (fun d => ⟨sl d 38 [(0, (intPV p0)), (1, (intPV p1)), (34, (boolPV v1))], []⟩) ?_ (fun d => ?_)
  · replace hm := hs
    clear hs
    refine R_GN ?_
    refine G_run 3 ?_
    obtain ⟨v2, hs, hm⟩ := bind_inv hm
    refine G_cut (j := 6) (fun d => ⟨sl d 38 [(0, (intPV p0)), (1, (intPV p1)), (2, (intPV p2)), (6, (intPV 0)), (7, (boolPV false)), (8, (intPV p0)), (9, (boolPV (decide (p0 < 0)))), (13, (boolPV v2))], []⟩) (fun d => ?_) (fun hJ => ?_)
    · clear hs
      refine G_run 1 ?_
      obtain ⟨v3, hs, hm⟩ := bind_inv hm
      refine G_cut (j := 11) (fun d => ⟨sl d 38 [(0, (intPV p0)), (1, (intPV p1)), (2, (intPV p2)), (6, (intPV 0)), (7, (boolPV false)), (8, (intPV p0)), (9, (boolPV (decide (p0 < 0)))), (13, (boolPV v2)), (18, (boolPV v3))], []⟩) (fun d => ?_) (fun hJ => ?_)
      · clear hs
        refine G_run 1 ?_
        obtain ⟨v4, hs, hm⟩ := bind_inv hm
        refine G_cut (j := 16) (fun d => ⟨sl d 38 [(0, (intPV p0)), (1, (intPV p1)), (2, (intPV p2)), (6, (intPV 0)), (7, (boolPV false)), (8, (intPV p0)), (9, (boolPV (decide (p0 < 0)))), (13, (boolPV v2)), (18, (boolPV v3)), (23, (boolPV v4))], []⟩) (fun d => ?_) (fun hJ => ?_)
        · clear hs
          refine G_run 1 ?_
          refine G_split (p := v4 = true) 24 (bool_dec _) (fun hc => ?_) (fun hc => ?_)
          · replace hm := pos_inv hc hm
            refine G_run 10 ?_
            refine G_end ⟨by kernel_rfl, ?_⟩
            obtain rfl := inj1 hm
            exact cut_leaf (by kernel_rfl)
          replace hm := neg_inv hc hm
          refine G_run 3 ?_
          refine G_split (p := p1 > 0) 27 (rfl) (fun hc => ?_) (fun hc => ?_)
          · replace hm := pos_inv hc hm
            refine G_run 3 ?_
            obtain ⟨v5, hx, hm⟩ := bind_inv hm
            refine G_semN rfl (by kernel_rfl) (fun _ => E_quo (a := p2) (b := p1) hx rfl (by kernel_rfl) (by kernel_rfl)) ?_
            refine G_run 3 ?_
            refine G_end ⟨by kernel_rfl, ?_⟩
            obtain rfl := inj1 hm
            exact cut_leaf (by kernel_rfl)
          replace hm := neg_inv hc hm
          refine G_run 7 ?_
          refine G_end ⟨by kernel_rfl, ?_⟩
          obtain rfl := inj1 hm
          exact cut_leaf (by kernel_rfl)
        replace hm := hs
        clear hs
        refine G_split (p := v3 = true) 19 (bool_dec _) (fun hc => ?_) (fun hc => ?_)
        · replace hm := pos_inv hc hm
          refine G_run 4 ?_
          obtain rfl := inj1 hm
          exact hJ _ _ (by kernel_rfl) (by kernel_rfl)
        replace hm := neg_inv hc hm
        refine G_run 4 ?_
        obtain rfl := inj1 hm
        exact hJ _ _ (by kernel_rfl) (by kernel_rfl)
      replace hm := hs
      clear hs
      refine G_split (p := v2 = true) 14 (bool_dec _) (fun hc => ?_) (fun hc => ?_)
      · replace hm := pos_inv hc hm
        refine G_run 4 ?_
        obtain rfl := inj1 hm
        exact hJ _ _ (by kernel_rfl) (by kernel_rfl)
      replace hm := neg_inv hc hm
      refine G_run 4 ?_
      obtain rfl := inj1 hm
      exact hJ _ _ (by kernel_rfl) (by kernel_rfl)
    replace hm := hs
    clear hs
    refine G_split (p := p0 < 0) 10 (rfl) (fun hc => ?_) (fun hc => ?_)
    · replace hm := pos_inv hc hm
      refine G_run 3 ?_
      obtain rfl := inj1 hm
      exact hJ _ _ (by kernel_rfl) (by kernel_rfl)
    replace hm := neg_inv hc hm
    refine G_run 3 ?_
    obtain rfl := inj1 hm
    exact hJ _ _ (by kernel_rfl) (by kernel_rfl)
  clear hs
  refine R_ifp (p := v1 = true) (bool_dec _) (fun hc => ?_) (fun hc => ?_)
  · replace hm := pos_inv hc hm
    refine R_seq ?_
    refine R_G ?_
    refine G_run 2 ?_
    refine G_end ?_
    refine R_ret ?_
    obtain ⟨rfl, rfl⟩ := inj2 hm
    exact ⟨trivial, fin_pure (by kernel_rfl)⟩
  replace hm := neg_inv hc hm
  refine R_skip ?_
  refine R_seq ?_
  refine R_G ?_
  refine G_run 5 ?_
  refine G_end ?_
  refine R_ret ?_
  obtain ⟨rfl, rfl⟩ := inj2 hm
  exact ⟨trivial, fin_pure (by kernel_rfl)⟩
end Go.Proofs.Tryz
namespace Go.Proofs.Tryz
open Go Go.Pm
set_option linter.unusedVariables false
set_option maxHeartbeats 2000000
set_option maxRecDepth 2000
def m_size_Product_1 (x : (Int × Int)) : Option (Int × Bool) :=
  match x with
  | (p0, p1) =>
  m_size_Mul (p0, p1, 65536) >>= fun ((v1, v2) : (Int × Bool)) =>
  some (v1, v2)
def P_size_Product_1 : (Int × Int) → (Int × Bool) → Prop := fun x r => match x, r with
  | (p0, p1), (r0, r1) => ∀ H, PC prog env 93 ([(intD p0), (intD p1)].map .dat) H (.tup [(intPV r0), (boolPV r1)]) H
theorem w_size_Product_1 : ∀ x r, m_size_Product_1 x = some r → P_size_Product_1 x r := by
  intro x r hm
  unfold m_size_Product_1 at hm
  unfold P_size_Product_1
  obtain ⟨p0, p1⟩ := x
  obtain ⟨r0, r1⟩ := r
  intro H
  refine PC_sx (ds := [(intD p0), (intD p1)]) (fn := f93) (by kernel_rfl) (by kernel_rfl) rfl ?_ (by kernel_rfl)
  refine R_seq ?_
  refine R_G ?_
  refine G_run 2 ?_
  refine G_end ?_
  refine R_seq ?_
  refine R_G ?_
  refine G_run 2 ?_
  obtain ⟨⟨v1, v2⟩, hx, hm⟩ := bind_inv hm
  have hq := w_size_Mul _ _ hx []
  refine G_callP hq ?_
  refine G_run 4 ?_
  refine G_end ?_
  refine R_ret ?_
  obtain ⟨rfl, rfl⟩ := inj2 hm
  exact ⟨trivial, fin_pure (by kernel_rfl)⟩
end Go.Proofs.Tryz
namespace Go.Proofs.Tryz
open Go Go.Pm
set_option linter.unusedVariables false
set_option maxHeartbeats 2000000
set_option maxRecDepth 2000
def m_size_fold_int_size_Product_1_L1 (x : ((List Int) × Int × Int)) : Option (Int ⊕ Int) :=
  match x with
  | (p0, v201, v202) =>
  if v202 < (p0.length : Int) then
    idx p0 v202 >>= fun v603 =>
    m_size_Product_1 (v201, v603) >>= fun ((v604, v605) : (Int × Bool)) =>
    if v605 = false then
      some (Sum.inl v604)
    else
    m_size_fold_int_size_Product_1_L1 (p0, v604, (W (v202 + 1)))
  else
  some (Sum.inr v201)
  partial_fixpoint
def P_size_fold_int_size_Product_1_L1 : ((List Int) × Int × Int) → (Int ⊕ Int) → Prop := fun x r => match x with
  | (p0, v201, v202) => ∀ st, prune 0 ((firstRegion (codeAt [1, 1, 0, 1, 0, 0] (bodyOf f118))).bind (env.hint 118).keepAt) st = ⟨kp 31 [(2, (.dat (.raw (.func (.func 93) #[] #[])))), (8, (intPV v201)), (13, (.dat (.lst ((List.map intD) p0)))), (14, (intPV (p0.length : Int))), (15, (intPV v202))], []⟩ →
    RL prog env (env.hint 118) true (codeAt [1, 1, 0, 1, 0, 0] (bodyOf f118)) 0 st (fun e s => match r with | .inl v601 => e = .ret ∧ ∃ d, s = ⟨sl d 31 [(6, (intPV v601)), (7, (boolPV false))], []⟩ | .inr (v602) => e = .exit 0 ∧ ∃ d, s = ⟨sl d 31 [(8, (intPV v602))], []⟩)
theorem w_size_fold_int_size_Product_1_L1 : ∀ x r, m_size_fold_int_size_Product_1_L1 x = some r → P_size_fold_int_size_Product_1_L1 x r := by
  refine m_size_fold_int_size_Product_1_L1.partial_correctness _ (fun m_size_fold_int_size_Product_1_L1 w_size_fold_int_size_Product_1_L1 x r hm => ?_)
  unfold P_size_fold_int_size_Product_1_L1
  obtain ⟨p0, v201, v202⟩ := x
  intro st hst
  refine RL_at hst ?_
  clear hst
  refine R_seq ?_
  refine R_G ?_
  refine G_run 1 ?_
  refine G_end ?_
  refine R_seq ?_
  refine R_ifp (p := v202 < (p0.length : Int)) (rfl) (fun hc => ?_) (fun hc => ?_)
  · replace hm := pos_inv hc hm
    refine R_skip ?_
    refine R_seq ?_
    refine R_block ?_
    refine R_seq ?_
    refine R_G ?_
    obtain ⟨v603, hx, hm⟩ := bind_inv hm
    refine I_idx 1 intD p0 v202 v603 (es := (List.map intD) p0) (d := (intD v603)) rfl hx rfl rfl ?_
    refine G_run 2 ?_
    refine G_end ?_
    refine R_seq ?_
    refine R_G ?_
    refine G_run 3 ?_
    obtain ⟨⟨v604, v605⟩, hx, hm⟩ := bind_inv hm
    have hq := w_size_Product_1 _ _ hx []
    refine G_callP hq ?_
    refine G_run 5 ?_
    refine G_end ?_
    refine R_seq ?_
    refine R_G ?_
    refine G_run 2 ?_
    refine G_end ?_
    refine R_ifp (p := v605 = false) (not_dec _) (fun hc => ?_) (fun hc => ?_)
    · replace hm := pos_inv hc hm
      refine R_seq ?_
      refine R_G ?_
      refine G_run 3 ?_
      refine G_end ?_
      refine R_ret ?_
      obtain rfl := inj1 hm
      exact ⟨rfl, cut_leaf (by kernel_rfl)⟩
    replace hm := neg_inv hc hm
    refine R_skip ?_
    refine R_G ?_
    refine G_run 2 ?_
    refine G_end ?_
    exact w_size_fold_int_size_Product_1_L1 _ _ hm _ (by kernel_rfl)
  replace hm := neg_inv hc hm
  refine R_exit ?_
  obtain rfl := inj1 hm
  exact ⟨rfl, cut_leaf (by kernel_rfl)⟩
def m_size_fold_int_size_Product_1 (x : ((List Int) × Int)) : Option (Int × Bool) :=
  match x with
  | (p0, p1) =>
  (
  m_size_fold_int_size_Product_1_L1 (p0, p1, 0) >>= fun (out : Int ⊕ Int) =>
  match out with
  | .inl v601 =>
    some (v601, false)
  | .inr (v602) =>
    some (v602, true)
  )
def P_size_fold_int_size_Product_1 : ((List Int) × Int) → (Int × Bool) → Prop := fun x r => match x, r with
  | (p0, p1), (r0, r1) => ∀ H, PC prog env 118 ([(.lst ((List.map intD) p0)), (intD p1), (.raw (.func (.func 93) #[] #[]))].map .dat) H (.tup [(intPV r0), (boolPV r1)]) H
theorem w_size_fold_int_size_Product_1 : ∀ x r, m_size_fold_int_size_Product_1 x = some r → P_size_fold_int_size_Product_1 x r := by
  intro x r hm
  unfold m_size_fold_int_size_Product_1 at hm
  unfold P_size_fold_int_size_Product_1
  obtain ⟨p0, p1⟩ := x
  obtain ⟨r0, r1⟩ := r
  intro H
  refine PC_sx (ds := [(.lst ((List.map intD) p0)), (intD p1), (.raw (.func (.func 93) #[] #[]))]) (fn := f118) (by kernel_rfl) (by kernel_rfl) rfl ?_ (by kernel_rfl)
  refine R_seq ?_
  refine R_G ?_
  refine G_run 2 ?_
  refine G_end ?_
  refine R_seq ?_
  refine R_G ?_
  refine G_run 3 ?_
  refine G_end ?_
  refine R_seq ?_
  refine R_seq ?_
  refine R_G ?_
  refine G_run 1 ?_
  refine I_len intD p0 (es := (List.map intD) p0) rfl ?_
  refine G_run 1 ?_
  refine G_end ?_
  refine R_block ?_
  obtain ⟨out, hs, hm⟩ := bind_inv hm
  refine R_loop ?_
  rcases out with v601 | v602
  · refine RL_use (w_size_fold_int_size_Product_1_L1 _ _ hs) (by kernel_rfl) ?_
    clear hs
    intro e s hp
    obtain ⟨rfl, d, rfl⟩ := hp
    obtain ⟨rfl, rfl⟩ := inj2 hm
    exact ⟨trivial, fin_pure (by kernel_rfl)⟩
  · refine RL_use (w_size_fold_int_size_Product_1_L1 _ _ hs) (by kernel_rfl) ?_
    clear hs
    intro e s hp
    obtain ⟨rfl, d, rfl⟩ := hp
    refine R_seq ?_
    refine R_G ?_
    refine G_run 3 ?_
    refine G_end ?_
    refine R_ret ?_
    obtain ⟨rfl, rfl⟩ := inj2 hm
    exact ⟨trivial, fin_pure (by kernel_rfl)⟩
end Go.Proofs.Tryz
namespace Go.Proofs.Tryz
open Go Go.Pm
set_option linter.unusedVariables false
set_option maxHeartbeats 2000000
set_option maxRecDepth 2000
def m_size_combined_size_Product_1 (x : ((List Int) × Int)) : Option (Int × Int) :=
  match x with
  | (p0, p1) =>
  m_size_check p0 >>= fun (v1 : Int) =>
  if v1 ≠ 0 then
    some (0, v1)
  else
  m_size_fold_int_size_Product_1 (p0, p1) >>= fun ((v2, v3) : (Int × Bool)) =>
  if v3 = false then
    some (0, 7)
  else
  some (v2, 0)
def P_size_combined_size_Product_1 : ((List Int) × Int) → (Int × Int) → Prop := fun x r => match x, r with
  | (p0, p1), (r0, r1) => ∀ H, PC prog env 92 ([(.lst ((List.map intD) p0)), (intD p1), (.raw (.func (.func 93) #[] #[]))].map .dat) H (.tup [(intPV r0), (intPV r1)]) H
theorem w_size_combined_size_Product_1 : ∀ x r, m_size_combined_size_Product_1 x = some r → P_size_combined_size_Product_1 x r := by
  intro x r hm
  unfold m_size_combined_size_Product_1 at hm
  unfold P_size_combined_size_Product_1
  obtain ⟨p0, p1⟩ := x
  obtain ⟨r0, r1⟩ := r
  intro H
  refine PC_sx (ds := [(.lst ((List.map intD) p0)), (intD p1), (.raw (.func (.func 93) #[] #[]))]) (fn := f92) (by kernel_rfl) (by kernel_rfl) rfl ?_ (by kernel_rfl)
  refine R_seq ?_
  refine R_G ?_
  refine G_run 2 ?_
  refine G_end ?_
  refine R_seq ?_
  refine R_seq ?_
  refine R_G ?_
  refine G_run 1 ?_
  obtain ⟨v1, hx, hm⟩ := bind_inv hm
  have hq := w_size_check _ _ hx []
  refine G_callP hq ?_
  refine G_run 1 ?_
  refine G_end ?_
  refine R_seq ?_
  refine R_G ?_
  refine G_run 2 ?_
  refine G_end ?_
  refine R_ifp (p := v1 ≠ 0) (ne_dec _ _) (fun hc => ?_) (fun hc => ?_)
  · replace hm := pos_inv hc hm
    refine R_seq ?_
    refine R_G ?_
    refine G_run 3 ?_
    refine G_end ?_
    refine R_ret ?_
    obtain ⟨rfl, rfl⟩ := inj2 hm
    exact ⟨trivial, fin_pure (by kernel_rfl)⟩
  replace hm := neg_inv hc hm
  refine R_skip ?_
  refine R_seq ?_
  refine R_G ?_
  refine G_run 3 ?_
  obtain ⟨⟨v2, v3⟩, hx, hm⟩ := bind_inv hm
  have hq := w_size_fold_int_size_Product_1 _ _ hx []
  refine G_callP hq ?_
  refine G_run 5 ?_
  refine G_end ?_
  refine R_seq ?_
  refine R_seq ?_
  refine R_G ?_
  refine G_run 2 ?_
  refine G_end ?_
  refine R_ifp (p := v3 = false) (not_dec _) (fun hc => ?_) (fun hc => ?_)
  · replace hm := pos_inv hc hm
    refine R_seq ?_
    refine R_G ?_
    refine G_run 2 ?_
    refine G_end ?_
    refine R_ret ?_
    obtain ⟨rfl, rfl⟩ := inj2 hm
    exact ⟨trivial, fin_pure (by kernel_rfl)⟩
  replace hm := neg_inv hc hm
  refine R_skip ?_
  refine R_seq ?_
  refine R_G ?_
  refine G_run 3 ?_
  refine G_end ?_
  refine R_ret ?_
  obtain ⟨rfl, rfl⟩ := inj2 hm
  exact ⟨trivial, fin_pure (by kernel_rfl)⟩
end Go.Proofs.Tryz
namespace Go.Proofs.Tryz
open Go Go.Pm
set_option linter.unusedVariables false
set_option maxHeartbeats 2000000
set_option maxRecDepth 2000
def m_size_Product (x : (List Int)) : Option (Int × Int) :=
  match x with
  | p0 =>
  m_size_check p0 >>= fun (v1 : Int) =>
  (if v1 = 0 then
    m_slices_Contains_int_int (p0, 0) >>= fun (v3 : Bool) =>
    some v3
  else
  some false
  ) >>= fun (v2 : Bool) =>
  if v2 = true then
    some (0, 0)
  else
  m_size_combined_size_Product_1 (p0, 1) >>= fun ((v4, v5) : (Int × Int)) =>
  some (v4, v5)
def P_size_Product : (List Int) → (Int × Int) → Prop := fun x r => match x, r with
  | p0, (r0, r1) => ∀ H, PC prog env 66 ([(.lst ((List.map intD) p0))].map .dat) H (.tup [(intPV r0), (intPV r1)]) H
theorem w_size_Product : ∀ x r, m_size_Product x = some r → P_size_Product x r := by
  intro p0 r hm
  unfold m_size_Product at hm
  unfold P_size_Product
  obtain ⟨r0, r1⟩ := r
  intro H
  refine PC_sx (ds := [(.lst ((List.map intD) p0))]) (fn := f66) (by kernel_rfl) (by kernel_rfl) rfl ?_ (by kernel_rfl)
  refine R_seq ?_
  refine R_G ?_
  refine G_run 2 ?_
  refine G_end ?_
  refine R_seq ?_
  refine R_seq ?_
  refine R_G ?_
  refine G_run 1 ?_
  obtain ⟨v1, hx, hm⟩ := bind_inv hm
  have hq := w_size_check _ _ hx []
  refine G_callP hq ?_
  refine G_run 1 ?_
  refine G_end ?_
  refine R_seq ?_
  obtain ⟨v2, hs, hm⟩ := bind_inv hm
  refine R_cut (fun d => ⟨sl d 17 [(0, (.dat (.lst ((List.map intD) p0)))), (12, (boolPV v2))], []⟩) ?_ (fun d => ?_)
  · replace hm := hs
    clear hs
    refine R_G ?_
    refine G_run 3 ?_
    refine G_split (p := v1 = 0) 9 (eq_dec _ _) (fun hc => ?_) (fun hc => ?_)
    · replace hm := pos_inv hc hm
      refine G_run 1 ?_
      obtain ⟨v3, hx, hm⟩ := bind_inv hm
      have hq := w_slices_Contains_int_int _ _ hx []
      refine G_callP hq ?_
      refine G_run 1 ?_
      refine G_end ?_
      obtain rfl := inj1 hm
      exact cut_leaf (by kernel_rfl)
    replace hm := neg_inv hc hm
    refine G_run 3 ?_
    refine G_end ?_
    obtain rfl := inj1 hm
    exact cut_leaf (by kernel_rfl)
  clear hs
  refine R_ifp (p := v2 = true) (bool_dec _) (fun hc => ?_) (fun hc => ?_)
  · replace hm := pos_inv hc hm
    refine R_seq ?_
    refine R_G ?_
    refine G_run 2 ?_
    refine G_end ?_
    refine R_ret ?_
    obtain ⟨rfl, rfl⟩ := inj2 hm
    exact ⟨trivial, fin_pure (by kernel_rfl)⟩
  replace hm := neg_inv hc hm
  refine R_skip ?_
  refine R_seq ?_
  refine R_G ?_
  refine G_run 1 ?_
  obtain ⟨⟨v4, v5⟩, hx, hm⟩ := bind_inv hm
  have hq := w_size_combined_size_Product_1 _ _ hx []
  refine G_callP hq ?_
  refine G_run 4 ?_
  refine G_end ?_
  refine R_ret ?_
  obtain ⟨rfl, rfl⟩ := inj2 hm
  exact ⟨trivial, fin_pure (by kernel_rfl)⟩
end Go.Proofs.Tryz
namespace Go.Proofs.Tryz
open Go Go.Pm
set_option linter.unusedVariables false
set_option maxHeartbeats 2000000
set_option maxRecDepth 2000
def m_shape_Check (x : (List Int)) : Option Int :=
  match x with
  | p0 =>
  m_size_Product p0 >>= fun ((v1, v2) : (Int × Int)) =>
  (if v2 ≠ 6 then
    some (decide ((p0.length : Int) > 16))
  else
  some false
  ) >>= fun (v3 : Bool) =>
  if v3 = true then
    some 7
  else
  some v2
def P_shape_Check : (List Int) → Int → Prop := fun x r => match x, r with
  | p0, r0 => ∀ H, PC prog env 34 ([(.lst ((List.map intD) p0))].map .dat) H (intPV r0) H
theorem w_shape_Check : ∀ x r, m_shape_Check x = some r → P_shape_Check x r := by
  intro p0 r0 hm
  unfold m_shape_Check at hm
  unfold P_shape_Check
  intro H
  refine PC_sx (ds := [(.lst ((List.map intD) p0))]) (fn := f34) (by kernel_rfl) (by kernel_rfl) rfl ?_ (by kernel_rfl)
  refine R_seq ?_
  refine R_G ?_
  refine G_run 1 ?_
  refine G_end ?_
  refine R_seq ?_
  refine R_G ?_
  refine G_run 1 ?_
  obtain ⟨⟨v1, v2⟩, hx, hm⟩ := bind_inv hm
  have hq := w_size_Product _ _ hx []
  refine G_callP hq ?_
  refine G_run 5 ?_
  refine G_end ?_
  refine R_seq ?_
  refine R_seq ?_
  obtain ⟨v3, hs, hm⟩ := bind_inv hm
  refine R_cut (fun d => ⟨sl d 18 [(4, (intPV v2)), (16, (boolPV v3))], []⟩) ?_ (fun d => ?_)
  · replace hm := hs
    clear hs
    refine R_G ?_
    refine G_run 3 ?_
    refine G_split (p := v2 ≠ 6) 12 (ne_dec _ _) (fun hc => ?_) (fun hc => ?_)
    · replace hm := pos_inv hc hm
      refine G_run 1 ?_
      refine I_len intD p0 (es := (List.map intD) p0) rfl ?_
      refine G_run 2 ?_
      refine G_end ?_
      obtain rfl := inj1 hm
      exact cut_leaf (by kernel_rfl)
    replace hm := neg_inv hc hm
    refine G_run 4 ?_
    refine G_end ?_
    obtain rfl := inj1 hm
    exact cut_leaf (by kernel_rfl)
  clear hs
  refine R_ifp (p := v3 = true) (bool_dec _) (fun hc => ?_) (fun hc => ?_)
  · replace hm := pos_inv hc hm
    refine R_seq ?_
    refine R_G ?_
    refine G_run 1 ?_
    refine G_end ?_
    refine R_ret ?_
    obtain rfl := inj1 hm
    exact ⟨trivial, fin_pure (by kernel_rfl)⟩
  replace hm := neg_inv hc hm
  refine R_skip ?_
  refine R_seq ?_
  refine R_G ?_
  refine G_run 2 ?_
  refine G_end ?_
  refine R_ret ?_
  obtain rfl := inj1 hm
  exact ⟨trivial, fin_pure (by kernel_rfl)⟩
end Go.Proofs.Tryz
namespace Go.Proofs.Tryz
open Go Go.Pm
set_option linter.unusedVariables false
set_option maxHeartbeats 2000000
set_option maxRecDepth 2000
def m_shape_Cells (x : (List Int)) : Option Int :=
  match x with
  | p0 =>
  m_shape_Check p0 >>= fun (v1 : Int) =>
  if v1 ≠ 0 then
    some 0
  else
  m_size_Product p0 >>= fun ((v2, v3) : (Int × Int)) =>
  some v2
def P_shape_Cells : (List Int) → Int → Prop := fun x r => match x, r with
  | p0, r0 => ∀ H, PC prog env 69 ([(.lst ((List.map intD) p0))].map .dat) H (intPV r0) H
theorem w_shape_Cells : ∀ x r, m_shape_Cells x = some r → P_shape_Cells x r := by
  intro p0 r0 hm
  unfold m_shape_Cells at hm
  unfold P_shape_Cells
  intro H
  refine PC_sx (ds := [(.lst ((List.map intD) p0))]) (fn := f69) (by kernel_rfl) (by kernel_rfl) rfl ?_ (by kernel_rfl)
  refine R_seq ?_
  refine R_G ?_
  refine G_run 1 ?_
  refine G_end ?_
  refine R_seq ?_
  refine R_seq ?_
  refine R_G ?_
  refine G_run 1 ?_
  obtain ⟨v1, hx, hm⟩ := bind_inv hm
  have hq := w_shape_Check _ _ hx []
  refine G_callP hq ?_
  refine G_run 1 ?_
  refine G_end ?_
  refine R_ifp (p := v1 ≠ 0) (ne_dec _ _) (fun hc => ?_) (fun hc => ?_)
  · replace hm := pos_inv hc hm
    refine R_seq ?_
    refine R_G ?_
    refine G_run 1 ?_
    refine G_end ?_
    refine R_ret ?_
    obtain rfl := inj1 hm
    exact ⟨trivial, fin_pure (by kernel_rfl)⟩
  replace hm := neg_inv hc hm
  refine R_skip ?_
  refine R_seq ?_
  refine R_G ?_
  refine G_run 1 ?_
  obtain ⟨⟨v2, v3⟩, hx, hm⟩ := bind_inv hm
  have hq := w_size_Product _ _ hx []
  refine G_callP hq ?_
  refine G_run 5 ?_
  refine G_end ?_
  refine R_seq ?_
  refine R_G ?_
  refine G_run 2 ?_
  refine G_end ?_
  refine R_ret ?_
  obtain rfl := inj1 hm
  exact ⟨trivial, fin_pure (by kernel_rfl)⟩
end Go.Proofs.Tryz
namespace Go.Proofs.Tryz
open Go Go.Pm
set_option linter.unusedVariables false
set_option maxHeartbeats 2000000
set_option maxRecDepth 2000
def m_shape_Strides_L1 (x : ((List Int) × (List Int) × (List Int) × Int × Int)) : Option ((List Int)) :=
  match x with
  | (p0, v2, v204, v205, v206) =>
  if v206 < (p0.length : Int) then
    guardM (v204.length = v2.length) >>= fun (_ : Unit) =>
    idx v204 (W ((W ((p0.length : Int) - 1)) - v206)) >>= fun v605 =>
    setM v204 (W ((W ((p0.length : Int) - 1)) - v206)) v205 >>= fun v607 =>
    idx p0 (W ((W ((p0.length : Int) - 1)) - v206)) >>= fun v608 =>
    m_shape_Strides_L1 (p0, v2, v607, (W (v205 * v608)), (W (v206 + 1)))
  else
  some v204
  partial_fixpoint
def P_shape_Strides_L1 : ((List Int) × (List Int) × (List Int) × Int × Int) → (List Int) → Prop := fun x r => match x with
  | (p0, v2, v204, v205, v206) => ∀ st, prune 1 ((firstRegion (codeAt [1, 1, 1, 1, 1, 0, 1, 0, 0] (bodyOf f56))).bind (env.hint 56).keepAt) st = ⟨kp 39 [(0, (.dat (.lst ((List.map intD) p0)))), (3, (.arr 0 0 v2.length v2.length)), (4, (intPV v205)), (18, (intPV (p0.length : Int))), (19, (intPV v206))], [(.box (cellsOf intD v204))]⟩ →
    RL prog env (env.hint 56) true (codeAt [1, 1, 1, 1, 1, 0, 1, 0, 0] (bodyOf f56)) 1 st (fun e s => match r with | v604 => e = .exit 0 ∧ ∃ d, s = ⟨sl d 39 [(3, (.arr 0 0 v2.length v2.length))], [(.box (cellsOf intD v604))]⟩)
theorem w_shape_Strides_L1 : ∀ x r, m_shape_Strides_L1 x = some r → P_shape_Strides_L1 x r := by
  refine m_shape_Strides_L1.partial_correctness _ (fun m_shape_Strides_L1 w_shape_Strides_L1 x r hm => ?_)
  unfold P_shape_Strides_L1
  obtain ⟨p0, v2, v204, v205, v206⟩ := x
  intro st hst
  refine RL_at hst ?_
  clear hst
  refine R_seq ?_
  refine R_G ?_
  refine G_run 1 ?_
  refine G_end ?_
  refine R_seq ?_
  refine R_ifp (p := v206 < (p0.length : Int)) (rfl) (fun hc => ?_) (fun hc => ?_)
  · replace hm := pos_inv hc hm
    refine R_skip ?_
    refine R_seq ?_
    refine R_block ?_
    refine R_seq ?_
    refine R_G ?_
    refine G_run 2 ?_
    refine G_end ?_
    refine R_seq ?_
    refine R_G ?_
    refine G_run 1 ?_
    refine I_len intD p0 (es := (List.map intD) p0) rfl ?_
    refine G_run 4 ?_
    refine G_end ?_
    refine R_seq ?_
    refine R_G ?_
    refine G_run 3 ?_
    obtain ⟨_, hl606, hm⟩ := bind_inv hm
    replace hl606 := guard_inv hl606
    obtain ⟨v605, hx, hm⟩ := bind_inv hm
    refine G_semN rfl (by kernel_rfl) (fun _ => E_ixBox (e := 3) (l := v204) (n := (W ((W ((p0.length : Int) - 1)) - v206))) (i := 0) (cap := v2.length) (m := v2.length) hx hl606 (by kernel_rfl) (by kernel_rfl) rfl (by kernel_rfl) (by kernel_rfl)) ?_
    obtain ⟨v607, hx, hm⟩ := bind_inv hm
    refine G_semH (fun H => H.set 0 (.box (cellsOf intD v607))) rfl (by kernel_rfl) (fun _ => E_stBox intD (l := v204) (n := (W ((W ((p0.length : Int) - 1)) - v206))) (y := v205) hx (fun _ => rfl) (by kernel_rfl) rfl (by kernel_rfl) (by kernel_rfl) (by kernel_rfl) (by kernel_rfl)) ?_
    refine G_end ?_
    refine R_G ?_
    refine G_run 3 ?_
    obtain ⟨v608, hx, hm⟩ := bind_inv hm
    refine I_idx 1 intD p0 (W ((W ((p0.length : Int) - 1)) - v206)) v608 (es := (List.map intD) p0) (d := (intD v608)) rfl hx rfl rfl ?_
    refine G_run 3 ?_
    refine G_end ?_
    refine R_G ?_
    refine G_run 2 ?_
    refine G_end ?_
    exact w_shape_Strides_L1 _ _ hm _ (prune_of2 [(.box (cellsOf intD v607))] (fun _ => (pg_cons (purge_box intD _ _ _) pg_nil)) rfl)
  replace hm := neg_inv hc hm
  refine R_exit ?_
  obtain rfl := inj1 hm
  exact ⟨rfl, cut_leaf (by kernel_rfl)⟩
def m_shape_Strides (x : (List Int)) : Option (List Int) :=
  match x with
  | p0 =>
  m_shape_Check p0 >>= fun (v1 : Int) =>
  if v1 ≠ 0 then
    some ([] : (List Int))
  else
  makeM 8 (p0.length : Int) 0 >>= fun v2 =>
  m_shape_Cells p0 >>= fun (v3 : Int) =>
  if v3 = 0 then
    some v2
  else
  m_shape_Strides_L1 (p0, v2, v2, 1, 0) >>= fun (v604 : (List Int)) =>
  guardM (v604.length = v2.length) >>= fun (_ : Unit) =>
  some v604
def P_shape_Strides : (List Int) → (List Int) → Prop := fun x r => match x, r with
  | p0, r0 => ∀ H, PC prog env 56 ([(.lst ((List.map intD) p0))].map .dat) H (.dat (.lst ((List.map intD) r0))) H
theorem w_shape_Strides : ∀ x r, m_shape_Strides x = some r → P_shape_Strides x r := by
  intro p0 r0 hm
  unfold m_shape_Strides at hm
  unfold P_shape_Strides
  intro H
  refine PC_sx (ds := [(.lst ((List.map intD) p0))]) (fn := f56) (by kernel_rfl) (by kernel_rfl) rfl ?_ (by kernel_rfl)
  refine R_seq ?_
  refine R_G ?_
  refine G_run 1 ?_
  refine G_end ?_
  refine R_seq ?_
  refine R_seq ?_
  refine R_G ?_
  refine G_run 1 ?_
  obtain ⟨v1, hx, hm⟩ := bind_inv hm
  have hq := w_shape_Check _ _ hx []
  refine G_callP hq ?_
  refine G_run 1 ?_
  refine G_end ?_
  refine R_ifp (p := v1 ≠ 0) (ne_dec _ _) (fun hc => ?_) (fun hc => ?_)
  · replace hm := pos_inv hc hm
    refine R_seq ?_
    refine R_G ?_
    refine G_run 1 ?_
    refine G_end ?_
    refine R_ret ?_
    obtain rfl := inj1 hm
    exact ⟨trivial, fin_pure (by kernel_rfl)⟩
  replace hm := neg_inv hc hm
  refine R_skip ?_
  refine R_seq ?_
  refine R_G ?_
  refine G_run 1 ?_
  refine I_len intD p0 (es := (List.map intD) p0) rfl ?_
  obtain ⟨v2, hx, hm⟩ := bind_inv hm
  refine G_semH (v := .arr 0 0 v2.length v2.length) (fun H => H ++ [.box (cellsOf intD v2)]) rfl (by kernel_rfl) ?_ ?_
  · intro K hk
    exact E_mkBoxN 0 intD (z := 0) (n := (p0.length : Int)) (bytes := 8) hx (e := 3) (by kernel_rfl) (by kernel_rfl) (by kernel_rfl) (by kernel_rfl) rfl rfl (by kernel_rfl) (by kernel_rfl) hk
  refine G_run 1 ?_
  refine G_end ?_
  refine R_seq ?_
  refine R_seq ?_
  refine R_G ?_
  refine G_run 1 ?_
  obtain ⟨v3, hx, hm⟩ := bind_inv hm
  have hq := w_shape_Cells _ _ hx []
  refine G_callP hq ?_
  refine G_run 1 ?_
  refine G_end ?_
  refine R_ifp (p := v3 = 0) (eq_dec _ _) (fun hc => ?_) (fun hc => ?_)
  · replace hm := pos_inv hc hm
    refine R_seq ?_
    refine R_G ?_
    refine G_run 2 ?_
    refine G_end ?_
    refine R_ret ?_
    obtain rfl := inj1 hm
    exact ⟨trivial, fin_pureX [(.arr 0 0 v2.length v2.length)] (by kernel_rfl) (po_arr (pc_arr intD v2 rfl (fun _ => rfl) (by kernel_rfl)))⟩
  replace hm := neg_inv hc hm
  refine R_skip ?_
  refine R_seq ?_
  refine R_G ?_
  refine G_run 1 ?_
  refine G_end ?_
  refine R_seq ?_
  refine R_seq ?_
  refine R_G ?_
  refine G_run 1 ?_
  refine I_len intD p0 (es := (List.map intD) p0) rfl ?_
  refine G_run 1 ?_
  refine G_end ?_
  refine R_block ?_
  obtain ⟨v604, hs, hm⟩ := bind_inv hm
  refine R_loop ?_
  refine RL_use (w_shape_Strides_L1 _ _ hs) (prune_of2 [(.box (cellsOf intD v2))] (fun _ => (pg_cons (purge_box intD _ _ _) pg_nil)) rfl) ?_
  clear hs
  intro e s hp
  obtain ⟨rfl, d, rfl⟩ := hp
  refine R_seq ?_
  refine R_G ?_
  refine G_run 2 ?_
  refine G_end ?_
  refine R_ret ?_
  obtain ⟨_, hl609, hm⟩ := bind_inv hm
  replace hl609 := guard_inv hl609
  obtain rfl := inj1 hm
  exact ⟨trivial, fin_pureX [(.arr 0 0 v2.length v2.length)] (by kernel_rfl) (po_arr (pc_arr intD v604 hl609 (fun _ => rfl) (by kernel_rfl)))⟩
end Go.Proofs.Tryz
namespace Go.Proofs.Tryz
open Go Go.Pm
set_option linter.unusedVariables false
set_option maxHeartbeats 2000000
set_option maxRecDepth 2000
def m_access_Direct (x : (Int × (List Int))) : Option T_access_Access :=
  match x with
  | (p0, p1) =>
  m_shape_Strides p1 >>= fun (v1 : (List Int)) =>
  some (⟨2, p0, 0, v1, 0, 0, 0⟩ : T_access_Access)
def P_access_Direct : (Int × (List Int)) → T_access_Access → Prop := fun x r => match x, r with
  | (p0, p1), r0 => ∀ H, PC prog env 24 ([(intD p0), (.lst ((List.map intD) p1))].map .dat) H (.dat (T_access_Access.toD r0)) H
theorem w_access_Direct : ∀ x r, m_access_Direct x = some r → P_access_Direct x r := by
  intro x r0 hm
  unfold m_access_Direct at hm
  unfold P_access_Direct
  obtain ⟨p0, p1⟩ := x
  intro H
  refine PC_sx (ds := [(intD p0), (.lst ((List.map intD) p1))]) (fn := f24) (by kernel_rfl) (by kernel_rfl) rfl ?_ (by kernel_rfl)
  refine R_seq ?_
  refine R_G ?_
  refine G_run 1 ?_
  refine G_end ?_
  refine R_seq ?_
  refine R_G ?_
  refine G_run 2 ?_
  obtain ⟨v1, hx, hm⟩ := bind_inv hm
  have hq := w_shape_Strides _ _ hx []
  refine G_callP hq ?_
  refine G_run 2 ?_
  refine G_end ?_
  refine R_ret ?_
  obtain rfl := inj1 hm
  exact ⟨trivial, fin_pure (by kernel_rfl)⟩
end Go.Proofs.Tryz
namespace Go.Proofs.Tryz
open Go Go.Pm
set_option linter.unusedVariables false
set_option maxHeartbeats 2000000
set_option maxRecDepth 2000
def m_odometer_Count_L1 (x : ((List Int) × (List Int) × Int)) : Option (Unit ⊕ Unit) :=
  match x with
  | (p0, p1, v201) =>
  if v201 < (p0.length : Int) then
    idx p0 v201 >>= fun v601 =>
    idx p1 v201 >>= fun v602 =>
    if v601 ≥ v602 then
      some (Sum.inl ())
    else
    m_odometer_Count_L1 (p0, p1, (W (v201 + 1)))
  else
  some (Sum.inr ())
  partial_fixpoint
def P_odometer_Count_L1 : ((List Int) × (List Int) × Int) → (Unit ⊕ Unit) → Prop := fun x r => match x with
  | (p0, p1, v201) => ∀ st, prune 0 ((firstRegion (codeAt [1, 1, 0, 1, 0, 0] (bodyOf f61))).bind (env.hint 61).keepAt) st = ⟨kp 41 [(0, (.dat (.lst ((List.map intD) p0)))), (1, (.dat (.lst ((List.map intD) p1)))), (5, (intPV 1)), (9, (intPV (p0.length : Int))), (10, (intPV v201))], []⟩ →
    RL prog env (env.hint 61) true (codeAt [1, 1, 0, 1, 0, 0] (bodyOf f61)) 0 st (fun e s => match r with | .inl _ => e = .ret ∧ ∃ d, s = ⟨sl d 41 [(4, (intPV 0))], []⟩ | .inr (_) => e = .exit 0 ∧ ∃ d, s = ⟨sl d 41 [(0, (.dat (.lst ((List.map intD) p0)))), (1, (.dat (.lst ((List.map intD) p1)))), (5, (intPV 1))], []⟩)
theorem w_odometer_Count_L1 : ∀ x r, m_odometer_Count_L1 x = some r → P_odometer_Count_L1 x r := by
  refine m_odometer_Count_L1.partial_correctness _ (fun m_odometer_Count_L1 w_odometer_Count_L1 x r hm => ?_)
  unfold P_odometer_Count_L1
  obtain ⟨p0, p1, v201⟩ := x
  intro st hst
  refine RL_at hst ?_
  clear hst
  refine R_seq ?_
  refine R_G ?_
  refine G_run 1 ?_
  refine G_end ?_
  refine R_seq ?_
  refine R_ifp (p := v201 < (p0.length : Int)) (rfl) (fun hc => ?_) (fun hc => ?_)
  · replace hm := pos_inv hc hm
    refine R_skip ?_
    refine R_seq ?_
    refine R_block ?_
    refine R_seq ?_
    refine R_G ?_
    refine G_run 2 ?_
    refine G_end ?_
    refine R_seq ?_
    refine R_GD ?_
    refine G_run 2 ?_
    obtain ⟨v601, hx, hm⟩ := bind_inv hm
    refine I_idx 1 intD p0 v201 v601 (es := (List.map intD) p0) (d := (intD v601)) rfl hx rfl rfl ?_
    refine G_run 3 ?_
    obtain ⟨v602, hx, hm⟩ := bind_inv hm
    refine I_idx 1 intD p1 v201 v602 (es := (List.map intD) p1) (d := (intD v602)) rfl hx rfl rfl ?_
    refine G_run 2 ?_
    refine G_end ⟨by kernel_rfl, ?_⟩
    refine R_ifp (p := v601 ≥ v602) (rfl) (fun hc => ?_) (fun hc => ?_)
    · replace hm := pos_inv hc hm
      refine R_seq ?_
      refine R_G ?_
      refine G_run 1 ?_
      refine G_end ?_
      refine R_ret ?_
      obtain rfl := inj1 hm
      exact ⟨rfl, cut_leaf (by kernel_rfl)⟩
    replace hm := neg_inv hc hm
    refine R_skip ?_
    refine R_G ?_
    refine G_run 2 ?_
    refine G_end ?_
    exact w_odometer_Count_L1 _ _ hm _ (by kernel_rfl)
  replace hm := neg_inv hc hm
  refine R_exit ?_
  obtain rfl := inj1 hm
  exact ⟨rfl, cut_leaf (by kernel_rfl)⟩
def m_odometer_Count_L2 (x : ((List Int) × (List Int) × Int × Int)) : Option (Int) :=
  match x with
  | (p0, p1, v803, v804) =>
  if v804 < (p0.length : Int) then
    idx p1 v804 >>= fun v1204 =>
    idx p0 v804 >>= fun v1205 =>
    m_odometer_Count_L2 (p0, p1, (W (v803 * (W (v1204 - v1205)))), (W (v804 + 1)))
  else
  some v803
  partial_fixpoint
def P_odometer_Count_L2 : ((List Int) × (List Int) × Int × Int) → Int → Prop := fun x r => match x with
  | (p0, p1, v803, v804) => ∀ st, prune 0 ((firstRegion (codeAt [1, 1, 1, 0, 1, 0, 0] (bodyOf f61))).bind (env.hint 61).keepAt) st = ⟨kp 41 [(0, (.dat (.lst ((List.map intD) p0)))), (1, (.dat (.lst ((List.map intD) p1)))), (5, (intPV v803)), (24, (intPV (p0.length : Int))), (25, (intPV v804))], []⟩ →
    RL prog env (env.hint 61) true (codeAt [1, 1, 1, 0, 1, 0, 0] (bodyOf f61)) 0 st (fun e s => match r with | v1203 => e = .exit 2 ∧ ∃ d, s = ⟨sl d 41 [(5, (intPV v1203))], []⟩)
theorem w_odometer_Count_L2 : ∀ x r, m_odometer_Count_L2 x = some r → P_odometer_Count_L2 x r := by
  refine m_odometer_Count_L2.partial_correctness _ (fun m_odometer_Count_L2 w_odometer_Count_L2 x r hm => ?_)
  unfold P_odometer_Count_L2
  obtain ⟨p0, p1, v803, v804⟩ := x
  intro st hst
  refine RL_at hst ?_
  clear hst
  refine R_seq ?_
  refine R_G ?_
  refine G_run 1 ?_
  refine G_end ?_
  refine R_seq ?_
  refine R_ifp (p := v804 < (p0.length : Int)) (rfl) (fun hc => ?_) (fun hc => ?_)
  · replace hm := pos_inv hc hm
    refine R_skip ?_
    refine R_seq ?_
    refine R_block ?_
    refine R_seq ?_
    refine R_G ?_
    refine G_run 2 ?_
    refine G_end ?_
    refine R_GD ?_
    refine G_run 3 ?_
    obtain ⟨v1204, hx, hm⟩ := bind_inv hm
    refine I_idx 1 intD p1 v804 v1204 (es := (List.map intD) p1) (d := (intD v1204)) rfl hx rfl rfl ?_
    refine G_run 3 ?_
    obtain ⟨v1205, hx, hm⟩ := bind_inv hm
    refine I_idx 1 intD p0 v804 v1205 (es := (List.map intD) p0) (d := (intD v1205)) rfl hx rfl rfl ?_
    refine G_run 4 ?_
    refine G_end ⟨by kernel_rfl, ?_⟩
    refine R_G ?_
    refine G_run 2 ?_
    refine G_end ?_
    exact w_odometer_Count_L2 _ _ hm _ (by kernel_rfl)
  replace hm := neg_inv hc hm
  refine R_exit ?_
  obtain rfl := inj1 hm
  exact ⟨rfl, cut_leaf (by kernel_rfl)⟩
def m_odometer_Count (x : ((List Int) × (List Int))) : Option Int :=
  match x with
  | (p0, p1) =>
  (
  m_odometer_Count_L1 (p0, p1, 0) >>= fun (out : Unit ⊕ Unit) =>
  match out with
  | .inl _ =>
    some 0
  | .inr (_) =>
    m_odometer_Count_L2 (p0, p1, 1, 0) >>= fun (v1203 : Int) =>
    some v1203
  )
def P_odometer_Count : ((List Int) × (List Int)) → Int → Prop := fun x r => match x, r with
  | (p0, p1), r0 => ∀ H, PC prog env 61 ([(.lst ((List.map intD) p0)), (.lst ((List.map intD) p1))].map .dat) H (intPV r0) H
theorem w_odometer_Count : ∀ x r, m_odometer_Count x = some r → P_odometer_Count x r := by
  intro x r0 hm
  unfold m_odometer_Count at hm
  unfold P_odometer_Count
  obtain ⟨p0, p1⟩ := x
  intro H
  refine PC_sx (ds := [(.lst ((List.map intD) p0)), (.lst ((List.map intD) p1))]) (fn := f61) (by kernel_rfl) (by kernel_rfl) rfl ?_ (by kernel_rfl)
  refine R_seq ?_
  refine R_G ?_
  refine G_run 1 ?_
  refine G_end ?_
  refine R_seq ?_
  refine R_G ?_
  refine G_run 1 ?_
  refine G_end ?_
  refine R_seq ?_
  refine R_seq ?_
  refine R_G ?_
  refine G_run 1 ?_
  refine I_len intD p0 (es := (List.map intD) p0) rfl ?_
  refine G_run 1 ?_
  refine G_end ?_
  refine R_block ?_
  obtain ⟨out, hs, hm⟩ := bind_inv hm
  refine R_loop ?_
  rcases out with _ | _
  · refine RL_use (w_odometer_Count_L1 _ _ hs) (by kernel_rfl) ?_
    clear hs
    intro e s hp
    obtain ⟨rfl, d, rfl⟩ := hp
    obtain rfl := inj1 hm
    exact ⟨trivial, fin_pure (by kernel_rfl)⟩
  · refine RL_use (w_odometer_Count_L1 _ _ hs) (by kernel_rfl) ?_
    clear hs
    intro e s hp
    obtain ⟨rfl, d, rfl⟩ := hp
    refine R_seq ?_
    refine R_seq ?_
    refine R_G ?_
    refine G_run 1 ?_
    refine I_len intD p0 (es := (List.map intD) p0) rfl ?_
    refine G_run 1 ?_
    refine G_end ?_
    refine R_block ?_
    obtain ⟨v1203, hs, hm⟩ := bind_inv hm
    refine R_loop ?_
    refine RL_use (w_odometer_Count_L2 _ _ hs) (by kernel_rfl) ?_
    clear hs
    intro e s hp
    obtain ⟨rfl, d, rfl⟩ := hp
    refine R_seq ?_
    refine R_G ?_
    refine G_run 2 ?_
    refine G_end ?_
    refine R_ret ?_
    obtain rfl := inj1 hm
    exact ⟨trivial, fin_pure (by kernel_rfl)⟩
end Go.Proofs.Tryz
namespace Go.Proofs.Tryz
open Go Go.Pm
set_option linter.unusedVariables false
set_option maxHeartbeats 2000000
set_option maxRecDepth 2000
def m_box_Size (x : T_box_Box) : Option Int :=
  match x with
  | p0 =>
  m_odometer_Count (p0.lo, p0.hi) >>= fun (v1 : Int) =>
  some v1
def P_box_Size : T_box_Box → Int → Prop := fun x r => match x, r with
  | p0, r0 => ∀ H, PC prog env 31 ([(T_box_Box.toD p0)].map .dat) H (intPV r0) H
theorem w_box_Size : ∀ x r, m_box_Size x = some r → P_box_Size x r := by
  intro p0 r0 hm
  unfold m_box_Size at hm
  unfold P_box_Size
  intro H
  refine PC_sx (ds := [(T_box_Box.toD p0)]) (fn := f31) (by kernel_rfl) (by kernel_rfl) rfl ?_ (by kernel_rfl)
  refine R_seq ?_
  refine R_G ?_
  refine G_run 2 ?_
  refine G_end ?_
  refine R_seq ?_
  refine R_G ?_
  refine G_run 4 ?_
  obtain ⟨v1, hx, hm⟩ := bind_inv hm
  have hq := w_odometer_Count _ _ hx []
  refine G_callP hq ?_
  refine G_run 1 ?_
  refine G_end ?_
  refine R_ret ?_
  obtain rfl := inj1 hm
  exact ⟨trivial, fin_pure (by kernel_rfl)⟩
end Go.Proofs.Tryz
namespace Go.Proofs.Tryz
open Go Go.Pm
set_option linter.unusedVariables false
set_option maxHeartbeats 2000000
set_option maxRecDepth 2000
def m_piece_listed_1 (x : T_piece_Piece) : Option Bool :=
  match x with
  | p0 =>
  m_box_Size (⟨p0.box.lo, p0.box.hi⟩ : T_box_Box) >>= fun (v1 : Int) =>
  some (decide (v1 > 0))
def P_piece_listed_1 : T_piece_Piece → Bool → Prop := fun x r => match x, r with
  | p0, r0 => ∀ H, PC prog env 53 ([(T_piece_Piece.toD p0)].map .dat) H (boolPV r0) H
theorem w_piece_listed_1 : ∀ x r, m_piece_listed_1 x = some r → P_piece_listed_1 x r := by
  intro p0 r0 hm
  unfold m_piece_listed_1 at hm
  unfold P_piece_listed_1
  intro H
  refine PC_sx (ds := [(T_piece_Piece.toD p0)]) (fn := f53) (by kernel_rfl) (by kernel_rfl) rfl ?_ (by kernel_rfl)
  refine R_seq ?_
  refine R_G ?_
  refine G_run 2 ?_
  refine G_end ?_
  refine R_seq ?_
  refine R_G ?_
  refine G_run 2 ?_
  obtain ⟨v1, hx, hm⟩ := bind_inv hm
  have hq := w_box_Size _ _ hx []
  refine G_callP hq ?_
  refine G_run 2 ?_
  refine G_end ?_
  refine R_ret ?_
  obtain rfl := inj1 hm
  exact ⟨trivial, fin_pure (by kernel_rfl)⟩
end Go.Proofs.Tryz
namespace Go.Proofs.Tryz
open Go Go.Pm
set_option linter.unusedVariables false
set_option maxHeartbeats 2000000
set_option maxRecDepth 2000
def m_piece_kept_piece_Piece_b5533_L1 (x : ((List T_piece_Piece) × Nat × (List T_piece_Piece) × Int)) : Option ((Nat × (List T_piece_Piece))) :=
  match x with
  | (q0, v201, v202, v203) =>
  if v203 < (q0.length : Int) then
    idx q0 v203 >>= fun v603 =>
    m_piece_listed_1 v603 >>= fun (v604 : Bool) =>
    if v604 = true then
      app 120 v202 ([v603] : List T_piece_Piece) >>= fun v605 =>
      m_piece_kept_piece_Piece_b5533_L1 (q0, (v201 + 1), v605, (W (v203 + 1)))
    else
    m_piece_kept_piece_Piece_b5533_L1 (q0, v201, v202, (W (v203 + 1)))
  else
  some (v201, v202)
  partial_fixpoint
def P_piece_kept_piece_Piece_b5533_L1 : ((List T_piece_Piece) × Nat × (List T_piece_Piece) × Int) → (Nat × (List T_piece_Piece)) → Prop := fun x r => match x with
  | (q0, v201, v202, v203) => ∀ st, prune 1 ((firstRegion (codeAt [1, 1, 0, 1, 0, 0] (bodyOf f52))).bind (env.hint 52).keepAt) st = ⟨kp 23 [(1, (.dat (.raw (.func (.func 53) #[] #[])))), (5, (.ms 0 v201 0 v202.length v202.length)), (8, (.dat (.lst ((List.map T_piece_Piece.toD) q0)))), (9, (intPV (q0.length : Int))), (10, (intPV v203))], [(.mt 49 v201 (cellsOf T_piece_Piece.toD v202))]⟩ →
    RL prog env (env.hint 52) true (codeAt [1, 1, 0, 1, 0, 0] (bodyOf f52)) 1 st (fun e s => match r with | (v601, v602) => e = .exit 0 ∧ ∃ d, s = ⟨sl d 23 [(5, (.ms 0 v601 0 v602.length v602.length))], [(.mt 49 v601 (cellsOf T_piece_Piece.toD v602))]⟩)
theorem w_piece_kept_piece_Piece_b5533_L1 : ∀ x r, m_piece_kept_piece_Piece_b5533_L1 x = some r → P_piece_kept_piece_Piece_b5533_L1 x r := by
  refine m_piece_kept_piece_Piece_b5533_L1.partial_correctness _ (fun m_piece_kept_piece_Piece_b5533_L1 w_piece_kept_piece_Piece_b5533_L1 x r hm => ?_)
  unfold P_piece_kept_piece_Piece_b5533_L1
  obtain ⟨q0, v201, v202, v203⟩ := x
  intro st hst
  refine RL_at hst ?_
  clear hst
  refine R_seq ?_
  refine R_G ?_
  refine G_run 1 ?_
  refine G_end ?_
  refine R_seq ?_
  refine R_ifp (p := v203 < (q0.length : Int)) (rfl) (fun hc => ?_) (fun hc => ?_)
  · replace hm := pos_inv hc hm
    refine R_skip ?_
    refine R_seq ?_
    refine R_block ?_
    refine R_seq ?_
    refine R_G ?_
    obtain ⟨v603, hx, hm⟩ := bind_inv hm
    refine I_idx 9 T_piece_Piece.toD q0 v203 v603 (es := (List.map T_piece_Piece.toD) q0) (d := (T_piece_Piece.toD v603)) rfl hx rfl rfl ?_
    refine G_run 3 ?_
    refine G_end ?_
    refine R_seq ?_
    refine R_G ?_
    refine G_run 2 ?_
    obtain ⟨v604, hx, hm⟩ := bind_inv hm
    have hq := w_piece_listed_1 _ _ hx []
    refine G_callP hq ?_
    refine G_end ?_
    refine R_ifp (p := v604 = true) (bool_dec _) (fun hc => ?_) (fun hc => ?_)
    · replace hm := pos_inv hc hm
      refine R_G ?_
      refine G_run 3 ?_
      obtain ⟨v605, hx, hm⟩ := bind_inv hm
      refine G_semH (v := .ms 0 (v201 + 1) 0 v605.length v605.length) (fun H => H.set 0 (.mt 49 (v201 + 1) (cellsOf T_piece_Piece.toD v605))) rfl (by kernel_rfl) (fun _ hk => E_apMu T_piece_Piece.toD (l := v202) (es := ([v603] : List T_piece_Piece)) (bytes := 120) (e := 49) (tt := 0) (g := v201) (m := v202.length) (size := 9) hx T_piece_Piece.fit rfl (by kernel_rfl) (by kernel_rfl) rfl (by kernel_rfl) (by kernel_rfl) rfl rfl (by kernel_rfl) rfl (by kernel_rfl) (by kernel_rfl) hk) ?_
      refine G_run 1 ?_
      refine G_end ?_
      refine R_G ?_
      refine G_run 2 ?_
      refine G_end ?_
      exact w_piece_kept_piece_Piece_b5533_L1 _ _ hm _ (prune_of2 [(.mt 49 (v201 + 1) (cellsOf T_piece_Piece.toD v605))] (fun _ => (pg_cons (purge_mt T_piece_Piece.toD _ _ _ _ _) pg_nil)) rfl)
    replace hm := neg_inv hc hm
    refine R_skip ?_
    refine R_G ?_
    refine G_run 2 ?_
    refine G_end ?_
    exact w_piece_kept_piece_Piece_b5533_L1 _ _ hm _ (prune_of2 [(.mt 49 v201 (cellsOf T_piece_Piece.toD v202))] (fun _ => (pg_cons (purge_mt T_piece_Piece.toD _ _ _ _ _) pg_nil)) rfl)
  replace hm := neg_inv hc hm
  refine R_exit ?_
  obtain rfl := inj1 hm
  exact ⟨rfl, cut_leaf (by kernel_rfl)⟩
def m_piece_kept_piece_Piece_b5533 (x : (List T_piece_Piece)) : Option ((Nat × (List T_piece_Piece))) :=
  match x with
  | q0 =>
  m_piece_kept_piece_Piece_b5533_L1 (q0, 0, ([] : List T_piece_Piece), 0) >>= fun ((v601, v602) : (Nat × (List T_piece_Piece))) =>
  some (v601, v602)
def P_piece_kept_piece_Piece_b5533 : (List T_piece_Piece) → (Nat × (List T_piece_Piece)) → Prop := fun x r => match x with
  | q0 => PC prog env 52 [(.dat (.lst ((List.map T_piece_Piece.toD) q0))), (.dat (.raw (.func (.func 53) #[] #[])))] [] (match r with | (v5001, v5002) => (.ms 0 v5001 0 v5002.length v5002.length)) (match r with | (v5001, v5002) => [(.mt 49 v5001 (cellsOf T_piece_Piece.toD v5002))])
theorem w_piece_kept_piece_Piece_b5533 : ∀ x r, m_piece_kept_piece_Piece_b5533 x = some r → P_piece_kept_piece_Piece_b5533 x r := by
  intro q0 r hm
  unfold m_piece_kept_piece_Piece_b5533 at hm
  unfold P_piece_kept_piece_Piece_b5533
  refine PC_sxB (fn := f52) (by kernel_rfl) (by kernel_rfl) rfl ?_
  refine R_seq ?_
  refine R_G ?_
  refine G_run 1 ?_
  refine G_end ?_
  refine R_seq ?_
  refine R_G ?_
  refine G_run 1 ?_
  refine G_end ?_
  refine R_seq ?_
  refine R_seq ?_
  refine R_G ?_
  refine G_run 1 ?_
  refine I_len T_piece_Piece.toD q0 (es := (List.map T_piece_Piece.toD) q0) rfl ?_
  refine G_run 1 ?_
  refine G_end ?_
  refine R_block ?_
  obtain ⟨⟨v601, v602⟩, hs, hm⟩ := bind_inv hm
  refine R_loop ?_
  refine RL_use (w_piece_kept_piece_Piece_b5533_L1 _ _ hs) (prune_of2 [(.mt 49 0 (cellsOf T_piece_Piece.toD ([] : List T_piece_Piece)))] (fun _ => (pg_cons (purge_mt T_piece_Piece.toD _ _ _ _ _) pg_nil)) rfl) ?_
  clear hs
  intro e s hp
  obtain ⟨rfl, d, rfl⟩ := hp
  refine R_seq ?_
  refine R_G ?_
  refine G_run 2 ?_
  refine G_end ?_
  refine R_ret ?_
  obtain rfl := inj1 hm
  exact ⟨trivial, fin_body (by kernel_rfl) (by kernel_rfl)⟩
end Go.Proofs.Tryz
namespace Go.Proofs.Tryz
open Go Go.Pm
set_option linter.unusedVariables false
set_option maxHeartbeats 2000000
set_option maxRecDepth 2000
def m_slices_SortFunc_piece_Piece_piece_Piece__piece_before_own (x : List T_piece_Piece) : Option Unit := if x.length ≤ 1 then some () else none
def P_slices_SortFunc_piece_Piece_piece_Piece__piece_before_own : List T_piece_Piece → Unit → Prop := fun x _ => PC prog env 54 [(.ms 0 1 0 x.length x.length), (.dat (.raw (.func (.func 33) #[] #[])))] [(.mt 49 1 (cellsOf T_piece_Piece.toD x))] (.tup []) [(.mt 49 1 (cellsOf T_piece_Piece.toD x))]
theorem w_slices_SortFunc_piece_Piece_piece_Piece__piece_before_own : ∀ x r, m_slices_SortFunc_piece_Piece_piece_Piece__piece_before_own x = some r → P_slices_SortFunc_piece_Piece_piece_Piece__piece_before_own x r := by
  intro x r hm
  unfold m_slices_SortFunc_piece_Piece_piece_Piece__piece_before_own at hm
  match x, hm with
  | [], _ => exact PC_of (n := 60) (by kernel_rfl)
  | [a], _ => exact PC_of (n := 60) (by kernel_rfl)
  | _ :: _ :: _, hm => simp at hm
end Go.Proofs.Tryz
namespace Go.Proofs.Tryz
open Go Go.Pm
set_option linter.unusedVariables false
set_option maxHeartbeats 2000000
set_option maxRecDepth 2000
def m_piece_listed (x : (List T_piece_Piece)) : Option (List T_piece_Piece) :=
  match x with
  | p0 =>
  m_piece_kept_piece_Piece_b5533 p0 >>= fun ((v1, v2) : (Nat × (List T_piece_Piece))) =>
  m_slices_SortFunc_piece_Piece_piece_Piece__piece_before_own v2 >>= fun (_ : Unit) =>
  some v2
def P_piece_listed : (List T_piece_Piece) → (List T_piece_Piece) → Prop := fun x r => match x, r with
  | p0, r0 => ∀ H, PC prog env 22 ([(.lst ((List.map T_piece_Piece.toD) p0))].map .dat) H (.dat (.lst ((List.map T_piece_Piece.toD) r0))) H
theorem w_piece_listed : ∀ x r, m_piece_listed x = some r → P_piece_listed x r := by
  intro p0 r0 hm
  unfold m_piece_listed at hm
  unfold P_piece_listed
  intro H
  refine PC_sx (ds := [(.lst ((List.map T_piece_Piece.toD) p0))]) (fn := f22) (by kernel_rfl) (by kernel_rfl) rfl ?_ (by kernel_rfl)
  refine R_seq ?_
  refine R_G ?_
  refine G_run 1 ?_
  refine G_end ?_
  refine R_seq ?_
  refine R_G ?_
  refine G_run 1 ?_
  obtain ⟨⟨v1, v2⟩, hx, hm⟩ := bind_inv hm
  have hq := w_piece_kept_piece_Piece_b5533 _ _ hx
  dsimp only [P_piece_kept_piece_Piece_b5533] at hq
  have hl9 : mtOf [(.mt 49 v1 (cellsOf T_piece_Piece.toD v2))] 0 = some (49, v1, cellsOf T_piece_Piece.toD v2) := mtOf_at (by kernel_rfl)
  refine G_semH (v := .ms 0 1 0 v2.length v2.length) (fun H => H ++ [.mt 49 1 (cellsOf T_piece_Piece.toD v2)]) rfl (by kernel_rfl) ?_ ?_
  · intro K hk
    refine E_callOwnN 0 (first := #[]) (cap := #[]) (j := (0, 49)) (ow' := []) (f0 := T_piece_Piece.toD) (l := v2) rfl ?_ ?_ ?_ (ds := [(.lst ((List.map T_piece_Piece.toD) p0)), (.raw (.func (.func 53) #[] #[]))]) ?_ hq hl9 ?_ ?_ ?_
    · kernel_rfl
    · kernel_rfl
    · kernel_rfl
    · kernel_rfl
    · exact hk
    · kernel_rfl
    · decide
  refine G_run 1 ?_
  refine G_end ?_
  refine R_seq ?_
  refine R_G ?_
  refine G_run 1 ?_
  obtain ⟨_, hx, hm⟩ := bind_inv hm
  have hq := w_slices_SortFunc_piece_Piece_piece_Piece__piece_before_own _ _ hx
  dsimp only [P_slices_SortFunc_piece_Piece_piece_Piece__piece_before_own] at hq
  refine G_callB hq ?_
  refine G_end ?_
  refine R_seq ?_
  refine R_G ?_
  refine G_run 2 ?_
  refine G_end ?_
  refine R_ret ?_
  obtain rfl := inj1 hm
  exact ⟨trivial, fin_pureX [(.ms 0 1 0 v2.length v2.length)] (by kernel_rfl) (po_ms (pc_mu (e := 49) T_piece_Piece.toD v2 rfl (fun _ => rfl) (by kernel_rfl)))⟩
end Go.Proofs.Tryz
namespace Go.Proofs.Tryz
open Go Go.Pm
set_option linter.unusedVariables false
set_option maxHeartbeats 2000000
set_option maxRecDepth 2000
def m_piece_Whole (x : (Int × (List Int))) : Option (List T_piece_Piece) :=
  match x with
  | (p0, p1) =>
  m_box_Whole_b4e7c p1 >>= fun ((v1, v2, v3) : (Nat × (List Int) × (List Int))) =>
  m_access_Direct (p0, p1) >>= fun (v4 : T_access_Access) =>
  m_piece_listed ([(⟨(⟨v2, v3⟩ : T_box_Box), v4⟩ : T_piece_Piece)] : List T_piece_Piece) >>= fun (v5 : (List T_piece_Piece)) =>
  some v5
def P_piece_Whole : (Int × (List Int)) → (List T_piece_Piece) → Prop := fun x r => match x, r with
  | (p0, p1), r0 => ∀ H, PC prog env 6 ([(intD p0), (.lst ((List.map intD) p1))].map .dat) H (.dat (.lst ((List.map T_piece_Piece.toD) r0))) H
theorem w_piece_Whole : ∀ x r, m_piece_Whole x = some r → P_piece_Whole x r := by
  intro x r0 hm
  unfold m_piece_Whole at hm
  unfold P_piece_Whole
  obtain ⟨p0, p1⟩ := x
  intro H
  refine PC_sx (ds := [(intD p0), (.lst ((List.map intD) p1))]) (fn := f6) (by kernel_rfl) (by kernel_rfl) rfl ?_ (by kernel_rfl)
  refine R_seq ?_
  refine R_G ?_
  refine G_run 1 ?_
  refine G_end ?_
  refine R_seq ?_
  refine R_G ?_
  refine G_run 1 ?_
  obtain ⟨⟨v1, v2, v3⟩, hx, hm⟩ := bind_inv hm
  have hq := w_box_Whole_b4e7c _ _ hx
  dsimp only [P_box_Whole_b4e7c] at hq
  refine G_semN (v := .dat (.agg [(.lst ((List.map intD) v2)), (.lst ((List.map intD) v3))])) rfl (by kernel_rfl) (fun _ => E_callAlone (f := 23) (first := #[]) (cap := #[]) (e := 3) (ow' := []) (ds := [(.lst ((List.map intD) p1))]) (p := (.agg [(.ms 1 v1 0 v2.length v2.length), (.ms 2 1 0 v3.length v3.length)])) (H1 := [(.box [(.ms 1 v1 0 v2.length v2.length), (.ms 2 1 0 v3.length v3.length)]), (.mt 3 v1 (cellsOf intD v2)), (.mt 3 1 (cellsOf intD v3))]) rfl (by kernel_rfl) (by kernel_rfl) (by kernel_rfl) (by kernel_rfl) hq (p1_agg (pc_cons (pc_ms (e := 3) intD v2 rfl (fun _ => rfl) (by kernel_rfl)) (pc_cons (pc_ms (e := 3) intD v3 rfl (fun _ => rfl) (by kernel_rfl)) pc_nil)))) ?_
  refine G_run 2 ?_
  obtain ⟨v4, hx, hm⟩ := bind_inv hm
  have hq := w_access_Direct _ _ hx []
  refine G_callP hq ?_
  refine G_run 2 ?_
  obtain ⟨v5, hx, hm⟩ := bind_inv hm
  have hq := w_piece_listed _ _ hx []
  refine G_callP hq ?_
  refine G_run 1 ?_
  refine G_end ?_
  refine R_ret ?_
  obtain rfl := inj1 hm
  exact ⟨trivial, fin_pure (by kernel_rfl)⟩
end Go.Proofs.Tryz
namespace Go.Proofs.Tryz
open Go Go.Pm
set_option linter.unusedVariables false
set_option maxHeartbeats 2000000
set_option maxRecDepth 2000
def a_piece_Window0 : ((List T_piece_Piece) × (List Int) × (List Int) × (List Int)) := ([(⟨⟨[0], [3]⟩, ⟨2, 2, 0, [1], 0, 0, 0⟩⟩ : T_piece_Piece)], [3], [5], [-1])
def r_piece_Window0 : (List T_piece_Piece) := [(⟨⟨[0], [1]⟩, ⟨1, 0, 0, [], 0, 0, 0⟩⟩ : T_piece_Piece), (⟨⟨[1], [4]⟩, ⟨2, 2, (-1), [1], 0, 0, 0⟩⟩ : T_piece_Piece), (⟨⟨[4], [5]⟩, ⟨1, 0, 0, [], 0, 0, 0⟩⟩ : T_piece_Piece)]
def P_piece_Window : ((List T_piece_Piece) × (List Int) × (List Int) × (List Int)) → (List T_piece_Piece) → Prop := fun x r => match x, r with
  | (p0, p1, p2, p3), r0 => ∀ H, PC prog env 14 ([(.lst ((List.map T_piece_Piece.toD) p0)), (.lst ((List.map intD) p1)), (.lst ((List.map intD) p2)), (.lst ((List.map intD) p3))].map .dat) H (.dat (.lst ((List.map T_piece_Piece.toD) r0))) H
theorem k_piece_Window0 : P_piece_Window a_piece_Window0 r_piece_Window0 := fun H => PC_of (n := 200) (by kernel_rfl)
def m_piece_Window (x : ((List T_piece_Piece) × (List Int) × (List Int) × (List Int))) : Option (List T_piece_Piece) :=
  if x = a_piece_Window0 then some r_piece_Window0 else
  none
theorem w_piece_Window : ∀ x r, m_piece_Window x = some r → P_piece_Window x r := by
  intro x r hm
  unfold m_piece_Window at hm
  split at hm
  · rename_i h; subst h; cases hm; exact k_piece_Window0
  cases hm
end Go.Proofs.Tryz
namespace Go.Proofs.Tryz
open Go Go.Pm
set_option linter.unusedVariables false
set_option maxHeartbeats 2000000
set_option maxRecDepth 2000
def a_piece_Origin0 : ((List T_piece_Piece) × (List Int)) := ([(⟨⟨[0], [1]⟩, ⟨1, 0, 0, [], 0, 0, 0⟩⟩ : T_piece_Piece), (⟨⟨[1], [4]⟩, ⟨2, 2, (-1), [1], 0, 0, 0⟩⟩ : T_piece_Piece), (⟨⟨[4], [5]⟩, ⟨1, 0, 0, [], 0, 0, 0⟩⟩ : T_piece_Piece)], [2])
def a_piece_Origin1 : ((List T_piece_Piece) × (List Int)) := ([(⟨⟨[0], [1]⟩, ⟨1, 0, 0, [], 0, 0, 0⟩⟩ : T_piece_Piece), (⟨⟨[1], [4]⟩, ⟨2, 2, (-1), [1], 0, 0, 0⟩⟩ : T_piece_Piece), (⟨⟨[4], [5]⟩, ⟨1, 0, 0, [], 0, 0, 0⟩⟩ : T_piece_Piece)], [5])
def r_piece_Origin0 : (T_psi_Cell × Bool) := ((⟨false, 2, 1⟩ : T_psi_Cell), true)
def r_piece_Origin1 : (T_psi_Cell × Bool) := ((⟨false, 0, 0⟩ : T_psi_Cell), false)
def P_piece_Origin : ((List T_piece_Piece) × (List Int)) → (T_psi_Cell × Bool) → Prop := fun x r => match x, r with
  | (p0, p1), (r0, r1) => ∀ H, PC prog env 15 ([(.lst ((List.map T_piece_Piece.toD) p0)), (.lst ((List.map intD) p1))].map .dat) H (.tup [(.dat (T_psi_Cell.toD r0)), (boolPV r1)]) H
theorem k_piece_Origin0 : P_piece_Origin a_piece_Origin0 r_piece_Origin0 := fun H => PC_of (n := 200) (by kernel_rfl)
theorem k_piece_Origin1 : P_piece_Origin a_piece_Origin1 r_piece_Origin1 := fun H => PC_of (n := 200) (by kernel_rfl)
def m_piece_Origin (x : ((List T_piece_Piece) × (List Int))) : Option (T_psi_Cell × Bool) :=
  if x = a_piece_Origin0 then some r_piece_Origin0 else
  if x = a_piece_Origin1 then some r_piece_Origin1 else
  none
theorem w_piece_Origin : ∀ x r, m_piece_Origin x = some r → P_piece_Origin x r := by
  intro x r hm
  unfold m_piece_Origin at hm
  split at hm
  · rename_i h; subst h; cases hm; exact k_piece_Origin0
  split at hm
  · rename_i h; subst h; cases hm; exact k_piece_Origin1
  cases hm
end Go.Proofs.Tryz
namespace Go.Proofs.Tryz
open Go Go.Pm
set_option linter.unusedVariables false
set_option maxHeartbeats 2000000
set_option maxRecDepth 2000
def m_box_Right_L1 (x : (T_box_Box × Int)) : Option (Unit ⊕ Unit) :=
  match x with
  | (p0, v202) =>
  if v202 < (p0.lo.length : Int) then
    idx p0.lo v202 >>= fun v602 =>
    ((if v602 < 0 then
      some true
    else
    idx p0.hi v202 >>= fun v605 =>
    some (decide (v602 > v605))
    ) >>= fun (v604 : Bool) =>
    if v604 = true then
      some true
    else
    idx p0.hi v202 >>= fun v606 =>
    some (decide (v606 > 65536))
    ) >>= fun (v603 : Bool) =>
    if v603 = true then
      some (Sum.inl ())
    else
    m_box_Right_L1 (p0, (W (v202 + 1)))
  else
  some (Sum.inr ())
  partial_fixpoint
def P_box_Right_L1 : (T_box_Box × Int) → (Unit ⊕ Unit) → Prop := fun x r => match x with
  | (p0, v202) => ∀ st, prune 1 ((firstRegion (codeAt [1, 1, 0, 1, 0, 0] (bodyOf f30))).bind (env.hint 30).keepAt) st = ⟨kp 46 [(1, (.ptr 0 0)), (19, (.dat (.lst ((List.map intD) p0.lo)))), (20, (intPV (p0.lo.length : Int))), (21, (intPV v202))], [(.box [(.dat (.lst ((List.map intD) p0.lo))), (.dat (.lst ((List.map intD) p0.hi)))])]⟩ →
    RL prog env (env.hint 30) true (codeAt [1, 1, 0, 1, 0, 0] (bodyOf f30)) 1 st (fun e s => match r with | .inl _ => e = .ret ∧ ∃ d, s = ⟨sl d 46 [(2, (boolPV false))], [(.box [(.dat (.lst ((List.map intD) p0.lo))), (.dat (.lst ((List.map intD) p0.hi)))])]⟩ | .inr (_) => e = .exit 0 ∧ ∃ d, s = ⟨sl d 46 [], [(.box [(.dat (.lst ((List.map intD) p0.lo))), (.dat (.lst ((List.map intD) p0.hi)))])]⟩)
theorem w_box_Right_L1 : ∀ x r, m_box_Right_L1 x = some r → P_box_Right_L1 x r := by
  refine m_box_Right_L1.partial_correctness _ (fun m_box_Right_L1 w_box_Right_L1 x r hm => ?_)
  unfold P_box_Right_L1
  obtain ⟨p0, v202⟩ := x
  intro st hst
  refine RL_at hst ?_
  clear hst
  refine R_seq ?_
  refine R_G ?_
  refine G_run 1 ?_
  refine G_end ?_
  refine R_seq ?_
  refine R_ifp (p := v202 < (p0.lo.length : Int)) (rfl) (fun hc => ?_) (fun hc => ?_)
  · replace hm := pos_inv hc hm
    refine R_skip ?_
    refine R_seq ?_
    refine R_block ?_
    refine R_seq ?_
    refine R_G ?_
    refine G_run 1 ?_
    obtain ⟨v602, hx, hm⟩ := bind_inv hm
    refine I_idx 1 intD p0.lo v202 v602 (es := (List.map intD) p0.lo) (d := (intD v602)) rfl hx rfl rfl ?_
    refine G_run 3 ?_
    refine G_end ?_
    refine R_seq ?_
    obtain ⟨v603, hs, hm⟩ := bind_inv hm
    refine R_cut (fun d => ⟨sl d 46 [(1, (.ptr 0 0)), (19, (.dat (.lst ((List.map intD) p0.lo)))), (20, (intPV (p0.lo.length : Int))), (21, (intPV v202)), (44, (boolPV v603))], [(.box [(.dat (.lst ((List.map intD) p0.lo))), (.dat (.lst ((List.map intD) p0.hi)))])]⟩) ?_ (fun d => ?_)
    · replace hm := hs
      clear hs
      refine R_GN ?_
      refine G_run 3 ?_
      obtain ⟨v604, hs, hm⟩ := bind_inv hm
      refine G_cut (j := 11) (fun d => ⟨sl d 46 [(1, (.ptr 0 0)), (3, (intPV v202)), (4, (intPV v602)), (19, (.dat (.lst ((List.map intD) p0.lo)))), (20, (intPV (p0.lo.length : Int))), (21, (intPV v202)), (22, (boolPV (decide (v202 < (p0.lo.length : Int))))), (23, (intPV v202)), (24, (.iptr [(intD v602)])), (25, (intPV v602)), (26, (intPV v602)), (27, (boolPV (decide (v602 < 0)))), (36, (boolPV v604))], [(.box [(.dat (.lst ((List.map intD) p0.lo))), (.dat (.lst ((List.map intD) p0.hi)))])]⟩) (fun d => ?_) (fun hJ => ?_)
      · clear hs
        refine G_run 1 ?_
        refine G_split (p := v604 = true) 37 (bool_dec _) (fun hc => ?_) (fun hc => ?_)
        · replace hm := pos_inv hc hm
          refine G_run 7 ?_
          refine G_end ⟨by kernel_rfl, ?_⟩
          obtain rfl := inj1 hm
          exact cut_leaf (by kernel_rfl)
        replace hm := neg_inv hc hm
        refine G_run 3 ?_
        obtain ⟨v606, hx, hm⟩ := bind_inv hm
        refine I_idx 1 intD p0.hi v202 v606 (es := (List.map intD) p0.hi) (d := (intD v606)) rfl hx rfl rfl ?_
        refine G_run 3 ?_
        refine G_end ⟨by kernel_rfl, ?_⟩
        obtain rfl := inj1 hm
        exact cut_leaf (by kernel_rfl)
      replace hm := hs
      clear hs
      refine G_split (p := v602 < 0) 28 (rfl) (fun hc => ?_) (fun hc => ?_)
      · replace hm := pos_inv hc hm
        refine G_run 8 ?_
        obtain rfl := inj1 hm
        exact hJ _ _ (by kernel_rfl) (by kernel_rfl)
      replace hm := neg_inv hc hm
      refine G_run 4 ?_
      obtain ⟨v605, hx, hm⟩ := bind_inv hm
      refine I_idx 1 intD p0.hi v202 v605 (es := (List.map intD) p0.hi) (d := (intD v605)) rfl hx rfl rfl ?_
      refine G_run 3 ?_
      obtain rfl := inj1 hm
      exact hJ _ _ (by kernel_rfl) (by kernel_rfl)
    clear hs
    refine R_ifp (p := v603 = true) (bool_dec _) (fun hc => ?_) (fun hc => ?_)
    · replace hm := pos_inv hc hm
      refine R_seq ?_
      refine R_G ?_
      refine G_run 1 ?_
      refine G_end ?_
      refine R_ret ?_
      obtain rfl := inj1 hm
      exact ⟨rfl, cut_leaf (by kernel_rfl)⟩
    replace hm := neg_inv hc hm
    refine R_skip ?_
    refine R_G ?_
    refine G_run 2 ?_
    refine G_end ?_
    exact w_box_Right_L1 _ _ hm _ (by kernel_rfl)
  replace hm := neg_inv hc hm
  refine R_exit ?_
  obtain rfl := inj1 hm
  exact ⟨rfl, cut_leaf (by kernel_rfl)⟩
def m_box_Right (x : T_box_Box) : Option Bool :=
  match x with
  | p0 =>
  (if (p0.lo.length : Int) ≠ (p0.hi.length : Int) then
    some true
  else
  some (decide ((p0.lo.length : Int) > 16))
  ) >>= fun (v1 : Bool) =>
  if v1 = true then
    some false
  else
  (
  m_box_Right_L1 (p0, 0) >>= fun (out : Unit ⊕ Unit) =>
  match out with
  | .inl _ =>
    some false
  | .inr (_) =>
    some true
  )
def P_box_Right : T_box_Box → Bool → Prop := fun x r => match x, r with
  | p0, r0 => ∀ H, PC prog env 30 ([(T_box_Box.toD p0)].map .dat) H (boolPV r0) H
theorem w_box_Right : ∀ x r, m_box_Right x = some r → P_box_Right x r := by
  intro p0 r0 hm
  unfold m_box_Right at hm
  unfold P_box_Right
  intro H
  refine PC_sx (ds := [(T_box_Box.toD p0)]) (fn := f30) (by kernel_rfl) (by kernel_rfl) rfl ?_ (by kernel_rfl)
  refine R_seq ?_
  refine R_G ?_
  refine G_run 2 ?_
  refine G_end ?_
  refine R_seq ?_
  refine R_seq ?_
  obtain ⟨v1, hs, hm⟩ := bind_inv hm
  refine R_cut (fun d => ⟨sl d 46 [(1, (.ptr 0 0)), (17, (boolPV v1))], [(.box [(.dat (.lst ((List.map intD) p0.lo))), (.dat (.lst ((List.map intD) p0.hi)))])]⟩) ?_ (fun d => ?_)
  · replace hm := hs
    clear hs
    refine R_G ?_
    refine G_run 2 ?_
    refine I_len intD p0.lo (es := (List.map intD) p0.lo) rfl ?_
    refine G_run 2 ?_
    refine I_len intD p0.hi (es := (List.map intD) p0.hi) rfl ?_
    refine G_run 2 ?_
    refine G_split (p := (p0.lo.length : Int) ≠ (p0.hi.length : Int)) 12 (ne_dec _ _) (fun hc => ?_) (fun hc => ?_)
    · replace hm := pos_inv hc hm
      refine G_run 5 ?_
      refine G_end ?_
      obtain rfl := inj1 hm
      exact cut_leaf (by kernel_rfl)
    replace hm := neg_inv hc hm
    refine G_run 2 ?_
    refine I_len intD p0.lo (es := (List.map intD) p0.lo) rfl ?_
    refine G_run 2 ?_
    refine G_end ?_
    obtain rfl := inj1 hm
    exact cut_leaf (by kernel_rfl)
  clear hs
  refine R_ifp (p := v1 = true) (bool_dec _) (fun hc => ?_) (fun hc => ?_)
  · replace hm := pos_inv hc hm
    refine R_seq ?_
    refine R_G ?_
    refine G_run 1 ?_
    refine G_end ?_
    refine R_ret ?_
    obtain rfl := inj1 hm
    exact ⟨trivial, fin_pure (by kernel_rfl)⟩
  replace hm := neg_inv hc hm
  refine R_skip ?_
  refine R_seq ?_
  refine R_seq ?_
  refine R_G ?_
  refine G_run 2 ?_
  refine I_len intD p0.lo (es := (List.map intD) p0.lo) rfl ?_
  refine G_run 1 ?_
  refine G_end ?_
  refine R_block ?_
  obtain ⟨out, hs, hm⟩ := bind_inv hm
  refine R_loop ?_
  rcases out with _ | _
  · refine RL_use (w_box_Right_L1 _ _ hs) (by kernel_rfl) ?_
    clear hs
    intro e s hp
    obtain ⟨rfl, d, rfl⟩ := hp
    obtain rfl := inj1 hm
    exact ⟨trivial, fin_pure (by kernel_rfl)⟩
  · refine RL_use (w_box_Right_L1 _ _ hs) (by kernel_rfl) ?_
    clear hs
    intro e s hp
    obtain ⟨rfl, d, rfl⟩ := hp
    refine R_seq ?_
    refine R_G ?_
    refine G_run 1 ?_
    refine G_end ?_
    refine R_ret ?_
    obtain rfl := inj1 hm
    exact ⟨trivial, fin_pure (by kernel_rfl)⟩
end Go.Proofs.Tryz
namespace Go.Proofs.Tryz
open Go Go.Pm
set_option linter.unusedVariables false
set_option maxHeartbeats 2000000
set_option maxRecDepth 2000
def m_access_far (x : Int) : Option Bool :=
  match x with
  | p0 =>
  if p0 < (-1099511627776) then
    some true
  else
  some (decide (p0 > 1099511627776))
def P_access_far : Int → Bool → Prop := fun x r => match x, r with
  | p0, r0 => ∀ H, PC prog env 63 ([(intD p0)].map .dat) H (boolPV r0) H
theorem w_access_far : ∀ x r, m_access_far x = some r → P_access_far x r := by
  intro p0 r0 hm
  unfold m_access_far at hm
  unfold P_access_far
  intro H
  refine PC_sx (ds := [(intD p0)]) (fn := f63) (by kernel_rfl) (by kernel_rfl) rfl ?_ (by kernel_rfl)
  refine R_seq ?_
  refine R_G ?_
  refine G_run 1 ?_
  refine G_end ?_
  refine R_seq ?_
  refine R_G ?_
  refine G_run 3 ?_
  refine G_split (p := p0 < (-1099511627776)) 5 (rfl) (fun hc => ?_) (fun hc => ?_)
  · replace hm := pos_inv hc hm
    refine G_run 4 ?_
    refine G_end ?_
    refine R_ret ?_
    obtain rfl := inj1 hm
    exact ⟨trivial, fin_pure (by kernel_rfl)⟩
  replace hm := neg_inv hc hm
  refine G_run 4 ?_
  refine G_end ?_
  refine R_ret ?_
  obtain rfl := inj1 hm
  exact ⟨trivial, fin_pure (by kernel_rfl)⟩
end Go.Proofs.Tryz
namespace Go.Proofs.Tryz
open Go Go.Pm
set_option linter.unusedVariables false
set_option maxHeartbeats 2000000
set_option maxRecDepth 2000
def m_slices_IndexFunc_int_int_access_far_L1 (x : ((List Int) × Int)) : Option (Int ⊕ Unit) :=
  match x with
  | (p0, v201) =>
  if v201 < (p0.length : Int) then
    idx p0 v201 >>= fun v602 =>
    m_access_far v602 >>= fun (v603 : Bool) =>
    if v603 = true then
      some (Sum.inl v201)
    else
    m_slices_IndexFunc_int_int_access_far_L1 (p0, (W (v201 + 1)))
  else
  some (Sum.inr ())
  partial_fixpoint
def P_slices_IndexFunc_int_int_access_far_L1 : ((List Int) × Int) → (Int ⊕ Unit) → Prop := fun x r => match x with
  | (p0, v201) => ∀ st, prune 0 ((firstRegion (codeAt [1, 0, 1, 0, 0] (bodyOf f87))).bind (env.hint 87).keepAt) st = ⟨kp 19 [(0, (.dat (.lst ((List.map intD) p0)))), (1, (.dat (.raw (.func (.func 63) #[] #[])))), (7, (intPV (p0.length : Int))), (8, (intPV v201))], []⟩ →
    RL prog env (env.hint 87) true (codeAt [1, 0, 1, 0, 0] (bodyOf f87)) 0 st (fun e s => match r with | .inl v601 => e = .ret ∧ ∃ d, s = ⟨sl d 19 [(4, (intPV v601))], []⟩ | .inr (_) => e = .exit 0 ∧ ∃ d, s = ⟨sl d 19 [], []⟩)
theorem w_slices_IndexFunc_int_int_access_far_L1 : ∀ x r, m_slices_IndexFunc_int_int_access_far_L1 x = some r → P_slices_IndexFunc_int_int_access_far_L1 x r := by
  refine m_slices_IndexFunc_int_int_access_far_L1.partial_correctness _ (fun m_slices_IndexFunc_int_int_access_far_L1 w_slices_IndexFunc_int_int_access_far_L1 x r hm => ?_)
  unfold P_slices_IndexFunc_int_int_access_far_L1
  obtain ⟨p0, v201⟩ := x
  intro st hst
  refine RL_at hst ?_
  clear hst
  refine R_seq ?_
  refine R_G ?_
  refine G_run 1 ?_
  refine G_end ?_
  refine R_seq ?_
  refine R_ifp (p := v201 < (p0.length : Int)) (rfl) (fun hc => ?_) (fun hc => ?_)
  · replace hm := pos_inv hc hm
    refine R_skip ?_
    refine R_seq ?_
    refine R_block ?_
    refine R_seq ?_
    refine R_G ?_
    refine G_run 2 ?_
    refine G_end ?_
    refine R_seq ?_
    refine R_G ?_
    refine G_run 3 ?_
    obtain ⟨v602, hx, hm⟩ := bind_inv hm
    refine I_idx 1 intD p0 v201 v602 (es := (List.map intD) p0) (d := (intD v602)) rfl hx rfl rfl ?_
    refine G_run 1 ?_
    obtain ⟨v603, hx, hm⟩ := bind_inv hm
    have hq := w_access_far _ _ hx []
    refine G_callP hq ?_
    refine G_end ?_
    refine R_ifp (p := v603 = true) (bool_dec _) (fun hc => ?_) (fun hc => ?_)
    · replace hm := pos_inv hc hm
      refine R_seq ?_
      refine R_G ?_
      refine G_run 2 ?_
      refine G_end ?_
      refine R_ret ?_
      obtain rfl := inj1 hm
      exact ⟨rfl, cut_leaf (by kernel_rfl)⟩
    replace hm := neg_inv hc hm
    refine R_skip ?_
    refine R_G ?_
    refine G_run 2 ?_
    refine G_end ?_
    exact w_slices_IndexFunc_int_int_access_far_L1 _ _ hm _ (by kernel_rfl)
  replace hm := neg_inv hc hm
  refine R_exit ?_
  obtain rfl := inj1 hm
  exact ⟨rfl, cut_leaf (by kernel_rfl)⟩
def m_slices_IndexFunc_int_int_access_far (x : (List Int)) : Option Int :=
  match x with
  | p0 =>
  (
  m_slices_IndexFunc_int_int_access_far_L1 (p0, 0) >>= fun (out : Int ⊕ Unit) =>
  match out with
  | .inl v601 =>
    some v601
  | .inr (_) =>
    some (-1)
  )
def P_slices_IndexFunc_int_int_access_far : (List Int) → Int → Prop := fun x r => match x, r with
  | p0, r0 => ∀ H, PC prog env 87 ([(.lst ((List.map intD) p0)), (.raw (.func (.func 63) #[] #[]))].map .dat) H (intPV r0) H
theorem w_slices_IndexFunc_int_int_access_far : ∀ x r, m_slices_IndexFunc_int_int_access_far x = some r → P_slices_IndexFunc_int_int_access_far x r := by
  intro p0 r0 hm
  unfold m_slices_IndexFunc_int_int_access_far at hm
  unfold P_slices_IndexFunc_int_int_access_far
  intro H
  refine PC_sx (ds := [(.lst ((List.map intD) p0)), (.raw (.func (.func 63) #[] #[]))]) (fn := f87) (by kernel_rfl) (by kernel_rfl) rfl ?_ (by kernel_rfl)
  refine R_seq ?_
  refine R_G ?_
  refine G_run 1 ?_
  refine G_end ?_
  refine R_seq ?_
  refine R_seq ?_
  refine R_G ?_
  refine G_run 1 ?_
  refine I_len intD p0 (es := (List.map intD) p0) rfl ?_
  refine G_run 1 ?_
  refine G_end ?_
  refine R_block ?_
  obtain ⟨out, hs, hm⟩ := bind_inv hm
  refine R_loop ?_
  rcases out with v601 | _
  · refine RL_use (w_slices_IndexFunc_int_int_access_far_L1 _ _ hs) (by kernel_rfl) ?_
    clear hs
    intro e s hp
    obtain ⟨rfl, d, rfl⟩ := hp
    obtain rfl := inj1 hm
    exact ⟨trivial, fin_pure (by kernel_rfl)⟩
  · refine RL_use (w_slices_IndexFunc_int_int_access_far_L1 _ _ hs) (by kernel_rfl) ?_
    clear hs
    intro e s hp
    obtain ⟨rfl, d, rfl⟩ := hp
    refine R_seq ?_
    refine R_G ?_
    refine G_run 1 ?_
    refine G_end ?_
    refine R_ret ?_
    obtain rfl := inj1 hm
    exact ⟨trivial, fin_pure (by kernel_rfl)⟩
end Go.Proofs.Tryz
namespace Go.Proofs.Tryz
open Go Go.Pm
set_option linter.unusedVariables false
set_option maxHeartbeats 2000000
set_option maxRecDepth 2000
def m_slices_ContainsFunc_int_int_access_far (x : (List Int)) : Option Bool :=
  match x with
  | p0 =>
  m_slices_IndexFunc_int_int_access_far p0 >>= fun (v1 : Int) =>
  some (decide (v1 ≥ 0))
def P_slices_ContainsFunc_int_int_access_far : (List Int) → Bool → Prop := fun x r => match x, r with
  | p0, r0 => ∀ H, PC prog env 62 ([(.lst ((List.map intD) p0)), (.raw (.func (.func 63) #[] #[]))].map .dat) H (boolPV r0) H
theorem w_slices_ContainsFunc_int_int_access_far : ∀ x r, m_slices_ContainsFunc_int_int_access_far x = some r → P_slices_ContainsFunc_int_int_access_far x r := by
  intro p0 r0 hm
  unfold m_slices_ContainsFunc_int_int_access_far at hm
  unfold P_slices_ContainsFunc_int_int_access_far
  intro H
  refine PC_sx (ds := [(.lst ((List.map intD) p0)), (.raw (.func (.func 63) #[] #[]))]) (fn := f62) (by kernel_rfl) (by kernel_rfl) rfl ?_ (by kernel_rfl)
  refine R_seq ?_
  refine R_G ?_
  refine G_run 1 ?_
  refine G_end ?_
  refine R_seq ?_
  refine R_G ?_
  refine G_run 2 ?_
  obtain ⟨v1, hx, hm⟩ := bind_inv hm
  have hq := w_slices_IndexFunc_int_int_access_far _ _ hx []
  refine G_callP hq ?_
  refine G_run 2 ?_
  refine G_end ?_
  refine R_ret ?_
  obtain rfl := inj1 hm
  exact ⟨trivial, fin_pure (by kernel_rfl)⟩
end Go.Proofs.Tryz
namespace Go.Proofs.Tryz
open Go Go.Pm
set_option linter.unusedVariables false
set_option maxHeartbeats 2000000
set_option maxRecDepth 2000
def m_slices_Equal_int_int_L1 (x : ((List Int) × (List Int) × Int)) : Option (Unit ⊕ Unit) :=
  match x with
  | (p0, p1, v201) =>
  if v201 < (p0.length : Int) then
    idx p0 v201 >>= fun v601 =>
    idx p1 v201 >>= fun v602 =>
    if v601 ≠ v602 then
      some (Sum.inl ())
    else
    m_slices_Equal_int_int_L1 (p0, p1, (W (v201 + 1)))
  else
  some (Sum.inr ())
  partial_fixpoint
def P_slices_Equal_int_int_L1 : ((List Int) × (List Int) × Int) → (Unit ⊕ Unit) → Prop := fun x r => match x with
  | (p0, p1, v201) => ∀ st, prune 0 ((firstRegion (codeAt [1, 1, 0, 1, 0, 0] (bodyOf f88))).bind (env.hint 88).keepAt) st = ⟨kp 26 [(0, (.dat (.lst ((List.map intD) p0)))), (1, (.dat (.lst ((List.map intD) p1)))), (12, (intPV (p0.length : Int))), (13, (intPV v201))], []⟩ →
    RL prog env (env.hint 88) true (codeAt [1, 1, 0, 1, 0, 0] (bodyOf f88)) 0 st (fun e s => match r with | .inl _ => e = .ret ∧ ∃ d, s = ⟨sl d 26 [(4, (boolPV false))], []⟩ | .inr (_) => e = .exit 0 ∧ ∃ d, s = ⟨sl d 26 [], []⟩)
theorem w_slices_Equal_int_int_L1 : ∀ x r, m_slices_Equal_int_int_L1 x = some r → P_slices_Equal_int_int_L1 x r := by
  refine m_slices_Equal_int_int_L1.partial_correctness _ (fun m_slices_Equal_int_int_L1 w_slices_Equal_int_int_L1 x r hm => ?_)
  unfold P_slices_Equal_int_int_L1
  obtain ⟨p0, p1, v201⟩ := x
  intro st hst
  refine RL_at hst ?_
  clear hst
  refine R_seq ?_
  refine R_G ?_
  refine G_run 1 ?_
  refine G_end ?_
  refine R_seq ?_
  refine R_ifp (p := v201 < (p0.length : Int)) (rfl) (fun hc => ?_) (fun hc => ?_)
  · replace hm := pos_inv hc hm
    refine R_skip ?_
    refine R_seq ?_
    refine R_block ?_
    refine R_seq ?_
    refine R_G ?_
    refine G_run 2 ?_
    refine G_end ?_
    refine R_seq ?_
    refine R_GD ?_
    refine G_run 2 ?_
    obtain ⟨v601, hx, hm⟩ := bind_inv hm
    refine I_idx 1 intD p0 v201 v601 (es := (List.map intD) p0) (d := (intD v601)) rfl hx rfl rfl ?_
    refine G_run 3 ?_
    obtain ⟨v602, hx, hm⟩ := bind_inv hm
    refine I_idx 1 intD p1 v201 v602 (es := (List.map intD) p1) (d := (intD v602)) rfl hx rfl rfl ?_
    refine G_run 2 ?_
    refine G_end ⟨by kernel_rfl, ?_⟩
    refine R_ifp (p := v601 ≠ v602) (ne_dec _ _) (fun hc => ?_) (fun hc => ?_)
    · replace hm := pos_inv hc hm
      refine R_seq ?_
      refine R_G ?_
      refine G_run 1 ?_
      refine G_end ?_
      refine R_ret ?_
      obtain rfl := inj1 hm
      exact ⟨rfl, cut_leaf (by kernel_rfl)⟩
    replace hm := neg_inv hc hm
    refine R_skip ?_
    refine R_G ?_
    refine G_run 2 ?_
    refine G_end ?_
    exact w_slices_Equal_int_int_L1 _ _ hm _ (by kernel_rfl)
  replace hm := neg_inv hc hm
  refine R_exit ?_
  obtain rfl := inj1 hm
  exact ⟨rfl, cut_leaf (by kernel_rfl)⟩
def m_slices_Equal_int_int (x : ((List Int) × (List Int))) : Option Bool :=
  match x with
  | (p0, p1) =>
  if (p0.length : Int) ≠ (p1.length : Int) then
    some false
  else
  (
  m_slices_Equal_int_int_L1 (p0, p1, 0) >>= fun (out : Unit ⊕ Unit) =>
  match out with
  | .inl _ =>
    some false
  | .inr (_) =>
    some true
  )
def P_slices_Equal_int_int : ((List Int) × (List Int)) → Bool → Prop := fun x r => match x, r with
  | (p0, p1), r0 => ∀ H, PC prog env 88 ([(.lst ((List.map intD) p0)), (.lst ((List.map intD) p1))].map .dat) H (boolPV r0) H
theorem w_slices_Equal_int_int : ∀ x r, m_slices_Equal_int_int x = some r → P_slices_Equal_int_int x r := by
  intro x r0 hm
  unfold m_slices_Equal_int_int at hm
  unfold P_slices_Equal_int_int
  obtain ⟨p0, p1⟩ := x
  intro H
  refine PC_sx (ds := [(.lst ((List.map intD) p0)), (.lst ((List.map intD) p1))]) (fn := f88) (by kernel_rfl) (by kernel_rfl) rfl ?_ (by kernel_rfl)
  refine R_seq ?_
  refine R_G ?_
  refine G_run 1 ?_
  refine G_end ?_
  refine R_seq ?_
  refine R_seq ?_
  refine R_G ?_
  refine G_run 1 ?_
  refine I_len intD p0 (es := (List.map intD) p0) rfl ?_
  refine G_run 1 ?_
  refine I_len intD p1 (es := (List.map intD) p1) rfl ?_
  refine G_run 1 ?_
  refine G_end ?_
  refine R_ifp (p := (p0.length : Int) ≠ (p1.length : Int)) (ne_dec _ _) (fun hc => ?_) (fun hc => ?_)
  · replace hm := pos_inv hc hm
    refine R_seq ?_
    refine R_G ?_
    refine G_run 1 ?_
    refine G_end ?_
    refine R_ret ?_
    obtain rfl := inj1 hm
    exact ⟨trivial, fin_pure (by kernel_rfl)⟩
  replace hm := neg_inv hc hm
  refine R_skip ?_
  refine R_seq ?_
  refine R_seq ?_
  refine R_G ?_
  refine G_run 1 ?_
  refine I_len intD p0 (es := (List.map intD) p0) rfl ?_
  refine G_run 1 ?_
  refine G_end ?_
  refine R_block ?_
  obtain ⟨out, hs, hm⟩ := bind_inv hm
  refine R_loop ?_
  rcases out with _ | _
  · refine RL_use (w_slices_Equal_int_int_L1 _ _ hs) (by kernel_rfl) ?_
    clear hs
    intro e s hp
    obtain ⟨rfl, d, rfl⟩ := hp
    obtain rfl := inj1 hm
    exact ⟨trivial, fin_pure (by kernel_rfl)⟩
  · refine RL_use (w_slices_Equal_int_int_L1 _ _ hs) (by kernel_rfl) ?_
    clear hs
    intro e s hp
    obtain ⟨rfl, d, rfl⟩ := hp
    refine R_seq ?_
    refine R_G ?_
    refine G_run 1 ?_
    refine G_end ?_
    refine R_ret ?_
    obtain rfl := inj1 hm
    exact ⟨trivial, fin_pure (by kernel_rfl)⟩
end Go.Proofs.Tryz
namespace Go.Proofs.Tryz
open Go Go.Pm
set_option linter.unusedVariables false
set_option maxHeartbeats 2000000
set_option maxRecDepth 2000
def m_access_Same (x : (T_access_Access × T_access_Access)) : Option Bool :=
  match x with
  | (p0, p1) =>
  m_slices_Equal_int_int (p0.strides, p1.strides) >>= fun (v1 : Bool) =>
  (if v1 = true then
    some (p0.kind == p1.kind)
  else
  some false
  ) >>= fun (v2 : Bool) =>
  (if v2 = true then
    some (p0.buffer == p1.buffer)
  else
  some false
  ) >>= fun (v3 : Bool) =>
  (if v3 = true then
    some (p0.base == p1.base)
  else
  some false
  ) >>= fun (v4 : Bool) =>
  (if v4 = true then
    some (p0.start == p1.start)
  else
  some false
  ) >>= fun (v5 : Bool) =>
  (if v5 = true then
    some (p0.step == p1.step)
  else
  some false
  ) >>= fun (v6 : Bool) =>
  if v6 = true then
    some (p0.mod == p1.mod)
  else
  some false
def P_access_Same : (T_access_Access × T_access_Access) → Bool → Prop := fun x r => match x, r with
  | (p0, p1), r0 => ∀ H, PC prog env 64 ([(T_access_Access.toD p0), (T_access_Access.toD p1)].map .dat) H (boolPV r0) H
theorem w_access_Same : ∀ x r, m_access_Same x = some r → P_access_Same x r := by
  intro x r0 hm
  unfold m_access_Same at hm
  unfold P_access_Same
  obtain ⟨p0, p1⟩ := x
  intro H
  refine PC_sx (ds := [(T_access_Access.toD p0), (T_access_Access.toD p1)]) (fn := f64) (by kernel_rfl) (by kernel_rfl) rfl ?_ (by kernel_rfl)
  refine R_seq ?_
  refine R_G ?_
  refine G_run 3 ?_
  refine G_end ?_
  refine R_seq ?_
  refine R_GD ?_
  refine G_run 6 ?_
  refine G_end ⟨by kernel_rfl, ?_⟩
  refine R_seq ?_
  refine R_G ?_
  refine G_run 4 ?_
  refine G_end ?_
  refine R_seq ?_
  refine R_GN ?_
  refine G_run 4 ?_
  obtain ⟨v1, hx, hm⟩ := bind_inv hm
  have hq := w_slices_Equal_int_int _ _ hx []
  refine G_callP hq ?_
  refine G_run 1 ?_
  obtain ⟨v2, hs, hm⟩ := bind_inv hm
  refine G_cut (j := 12) (fun d => ⟨sl d 58 [(0, (.dat (.agg [(intD p0.kind), (intD p0.buffer), (intD p0.base), (.lst ((List.map intD) p0.strides)), (intD p0.start), (intD p0.step), (intD p0.mod)]))), (1, (.dat (.agg [(intD p1.kind), (intD p1.buffer), (intD p1.base), (.lst ((List.map intD) p1.strides)), (intD p1.start), (intD p1.step), (intD p1.mod)]))), (2, (.iptr [(intD p0.kind), (intD p0.buffer), (intD p0.base), (.lst ((List.map intD) p0.strides)), (intD p0.start), (intD p0.step), (intD p0.mod)])), (3, (.iptr [(intD p1.kind), (intD p1.buffer), (intD p1.base), (.lst ((List.map intD) p1.strides)), (intD p1.start), (intD p1.step), (intD p1.mod)])), (4, (boolPV false)), (5, (.ptr 0 0)), (6, (.ptr 1 0)), (7, (.dat (.agg [(intD p0.kind), (intD p0.buffer), (intD p0.base), (.lst ((List.map intD) p0.strides)), (intD p0.start), (intD p0.step), (intD p0.mod)]))), (8, (.dat (.agg [(intD p1.kind), (intD p1.buffer), (intD p1.base), (.lst ((List.map intD) p1.strides)), (intD p1.start), (intD p1.step), (intD p1.mod)]))), (9, (.ptr 0 3)), (10, (.ptr 1 3)), (11, (.iptr [(.lst ((List.map intD) p0.strides)), (intD p0.start), (intD p0.step), (intD p0.mod)])), (12, (.dat (.lst ((List.map intD) p0.strides)))), (13, (.iptr [(.lst ((List.map intD) p1.strides)), (intD p1.start), (intD p1.step), (intD p1.mod)])), (14, (.dat (.lst ((List.map intD) p1.strides)))), (15, (boolPV v1)), (22, (boolPV v2))], [(.box [(intPV p0.kind), (intPV p0.buffer), (intPV p0.base), (.dat (.lst ((List.map intD) []))), (intPV p0.start), (intPV p0.step), (intPV p0.mod)]), (.box [(intPV p1.kind), (intPV p1.buffer), (intPV p1.base), (.dat (.lst ((List.map intD) []))), (intPV p1.start), (intPV p1.step), (intPV p1.mod)])]⟩) (fun d => ?_) (fun hJ => ?_)
  · clear hs
    refine G_run 1 ?_
    obtain ⟨v3, hs, hm⟩ := bind_inv hm
    refine G_cut (j := 19) (fun d => ⟨sl d 58 [(0, (.dat (.agg [(intD p0.kind), (intD p0.buffer), (intD p0.base), (.lst ((List.map intD) p0.strides)), (intD p0.start), (intD p0.step), (intD p0.mod)]))), (1, (.dat (.agg [(intD p1.kind), (intD p1.buffer), (intD p1.base), (.lst ((List.map intD) p1.strides)), (intD p1.start), (intD p1.step), (intD p1.mod)]))), (2, (.iptr [(intD p0.kind), (intD p0.buffer), (intD p0.base), (.lst ((List.map intD) p0.strides)), (intD p0.start), (intD p0.step), (intD p0.mod)])), (3, (.iptr [(intD p1.kind), (intD p1.buffer), (intD p1.base), (.lst ((List.map intD) p1.strides)), (intD p1.start), (intD p1.step), (intD p1.mod)])), (4, (boolPV false)), (5, (.ptr 0 0)), (6, (.ptr 1 0)), (7, (.dat (.agg [(intD p0.kind), (intD p0.buffer), (intD p0.base), (.lst ((List.map intD) p0.strides)), (intD p0.start), (intD p0.step), (intD p0.mod)]))), (8, (.dat (.agg [(intD p1.kind), (intD p1.buffer), (intD p1.base), (.lst ((List.map intD) p1.strides)), (intD p1.start), (intD p1.step), (intD p1.mod)]))), (9, (.ptr 0 3)), (10, (.ptr 1 3)), (11, (.iptr [(.lst ((List.map intD) p0.strides)), (intD p0.start), (intD p0.step), (intD p0.mod)])), (12, (.dat (.lst ((List.map intD) p0.strides)))), (13, (.iptr [(.lst ((List.map intD) p1.strides)), (intD p1.start), (intD p1.step), (intD p1.mod)])), (14, (.dat (.lst ((List.map intD) p1.strides)))), (15, (boolPV v1)), (22, (boolPV v2)), (29, (boolPV v3))], [(.box [(intPV p0.kind), (intPV p0.buffer), (intPV p0.base), (.dat (.lst ((List.map intD) []))), (intPV p0.start), (intPV p0.step), (intPV p0.mod)]), (.box [(intPV p1.kind), (intPV p1.buffer), (intPV p1.base), (.dat (.lst ((List.map intD) []))), (intPV p1.start), (intPV p1.step), (intPV p1.mod)])]⟩) (fun d => ?_) (fun hJ => ?_)
    · clear hs
      refine G_run 1 ?_
      obtain ⟨v4, hs, hm⟩ := bind_inv hm
      refine G_cut (j := 26) (fun d => ⟨sl d 58 [(0, (.dat (.agg [(intD p0.kind), (intD p0.buffer), (intD p0.base), (.lst ((List.map intD) p0.strides)), (intD p0.start), (intD p0.step), (intD p0.mod)]))), (1, (.dat (.agg [(intD p1.kind), (intD p1.buffer), (intD p1.base), (.lst ((List.map intD) p1.strides)), (intD p1.start), (intD p1.step), (intD p1.mod)]))), (2, (.iptr [(intD p0.kind), (intD p0.buffer), (intD p0.base), (.lst ((List.map intD) p0.strides)), (intD p0.start), (intD p0.step), (intD p0.mod)])), (3, (.iptr [(intD p1.kind), (intD p1.buffer), (intD p1.base), (.lst ((List.map intD) p1.strides)), (intD p1.start), (intD p1.step), (intD p1.mod)])), (4, (boolPV false)), (5, (.ptr 0 0)), (6, (.ptr 1 0)), (7, (.dat (.agg [(intD p0.kind), (intD p0.buffer), (intD p0.base), (.lst ((List.map intD) p0.strides)), (intD p0.start), (intD p0.step), (intD p0.mod)]))), (8, (.dat (.agg [(intD p1.kind), (intD p1.buffer), (intD p1.base), (.lst ((List.map intD) p1.strides)), (intD p1.start), (intD p1.step), (intD p1.mod)]))), (9, (.ptr 0 3)), (10, (.ptr 1 3)), (11, (.iptr [(.lst ((List.map intD) p0.strides)), (intD p0.start), (intD p0.step), (intD p0.mod)])), (12, (.dat (.lst ((List.map intD) p0.strides)))), (13, (.iptr [(.lst ((List.map intD) p1.strides)), (intD p1.start), (intD p1.step), (intD p1.mod)])), (14, (.dat (.lst ((List.map intD) p1.strides)))), (15, (boolPV v1)), (22, (boolPV v2)), (29, (boolPV v3)), (36, (boolPV v4))], [(.box [(intPV p0.kind), (intPV p0.buffer), (intPV p0.base), (.dat (.lst ((List.map intD) []))), (intPV p0.start), (intPV p0.step), (intPV p0.mod)]), (.box [(intPV p1.kind), (intPV p1.buffer), (intPV p1.base), (.dat (.lst ((List.map intD) []))), (intPV p1.start), (intPV p1.step), (intPV p1.mod)])]⟩) (fun d => ?_) (fun hJ => ?_)
      · clear hs
        refine G_run 1 ?_
        obtain ⟨v5, hs, hm⟩ := bind_inv hm
        refine G_cut (j := 33) (fun d => ⟨sl d 58 [(0, (.dat (.agg [(intD p0.kind), (intD p0.buffer), (intD p0.base), (.lst ((List.map intD) p0.strides)), (intD p0.start), (intD p0.step), (intD p0.mod)]))), (1, (.dat (.agg [(intD p1.kind), (intD p1.buffer), (intD p1.base), (.lst ((List.map intD) p1.strides)), (intD p1.start), (intD p1.step), (intD p1.mod)]))), (2, (.iptr [(intD p0.kind), (intD p0.buffer), (intD p0.base), (.lst ((List.map intD) p0.strides)), (intD p0.start), (intD p0.step), (intD p0.mod)])), (3, (.iptr [(intD p1.kind), (intD p1.buffer), (intD p1.base), (.lst ((List.map intD) p1.strides)), (intD p1.start), (intD p1.step), (intD p1.mod)])), (4, (boolPV false)), (5, (.ptr 0 0)), (6, (.ptr 1 0)), (7, (.dat (.agg [(intD p0.kind), (intD p0.buffer), (intD p0.base), (.lst ((List.map intD) p0.strides)), (intD p0.start), (intD p0.step), (intD p0.mod)]))), (8, (.dat (.agg [(intD p1.kind), (intD p1.buffer), (intD p1.base), (.lst ((List.map intD) p1.strides)), (intD p1.start), (intD p1.step), (intD p1.mod)]))), (9, (.ptr 0 3)), (10, (.ptr 1 3)), (11, (.iptr [(.lst ((List.map intD) p0.strides)), (intD p0.start), (intD p0.step), (intD p0.mod)])), (12, (.dat (.lst ((List.map intD) p0.strides)))), (13, (.iptr [(.lst ((List.map intD) p1.strides)), (intD p1.start), (intD p1.step), (intD p1.mod)])), (14, (.dat (.lst ((List.map intD) p1.strides)))), (15, (boolPV v1)), (22, (boolPV v2)), (29, (boolPV v3)), (36, (boolPV v4)), (43, (boolPV v5))], [(.box [(intPV p0.kind), (intPV p0.buffer), (intPV p0.base), (.dat (.lst ((List.map intD) []))), (intPV p0.start), (intPV p0.step), (intPV p0.mod)]), (.box [(intPV p1.kind), (intPV p1.buffer), (intPV p1.base), (.dat (.lst ((List.map intD) []))), (intPV p1.start), (intPV p1.step), (intPV p1.mod)])]⟩) (fun d => ?_) (fun hJ => ?_)
        · clear hs
          refine G_run 1 ?_
          obtain ⟨v6, hs, hm⟩ := bind_inv hm
          refine G_cut (j := 40) (fun d => ⟨sl d 58 [(0, (.dat (.agg [(intD p0.kind), (intD p0.buffer), (intD p0.base), (.lst ((List.map intD) p0.strides)), (intD p0.start), (intD p0.step), (intD p0.mod)]))), (1, (.dat (.agg [(intD p1.kind), (intD p1.buffer), (intD p1.base), (.lst ((List.map intD) p1.strides)), (intD p1.start), (intD p1.step), (intD p1.mod)]))), (2, (.iptr [(intD p0.kind), (intD p0.buffer), (intD p0.base), (.lst ((List.map intD) p0.strides)), (intD p0.start), (intD p0.step), (intD p0.mod)])), (3, (.iptr [(intD p1.kind), (intD p1.buffer), (intD p1.base), (.lst ((List.map intD) p1.strides)), (intD p1.start), (intD p1.step), (intD p1.mod)])), (4, (boolPV false)), (5, (.ptr 0 0)), (6, (.ptr 1 0)), (7, (.dat (.agg [(intD p0.kind), (intD p0.buffer), (intD p0.base), (.lst ((List.map intD) p0.strides)), (intD p0.start), (intD p0.step), (intD p0.mod)]))), (8, (.dat (.agg [(intD p1.kind), (intD p1.buffer), (intD p1.base), (.lst ((List.map intD) p1.strides)), (intD p1.start), (intD p1.step), (intD p1.mod)]))), (9, (.ptr 0 3)), (10, (.ptr 1 3)), (11, (.iptr [(.lst ((List.map intD) p0.strides)), (intD p0.start), (intD p0.step), (intD p0.mod)])), (12, (.dat (.lst ((List.map intD) p0.strides)))), (13, (.iptr [(.lst ((List.map intD) p1.strides)), (intD p1.start), (intD p1.step), (intD p1.mod)])), (14, (.dat (.lst ((List.map intD) p1.strides)))), (15, (boolPV v1)), (22, (boolPV v2)), (29, (boolPV v3)), (36, (boolPV v4)), (43, (boolPV v5)), (50, (boolPV v6))], [(.box [(intPV p0.kind), (intPV p0.buffer), (intPV p0.base), (.dat (.lst ((List.map intD) []))), (intPV p0.start), (intPV p0.step), (intPV p0.mod)]), (.box [(intPV p1.kind), (intPV p1.buffer), (intPV p1.base), (.dat (.lst ((List.map intD) []))), (intPV p1.start), (intPV p1.step), (intPV p1.mod)])]⟩) (fun d => ?_) (fun hJ => ?_)
          · clear hs
            refine G_run 1 ?_
            refine G_split (p := v6 = true) 51 (bool_dec _) (fun hc => ?_) (fun hc => ?_)
            · replace hm := pos_inv hc hm
              refine G_run 7 ?_
              refine G_end ⟨by kernel_rfl, ?_⟩
              refine R_ret ?_
              obtain rfl := inj1 hm
              exact ⟨trivial, fin_pure (by kernel_rfl)⟩
            replace hm := neg_inv hc hm
            refine G_run 7 ?_
            refine G_end ⟨by kernel_rfl, ?_⟩
            refine R_ret ?_
            obtain rfl := inj1 hm
            exact ⟨trivial, fin_pure (by kernel_rfl)⟩
          replace hm := hs
          clear hs
          refine G_split (p := v5 = true) 44 (bool_dec _) (fun hc => ?_) (fun hc => ?_)
          · replace hm := pos_inv hc hm
            refine G_run 6 ?_
            obtain rfl := inj1 hm
            exact hJ _ _ (by kernel_rfl) (by kernel_rfl)
          replace hm := neg_inv hc hm
          refine G_run 6 ?_
          obtain rfl := inj1 hm
          exact hJ _ _ (by kernel_rfl) (by kernel_rfl)
        replace hm := hs
        clear hs
        refine G_split (p := v4 = true) 37 (bool_dec _) (fun hc => ?_) (fun hc => ?_)
        · replace hm := pos_inv hc hm
          refine G_run 6 ?_
          obtain rfl := inj1 hm
          exact hJ _ _ (by kernel_rfl) (by kernel_rfl)
        replace hm := neg_inv hc hm
        refine G_run 6 ?_
        obtain rfl := inj1 hm
        exact hJ _ _ (by kernel_rfl) (by kernel_rfl)
      replace hm := hs
      clear hs
      refine G_split (p := v3 = true) 30 (bool_dec _) (fun hc => ?_) (fun hc => ?_)
      · replace hm := pos_inv hc hm
        refine G_run 6 ?_
        obtain rfl := inj1 hm
        exact hJ _ _ (by kernel_rfl) (by kernel_rfl)
      replace hm := neg_inv hc hm
      refine G_run 6 ?_
      obtain rfl := inj1 hm
      exact hJ _ _ (by kernel_rfl) (by kernel_rfl)
    replace hm := hs
    clear hs
    refine G_split (p := v2 = true) 23 (bool_dec _) (fun hc => ?_) (fun hc => ?_)
    · replace hm := pos_inv hc hm
      refine G_run 6 ?_
      obtain rfl := inj1 hm
      exact hJ _ _ (by kernel_rfl) (by kernel_rfl)
    replace hm := neg_inv hc hm
    refine G_run 6 ?_
    obtain rfl := inj1 hm
    exact hJ _ _ (by kernel_rfl) (by kernel_rfl)
  replace hm := hs
  clear hs
  refine G_split (p := v1 = true) 16 (bool_dec _) (fun hc => ?_) (fun hc => ?_)
  · replace hm := pos_inv hc hm
    refine G_run 6 ?_
    obtain rfl := inj1 hm
    exact hJ _ _ (by kernel_rfl) (by kernel_rfl)
  replace hm := neg_inv hc hm
  refine G_run 6 ?_
  obtain rfl := inj1 hm
  exact hJ _ _ (by kernel_rfl) (by kernel_rfl)
end Go.Proofs.Tryz
namespace Go.Proofs.Tryz
open Go Go.Pm
set_option linter.unusedVariables false
set_option maxHeartbeats 2000000
set_option maxRecDepth 2000
def m_access_Right (x : (T_access_Access × Int)) : Option Bool :=
  match x with
  | (p0, p1) =>
  if p1 < 0 then
    some false
  else
  if p1 > 16 then
    some false
  else
  app 8 ([p0.buffer, p0.base, p0.start, p0.step, p0.mod] : List Int) p0.strides >>= fun v1 =>
  m_slices_ContainsFunc_int_int_access_far v1 >>= fun (v2 : Bool) =>
  if v2 = true then
    some false
  else
  if p0.kind = 1 then
    m_access_Same ((⟨p0.kind, p0.buffer, p0.base, p0.strides, p0.start, p0.step, p0.mod⟩ : T_access_Access), (⟨1, 0, 0, ([] : (List Int)), 0, 0, 0⟩ : T_access_Access)) >>= fun (v3 : Bool) =>
    some v3
  else
  if p0.kind = 2 then
    (if p0.buffer ≥ 0 then
      some ((p0.strides.length : Int) == p1)
    else
    some false
    ) >>= fun (v4 : Bool) =>
    (if v4 = true then
      some (p0.start == 0)
    else
    some false
    ) >>= fun (v5 : Bool) =>
    (if v5 = true then
      some (p0.step == 0)
    else
    some false
    ) >>= fun (v6 : Bool) =>
    if v6 = true then
      some (p0.mod == 0)
    else
    some false
  else
  if p0.kind = 3 then
    (if p0.buffer ≥ 0 then
      some ((p0.strides.length : Int) == p1)
    else
    some false
    ) >>= fun (v7 : Bool) =>
    if v7 = true then
      some (decide (p0.mod > 0))
    else
    some false
  else
  some false
def P_access_Right : (T_access_Access × Int) → Bool → Prop := fun x r => match x, r with
  | (p0, p1), r0 => ∀ H, PC prog env 32 ([(T_access_Access.toD p0), (intD p1)].map .dat) H (boolPV r0) H
theorem w_access_Right : ∀ x r, m_access_Right x = some r → P_access_Right x r := by
  intro x r0 hm
  unfold m_access_Right at hm
  unfold P_access_Right
  obtain ⟨p0, p1⟩ := x
  intro H
  refine PC_sx (ds := [(T_access_Access.toD p0), (intD p1)]) (fn := f32) (by kernel_rfl) (by kernel_rfl) rfl ?_ (by kernel_rfl)
  refine R_seq ?_
  refine R_G ?_
  refine G_run 2 ?_
  refine G_end ?_
  refine R_seq ?_
  refine R_seq ?_
  refine R_G ?_
  refine G_run 3 ?_
  refine G_split (p := p1 < 0) 7 (rfl) (fun hc => ?_) (fun hc => ?_)
  · replace hm := pos_inv hc hm
    refine G_run 20 ?_
    refine G_end ?_
    refine R_true (by kernel_rfl) ?_
    refine R_seq ?_
    refine R_G ?_
    refine G_run 1 ?_
    refine G_end ?_
    refine R_ret ?_
    obtain rfl := inj1 hm
    exact ⟨trivial, fin_pure (by kernel_rfl)⟩
  replace hm := neg_inv hc hm
  refine G_run 4 ?_
  refine G_split (p := p1 > 16) 11 (rfl) (fun hc => ?_) (fun hc => ?_)
  · replace hm := pos_inv hc hm
    refine G_run 16 ?_
    refine G_end ?_
    refine R_true (by kernel_rfl) ?_
    refine R_seq ?_
    refine R_G ?_
    refine G_run 1 ?_
    refine G_end ?_
    refine R_ret ?_
    obtain rfl := inj1 hm
    exact ⟨trivial, fin_pure (by kernel_rfl)⟩
  replace hm := neg_inv hc hm
  refine G_run 13 ?_
  obtain ⟨v1, hx, hm⟩ := bind_inv hm
  refine I_app 3 1 8 1 intD ([p0.buffer, p0.base, p0.start, p0.step, p0.mod] : List Int) p0.strides v1 (xs := (List.map intD) ([p0.buffer, p0.base, p0.start, p0.step, p0.mod] : List Int)) (es := (List.map intD) p0.strides) (L := (List.map intD)) (fun _ => rfl) rfl rfl (fun _ => rfl) hx ?_
  obtain ⟨v2, hx, hm⟩ := bind_inv hm
  have hq := w_slices_ContainsFunc_int_int_access_far _ _ hx []
  refine G_callP hq ?_
  refine G_run 1 ?_
  refine G_end ?_
  refine R_ifp (p := v2 = true) (bool_dec _) (fun hc => ?_) (fun hc => ?_)
  · replace hm := pos_inv hc hm
    refine R_seq ?_
    refine R_G ?_
    refine G_run 1 ?_
    refine G_end ?_
    refine R_ret ?_
    obtain rfl := inj1 hm
    exact ⟨trivial, fin_pure (by kernel_rfl)⟩
  replace hm := neg_inv hc hm
  refine R_skip ?_
  refine R_seq ?_
  refine R_seq ?_
  refine R_G ?_
  refine G_run 2 ?_
  refine G_end ?_
  refine R_block ?_
  refine R_seq ?_
  refine R_G ?_
  refine G_run 2 ?_
  refine G_end ?_
  refine R_ifp (p := p0.kind = 1) (eq_dec _ _) (fun hc => ?_) (fun hc => ?_)
  · replace hm := pos_inv hc hm
    refine R_seq ?_
    refine R_G ?_
    refine G_run 2 ?_
    obtain ⟨v3, hx, hm⟩ := bind_inv hm
    have hq := w_access_Same _ _ hx []
    refine G_callP hq ?_
    refine G_run 1 ?_
    refine G_end ?_
    refine R_ret ?_
    obtain rfl := inj1 hm
    exact ⟨trivial, fin_pure (by kernel_rfl)⟩
  replace hm := neg_inv hc hm
  refine R_seq ?_
  refine R_G ?_
  refine G_run 2 ?_
  refine G_end ?_
  refine R_ifp (p := p0.kind = 2) (eq_dec _ _) (fun hc => ?_) (fun hc => ?_)
  · replace hm := pos_inv hc hm
    refine R_seq ?_
    refine R_GN ?_
    refine G_run 4 ?_
    obtain ⟨v4, hs, hm⟩ := bind_inv hm
    refine G_cut (j := 10) (fun d => ⟨sl d 79 [(2, (.ptr 0 0)), (4, (boolPV false)), (46, (boolPV v4))], [(.box [(intPV p0.kind), (intPV p0.buffer), (intPV p0.base), (.dat (.lst ((List.map intD) p0.strides))), (intPV p0.start), (intPV p0.step), (intPV p0.mod)]), (.tok 3 v1.length)]⟩) (fun d => ?_) (fun hJ => ?_)
    · clear hs
      refine G_run 1 ?_
      obtain ⟨v5, hs, hm⟩ := bind_inv hm
      refine G_cut (j := 15) (fun d => ⟨sl d 79 [(2, (.ptr 0 0)), (4, (boolPV false)), (51, (boolPV v5))], [(.box [(intPV p0.kind), (intPV p0.buffer), (intPV p0.base), (.dat (.lst ((List.map intD) p0.strides))), (intPV p0.start), (intPV p0.step), (intPV p0.mod)]), (.tok 3 v1.length)]⟩) (fun d => ?_) (fun hJ => ?_)
      · clear hs
        refine G_run 1 ?_
        obtain ⟨v6, hs, hm⟩ := bind_inv hm
        refine G_cut (j := 20) (fun d => ⟨sl d 79 [(2, (.ptr 0 0)), (4, (boolPV false)), (56, (boolPV v6))], [(.box [(intPV p0.kind), (intPV p0.buffer), (intPV p0.base), (.dat (.lst ((List.map intD) p0.strides))), (intPV p0.start), (intPV p0.step), (intPV p0.mod)]), (.tok 3 v1.length)]⟩) (fun d => ?_) (fun hJ => ?_)
        · clear hs
          refine G_run 1 ?_
          refine G_split (p := v6 = true) 57 (bool_dec _) (fun hc => ?_) (fun hc => ?_)
          · replace hm := pos_inv hc hm
            refine G_run 5 ?_
            refine G_end ⟨by kernel_rfl, ?_⟩
            refine R_ret ?_
            obtain rfl := inj1 hm
            exact ⟨trivial, fin_pure (by kernel_rfl)⟩
          replace hm := neg_inv hc hm
          refine G_run 5 ?_
          refine G_end ⟨by kernel_rfl, ?_⟩
          refine R_ret ?_
          obtain rfl := inj1 hm
          exact ⟨trivial, fin_pure (by kernel_rfl)⟩
        replace hm := hs
        clear hs
        refine G_split (p := v5 = true) 52 (bool_dec _) (fun hc => ?_) (fun hc => ?_)
        · replace hm := pos_inv hc hm
          refine G_run 4 ?_
          obtain rfl := inj1 hm
          exact hJ _ _ (by kernel_rfl) (by kernel_rfl)
        replace hm := neg_inv hc hm
        refine G_run 4 ?_
        obtain rfl := inj1 hm
        exact hJ _ _ (by kernel_rfl) (by kernel_rfl)
      replace hm := hs
      clear hs
      refine G_split (p := v4 = true) 47 (bool_dec _) (fun hc => ?_) (fun hc => ?_)
      · replace hm := pos_inv hc hm
        refine G_run 4 ?_
        obtain rfl := inj1 hm
        exact hJ _ _ (by kernel_rfl) (by kernel_rfl)
      replace hm := neg_inv hc hm
      refine G_run 4 ?_
      obtain rfl := inj1 hm
      exact hJ _ _ (by kernel_rfl) (by kernel_rfl)
    replace hm := hs
    clear hs
    refine G_split (p := p0.buffer ≥ 0) 40 (rfl) (fun hc => ?_) (fun hc => ?_)
    · replace hm := pos_inv hc hm
      refine G_run 2 ?_
      refine I_len intD p0.strides (es := (List.map intD) p0.strides) rfl ?_
      refine G_run 3 ?_
      obtain rfl := inj1 hm
      exact hJ _ _ (by kernel_rfl) (by kernel_rfl)
    replace hm := neg_inv hc hm
    refine G_run 6 ?_
    obtain rfl := inj1 hm
    exact hJ _ _ (by kernel_rfl) (by kernel_rfl)
  replace hm := neg_inv hc hm
  refine R_seq ?_
  refine R_G ?_
  refine G_run 2 ?_
  refine G_end ?_
  refine R_ifp (p := p0.kind = 3) (eq_dec _ _) (fun hc => ?_) (fun hc => ?_)
  · replace hm := pos_inv hc hm
    refine R_seq ?_
    refine R_GN ?_
    refine G_run 4 ?_
    obtain ⟨v7, hs, hm⟩ := bind_inv hm
    refine G_cut (j := 10) (fun d => ⟨sl d 79 [(2, (.ptr 0 0)), (4, (boolPV false)), (73, (boolPV v7))], [(.box [(intPV p0.kind), (intPV p0.buffer), (intPV p0.base), (.dat (.lst ((List.map intD) p0.strides))), (intPV p0.start), (intPV p0.step), (intPV p0.mod)]), (.tok 3 v1.length)]⟩) (fun d => ?_) (fun hJ => ?_)
    · clear hs
      refine G_run 1 ?_
      refine G_split (p := v7 = true) 74 (bool_dec _) (fun hc => ?_) (fun hc => ?_)
      · replace hm := pos_inv hc hm
        refine G_run 5 ?_
        refine G_end ⟨by kernel_rfl, ?_⟩
        refine R_ret ?_
        obtain rfl := inj1 hm
        exact ⟨trivial, fin_pure (by kernel_rfl)⟩
      replace hm := neg_inv hc hm
      refine G_run 5 ?_
      refine G_end ⟨by kernel_rfl, ?_⟩
      refine R_ret ?_
      obtain rfl := inj1 hm
      exact ⟨trivial, fin_pure (by kernel_rfl)⟩
    replace hm := hs
    clear hs
    refine G_split (p := p0.buffer ≥ 0) 67 (rfl) (fun hc => ?_) (fun hc => ?_)
    · replace hm := pos_inv hc hm
      refine G_run 2 ?_
      refine I_len intD p0.strides (es := (List.map intD) p0.strides) rfl ?_
      refine G_run 3 ?_
      obtain rfl := inj1 hm
      exact hJ _ _ (by kernel_rfl) (by kernel_rfl)
    replace hm := neg_inv hc hm
    refine G_run 6 ?_
    obtain rfl := inj1 hm
    exact hJ _ _ (by kernel_rfl) (by kernel_rfl)
  replace hm := neg_inv hc hm
  refine R_skip ?_
  refine R_seq ?_
  refine R_G ?_
  refine G_run 1 ?_
  refine G_end ?_
  refine R_ret ?_
  obtain rfl := inj1 hm
  exact ⟨trivial, fin_pure (by kernel_rfl)⟩
end Go.Proofs.Tryz
namespace Go.Proofs.Tryz
open Go Go.Pm
set_option linter.unusedVariables false
set_option maxHeartbeats 2000000
set_option maxRecDepth 2000
def m_cmp_isNaN_int (x : Int) : Option Bool :=
  match x with
  | p0 =>
  some (p0 != p0)
def P_cmp_isNaN_int : Int → Bool → Prop := fun x r => match x, r with
  | p0, r0 => ∀ H, PC prog env 114 ([(intD p0)].map .dat) H (boolPV r0) H
theorem w_cmp_isNaN_int : ∀ x r, m_cmp_isNaN_int x = some r → P_cmp_isNaN_int x r := by
  intro p0 r0 hm
  unfold m_cmp_isNaN_int at hm
  unfold P_cmp_isNaN_int
  intro H
  refine PC_sx (ds := [(intD p0)]) (fn := f114) (by kernel_rfl) (by kernel_rfl) rfl ?_ (by kernel_rfl)
  refine R_seq ?_
  refine R_G ?_
  refine G_run 1 ?_
  refine G_end ?_
  refine R_seq ?_
  refine R_G ?_
  refine G_run 4 ?_
  refine G_end ?_
  refine R_ret ?_
  obtain rfl := inj1 hm
  exact ⟨trivial, fin_pure (by kernel_rfl)⟩
end Go.Proofs.Tryz
namespace Go.Proofs.Tryz
open Go Go.Pm
set_option linter.unusedVariables false
set_option maxHeartbeats 2000000
set_option maxRecDepth 2000
def m_cmp_Compare_int (x : (Int × Int)) : Option Int :=
  match x with
  | (p0, p1) =>
  m_cmp_isNaN_int p0 >>= fun (v1 : Bool) =>
  m_cmp_isNaN_int p1 >>= fun (v2 : Bool) =>
  if v1 = true then
    if v2 = true then
      some 0
    else
    some (-1)
  else
  if v2 = true then
    some 1
  else
  if p0 < p1 then
    some (-1)
  else
  if p0 > p1 then
    some 1
  else
  some 0
def P_cmp_Compare_int : (Int × Int) → Int → Prop := fun x r => match x, r with
  | (p0, p1), r0 => ∀ H, PC prog env 89 ([(intD p0), (intD p1)].map .dat) H (intPV r0) H
theorem w_cmp_Compare_int : ∀ x r, m_cmp_Compare_int x = some r → P_cmp_Compare_int x r := by
  intro x r0 hm
  unfold m_cmp_Compare_int at hm
  unfold P_cmp_Compare_int
  obtain ⟨p0, p1⟩ := x
  intro H
  refine PC_sx (ds := [(intD p0), (intD p1)]) (fn := f89) (by kernel_rfl) (by kernel_rfl) rfl ?_ (by kernel_rfl)
  refine R_seq ?_
  refine R_G ?_
  refine G_run 1 ?_
  refine G_end ?_
  refine R_seq ?_
  refine R_G ?_
  refine G_run 1 ?_
  obtain ⟨v1, hx, hm⟩ := bind_inv hm
  have hq := w_cmp_isNaN_int _ _ hx []
  refine G_callP hq ?_
  refine G_run 1 ?_
  refine G_end ?_
  refine R_seq ?_
  refine R_G ?_
  refine G_run 1 ?_
  obtain ⟨v2, hx, hm⟩ := bind_inv hm
  have hq := w_cmp_isNaN_int _ _ hx []
  refine G_callP hq ?_
  refine G_run 1 ?_
  refine G_end ?_
  refine R_seq ?_
  refine R_seq ?_
  refine R_G ?_
  refine G_run 1 ?_
  refine G_end ?_
  refine R_ifp (p := v1 = true) (bool_dec _) (fun hc => ?_) (fun hc => ?_)
  · replace hm := pos_inv hc hm
    refine R_seq ?_
    refine R_seq ?_
    refine R_G ?_
    refine G_run 1 ?_
    refine G_end ?_
    refine R_ifp (p := v2 = true) (bool_dec _) (fun hc => ?_) (fun hc => ?_)
    · replace hm := pos_inv hc hm
      refine R_seq ?_
      refine R_G ?_
      refine G_run 1 ?_
      refine G_end ?_
      refine R_ret ?_
      obtain rfl := inj1 hm
      exact ⟨trivial, fin_pure (by kernel_rfl)⟩
    replace hm := neg_inv hc hm
    refine R_skip ?_
    refine R_seq ?_
    refine R_G ?_
    refine G_run 1 ?_
    refine G_end ?_
    refine R_ret ?_
    obtain rfl := inj1 hm
    exact ⟨trivial, fin_pure (by kernel_rfl)⟩
  replace hm := neg_inv hc hm
  refine R_skip ?_
  refine R_seq ?_
  refine R_seq ?_
  refine R_G ?_
  refine G_run 1 ?_
  refine G_end ?_
  refine R_ifp (p := v2 = true) (bool_dec _) (fun hc => ?_) (fun hc => ?_)
  · replace hm := pos_inv hc hm
    refine R_seq ?_
    refine R_G ?_
    refine G_run 1 ?_
    refine G_end ?_
    refine R_ret ?_
    obtain rfl := inj1 hm
    exact ⟨trivial, fin_pure (by kernel_rfl)⟩
  replace hm := neg_inv hc hm
  refine R_skip ?_
  refine R_seq ?_
  refine R_seq ?_
  refine R_G ?_
  refine G_run 3 ?_
  refine G_end ?_
  refine R_ifp (p := p0 < p1) (rfl) (fun hc => ?_) (fun hc => ?_)
  · replace hm := pos_inv hc hm
    refine R_seq ?_
    refine R_G ?_
    refine G_run 1 ?_
    refine G_end ?_
    refine R_ret ?_
    obtain rfl := inj1 hm
    exact ⟨trivial, fin_pure (by kernel_rfl)⟩
  replace hm := neg_inv hc hm
  refine R_skip ?_
  refine R_seq ?_
  refine R_seq ?_
  refine R_G ?_
  refine G_run 3 ?_
  refine G_end ?_
  refine R_ifp (p := p0 > p1) (rfl) (fun hc => ?_) (fun hc => ?_)
  · replace hm := pos_inv hc hm
    refine R_seq ?_
    refine R_G ?_
    refine G_run 1 ?_
    refine G_end ?_
    refine R_ret ?_
    obtain rfl := inj1 hm
    exact ⟨trivial, fin_pure (by kernel_rfl)⟩
  replace hm := neg_inv hc hm
  refine R_skip ?_
  refine R_seq ?_
  refine R_G ?_
  refine G_run 1 ?_
  refine G_end ?_
  refine R_ret ?_
  obtain rfl := inj1 hm
  exact ⟨trivial, fin_pure (by kernel_rfl)⟩
end Go.Proofs.Tryz
namespace Go.Proofs.Tryz
open Go Go.Pm
set_option linter.unusedVariables false
set_option maxHeartbeats 2000000
set_option maxRecDepth 2000
def m_slices_Compare_int_int_L1 (x : ((List Int) × (List Int) × Int)) : Option (Int ⊕ Unit) :=
  match x with
  | (p0, p1, v201) =>
  if v201 < (p0.length : Int) then
    idx p0 v201 >>= fun v602 =>
    if v201 ≥ (p1.length : Int) then
      some (Sum.inl 1)
    else
    idx p1 v201 >>= fun v603 =>
    m_cmp_Compare_int (v602, v603) >>= fun (v604 : Int) =>
    if v604 ≠ 0 then
      some (Sum.inl v604)
    else
    m_slices_Compare_int_int_L1 (p0, p1, (W (v201 + 1)))
  else
  some (Sum.inr ())
  partial_fixpoint
def P_slices_Compare_int_int_L1 : ((List Int) × (List Int) × Int) → (Int ⊕ Unit) → Prop := fun x r => match x with
  | (p0, p1, v201) => ∀ st, prune 0 ((firstRegion (codeAt [1, 0, 1, 0, 0] (bodyOf f65))).bind (env.hint 65).keepAt) st = ⟨kp 36 [(0, (.dat (.lst ((List.map intD) p0)))), (1, (.dat (.lst ((List.map intD) p1)))), (9, (.dat (.lst ((List.map intD) p0)))), (10, (intPV (p0.length : Int))), (11, (intPV v201))], []⟩ →
    RL prog env (env.hint 65) true (codeAt [1, 0, 1, 0, 0] (bodyOf f65)) 0 st (fun e s => match r with | .inl v601 => e = .ret ∧ ∃ d, s = ⟨sl d 36 [(4, (intPV v601))], []⟩ | .inr (_) => e = .exit 0 ∧ ∃ d, s = ⟨sl d 36 [(0, (.dat (.lst ((List.map intD) p0)))), (1, (.dat (.lst ((List.map intD) p1))))], []⟩)
theorem w_slices_Compare_int_int_L1 : ∀ x r, m_slices_Compare_int_int_L1 x = some r → P_slices_Compare_int_int_L1 x r := by
  refine m_slices_Compare_int_int_L1.partial_correctness _ (fun m_slices_Compare_int_int_L1 w_slices_Compare_int_int_L1 x r hm => ?_)
  unfold P_slices_Compare_int_int_L1
  obtain ⟨p0, p1, v201⟩ := x
  intro st hst
  refine RL_at hst ?_
  clear hst
  refine R_seq ?_
  refine R_G ?_
  refine G_run 1 ?_
  refine G_end ?_
  refine R_seq ?_
  refine R_ifp (p := v201 < (p0.length : Int)) (rfl) (fun hc => ?_) (fun hc => ?_)
  · replace hm := pos_inv hc hm
    refine R_skip ?_
    refine R_seq ?_
    refine R_block ?_
    refine R_seq ?_
    refine R_G ?_
    refine G_run 1 ?_
    obtain ⟨v602, hx, hm⟩ := bind_inv hm
    refine I_idx 1 intD p0 v201 v602 (es := (List.map intD) p0) (d := (intD v602)) rfl hx rfl rfl ?_
    refine G_run 3 ?_
    refine G_end ?_
    refine R_seq ?_
    refine R_seq ?_
    refine R_G ?_
    refine G_run 2 ?_
    refine I_len intD p1 (es := (List.map intD) p1) rfl ?_
    refine G_run 1 ?_
    refine G_end ?_
    refine R_ifp (p := v201 ≥ (p1.length : Int)) (rfl) (fun hc => ?_) (fun hc => ?_)
    · replace hm := pos_inv hc hm
      refine R_seq ?_
      refine R_G ?_
      refine G_run 1 ?_
      refine G_end ?_
      refine R_ret ?_
      obtain rfl := inj1 hm
      exact ⟨rfl, cut_leaf (by kernel_rfl)⟩
    replace hm := neg_inv hc hm
    refine R_skip ?_
    refine R_seq ?_
    refine R_G ?_
    refine G_run 2 ?_
    obtain ⟨v603, hx, hm⟩ := bind_inv hm
    refine I_idx 1 intD p1 v201 v603 (es := (List.map intD) p1) (d := (intD v603)) rfl hx rfl rfl ?_
    refine G_run 2 ?_
    refine G_end ?_
    refine R_seq ?_
    refine R_G ?_
    refine G_run 2 ?_
    obtain ⟨v604, hx, hm⟩ := bind_inv hm
    have hq := w_cmp_Compare_int _ _ hx []
    refine G_callP hq ?_
    refine G_run 1 ?_
    refine G_end ?_
    refine R_seq ?_
    refine R_G ?_
    refine G_run 2 ?_
    refine G_end ?_
    refine R_ifp (p := v604 ≠ 0) (ne_dec _ _) (fun hc => ?_) (fun hc => ?_)
    · replace hm := pos_inv hc hm
      refine R_seq ?_
      refine R_G ?_
      refine G_run 2 ?_
      refine G_end ?_
      refine R_ret ?_
      obtain rfl := inj1 hm
      exact ⟨rfl, cut_leaf (by kernel_rfl)⟩
    replace hm := neg_inv hc hm
    refine R_skip ?_
    refine R_G ?_
    refine G_run 2 ?_
    refine G_end ?_
    exact w_slices_Compare_int_int_L1 _ _ hm _ (by kernel_rfl)
  replace hm := neg_inv hc hm
  refine R_exit ?_
  obtain rfl := inj1 hm
  exact ⟨rfl, cut_leaf (by kernel_rfl)⟩
def m_slices_Compare_int_int (x : ((List Int) × (List Int))) : Option Int :=
  match x with
  | (p0, p1) =>
  (
  m_slices_Compare_int_int_L1 (p0, p1, 0) >>= fun (out : Int ⊕ Unit) =>
  match out with
  | .inl v601 =>
    some v601
  | .inr (_) =>
    if (p0.length : Int) < (p1.length : Int) then
      some (-1)
    else
    some 0
  )
def P_slices_Compare_int_int : ((List Int) × (List Int)) → Int → Prop := fun x r => match x, r with
  | (p0, p1), r0 => ∀ H, PC prog env 65 ([(.lst ((List.map intD) p0)), (.lst ((List.map intD) p1))].map .dat) H (intPV r0) H
theorem w_slices_Compare_int_int : ∀ x r, m_slices_Compare_int_int x = some r → P_slices_Compare_int_int x r := by
  intro x r0 hm
  unfold m_slices_Compare_int_int at hm
  unfold P_slices_Compare_int_int
  obtain ⟨p0, p1⟩ := x
  intro H
  refine PC_sx (ds := [(.lst ((List.map intD) p0)), (.lst ((List.map intD) p1))]) (fn := f65) (by kernel_rfl) (by kernel_rfl) rfl ?_ (by kernel_rfl)
  refine R_seq ?_
  refine R_G ?_
  refine G_run 1 ?_
  refine G_end ?_
  refine R_seq ?_
  refine R_seq ?_
  refine R_G ?_
  refine G_run 1 ?_
  refine I_len intD p0 (es := (List.map intD) p0) rfl ?_
  refine G_run 1 ?_
  refine G_end ?_
  refine R_block ?_
  obtain ⟨out, hs, hm⟩ := bind_inv hm
  refine R_loop ?_
  rcases out with v601 | _
  · refine RL_use (w_slices_Compare_int_int_L1 _ _ hs) (by kernel_rfl) ?_
    clear hs
    intro e s hp
    obtain ⟨rfl, d, rfl⟩ := hp
    obtain rfl := inj1 hm
    exact ⟨trivial, fin_pure (by kernel_rfl)⟩
  · refine RL_use (w_slices_Compare_int_int_L1 _ _ hs) (by kernel_rfl) ?_
    clear hs
    intro e s hp
    obtain ⟨rfl, d, rfl⟩ := hp
    refine R_seq ?_
    refine R_seq ?_
    refine R_G ?_
    refine G_run 1 ?_
    refine I_len intD p0 (es := (List.map intD) p0) rfl ?_
    refine G_run 1 ?_
    refine I_len intD p1 (es := (List.map intD) p1) rfl ?_
    refine G_run 1 ?_
    refine G_end ?_
    refine R_ifp (p := (p0.length : Int) < (p1.length : Int)) (rfl) (fun hc => ?_) (fun hc => ?_)
    · replace hm := pos_inv hc hm
      refine R_seq ?_
      refine R_G ?_
      refine G_run 1 ?_
      refine G_end ?_
      refine R_ret ?_
      obtain rfl := inj1 hm
      exact ⟨trivial, fin_pure (by kernel_rfl)⟩
    replace hm := neg_inv hc hm
    refine R_skip ?_
    refine R_seq ?_
    refine R_G ?_
    refine G_run 1 ?_
    refine G_end ?_
    refine R_ret ?_
    obtain rfl := inj1 hm
    exact ⟨trivial, fin_pure (by kernel_rfl)⟩
end Go.Proofs.Tryz
namespace Go.Proofs.Tryz
open Go Go.Pm
set_option linter.unusedVariables false
set_option maxHeartbeats 2000000
set_option maxRecDepth 2000
def m_piece_before (x : (T_piece_Piece × T_piece_Piece)) : Option Int :=
  match x with
  | (p0, p1) =>
  m_slices_Compare_int_int (p0.box.lo, p1.box.lo) >>= fun (v1 : Int) =>
  some v1
def P_piece_before : (T_piece_Piece × T_piece_Piece) → Int → Prop := fun x r => match x, r with
  | (p0, p1), r0 => ∀ H, PC prog env 33 ([(T_piece_Piece.toD p0), (T_piece_Piece.toD p1)].map .dat) H (intPV r0) H
theorem w_piece_before : ∀ x r, m_piece_before x = some r → P_piece_before x r := by
  intro x r0 hm
  unfold m_piece_before at hm
  unfold P_piece_before
  obtain ⟨p0, p1⟩ := x
  intro H
  refine PC_sx (ds := [(T_piece_Piece.toD p0), (T_piece_Piece.toD p1)]) (fn := f33) (by kernel_rfl) (by kernel_rfl) rfl ?_ (by kernel_rfl)
  refine R_seq ?_
  refine R_G ?_
  refine G_run 3 ?_
  refine G_end ?_
  refine R_seq ?_
  refine R_G ?_
  refine G_run 6 ?_
  obtain ⟨v1, hx, hm⟩ := bind_inv hm
  have hq := w_slices_Compare_int_int _ _ hx []
  refine G_callP hq ?_
  refine G_run 1 ?_
  refine G_end ?_
  refine R_ret ?_
  obtain rfl := inj1 hm
  exact ⟨trivial, fin_pure (by kernel_rfl)⟩
end Go.Proofs.Tryz
namespace Go.Proofs.Tryz
open Go Go.Pm
set_option linter.unusedVariables false
set_option maxHeartbeats 2000000
set_option maxRecDepth 2000
def m_box_in_L1 (x : (T_box_Box × (List Int) × Int)) : Option (Unit ⊕ Unit) :=
  match x with
  | (p1, p0, v203) =>
  if v203 < (p1.hi.length : Int) then
    idx p1.hi v203 >>= fun v603 =>
    idx p0 v203 >>= fun v604 =>
    if v603 > v604 then
      some (Sum.inl ())
    else
    m_box_in_L1 (p1, p0, (W (v203 + 1)))
  else
  some (Sum.inr ())
  partial_fixpoint
def P_box_in_L1 : (T_box_Box × (List Int) × Int) → (Unit ⊕ Unit) → Prop := fun x r => match x with
  | (p1, p0, v203) => ∀ st, prune 1 ((firstRegion (codeAt [1, 1, 0, 1, 0, 0] (bodyOf f67))).bind (env.hint 67).keepAt) st = ⟨kp 33 [(0, (.dat (.lst ((List.map intD) p0)))), (19, (.dat (.lst ((List.map intD) p1.hi)))), (20, (intPV (p1.hi.length : Int))), (21, (intPV v203))], [(.box [(.dat (.lst ((List.map intD) p1.lo))), (.dat (.lst ((List.map intD) p1.hi)))])]⟩ →
    RL prog env (env.hint 67) true (codeAt [1, 1, 0, 1, 0, 0] (bodyOf f67)) 1 st (fun e s => match r with | .inl _ => e = .ret ∧ ∃ d, s = ⟨sl d 33 [(4, (boolPV false))], [(.box [(.dat (.lst ((List.map intD) p1.lo))), (.dat (.lst ((List.map intD) p1.hi)))])]⟩ | .inr (_) => e = .exit 0 ∧ ∃ d, s = ⟨sl d 33 [], [(.box [(.dat (.lst ((List.map intD) p1.lo))), (.dat (.lst ((List.map intD) p1.hi)))])]⟩)
theorem w_box_in_L1 : ∀ x r, m_box_in_L1 x = some r → P_box_in_L1 x r := by
  refine m_box_in_L1.partial_correctness _ (fun m_box_in_L1 w_box_in_L1 x r hm => ?_)
  unfold P_box_in_L1
  obtain ⟨p1, p0, v203⟩ := x
  intro st hst
  refine RL_at hst ?_
  clear hst
  refine R_seq ?_
  refine R_G ?_
  refine G_run 1 ?_
  refine G_end ?_
  refine R_seq ?_
  refine R_ifp (p := v203 < (p1.hi.length : Int)) (rfl) (fun hc => ?_) (fun hc => ?_)
  · replace hm := pos_inv hc hm
    refine R_skip ?_
    refine R_seq ?_
    refine R_block ?_
    refine R_seq ?_
    refine R_G ?_
    refine G_run 1 ?_
    obtain ⟨v603, hx, hm⟩ := bind_inv hm
    refine I_idx 1 intD p1.hi v203 v603 (es := (List.map intD) p1.hi) (d := (intD v603)) rfl hx rfl rfl ?_
    refine G_run 3 ?_
    refine G_end ?_
    refine R_seq ?_
    refine R_G ?_
    refine G_run 3 ?_
    obtain ⟨v604, hx, hm⟩ := bind_inv hm
    refine I_idx 1 intD p0 v203 v604 (es := (List.map intD) p0) (d := (intD v604)) rfl hx rfl rfl ?_
    refine G_run 2 ?_
    refine G_end ?_
    refine R_ifp (p := v603 > v604) (rfl) (fun hc => ?_) (fun hc => ?_)
    · replace hm := pos_inv hc hm
      refine R_seq ?_
      refine R_G ?_
      refine G_run 1 ?_
      refine G_end ?_
      refine R_ret ?_
      obtain rfl := inj1 hm
      exact ⟨rfl, cut_leaf (by kernel_rfl)⟩
    replace hm := neg_inv hc hm
    refine R_skip ?_
    refine R_G ?_
    refine G_run 2 ?_
    refine G_end ?_
    exact w_box_in_L1 _ _ hm _ (by kernel_rfl)
  replace hm := neg_inv hc hm
  refine R_exit ?_
  obtain rfl := inj1 hm
  exact ⟨rfl, cut_leaf (by kernel_rfl)⟩
def m_box_in (x : ((List Int) × T_box_Box)) : Option Bool :=
  match x with
  | (p0, p1) =>
  (m_box_Right p1 >>= fun (v2 : Bool) =>
  if v2 = false then
    some true
  else
  some ((p1.hi.length : Int) != (p0.length : Int))
  ) >>= fun (v1 : Bool) =>
  if v1 = true then
    some false
  else
  (
  m_box_in_L1 (p1, p0, 0) >>= fun (out : Unit ⊕ Unit) =>
  match out with
  | .inl _ =>
    some false
  | .inr (_) =>
    some true
  )
def P_box_in : ((List Int) × T_box_Box) → Bool → Prop := fun x r => match x, r with
  | (p0, p1), r0 => ∀ H, PC prog env 67 ([(.lst ((List.map intD) p0)), (T_box_Box.toD p1)].map .dat) H (boolPV r0) H
theorem w_box_in : ∀ x r, m_box_in x = some r → P_box_in x r := by
  intro x r0 hm
  unfold m_box_in at hm
  unfold P_box_in
  obtain ⟨p0, p1⟩ := x
  intro H
  refine PC_sx (ds := [(.lst ((List.map intD) p0)), (T_box_Box.toD p1)]) (fn := f67) (by kernel_rfl) (by kernel_rfl) rfl ?_ (by kernel_rfl)
  refine R_seq ?_
  refine R_G ?_
  refine G_run 2 ?_
  refine G_end ?_
  refine R_seq ?_
  refine R_seq ?_
  obtain ⟨v1, hs, hm⟩ := bind_inv hm
  refine R_cut (fun d => ⟨sl d 33 [(0, (.dat (.lst ((List.map intD) p0)))), (3, (.ptr 0 0)), (17, (boolPV v1))], [(.box [(.dat (.lst ((List.map intD) p1.lo))), (.dat (.lst ((List.map intD) p1.hi)))])]⟩) ?_ (fun d => ?_)
  · replace hm := hs
    clear hs
    refine R_G ?_
    refine G_run 1 ?_
    obtain ⟨v2, hx, hm⟩ := bind_inv hm
    have hq := w_box_Right _ _ hx []
    refine G_callP hq ?_
    refine G_run 2 ?_
    refine G_split (p := v2 = false) 10 (not_dec _) (fun hc => ?_) (fun hc => ?_)
    · replace hm := pos_inv hc hm
      refine G_run 7 ?_
      refine G_end ?_
      obtain rfl := inj1 hm
      exact cut_leaf (by kernel_rfl)
    replace hm := neg_inv hc hm
    refine G_run 2 ?_
    refine I_len intD p1.hi (es := (List.map intD) p1.hi) rfl ?_
    refine G_run 1 ?_
    refine I_len intD p0 (es := (List.map intD) p0) rfl ?_
    refine G_run 2 ?_
    refine G_end ?_
    obtain rfl := inj1 hm
    exact cut_leaf (by kernel_rfl)
  clear hs
  refine R_ifp (p := v1 = true) (bool_dec _) (fun hc => ?_) (fun hc => ?_)
  · replace hm := pos_inv hc hm
    refine R_seq ?_
    refine R_G ?_
    refine G_run 1 ?_
    refine G_end ?_
    refine R_ret ?_
    obtain rfl := inj1 hm
    exact ⟨trivial, fin_pure (by kernel_rfl)⟩
  replace hm := neg_inv hc hm
  refine R_skip ?_
  refine R_seq ?_
  refine R_seq ?_
  refine R_G ?_
  refine G_run 2 ?_
  refine I_len intD p1.hi (es := (List.map intD) p1.hi) rfl ?_
  refine G_run 1 ?_
  refine G_end ?_
  refine R_block ?_
  obtain ⟨out, hs, hm⟩ := bind_inv hm
  refine R_loop ?_
  rcases out with _ | _
  · refine RL_use (w_box_in_L1 _ _ hs) (by kernel_rfl) ?_
    clear hs
    intro e s hp
    obtain ⟨rfl, d, rfl⟩ := hp
    obtain rfl := inj1 hm
    exact ⟨trivial, fin_pure (by kernel_rfl)⟩
  · refine RL_use (w_box_in_L1 _ _ hs) (by kernel_rfl) ?_
    clear hs
    intro e s hp
    obtain ⟨rfl, d, rfl⟩ := hp
    refine R_seq ?_
    refine R_G ?_
    refine G_run 1 ?_
    refine G_end ?_
    refine R_ret ?_
    obtain rfl := inj1 hm
    exact ⟨trivial, fin_pure (by kernel_rfl)⟩
end Go.Proofs.Tryz
namespace Go.Proofs.Tryz
open Go Go.Pm
set_option linter.unusedVariables false
set_option maxHeartbeats 2000000
set_option maxRecDepth 2000
def m_box_Exact_L2 (x : ((List T_box_Box) × (List Int) × (List T_box_Box) × Int × Int × Int × T_box_Box)) : Option (Unit) :=
  match x with
  | (v607, p0, p1, v201, v606, v202, v604) =>
  if 0 < (v607.length : Int) then
    idx v607 0 >>= fun v1008 =>
    none
  else
  some ()
def P_box_Exact_L2 : ((List T_box_Box) × (List Int) × (List T_box_Box) × Int × Int × Int × T_box_Box) → Unit → Prop := fun x r => match x with
  | (v607, p0, p1, v201, v606, v202, v604) => ∀ st, prune 1 ((firstRegion (codeAt [1, 1, 0, 1, 0, 0, 1, 1, 0, 0, 1, 1, 1, 1, 0, 0] (bodyOf f35))).bind (env.hint 35).keepAt) st = ⟨kp 48 [(0, (.dat (.lst ((List.map intD) p0)))), (1, (.dat (.lst ((List.map T_box_Box.toD) p1)))), (5, (intPV (W (v201 + v606)))), (7, (.ptr 0 0)), (12, (.dat (.lst ((List.map T_box_Box.toD) p1)))), (13, (intPV (p1.length : Int))), (14, (intPV v202)), (29, (.dat (.lst ((List.map T_box_Box.toD) v607)))), (30, (intPV (v607.length : Int))), (31, (intPV 0))], [(.box [(.dat (.lst ((List.map intD) v604.lo))), (.dat (.lst ((List.map intD) v604.hi)))])]⟩ →
    RL prog env (env.hint 35) true (codeAt [1, 1, 0, 1, 0, 0, 1, 1, 0, 0, 1, 1, 1, 1, 0, 0] (bodyOf f35)) 1 st (fun e s => match r with | _ => e = .exit 2 ∧ ∃ d, s = ⟨sl d 48 [(0, (.dat (.lst ((List.map intD) p0)))), (1, (.dat (.lst ((List.map T_box_Box.toD) p1)))), (5, (intPV (W (v201 + v606)))), (12, (.dat (.lst ((List.map T_box_Box.toD) p1)))), (13, (intPV (p1.length : Int))), (14, (intPV v202))], [(.box [(.dat (.lst ((List.map intD) v604.lo))), (.dat (.lst ((List.map intD) v604.hi)))])]⟩)
theorem w_box_Exact_L2 : ∀ x r, m_box_Exact_L2 x = some r → P_box_Exact_L2 x r := by
  intro x r hm
  unfold m_box_Exact_L2 at hm
  unfold P_box_Exact_L2
  obtain ⟨v607, p0, p1, v201, v606, v202, v604⟩ := x
  intro st hst
  refine RL_at hst ?_
  clear hst
  refine R_seq ?_
  refine R_G ?_
  refine G_run 1 ?_
  refine G_end ?_
  refine R_seq ?_
  refine R_ifp (p := 0 < (v607.length : Int)) (rfl) (fun hc => ?_) (fun hc => ?_)
  · replace hm := pos_inv hc hm
    refine R_skip ?_
    refine R_seq ?_
    refine R_block ?_
    refine R_seq ?_
    refine R_G ?_
    obtain ⟨v1008, hx, hm⟩ := bind_inv hm
    refine I_idx 2 T_box_Box.toD v607 0 v1008 (es := (List.map T_box_Box.toD) v607) (d := (T_box_Box.toD v1008)) rfl hx rfl rfl ?_
    refine G_run 3 ?_
    refine G_end ?_
    refine R_seq ?_
    refine R_G ?_
    refine G_run 2 ?_
    exact (none_inv hm).elim
  replace hm := neg_inv hc hm
  refine R_exit ?_
  obtain rfl := inj1 hm
  exact ⟨rfl, cut_leaf (by kernel_rfl)⟩
def m_box_Exact_L1 (x : ((List T_box_Box) × (List Int) × Int × Int)) : Option (((List Int) × (List Int)) ⊕ Int) :=
  match x with
  | (p1, p0, v201, v202) =>
  if v202 < (p1.length : Int) then
    idx p1 v202 >>= fun v604 =>
    m_box_in (p0, v604) >>= fun (v605 : Bool) =>
    if v605 = false then
      some (Sum.inl (v604.lo, v604.hi))
    else
    m_box_Size v604 >>= fun (v606 : Int) =>
    sub p1 0 v202 >>= fun v607 =>
    m_box_Exact_L2 (v607, p0, p1, v201, v606, v202, v604) >>= fun (_ : Unit) =>
    m_box_Exact_L1 (p1, p0, (W (v201 + v606)), (W (v202 + 1)))
  else
  some (Sum.inr v201)
  partial_fixpoint
def P_box_Exact_L1 : ((List T_box_Box) × (List Int) × Int × Int) → (((List Int) × (List Int)) ⊕ Int) → Prop := fun x r => match x with
  | (p1, p0, v201, v202) => ∀ st, prune 0 ((firstRegion (codeAt [1, 1, 0, 1, 0, 0] (bodyOf f35))).bind (env.hint 35).keepAt) st = ⟨kp 48 [(0, (.dat (.lst ((List.map intD) p0)))), (1, (.dat (.lst ((List.map T_box_Box.toD) p1)))), (5, (intPV v201)), (12, (.dat (.lst ((List.map T_box_Box.toD) p1)))), (13, (intPV (p1.length : Int))), (14, (intPV v202))], []⟩ →
    RL prog env (env.hint 35) true (codeAt [1, 1, 0, 1, 0, 0] (bodyOf f35)) 0 st (fun e s => match r with | .inl (v601, v602) => e = .ret ∧ ∃ d, s = ⟨sl d 48 [(4, (boolPV false))], [(.box [(.dat (.lst ((List.map intD) v601))), (.dat (.lst ((List.map intD) v602)))])]⟩ | .inr (v603) => e = .exit 0 ∧ ∃ d, s = ⟨sl d 48 [(0, (.dat (.lst ((List.map intD) p0)))), (5, (intPV v603))], []⟩)
theorem w_box_Exact_L1 : ∀ x r, m_box_Exact_L1 x = some r → P_box_Exact_L1 x r := by
  refine m_box_Exact_L1.partial_correctness _ (fun m_box_Exact_L1 w_box_Exact_L1 x r hm => ?_)
  unfold P_box_Exact_L1
  obtain ⟨p1, p0, v201, v202⟩ := x
  intro st hst
  refine RL_at hst ?_
  clear hst
  refine R_seq ?_
  refine R_G ?_
  refine G_run 1 ?_
  refine G_end ?_
  refine R_seq ?_
  refine R_ifp (p := v202 < (p1.length : Int)) (rfl) (fun hc => ?_) (fun hc => ?_)
  · replace hm := pos_inv hc hm
    refine R_skip ?_
    refine R_seq ?_
    refine R_block ?_
    refine R_seq ?_
    refine R_G ?_
    refine G_run 1 ?_
    obtain ⟨v604, hx, hm⟩ := bind_inv hm
    refine I_idx 2 T_box_Box.toD p1 v202 v604 (es := (List.map T_box_Box.toD) p1) (d := (T_box_Box.toD v604)) rfl hx rfl rfl ?_
    refine G_run 4 ?_
    refine G_end ?_
    refine R_seq ?_
    refine R_seq ?_
    refine R_G ?_
    refine G_run 2 ?_
    obtain ⟨v605, hx, hm⟩ := bind_inv hm
    have hq := w_box_in _ _ hx []
    refine G_callP hq ?_
    refine G_run 1 ?_
    refine G_end ?_
    refine R_ifp (p := v605 = false) (not_dec _) (fun hc => ?_) (fun hc => ?_)
    · replace hm := pos_inv hc hm
      refine R_seq ?_
      refine R_G ?_
      refine G_run 1 ?_
      refine G_end ?_
      refine R_ret ?_
      obtain rfl := inj1 hm
      exact ⟨rfl, cut_leaf (by kernel_rfl)⟩
    replace hm := neg_inv hc hm
    refine R_skip ?_
    refine R_seq ?_
    refine R_G ?_
    refine G_run 2 ?_
    obtain ⟨v606, hx, hm⟩ := bind_inv hm
    have hq := w_box_Size _ _ hx []
    refine G_callP hq ?_
    refine G_run 2 ?_
    refine G_end ?_
    refine R_seq ?_
    refine R_G ?_
    refine G_run 2 ?_
    obtain ⟨v607, hx, hm⟩ := bind_inv hm
    refine I_sub 2 T_box_Box.toD p1 v607 0 v202 (es := (List.map T_box_Box.toD) p1) (L := (List.map T_box_Box.toD)) (a := natI 0) (b := natI v202) (fun _ => rfl) rfl (fun _ => by first | rfl | exact num_of_fit (T_box_Box.fit _)) hx rfl (Or.inl rfl) ?_
    refine I_len T_box_Box.toD v607 (es := (List.map T_box_Box.toD) v607) rfl ?_
    refine G_run 1 ?_
    refine G_end ?_
    refine R_block ?_
    obtain ⟨_, hs, hm⟩ := bind_inv hm
    refine R_loop ?_
    refine RL_use (w_box_Exact_L2 _ _ hs) (by kernel_rfl) ?_
    clear hs
    intro e s hp
    obtain ⟨rfl, d, rfl⟩ := hp
    refine R_G ?_
    refine G_run 2 ?_
    refine G_end ?_
    exact w_box_Exact_L1 _ _ hm _ (by kernel_rfl)
  replace hm := neg_inv hc hm
  refine R_exit ?_
  obtain rfl := inj1 hm
  exact ⟨rfl, cut_leaf (by kernel_rfl)⟩
def m_box_Exact (x : ((List Int) × (List T_box_Box))) : Option Bool :=
  match x with
  | (p0, p1) =>
  (
  m_box_Exact_L1 (p1, p0, 0, 0) >>= fun (out : ((List Int) × (List Int)) ⊕ Int) =>
  match out with
  | .inl (v601, v602) =>
    some false
  | .inr (v603) =>
    m_shape_Cells p0 >>= fun (v1009 : Int) =>
    some (v603 == v1009)
  )
def P_box_Exact : ((List Int) × (List T_box_Box)) → Bool → Prop := fun x r => match x, r with
  | (p0, p1), r0 => ∀ H, PC prog env 35 ([(.lst ((List.map intD) p0)), (.lst ((List.map T_box_Box.toD) p1))].map .dat) H (boolPV r0) H
theorem w_box_Exact : ∀ x r, m_box_Exact x = some r → P_box_Exact x r := by
  intro x r0 hm
  unfold m_box_Exact at hm
  unfold P_box_Exact
  obtain ⟨p0, p1⟩ := x
  intro H
  refine PC_sx (ds := [(.lst ((List.map intD) p0)), (.lst ((List.map T_box_Box.toD) p1))]) (fn := f35) (by kernel_rfl) (by kernel_rfl) rfl ?_ (by kernel_rfl)
  refine R_seq ?_
  refine R_G ?_
  refine G_run 1 ?_
  refine G_end ?_
  refine R_seq ?_
  refine R_G ?_
  refine G_run 1 ?_
  refine G_end ?_
  refine R_seq ?_
  refine R_seq ?_
  refine R_G ?_
  refine G_run 1 ?_
  refine I_len T_box_Box.toD p1 (es := (List.map T_box_Box.toD) p1) rfl ?_
  refine G_run 1 ?_
  refine G_end ?_
  refine R_block ?_
  obtain ⟨out, hs, hm⟩ := bind_inv hm
  refine R_loop ?_
  rcases out with ⟨v601, v602⟩ | v603
  · refine RL_use (w_box_Exact_L1 _ _ hs) (by kernel_rfl) ?_
    clear hs
    intro e s hp
    obtain ⟨rfl, d, rfl⟩ := hp
    obtain rfl := inj1 hm
    exact ⟨trivial, fin_pure (by kernel_rfl)⟩
  · refine RL_use (w_box_Exact_L1 _ _ hs) (by kernel_rfl) ?_
    clear hs
    intro e s hp
    obtain ⟨rfl, d, rfl⟩ := hp
    refine R_seq ?_
    refine R_G ?_
    refine G_run 2 ?_
    obtain ⟨v1009, hx, hm⟩ := bind_inv hm
    have hq := w_shape_Cells _ _ hx []
    refine G_callP hq ?_
    refine G_run 2 ?_
    refine G_end ?_
    refine R_ret ?_
    obtain rfl := inj1 hm
    exact ⟨trivial, fin_pure (by kernel_rfl)⟩
end Go.Proofs.Tryz
namespace Go.Proofs.Tryz
open Go Go.Pm
set_option linter.unusedVariables false
set_option maxHeartbeats 2000000
set_option maxRecDepth 2000
def m_piece_Covers_L1 (x : ((List T_piece_Piece) × (List Int) × (List T_box_Box) × Int)) : Option (((List Int) × (List Int) × Int × Int × Int × (List Int) × Int × Int × Int × Nat) ⊕ (List T_box_Box)) :=
  match x with
  | (p1, p0, v201, v202) =>
  if v202 < (p1.length : Int) then
    idx p1 v202 >>= fun v612 =>
    (m_box_Right v612.box >>= fun (v614 : Bool) =>
    (if v614 = false then
      some true
    else
    m_box_Size v612.box >>= fun (v616 : Int) =>
    some (v616 == 0)
    ) >>= fun (v615 : Bool) =>
    (if v615 = true then
      some true
    else
    m_access_Right (v612.access, (p0.length : Int)) >>= fun (v618 : Bool) =>
    some (!v618)
    ) >>= fun (v617 : Bool) =>
    if v617 = true then
      some true
    else
    if v202 > 0 then
      idx p1 (W (v202 - 1)) >>= fun v619 =>
      m_piece_before (v619, v612) >>= fun (v620 : Int) =>
      some (decide (v620 ≥ 0))
    else
    some false
    ) >>= fun (v613 : Bool) =>
    if v613 = true then
      some (Sum.inl (v612.box.lo, v612.box.hi, v612.access.kind, v612.access.buffer, v612.access.base, v612.access.strides, v612.access.start, v612.access.step, v612.access.mod, v201.length))
    else
    app 48 v201 ([v612.box] : List T_box_Box) >>= fun v621 =>
    m_piece_Covers_L1 (p1, p0, v621, (W (v202 + 1)))
  else
  some (Sum.inr v201)
  partial_fixpoint
def P_piece_Covers_L1 : ((List T_piece_Piece) × (List Int) × (List T_box_Box) × Int) → (((List Int) × (List Int) × Int × Int × Int × (List Int) × Int × Int × Int × Nat) ⊕ (List T_box_Box)) → Prop := fun x r => match x with
  | (p1, p0, v201, v202) => ∀ st, prune 1 ((firstRegion (codeAt [1, 1, 0, 1, 0, 0] (bodyOf f12))).bind (env.hint 12).keepAt) st = ⟨kp 61 [(0, (.dat (.lst ((List.map intD) p0)))), (1, (.dat (.lst ((List.map T_piece_Piece.toD) p1)))), (5, (.vec 0 ((List.map T_box_Box.toD) v201))), (8, (.dat (.lst ((List.map T_piece_Piece.toD) p1)))), (9, (intPV (p1.length : Int))), (10, (intPV v202))], [(.tok 47 v201.length)]⟩ →
    RL prog env (env.hint 12) true (codeAt [1, 1, 0, 1, 0, 0] (bodyOf f12)) 1 st (fun e s => match r with | .inl (v601, v602, v603, v604, v605, v606, v607, v608, v609, v610) => e = .ret ∧ ∃ d, s = ⟨sl d 61 [(4, (boolPV false))], [(.tok 47 v610), (.box [(.dat (.lst ((List.map intD) v601))), (.dat (.lst ((List.map intD) v602))), (intPV v603), (intPV v604), (intPV v605), (.dat (.lst ((List.map intD) v606))), (intPV v607), (intPV v608), (intPV v609)])]⟩ | .inr (v611) => e = .exit 0 ∧ ∃ d, s = ⟨sl d 61 [(0, (.dat (.lst ((List.map intD) p0)))), (5, (.vec 0 ((List.map T_box_Box.toD) v611)))], [(.tok 47 v611.length)]⟩)
theorem w_piece_Covers_L1 : ∀ x r, m_piece_Covers_L1 x = some r → P_piece_Covers_L1 x r := by
  refine m_piece_Covers_L1.partial_correctness _ (fun m_piece_Covers_L1 w_piece_Covers_L1 x r hm => ?_)
  unfold P_piece_Covers_L1
  obtain ⟨p1, p0, v201, v202⟩ := x
  intro st hst
  refine RL_at hst ?_
  clear hst
  refine R_seq ?_
  refine R_G ?_
  refine G_run 1 ?_
  refine G_end ?_
  refine R_seq ?_
  refine R_ifp (p := v202 < (p1.length : Int)) (rfl) (fun hc => ?_) (fun hc => ?_)
  · replace hm := pos_inv hc hm
    refine R_skip ?_
    refine R_seq ?_
    refine R_block ?_
    refine R_seq ?_
    refine R_G ?_
    refine G_run 1 ?_
    obtain ⟨v612, hx, hm⟩ := bind_inv hm
    refine I_idx 9 T_piece_Piece.toD p1 v202 v612 (es := (List.map T_piece_Piece.toD) p1) (d := (T_piece_Piece.toD v612)) rfl hx rfl rfl ?_
    refine G_run 4 ?_
    refine G_end ?_
    refine R_seq ?_
    refine R_seq ?_
    obtain ⟨v613, hs, hm⟩ := bind_inv hm
    refine R_cut (fun d => ⟨sl d 61 [(0, (.dat (.lst ((List.map intD) p0)))), (1, (.dat (.lst ((List.map T_piece_Piece.toD) p1)))), (5, (.vec 0 ((List.map T_box_Box.toD) v201))), (7, (.ptr 1 0)), (8, (.dat (.lst ((List.map T_piece_Piece.toD) p1)))), (9, (intPV (p1.length : Int))), (10, (intPV v202)), (46, (boolPV v613))], [(.tok 47 v201.length), (.box [(.dat (.lst ((List.map intD) v612.box.lo))), (.dat (.lst ((List.map intD) v612.box.hi))), (intPV v612.access.kind), (intPV v612.access.buffer), (intPV v612.access.base), (.dat (.lst ((List.map intD) v612.access.strides))), (intPV v612.access.start), (intPV v612.access.step), (intPV v612.access.mod)])]⟩) ?_ (fun d => ?_)
    · replace hm := hs
      clear hs
      refine R_GW ?_
      refine G_run 2 ?_
      obtain ⟨v614, hx, hm⟩ := bind_inv hm
      have hq := w_box_Right _ _ hx []
      refine G_callP hq ?_
      refine G_run 2 ?_
      obtain ⟨v615, hs, hm⟩ := bind_inv hm
      refine G_cut (j := 10) (fun d => ⟨sl d 61 [(0, (.dat (.lst ((List.map intD) p0)))), (1, (.dat (.lst ((List.map T_piece_Piece.toD) p1)))), (5, (.vec 0 ((List.map T_box_Box.toD) v201))), (6, (intPV v202)), (7, (.ptr 1 0)), (8, (.dat (.lst ((List.map T_piece_Piece.toD) p1)))), (9, (intPV (p1.length : Int))), (10, (intPV v202)), (11, (boolPV (decide (v202 < (p1.length : Int))))), (12, (intPV v202)), (13, (.iptr [(.lst ((List.map intD) v612.box.lo)), (.lst ((List.map intD) v612.box.hi)), (intD v612.access.kind), (intD v612.access.buffer), (intD v612.access.base), (.lst ((List.map intD) v612.access.strides)), (intD v612.access.start), (intD v612.access.step), (intD v612.access.mod)])), (14, (.dat (.agg [(.lst ((List.map intD) v612.box.lo)), (.lst ((List.map intD) v612.box.hi)), (intD v612.access.kind), (intD v612.access.buffer), (intD v612.access.base), (.lst ((List.map intD) v612.access.strides)), (intD v612.access.start), (intD v612.access.step), (intD v612.access.mod)]))), (15, (.ptr 1 0)), (16, (.dat (.agg [(.lst ((List.map intD) v612.box.lo)), (.lst ((List.map intD) v612.box.hi))]))), (17, (boolPV v614)), (18, (boolPV (!v614))), (24, (boolPV v615))], [(.tok 47 v201.length), (.box [(.dat (.lst ((List.map intD) v612.box.lo))), (.dat (.lst ((List.map intD) v612.box.hi))), (intPV v612.access.kind), (intPV v612.access.buffer), (intPV v612.access.base), (.dat (.lst ((List.map intD) v612.access.strides))), (intPV v612.access.start), (intPV v612.access.step), (intPV v612.access.mod)])]⟩) (fun d => ?_) (fun hJ => ?_)
      · clear hs
        refine G_run 1 ?_
        obtain ⟨v617, hs, hm⟩ := bind_inv hm
        refine G_cut (j := 18) (fun d => ⟨sl d 61 [(0, (.dat (.lst ((List.map intD) p0)))), (1, (.dat (.lst ((List.map T_piece_Piece.toD) p1)))), (5, (.vec 0 ((List.map T_box_Box.toD) v201))), (6, (intPV v202)), (7, (.ptr 1 0)), (8, (.dat (.lst ((List.map T_piece_Piece.toD) p1)))), (9, (intPV (p1.length : Int))), (10, (intPV v202)), (11, (boolPV (decide (v202 < (p1.length : Int))))), (12, (intPV v202)), (13, (.iptr [(.lst ((List.map intD) v612.box.lo)), (.lst ((List.map intD) v612.box.hi)), (intD v612.access.kind), (intD v612.access.buffer), (intD v612.access.base), (.lst ((List.map intD) v612.access.strides)), (intD v612.access.start), (intD v612.access.step), (intD v612.access.mod)])), (14, (.dat (.agg [(.lst ((List.map intD) v612.box.lo)), (.lst ((List.map intD) v612.box.hi)), (intD v612.access.kind), (intD v612.access.buffer), (intD v612.access.base), (.lst ((List.map intD) v612.access.strides)), (intD v612.access.start), (intD v612.access.step), (intD v612.access.mod)]))), (15, (.ptr 1 0)), (16, (.dat (.agg [(.lst ((List.map intD) v612.box.lo)), (.lst ((List.map intD) v612.box.hi))]))), (17, (boolPV v614)), (18, (boolPV (!v614))), (24, (boolPV v615)), (32, (boolPV v617))], [(.tok 47 v201.length), (.box [(.dat (.lst ((List.map intD) v612.box.lo))), (.dat (.lst ((List.map intD) v612.box.hi))), (intPV v612.access.kind), (intPV v612.access.buffer), (intPV v612.access.base), (.dat (.lst ((List.map intD) v612.access.strides))), (intPV v612.access.start), (intPV v612.access.step), (intPV v612.access.mod)])]⟩) (fun d => ?_) (fun hJ => ?_)
        · clear hs
          refine G_run 1 ?_
          refine G_split (p := v617 = true) 33 (bool_dec _) (fun hc => ?_) (fun hc => ?_)
          · replace hm := pos_inv hc hm
            refine G_run 13 ?_
            refine G_end ⟨by kernel_rfl, ?_⟩
            obtain rfl := inj1 hm
            exact cut_leaf (by kernel_rfl)
          replace hm := neg_inv hc hm
          refine G_run 3 ?_
          refine G_split (p := v202 > 0) 36 (rfl) (fun hc => ?_) (fun hc => ?_)
          · replace hm := pos_inv hc hm
            refine G_run 3 ?_
            obtain ⟨v619, hx, hm⟩ := bind_inv hm
            refine I_idx 9 T_piece_Piece.toD p1 (W (v202 - 1)) v619 (es := (List.map T_piece_Piece.toD) p1) (d := (T_piece_Piece.toD v619)) rfl hx rfl rfl ?_
            refine G_run 2 ?_
            obtain ⟨v620, hx, hm⟩ := bind_inv hm
            have hq := w_piece_before _ _ hx []
            refine G_callP hq ?_
            refine G_run 3 ?_
            refine G_end ⟨by kernel_rfl, ?_⟩
            obtain rfl := inj1 hm
            exact cut_leaf (by kernel_rfl)
          replace hm := neg_inv hc hm
          refine G_run 10 ?_
          refine G_end ⟨by kernel_rfl, ?_⟩
          obtain rfl := inj1 hm
          exact cut_leaf (by kernel_rfl)
        replace hm := hs
        clear hs
        refine G_split (p := v615 = true) 25 (bool_dec _) (fun hc => ?_) (fun hc => ?_)
        · replace hm := pos_inv hc hm
          refine G_run 7 ?_
          obtain rfl := inj1 hm
          exact hJ _ _ (by kernel_rfl) (by kernel_rfl)
        replace hm := neg_inv hc hm
        refine G_run 3 ?_
        refine I_len intD p0 (es := (List.map intD) p0) rfl ?_
        obtain ⟨v618, hx, hm⟩ := bind_inv hm
        have hq := w_access_Right _ _ hx []
        refine G_callP hq ?_
        refine G_run 2 ?_
        obtain rfl := inj1 hm
        exact hJ _ _ (by kernel_rfl) (by kernel_rfl)
      replace hm := hs
      clear hs
      refine G_split (p := v614 = false) 19 (not_dec _) (fun hc => ?_) (fun hc => ?_)
      · replace hm := pos_inv hc hm
        refine G_run 5 ?_
        obtain rfl := inj1 hm
        exact hJ _ _ (by kernel_rfl) (by kernel_rfl)
      replace hm := neg_inv hc hm
      refine G_run 2 ?_
      obtain ⟨v616, hx, hm⟩ := bind_inv hm
      have hq := w_box_Size _ _ hx []
      refine G_callP hq ?_
      refine G_run 2 ?_
      obtain rfl := inj1 hm
      exact hJ _ _ (by kernel_rfl) (by kernel_rfl)
    clear hs
    refine R_ifp (p := v613 = true) (bool_dec _) (fun hc => ?_) (fun hc => ?_)
    · replace hm := pos_inv hc hm
      refine R_seq ?_
      refine R_G ?_
      refine G_run 1 ?_
      refine G_end ?_
      refine R_ret ?_
      obtain rfl := inj1 hm
      exact ⟨rfl, cut_leaf (by kernel_rfl)⟩
    replace hm := neg_inv hc hm
    refine R_skip ?_
    refine R_G ?_
    refine G_run 4 ?_
    obtain ⟨v621, hx, hm⟩ := bind_inv hm
    refine I_app 47 2 48 0 T_box_Box.toD v201 ([v612.box] : List T_box_Box) v621 (xs := (List.map T_box_Box.toD) v201) (es := (List.map T_box_Box.toD) ([v612.box] : List T_box_Box)) (L := (List.map T_box_Box.toD)) (fun _ => rfl) rfl rfl T_box_Box.fit hx ?_
    refine G_run 1 ?_
    refine G_end ?_
    refine R_G ?_
    refine G_run 2 ?_
    refine G_end ?_
    exact w_piece_Covers_L1 _ _ hm _ (by kernel_rfl)
  replace hm := neg_inv hc hm
  refine R_exit ?_
  obtain rfl := inj1 hm
  exact ⟨rfl, cut_leaf (by kernel_rfl)⟩
def m_piece_Covers (x : ((List Int) × (List T_piece_Piece))) : Option Bool :=
  match x with
  | (p0, p1) =>
  (
  m_piece_Covers_L1 (p1, p0, ([] : List T_box_Box), 0) >>= fun (out : ((List Int) × (List Int) × Int × Int × Int × (List Int) × Int × Int × Int × Nat) ⊕ (List T_box_Box)) =>
  match out with
  | .inl (v601, v602, v603, v604, v605, v606, v607, v608, v609, v610) =>
    some false
  | .inr (v611) =>
    m_shape_Check p0 >>= fun (v622 : Int) =>
    if v622 = 0 then
      m_box_Exact (p0, v611) >>= fun (v623 : Bool) =>
      some v623
    else
    some false
  )
def P_piece_Covers : ((List Int) × (List T_piece_Piece)) → Bool → Prop := fun x r => match x, r with
  | (p0, p1), r0 => ∀ H, PC prog env 12 ([(.lst ((List.map intD) p0)), (.lst ((List.map T_piece_Piece.toD) p1))].map .dat) H (boolPV r0) H
theorem w_piece_Covers : ∀ x r, m_piece_Covers x = some r → P_piece_Covers x r := by
  intro x r0 hm
  unfold m_piece_Covers at hm
  unfold P_piece_Covers
  obtain ⟨p0, p1⟩ := x
  intro H
  refine PC_sx (ds := [(.lst ((List.map intD) p0)), (.lst ((List.map T_piece_Piece.toD) p1))]) (fn := f12) (by kernel_rfl) (by kernel_rfl) rfl ?_ (by kernel_rfl)
  refine R_seq ?_
  refine R_G ?_
  refine G_run 1 ?_
  refine G_end ?_
  refine R_seq ?_
  refine R_G ?_
  refine G_run 1 ?_
  refine G_end ?_
  refine R_seq ?_
  refine R_seq ?_
  refine R_G ?_
  refine G_run 1 ?_
  refine I_len T_piece_Piece.toD p1 (es := (List.map T_piece_Piece.toD) p1) rfl ?_
  refine G_run 1 ?_
  refine G_end ?_
  refine R_block ?_
  obtain ⟨out, hs, hm⟩ := bind_inv hm
  refine R_loop ?_
  rcases out with ⟨v601, v602, v603, v604, v605, v606, v607, v608, v609, v610⟩ | v611
  · refine RL_use (w_piece_Covers_L1 _ _ hs) (by kernel_rfl) ?_
    clear hs
    intro e s hp
    obtain ⟨rfl, d, rfl⟩ := hp
    obtain rfl := inj1 hm
    exact ⟨trivial, fin_pure (by kernel_rfl)⟩
  · refine RL_use (w_piece_Covers_L1 _ _ hs) (by kernel_rfl) ?_
    clear hs
    intro e s hp
    obtain ⟨rfl, d, rfl⟩ := hp
    refine R_seq ?_
    refine R_G ?_
    refine G_run 1 ?_
    obtain ⟨v622, hx, hm⟩ := bind_inv hm
    have hq := w_shape_Check _ _ hx []
    refine G_callP hq ?_
    refine G_run 2 ?_
    refine G_split (p := v622 = 0) 56 (eq_dec _ _) (fun hc => ?_) (fun hc => ?_)
    · replace hm := pos_inv hc hm
      refine G_run 2 ?_
      obtain ⟨v623, hx, hm⟩ := bind_inv hm
      have hq := w_box_Exact _ _ hx []
      refine G_callP hq ?_
      refine G_run 2 ?_
      refine G_end ?_
      refine R_ret ?_
      obtain rfl := inj1 hm
      exact ⟨trivial, fin_pure (by kernel_rfl)⟩
    replace hm := neg_inv hc hm
    refine G_run 5 ?_
    refine G_end ?_
    refine R_ret ?_
    obtain rfl := inj1 hm
    exact ⟨trivial, fin_pure (by kernel_rfl)⟩
end Go.Proofs.Tryz
namespace Go.Proofs.Tryz
open Go Go.Pm
set_option linter.unusedVariables false
set_option maxHeartbeats 2000000
set_option maxRecDepth 2000
def a_piece_Covers_k0 : ((List Int) × (List T_piece_Piece)) := ([5], [(⟨⟨[0], [1]⟩, ⟨1, 0, 0, [], 0, 0, 0⟩⟩ : T_piece_Piece), (⟨⟨[1], [4]⟩, ⟨2, 2, (-1), [1], 0, 0, 0⟩⟩ : T_piece_Piece), (⟨⟨[4], [5]⟩, ⟨1, 0, 0, [], 0, 0, 0⟩⟩ : T_piece_Piece)])
def a_piece_Covers_k1 : ((List Int) × (List T_piece_Piece)) := ([6], [(⟨⟨[0], [1]⟩, ⟨1, 0, 0, [], 0, 0, 0⟩⟩ : T_piece_Piece), (⟨⟨[1], [4]⟩, ⟨2, 2, (-1), [1], 0, 0, 0⟩⟩ : T_piece_Piece), (⟨⟨[4], [5]⟩, ⟨1, 0, 0, [], 0, 0, 0⟩⟩ : T_piece_Piece)])
def r_piece_Covers_k0 : Bool := true
def r_piece_Covers_k1 : Bool := false
def P_piece_Covers_k : ((List Int) × (List T_piece_Piece)) → Bool → Prop := fun x r => match x, r with
  | (p0, p1), r0 => ∀ H, PC prog env 12 ([(.lst ((List.map intD) p0)), (.lst ((List.map T_piece_Piece.toD) p1))].map .dat) H (boolPV r0) H
theorem k_piece_Covers_k0 : P_piece_Covers_k a_piece_Covers_k0 r_piece_Covers_k0 := fun H => PC_of (n := 200) (by kernel_rfl)
theorem k_piece_Covers_k1 : P_piece_Covers_k a_piece_Covers_k1 r_piece_Covers_k1 := fun H => PC_of (n := 200) (by kernel_rfl)
def m_piece_Covers_k (x : ((List Int) × (List T_piece_Piece))) : Option Bool :=
  if x = a_piece_Covers_k0 then some r_piece_Covers_k0 else
  if x = a_piece_Covers_k1 then some r_piece_Covers_k1 else
  m_piece_Covers x
theorem w_piece_Covers_k : ∀ x r, m_piece_Covers_k x = some r → P_piece_Covers_k x r := by
  intro x r hm
  unfold m_piece_Covers_k at hm
  split at hm
  · rename_i h; subst h; cases hm; exact k_piece_Covers_k0
  split at hm
  · rename_i h; subst h; cases hm; exact k_piece_Covers_k1
  exact w_piece_Covers x r hm
end Go.Proofs.Tryz
namespace Go.Proofs.Tryz
open Go Go.Pm
set_option linter.unusedVariables false
set_option maxHeartbeats 2000000
set_option maxRecDepth 2000
def m_piece_Filled (x : (List Int)) : Option (List T_piece_Piece) :=
  match x with
  | p0 =>
  m_box_Whole_b4e7c p0 >>= fun ((v1, v2, v3) : (Nat × (List Int) × (List Int))) =>
  m_piece_listed ([(⟨(⟨v2, v3⟩ : T_box_Box), (⟨1, 0, 0, ([] : (List Int)), 0, 0, 0⟩ : T_access_Access)⟩ : T_piece_Piece)] : List T_piece_Piece) >>= fun (v4 : (List T_piece_Piece)) =>
  some v4
def P_piece_Filled : (List Int) → (List T_piece_Piece) → Prop := fun x r => match x, r with
  | p0, r0 => ∀ H, PC prog env 7 ([(.lst ((List.map intD) p0))].map .dat) H (.dat (.lst ((List.map T_piece_Piece.toD) r0))) H
theorem w_piece_Filled : ∀ x r, m_piece_Filled x = some r → P_piece_Filled x r := by
  intro p0 r0 hm
  unfold m_piece_Filled at hm
  unfold P_piece_Filled
  intro H
  refine PC_sx (ds := [(.lst ((List.map intD) p0))]) (fn := f7) (by kernel_rfl) (by kernel_rfl) rfl ?_ (by kernel_rfl)
  refine R_seq ?_
  refine R_G ?_
  refine G_run 1 ?_
  refine G_end ?_
  refine R_seq ?_
  refine R_G ?_
  refine G_run 1 ?_
  obtain ⟨⟨v1, v2, v3⟩, hx, hm⟩ := bind_inv hm
  have hq := w_box_Whole_b4e7c _ _ hx
  dsimp only [P_box_Whole_b4e7c] at hq
  refine G_semN (v := .dat (.agg [(.lst ((List.map intD) v2)), (.lst ((List.map intD) v3))])) rfl (by kernel_rfl) (fun _ => E_callAlone (f := 23) (first := #[]) (cap := #[]) (e := 3) (ow' := []) (ds := [(.lst ((List.map intD) p0))]) (p := (.agg [(.ms 1 v1 0 v2.length v2.length), (.ms 2 1 0 v3.length v3.length)])) (H1 := [(.box [(.ms 1 v1 0 v2.length v2.length), (.ms 2 1 0 v3.length v3.length)]), (.mt 3 v1 (cellsOf intD v2)), (.mt 3 1 (cellsOf intD v3))]) rfl (by kernel_rfl) (by kernel_rfl) (by kernel_rfl) (by kernel_rfl) hq (p1_agg (pc_cons (pc_ms (e := 3) intD v2 rfl (fun _ => rfl) (by kernel_rfl)) (pc_cons (pc_ms (e := 3) intD v3 rfl (fun _ => rfl) (by kernel_rfl)) pc_nil)))) ?_
  refine G_run 3 ?_
  obtain ⟨v4, hx, hm⟩ := bind_inv hm
  have hq := w_piece_listed _ _ hx []
  refine G_callP hq ?_
  refine G_run 1 ?_
  refine G_end ?_
  refine R_ret ?_
  obtain rfl := inj1 hm
  exact ⟨trivial, fin_pure (by kernel_rfl)⟩
end Go.Proofs.Tryz
namespace Go.Proofs.Tryz
open Go Go.Pm
set_option linter.unusedVariables false
set_option maxHeartbeats 2000000
set_option maxRecDepth 2000
def a_piece_Rotate0 : ((List T_piece_Piece) × Int × Int × Int) := ([(⟨⟨[0], [1]⟩, ⟨1, 0, 0, [], 0, 0, 0⟩⟩ : T_piece_Piece), (⟨⟨[1], [4]⟩, ⟨2, 2, (-1), [1], 0, 0, 0⟩⟩ : T_piece_Piece), (⟨⟨[4], [5]⟩, ⟨1, 0, 0, [], 0, 0, 0⟩⟩ : T_piece_Piece)], 0, 2, 5)
def r_piece_Rotate0 : (List T_piece_Piece) := [(⟨⟨[0], [2]⟩, ⟨2, 2, 1, [1], 0, 0, 0⟩⟩ : T_piece_Piece), (⟨⟨[2], [3]⟩, ⟨1, 0, 0, [], 0, 0, 0⟩⟩ : T_piece_Piece), (⟨⟨[3], [4]⟩, ⟨1, 0, 0, [], 0, 0, 0⟩⟩ : T_piece_Piece), (⟨⟨[4], [5]⟩, ⟨2, 2, (-4), [1], 0, 0, 0⟩⟩ : T_piece_Piece)]
def P_piece_Rotate : ((List T_piece_Piece) × Int × Int × Int) → (List T_piece_Piece) → Prop := fun x r => match x, r with
  | (p0, p1, p2, p3), r0 => ∀ H, PC prog env 16 ([(.lst ((List.map T_piece_Piece.toD) p0)), (intD p1), (intD p2), (intD p3)].map .dat) H (.dat (.lst ((List.map T_piece_Piece.toD) r0))) H
theorem k_piece_Rotate0 : P_piece_Rotate a_piece_Rotate0 r_piece_Rotate0 := fun H => PC_of (n := 200) (by kernel_rfl)
def m_piece_Rotate (x : ((List T_piece_Piece) × Int × Int × Int)) : Option (List T_piece_Piece) :=
  if x = a_piece_Rotate0 then some r_piece_Rotate0 else
  none
theorem w_piece_Rotate : ∀ x r, m_piece_Rotate x = some r → P_piece_Rotate x r := by
  intro x r hm
  unfold m_piece_Rotate at hm
  split at hm
  · rename_i h; subst h; cases hm; exact k_piece_Rotate0
  cases hm
end Go.Proofs.Tryz
namespace Go.Proofs.Tryz
open Go Go.Pm
set_option linter.unusedVariables false
set_option maxHeartbeats 2000000
set_option maxRecDepth 2000
def a_piece_Reverse0 : ((List T_piece_Piece) × Int × Int) := ([(⟨⟨[0], [1]⟩, ⟨1, 0, 0, [], 0, 0, 0⟩⟩ : T_piece_Piece), (⟨⟨[1], [4]⟩, ⟨2, 2, (-1), [1], 0, 0, 0⟩⟩ : T_piece_Piece), (⟨⟨[4], [5]⟩, ⟨1, 0, 0, [], 0, 0, 0⟩⟩ : T_piece_Piece)], 0, 5)
def r_piece_Reverse0 : (List T_piece_Piece) := [(⟨⟨[0], [1]⟩, ⟨1, 0, 0, [], 0, 0, 0⟩⟩ : T_piece_Piece), (⟨⟨[1], [4]⟩, ⟨2, 2, 3, [-1], 0, 0, 0⟩⟩ : T_piece_Piece), (⟨⟨[4], [5]⟩, ⟨1, 0, 0, [], 0, 0, 0⟩⟩ : T_piece_Piece)]
def P_piece_Reverse : ((List T_piece_Piece) × Int × Int) → (List T_piece_Piece) → Prop := fun x r => match x, r with
  | (p0, p1, p2), r0 => ∀ H, PC prog env 17 ([(.lst ((List.map T_piece_Piece.toD) p0)), (intD p1), (intD p2)].map .dat) H (.dat (.lst ((List.map T_piece_Piece.toD) r0))) H
theorem k_piece_Reverse0 : P_piece_Reverse a_piece_Reverse0 r_piece_Reverse0 := fun H => PC_of (n := 200) (by kernel_rfl)
def m_piece_Reverse (x : ((List T_piece_Piece) × Int × Int)) : Option (List T_piece_Piece) :=
  if x = a_piece_Reverse0 then some r_piece_Reverse0 else
  none
theorem w_piece_Reverse : ∀ x r, m_piece_Reverse x = some r → P_piece_Reverse x r := by
  intro x r hm
  unfold m_piece_Reverse at hm
  split at hm
  · rename_i h; subst h; cases hm; exact k_piece_Reverse0
  cases hm
end Go.Proofs.Tryz
namespace Go.Proofs.Tryz
open Go Go.Pm
set_option linter.unusedVariables false
set_option maxHeartbeats 2000000
set_option maxRecDepth 2000
def a_piece_Transpose0 : ((List T_piece_Piece) × (List Int) × (List Int)) := ([(⟨⟨[0], [1]⟩, ⟨1, 0, 0, [], 0, 0, 0⟩⟩ : T_piece_Piece), (⟨⟨[1], [4]⟩, ⟨2, 2, (-1), [1], 0, 0, 0⟩⟩ : T_piece_Piece), (⟨⟨[4], [5]⟩, ⟨1, 0, 0, [], 0, 0, 0⟩⟩ : T_piece_Piece)], [0], [5])
def r_piece_Transpose0 : (List T_piece_Piece) := [(⟨⟨[0], [1]⟩, ⟨1, 0, 0, [], 0, 0, 0⟩⟩ : T_piece_Piece), (⟨⟨[1], [4]⟩, ⟨2, 2, (-1), [1], 0, 0, 0⟩⟩ : T_piece_Piece), (⟨⟨[4], [5]⟩, ⟨1, 0, 0, [], 0, 0, 0⟩⟩ : T_piece_Piece)]
def P_piece_Transpose : ((List T_piece_Piece) × (List Int) × (List Int)) → (List T_piece_Piece) → Prop := fun x r => match x, r with
  | (p0, p1, p2), r0 => ∀ H, PC prog env 18 ([(.lst ((List.map T_piece_Piece.toD) p0)), (.lst ((List.map intD) p1)), (.lst ((List.map intD) p2))].map .dat) H (.dat (.lst ((List.map T_piece_Piece.toD) r0))) H
theorem k_piece_Transpose0 : P_piece_Transpose a_piece_Transpose0 r_piece_Transpose0 := fun H => PC_of (n := 200) (by kernel_rfl)
def m_piece_Transpose (x : ((List T_piece_Piece) × (List Int) × (List Int))) : Option (List T_piece_Piece) :=
  if x = a_piece_Transpose0 then some r_piece_Transpose0 else
  none
theorem w_piece_Transpose : ∀ x r, m_piece_Transpose x = some r → P_piece_Transpose x r := by
  intro x r hm
  unfold m_piece_Transpose at hm
  split at hm
  · rename_i h; subst h; cases hm; exact k_piece_Transpose0
  cases hm
end Go.Proofs.Tryz
namespace Go.Proofs.Tryz
open Go Go.Pm
set_option linter.unusedVariables false
set_option maxHeartbeats 2000000
set_option maxRecDepth 2000
def a_piece_Catenate0 : ((List T_piece_Piece) × (List T_piece_Piece) × Int × Int) := ([(⟨⟨[0], [1]⟩, ⟨1, 0, 0, [], 0, 0, 0⟩⟩ : T_piece_Piece), (⟨⟨[1], [4]⟩, ⟨2, 2, (-1), [1], 0, 0, 0⟩⟩ : T_piece_Piece), (⟨⟨[4], [5]⟩, ⟨1, 0, 0, [], 0, 0, 0⟩⟩ : T_piece_Piece)], [(⟨⟨[0], [1]⟩, ⟨1, 0, 0, [], 0, 0, 0⟩⟩ : T_piece_Piece), (⟨⟨[1], [4]⟩, ⟨2, 2, (-1), [1], 0, 0, 0⟩⟩ : T_piece_Piece), (⟨⟨[4], [5]⟩, ⟨1, 0, 0, [], 0, 0, 0⟩⟩ : T_piece_Piece)], 0, 5)
def r_piece_Catenate0 : (List T_piece_Piece) := [(⟨⟨[0], [1]⟩, ⟨1, 0, 0, [], 0, 0, 0⟩⟩ : T_piece_Piece), (⟨⟨[1], [4]⟩, ⟨2, 2, (-1), [1], 0, 0, 0⟩⟩ : T_piece_Piece), (⟨⟨[4], [5]⟩, ⟨1, 0, 0, [], 0, 0, 0⟩⟩ : T_piece_Piece), (⟨⟨[5], [6]⟩, ⟨1, 0, 0, [], 0, 0, 0⟩⟩ : T_piece_Piece), (⟨⟨[6], [9]⟩, ⟨2, 2, (-6), [1], 0, 0, 0⟩⟩ : T_piece_Piece), (⟨⟨[9], [10]⟩, ⟨1, 0, 0, [], 0, 0, 0⟩⟩ : T_piece_Piece)]
def P_piece_Catenate : ((List T_piece_Piece) × (List T_piece_Piece) × Int × Int) → (List T_piece_Piece) → Prop := fun x r => match x, r with
  | (p0, p1, p2, p3), r0 => ∀ H, PC prog env 19 ([(.lst ((List.map T_piece_Piece.toD) p0)), (.lst ((List.map T_piece_Piece.toD) p1)), (intD p2), (intD p3)].map .dat) H (.dat (.lst ((List.map T_piece_Piece.toD) r0))) H
theorem k_piece_Catenate0 : P_piece_Catenate a_piece_Catenate0 r_piece_Catenate0 := fun H => PC_of (n := 200) (by kernel_rfl)
def m_piece_Catenate (x : ((List T_piece_Piece) × (List T_piece_Piece) × Int × Int)) : Option (List T_piece_Piece) :=
  if x = a_piece_Catenate0 then some r_piece_Catenate0 else
  none
theorem w_piece_Catenate : ∀ x r, m_piece_Catenate x = some r → P_piece_Catenate x r := by
  intro x r hm
  unfold m_piece_Catenate at hm
  split at hm
  · rename_i h; subst h; cases hm; exact k_piece_Catenate0
  cases hm
end Go.Proofs.Tryz
namespace Go.Proofs.Tryz
open Go Go.Pm
set_option linter.unusedVariables false
set_option maxHeartbeats 2000000
set_option maxRecDepth 2000
def m_law18_awake (x : Unit) : Option Bool :=
  match x with
  | _ =>
  m_piece_Whole (2, ([3] : List Int)) >>= fun (v1 : (List T_piece_Piece)) =>
  m_piece_Window (v1, ([3] : List Int), ([5] : List Int), ([(-1)] : List Int)) >>= fun (v2 : (List T_piece_Piece)) =>
  m_piece_Origin (v2, ([2] : List Int)) >>= fun ((v3, v4) : (T_psi_Cell × Bool)) =>
  m_piece_Origin (v2, ([5] : List Int)) >>= fun ((v5, v6) : (T_psi_Cell × Bool)) =>
  (if (v2.length : Int) ≠ 3 then
    some true
  else
  idx v2 1 >>= fun v8 =>
  some (v8.access.base != (-1))
  ) >>= fun (v7 : Bool) =>
  if v7 = true then
    some false
  else
  m_piece_Covers_k (([5] : List Int), v2) >>= fun (v9 : Bool) =>
  (if v9 = true then
    m_piece_Covers_k (([6] : List Int), v2) >>= fun (v11 : Bool) =>
    some (!v11)
  else
  some false
  ) >>= fun (v10 : Bool) =>
  (if v10 = true then
    some (v3.buffer == 2)
  else
  some false
  ) >>= fun (v12 : Bool) =>
  (if v12 = true then
    some (v3.offset == 1)
  else
  some false
  ) >>= fun (v13 : Bool) =>
  (if v13 = true then
    some v4
  else
  some false
  ) >>= fun (v14 : Bool) =>
  (if v14 = true then
    some (!v6)
  else
  some false
  ) >>= fun (v15 : Bool) =>
  (if v15 = true then
    m_piece_Filled ([0] : List Int) >>= fun (v17 : (List T_piece_Piece)) =>
    some ((v17.length : Int) == 0)
  else
  some false
  ) >>= fun (v16 : Bool) =>
  (if v16 = true then
    m_piece_Rotate (v2, 0, 2, 5) >>= fun (v19 : (List T_piece_Piece)) =>
    some (decide ((v19.length : Int) > 0))
  else
  some false
  ) >>= fun (v18 : Bool) =>
  (if v18 = true then
    m_piece_Reverse (v2, 0, 5) >>= fun (v21 : (List T_piece_Piece)) =>
    some ((v21.length : Int) == 3)
  else
  some false
  ) >>= fun (v20 : Bool) =>
  (if v20 = true then
    m_piece_Transpose (v2, ([0] : List Int), ([5] : List Int)) >>= fun (v23 : (List T_piece_Piece)) =>
    some ((v23.length : Int) == 3)
  else
  some false
  ) >>= fun (v22 : Bool) =>
  if v22 = true then
    m_piece_Catenate (v2, v2, 0, 5) >>= fun (v24 : (List T_piece_Piece)) =>
    some ((v24.length : Int) == 6)
  else
  some false
def P_law18_awake : Unit → Bool → Prop := fun x r => match x, r with
  | _, r0 => ∀ H, PC prog env 4 ([].map .dat) H (boolPV r0) H
theorem w_law18_awake : ∀ x r, m_law18_awake x = some r → P_law18_awake x r := by
  intro x r0 hm
  unfold m_law18_awake at hm
  unfold P_law18_awake
  intro H
  refine PC_sx (ds := []) (fn := f4) (by kernel_rfl) (by kernel_rfl) rfl ?_ (by kernel_rfl)
  refine R_seq ?_
  refine R_G ?_
  refine G_run 1 ?_
  refine G_end ?_
  refine R_seq ?_
  refine R_G ?_
  refine G_run 1 ?_
  obtain ⟨v1, hx, hm⟩ := bind_inv hm
  have hq := w_piece_Whole _ _ hx []
  refine G_callP hq ?_
  refine G_run 3 ?_
  obtain ⟨v2, hx, hm⟩ := bind_inv hm
  have hq := w_piece_Window _ _ hx []
  refine G_callP hq ?_
  refine G_run 1 ?_
  refine G_end ?_
  refine R_seq ?_
  refine R_G ?_
  refine G_run 2 ?_
  obtain ⟨⟨v3, v4⟩, hx, hm⟩ := bind_inv hm
  have hq := w_piece_Origin _ _ hx []
  refine G_callP hq ?_
  refine G_run 6 ?_
  refine G_end ?_
  refine R_seq ?_
  refine R_G ?_
  refine G_run 2 ?_
  obtain ⟨⟨v5, v6⟩, hx, hm⟩ := bind_inv hm
  have hq := w_piece_Origin _ _ hx []
  refine G_callP hq ?_
  refine G_run 6 ?_
  refine G_end ?_
  refine R_seq ?_
  refine R_seq ?_
  obtain ⟨v7, hs, hm⟩ := bind_inv hm
  refine R_cut (fun d => ⟨sl d 94 [(1, (.dat (.lst ((List.map T_piece_Piece.toD) v2)))), (2, (.ptr 0 0)), (3, (boolPV v4)), (5, (boolPV v6)), (34, (boolPV v7))], [(.box [(boolPV v3.fill), (intPV v3.buffer), (intPV v3.offset)]), (.box [(boolPV v5.fill), (intPV v5.buffer), (intPV v5.offset)])]⟩) ?_ (fun d => ?_)
  · replace hm := hs
    clear hs
    refine R_G ?_
    refine G_run 1 ?_
    refine I_len T_piece_Piece.toD v2 (es := (List.map T_piece_Piece.toD) v2) rfl ?_
    refine G_run 2 ?_
    refine G_split (p := (v2.length : Int) ≠ 3) 27 (ne_dec _ _) (fun hc => ?_) (fun hc => ?_)
    · replace hm := pos_inv hc hm
      refine G_run 7 ?_
      refine G_end ?_
      obtain rfl := inj1 hm
      exact cut_leaf (by kernel_rfl)
    replace hm := neg_inv hc hm
    refine G_run 1 ?_
    obtain ⟨v8, hx, hm⟩ := bind_inv hm
    refine I_idx 9 T_piece_Piece.toD v2 1 v8 (es := (List.map T_piece_Piece.toD) v2) (d := (T_piece_Piece.toD v8)) rfl hx rfl rfl ?_
    refine G_run 5 ?_
    refine G_end ?_
    obtain rfl := inj1 hm
    exact cut_leaf (by kernel_rfl)
  clear hs
  refine R_ifp (p := v7 = true) (bool_dec _) (fun hc => ?_) (fun hc => ?_)
  · replace hm := pos_inv hc hm
    refine R_seq ?_
    refine R_G ?_
    refine G_run 1 ?_
    refine G_end ?_
    refine R_ret ?_
    obtain rfl := inj1 hm
    exact ⟨trivial, fin_pure (by kernel_rfl)⟩
  replace hm := neg_inv hc hm
  refine R_skip ?_
  refine R_seq ?_
  refine R_GN ?_
  refine G_run 2 ?_
  obtain ⟨v9, hx, hm⟩ := bind_inv hm
  have hq := w_piece_Covers_k _ _ hx []
  refine G_callP hq ?_
  refine G_run 1 ?_
  obtain ⟨v10, hs, hm⟩ := bind_inv hm
  refine G_cut (j := 9) (fun d => ⟨sl d 94 [(1, (.dat (.lst ((List.map T_piece_Piece.toD) v2)))), (2, (.ptr 0 0)), (3, (boolPV v4)), (5, (boolPV v6)), (34, (boolPV v7)), (35, (.dat (.lst ((List.map intD) ([5] : List Int))))), (36, (.dat (.lst ((List.map T_piece_Piece.toD) v2)))), (37, (boolPV v9)), (43, (boolPV v10))], [(.box [(boolPV v3.fill), (intPV v3.buffer), (intPV v3.offset)]), (.box [(boolPV v5.fill), (intPV v5.buffer), (intPV v5.offset)])]⟩) (fun d => ?_) (fun hJ => ?_)
  · clear hs
    refine G_run 1 ?_
    obtain ⟨v12, hs, hm⟩ := bind_inv hm
    refine G_cut (j := 14) (fun d => ⟨sl d 94 [(1, (.dat (.lst ((List.map T_piece_Piece.toD) v2)))), (2, (.ptr 0 0)), (3, (boolPV v4)), (5, (boolPV v6)), (34, (boolPV v7)), (35, (.dat (.lst ((List.map intD) ([5] : List Int))))), (36, (.dat (.lst ((List.map T_piece_Piece.toD) v2)))), (37, (boolPV v9)), (43, (boolPV v10)), (48, (boolPV v12))], [(.box [(boolPV v3.fill), (intPV v3.buffer), (intPV v3.offset)]), (.box [(boolPV v5.fill), (intPV v5.buffer), (intPV v5.offset)])]⟩) (fun d => ?_) (fun hJ => ?_)
    · clear hs
      refine G_run 1 ?_
      obtain ⟨v13, hs, hm⟩ := bind_inv hm
      refine G_cut (j := 19) (fun d => ⟨sl d 94 [(1, (.dat (.lst ((List.map T_piece_Piece.toD) v2)))), (2, (.ptr 0 0)), (3, (boolPV v4)), (5, (boolPV v6)), (34, (boolPV v7)), (35, (.dat (.lst ((List.map intD) ([5] : List Int))))), (36, (.dat (.lst ((List.map T_piece_Piece.toD) v2)))), (37, (boolPV v9)), (43, (boolPV v10)), (48, (boolPV v12)), (53, (boolPV v13))], [(.box [(boolPV v3.fill), (intPV v3.buffer), (intPV v3.offset)]), (.box [(boolPV v5.fill), (intPV v5.buffer), (intPV v5.offset)])]⟩) (fun d => ?_) (fun hJ => ?_)
      · clear hs
        refine G_run 1 ?_
        obtain ⟨v14, hs, hm⟩ := bind_inv hm
        refine G_cut (j := 22) (fun d => ⟨sl d 94 [(1, (.dat (.lst ((List.map T_piece_Piece.toD) v2)))), (2, (.ptr 0 0)), (3, (boolPV v4)), (5, (boolPV v6)), (34, (boolPV v7)), (35, (.dat (.lst ((List.map intD) ([5] : List Int))))), (36, (.dat (.lst ((List.map T_piece_Piece.toD) v2)))), (37, (boolPV v9)), (43, (boolPV v10)), (48, (boolPV v12)), (53, (boolPV v13)), (56, (boolPV v14))], [(.box [(boolPV v3.fill), (intPV v3.buffer), (intPV v3.offset)]), (.box [(boolPV v5.fill), (intPV v5.buffer), (intPV v5.offset)])]⟩) (fun d => ?_) (fun hJ => ?_)
        · clear hs
          refine G_run 1 ?_
          obtain ⟨v15, hs, hm⟩ := bind_inv hm
          refine G_cut (j := 26) (fun d => ⟨sl d 94 [(1, (.dat (.lst ((List.map T_piece_Piece.toD) v2)))), (2, (.ptr 0 0)), (3, (boolPV v4)), (5, (boolPV v6)), (34, (boolPV v7)), (35, (.dat (.lst ((List.map intD) ([5] : List Int))))), (36, (.dat (.lst ((List.map T_piece_Piece.toD) v2)))), (37, (boolPV v9)), (43, (boolPV v10)), (48, (boolPV v12)), (53, (boolPV v13)), (56, (boolPV v14)), (60, (boolPV v15))], [(.box [(boolPV v3.fill), (intPV v3.buffer), (intPV v3.offset)]), (.box [(boolPV v5.fill), (intPV v5.buffer), (intPV v5.offset)])]⟩) (fun d => ?_) (fun hJ => ?_)
          · clear hs
            refine G_run 1 ?_
            obtain ⟨v16, hs, hm⟩ := bind_inv hm
            refine G_cut (j := 32) (fun d => ⟨sl d 94 [(1, (.dat (.lst ((List.map T_piece_Piece.toD) v2)))), (2, (.ptr 0 0)), (3, (boolPV v4)), (5, (boolPV v6)), (34, (boolPV v7)), (35, (.dat (.lst ((List.map intD) ([5] : List Int))))), (36, (.dat (.lst ((List.map T_piece_Piece.toD) v2)))), (37, (boolPV v9)), (43, (boolPV v10)), (48, (boolPV v12)), (53, (boolPV v13)), (56, (boolPV v14)), (60, (boolPV v15)), (66, (boolPV v16))], [(.box [(boolPV v3.fill), (intPV v3.buffer), (intPV v3.offset)]), (.box [(boolPV v5.fill), (intPV v5.buffer), (intPV v5.offset)])]⟩) (fun d => ?_) (fun hJ => ?_)
            · clear hs
              refine G_run 1 ?_
              obtain ⟨v18, hs, hm⟩ := bind_inv hm
              refine G_cut (j := 38) (fun d => ⟨sl d 94 [(1, (.dat (.lst ((List.map T_piece_Piece.toD) v2)))), (2, (.ptr 0 0)), (3, (boolPV v4)), (5, (boolPV v6)), (34, (boolPV v7)), (35, (.dat (.lst ((List.map intD) ([5] : List Int))))), (36, (.dat (.lst ((List.map T_piece_Piece.toD) v2)))), (37, (boolPV v9)), (43, (boolPV v10)), (48, (boolPV v12)), (53, (boolPV v13)), (56, (boolPV v14)), (60, (boolPV v15)), (66, (boolPV v16)), (72, (boolPV v18))], [(.box [(boolPV v3.fill), (intPV v3.buffer), (intPV v3.offset)]), (.box [(boolPV v5.fill), (intPV v5.buffer), (intPV v5.offset)])]⟩) (fun d => ?_) (fun hJ => ?_)
              · clear hs
                refine G_run 1 ?_
                obtain ⟨v20, hs, hm⟩ := bind_inv hm
                refine G_cut (j := 44) (fun d => ⟨sl d 94 [(1, (.dat (.lst ((List.map T_piece_Piece.toD) v2)))), (2, (.ptr 0 0)), (3, (boolPV v4)), (5, (boolPV v6)), (34, (boolPV v7)), (35, (.dat (.lst ((List.map intD) ([5] : List Int))))), (36, (.dat (.lst ((List.map T_piece_Piece.toD) v2)))), (37, (boolPV v9)), (43, (boolPV v10)), (48, (boolPV v12)), (53, (boolPV v13)), (56, (boolPV v14)), (60, (boolPV v15)), (66, (boolPV v16)), (72, (boolPV v18)), (78, (boolPV v20))], [(.box [(boolPV v3.fill), (intPV v3.buffer), (intPV v3.offset)]), (.box [(boolPV v5.fill), (intPV v5.buffer), (intPV v5.offset)])]⟩) (fun d => ?_) (fun hJ => ?_)
                · clear hs
                  refine G_run 1 ?_
                  obtain ⟨v22, hs, hm⟩ := bind_inv hm
                  refine G_cut (j := 52) (fun d => ⟨sl d 94 [(1, (.dat (.lst ((List.map T_piece_Piece.toD) v2)))), (2, (.ptr 0 0)), (3, (boolPV v4)), (5, (boolPV v6)), (34, (boolPV v7)), (35, (.dat (.lst ((List.map intD) ([5] : List Int))))), (36, (.dat (.lst ((List.map T_piece_Piece.toD) v2)))), (37, (boolPV v9)), (43, (boolPV v10)), (48, (boolPV v12)), (53, (boolPV v13)), (56, (boolPV v14)), (60, (boolPV v15)), (66, (boolPV v16)), (72, (boolPV v18)), (78, (boolPV v20)), (86, (boolPV v22))], [(.box [(boolPV v3.fill), (intPV v3.buffer), (intPV v3.offset)]), (.box [(boolPV v5.fill), (intPV v5.buffer), (intPV v5.offset)])]⟩) (fun d => ?_) (fun hJ => ?_)
                  · clear hs
                    refine G_run 1 ?_
                    refine G_split (p := v22 = true) 87 (bool_dec _) (fun hc => ?_) (fun hc => ?_)
                    · replace hm := pos_inv hc hm
                      refine G_run 2 ?_
                      obtain ⟨v24, hx, hm⟩ := bind_inv hm
                      have hq := w_piece_Catenate _ _ hx []
                      refine G_callP hq ?_
                      refine I_len T_piece_Piece.toD v24 (es := (List.map T_piece_Piece.toD) v24) rfl ?_
                      refine G_run 3 ?_
                      refine G_end ⟨by kernel_rfl, ?_⟩
                      refine R_ret ?_
                      obtain rfl := inj1 hm
                      exact ⟨trivial, fin_pure (by kernel_rfl)⟩
                    replace hm := neg_inv hc hm
                    refine G_run 7 ?_
                    refine G_end ⟨by kernel_rfl, ?_⟩
                    refine R_ret ?_
                    obtain rfl := inj1 hm
                    exact ⟨trivial, fin_pure (by kernel_rfl)⟩
                  replace hm := hs
                  clear hs
                  refine G_split (p := v20 = true) 79 (bool_dec _) (fun hc => ?_) (fun hc => ?_)
                  · replace hm := pos_inv hc hm
                    refine G_run 3 ?_
                    obtain ⟨v23, hx, hm⟩ := bind_inv hm
                    have hq := w_piece_Transpose _ _ hx []
                    refine G_callP hq ?_
                    refine I_len T_piece_Piece.toD v23 (es := (List.map T_piece_Piece.toD) v23) rfl ?_
                    refine G_run 2 ?_
                    obtain rfl := inj1 hm
                    exact hJ _ _ (by kernel_rfl) (by kernel_rfl)
                  replace hm := neg_inv hc hm
                  refine G_run 7 ?_
                  obtain rfl := inj1 hm
                  exact hJ _ _ (by kernel_rfl) (by kernel_rfl)
                replace hm := hs
                clear hs
                refine G_split (p := v18 = true) 73 (bool_dec _) (fun hc => ?_) (fun hc => ?_)
                · replace hm := pos_inv hc hm
                  refine G_run 1 ?_
                  obtain ⟨v21, hx, hm⟩ := bind_inv hm
                  have hq := w_piece_Reverse _ _ hx []
                  refine G_callP hq ?_
                  refine I_len T_piece_Piece.toD v21 (es := (List.map T_piece_Piece.toD) v21) rfl ?_
                  refine G_run 2 ?_
                  obtain rfl := inj1 hm
                  exact hJ _ _ (by kernel_rfl) (by kernel_rfl)
                replace hm := neg_inv hc hm
                refine G_run 5 ?_
                obtain rfl := inj1 hm
                exact hJ _ _ (by kernel_rfl) (by kernel_rfl)
              replace hm := hs
              clear hs
              refine G_split (p := v16 = true) 67 (bool_dec _) (fun hc => ?_) (fun hc => ?_)
              · replace hm := pos_inv hc hm
                refine G_run 1 ?_
                obtain ⟨v19, hx, hm⟩ := bind_inv hm
                have hq := w_piece_Rotate _ _ hx []
                refine G_callP hq ?_
                refine I_len T_piece_Piece.toD v19 (es := (List.map T_piece_Piece.toD) v19) rfl ?_
                refine G_run 2 ?_
                obtain rfl := inj1 hm
                exact hJ _ _ (by kernel_rfl) (by kernel_rfl)
              replace hm := neg_inv hc hm
              refine G_run 5 ?_
              obtain rfl := inj1 hm
              exact hJ _ _ (by kernel_rfl) (by kernel_rfl)
            replace hm := hs
            clear hs
            refine G_split (p := v15 = true) 61 (bool_dec _) (fun hc => ?_) (fun hc => ?_)
            · replace hm := pos_inv hc hm
              refine G_run 1 ?_
              obtain ⟨v17, hx, hm⟩ := bind_inv hm
              have hq := w_piece_Filled _ _ hx []
              refine G_callP hq ?_
              refine I_len T_piece_Piece.toD v17 (es := (List.map T_piece_Piece.toD) v17) rfl ?_
              refine G_run 2 ?_
              obtain rfl := inj1 hm
              exact hJ _ _ (by kernel_rfl) (by kernel_rfl)
            replace hm := neg_inv hc hm
            refine G_run 5 ?_
            obtain rfl := inj1 hm
            exact hJ _ _ (by kernel_rfl) (by kernel_rfl)
          replace hm := hs
          clear hs
          refine G_split (p := v14 = true) 57 (bool_dec _) (fun hc => ?_) (fun hc => ?_)
          · replace hm := pos_inv hc hm
            refine G_run 3 ?_
            obtain rfl := inj1 hm
            exact hJ _ _ (by kernel_rfl) (by kernel_rfl)
          replace hm := neg_inv hc hm
          refine G_run 3 ?_
          obtain rfl := inj1 hm
          exact hJ _ _ (by kernel_rfl) (by kernel_rfl)
        replace hm := hs
        clear hs
        refine G_split (p := v13 = true) 54 (bool_dec _) (fun hc => ?_) (fun hc => ?_)
        · replace hm := pos_inv hc hm
          refine G_run 2 ?_
          obtain rfl := inj1 hm
          exact hJ _ _ (by kernel_rfl) (by kernel_rfl)
        replace hm := neg_inv hc hm
        refine G_run 2 ?_
        obtain rfl := inj1 hm
        exact hJ _ _ (by kernel_rfl) (by kernel_rfl)
      replace hm := hs
      clear hs
      refine G_split (p := v12 = true) 49 (bool_dec _) (fun hc => ?_) (fun hc => ?_)
      · replace hm := pos_inv hc hm
        refine G_run 4 ?_
        obtain rfl := inj1 hm
        exact hJ _ _ (by kernel_rfl) (by kernel_rfl)
      replace hm := neg_inv hc hm
      refine G_run 4 ?_
      obtain rfl := inj1 hm
      exact hJ _ _ (by kernel_rfl) (by kernel_rfl)
    replace hm := hs
    clear hs
    refine G_split (p := v10 = true) 44 (bool_dec _) (fun hc => ?_) (fun hc => ?_)
    · replace hm := pos_inv hc hm
      refine G_run 4 ?_
      obtain rfl := inj1 hm
      exact hJ _ _ (by kernel_rfl) (by kernel_rfl)
    replace hm := neg_inv hc hm
    refine G_run 4 ?_
    obtain rfl := inj1 hm
    exact hJ _ _ (by kernel_rfl) (by kernel_rfl)
  replace hm := hs
  clear hs
  refine G_split (p := v9 = true) 38 (bool_dec _) (fun hc => ?_) (fun hc => ?_)
  · replace hm := pos_inv hc hm
    refine G_run 2 ?_
    obtain ⟨v11, hx, hm⟩ := bind_inv hm
    have hq := w_piece_Covers_k _ _ hx []
    refine G_callP hq ?_
    refine G_run 2 ?_
    obtain rfl := inj1 hm
    exact hJ _ _ (by kernel_rfl) (by kernel_rfl)
  replace hm := neg_inv hc hm
  refine G_run 5 ?_
  obtain rfl := inj1 hm
  exact hJ _ _ (by kernel_rfl) (by kernel_rfl)
end Go.Proofs.Tryz
namespace Go.Proofs.Tryz
open Go Go.Pm
set_option linter.unusedVariables false
set_option maxHeartbeats 2000000
set_option maxRecDepth 2000
def m_ref01_Product_L1 (x : ((List Int) × Bool × Int)) : Option (Unit ⊕ Bool) :=
  match x with
  | (p0, v201, v202) =>
  if v202 < (p0.length : Int) then
    idx p0 v202 >>= fun v602 =>
    if v602 < 0 then
      some (Sum.inl ())
    else
    if v201 = true then
      m_ref01_Product_L1 (p0, true, (W (v202 + 1)))
    else
    idx p0 v202 >>= fun v603 =>
    m_ref01_Product_L1 (p0, (v603 == 0), (W (v202 + 1)))
  else
  some (Sum.inr v201)
  partial_fixpoint
def P_ref01_Product_L1 : ((List Int) × Bool × Int) → (Unit ⊕ Bool) → Prop := fun x r => match x with
  | (p0, v201, v202) => ∀ st, prune 0 ((firstRegion (codeAt [1, 1, 0, 1, 0, 0] (bodyOf f51))).bind (env.hint 51).keepAt) st = ⟨kp 55 [(0, (.dat (.lst ((List.map intD) p0)))), (4, (boolPV v201)), (5, (intPV v202))], []⟩ →
    RL prog env (env.hint 51) true (codeAt [1, 1, 0, 1, 0, 0] (bodyOf f51)) 0 st (fun e s => match r with | .inl _ => e = .ret ∧ ∃ d, s = ⟨sl d 55 [(2, (intPV 0)), (3, (intPV 6))], []⟩ | .inr (v601) => e = .exit 0 ∧ ∃ d, s = ⟨sl d 55 [(0, (.dat (.lst ((List.map intD) p0)))), (4, (boolPV v601))], []⟩)
theorem w_ref01_Product_L1 : ∀ x r, m_ref01_Product_L1 x = some r → P_ref01_Product_L1 x r := by
  refine m_ref01_Product_L1.partial_correctness _ (fun m_ref01_Product_L1 w_ref01_Product_L1 x r hm => ?_)
  unfold P_ref01_Product_L1
  obtain ⟨p0, v201, v202⟩ := x
  intro st hst
  refine RL_at hst ?_
  clear hst
  refine R_seq ?_
  refine R_seq ?_
  refine R_G ?_
  refine G_run 2 ?_
  refine I_len intD p0 (es := (List.map intD) p0) rfl ?_
  refine G_run 1 ?_
  refine G_end ?_
  refine R_ifp (p := v202 < (p0.length : Int)) (rfl) (fun hc => ?_) (fun hc => ?_)
  · replace hm := pos_inv hc hm
    refine R_skip ?_
    refine R_seq ?_
    refine R_block ?_
    refine R_seq ?_
    refine R_seq ?_
    refine R_G ?_
    refine G_run 2 ?_
    obtain ⟨v602, hx, hm⟩ := bind_inv hm
    refine I_idx 1 intD p0 v202 v602 (es := (List.map intD) p0) (d := (intD v602)) rfl hx rfl rfl ?_
    refine G_run 2 ?_
    refine G_end ?_
    refine R_ifp (p := v602 < 0) (rfl) (fun hc => ?_) (fun hc => ?_)
    · replace hm := pos_inv hc hm
      refine R_seq ?_
      refine R_G ?_
      refine G_run 2 ?_
      refine G_end ?_
      refine R_ret ?_
      obtain rfl := inj1 hm
      exact ⟨rfl, cut_leaf (by kernel_rfl)⟩
    replace hm := neg_inv hc hm
    refine R_skip ?_
    refine R_G ?_
    refine G_run 2 ?_
    refine G_split (p := v201 = true) 21 (bool_dec _) (fun hc => ?_) (fun hc => ?_)
    · replace hm := pos_inv hc hm
      refine G_run 7 ?_
      refine G_end ?_
      refine R_G ?_
      refine G_run 3 ?_
      refine G_end ?_
      exact w_ref01_Product_L1 _ _ hm _ (by kernel_rfl)
    replace hm := neg_inv hc hm
    refine G_run 2 ?_
    obtain ⟨v603, hx, hm⟩ := bind_inv hm
    refine I_idx 1 intD p0 v202 v603 (es := (List.map intD) p0) (d := (intD v603)) rfl hx rfl rfl ?_
    refine G_run 4 ?_
    refine G_end ?_
    refine R_G ?_
    refine G_run 3 ?_
    refine G_end ?_
    exact w_ref01_Product_L1 _ _ hm _ (by kernel_rfl)
  replace hm := neg_inv hc hm
  refine R_exit ?_
  obtain rfl := inj1 hm
  exact ⟨rfl, cut_leaf (by kernel_rfl)⟩
def m_ref01_Product_L2 (x : ((List Int) × Bool × Int)) : Option (Unit ⊕ Unit) :=
  match x with
  | (p0, v601, v804) =>
  if v804 < (p0.length : Int) then
    idx p0 v804 >>= fun v1204 =>
    if v1204 > 65536 then
      some (Sum.inl ())
    else
    m_ref01_Product_L2 (p0, v601, (W (v804 + 1)))
  else
  some (Sum.inr ())
  partial_fixpoint
def P_ref01_Product_L2 : ((List Int) × Bool × Int) → (Unit ⊕ Unit) → Prop := fun x r => match x with
  | (p0, v601, v804) => ∀ st, prune 0 ((firstRegion (codeAt [1, 1, 1, 0, 1, 0, 0] (bodyOf f51))).bind (env.hint 51).keepAt) st = ⟨kp 55 [(0, (.dat (.lst ((List.map intD) p0)))), (4, (boolPV v601)), (6, (intPV v804))], []⟩ →
    RL prog env (env.hint 51) true (codeAt [1, 1, 1, 0, 1, 0, 0] (bodyOf f51)) 0 st (fun e s => match r with | .inl _ => e = .ret ∧ ∃ d, s = ⟨sl d 55 [(2, (intPV 0)), (3, (intPV 7))], []⟩ | .inr (_) => e = .exit 2 ∧ ∃ d, s = ⟨sl d 55 [(0, (.dat (.lst ((List.map intD) p0)))), (4, (boolPV v601))], []⟩)
theorem w_ref01_Product_L2 : ∀ x r, m_ref01_Product_L2 x = some r → P_ref01_Product_L2 x r := by
  refine m_ref01_Product_L2.partial_correctness _ (fun m_ref01_Product_L2 w_ref01_Product_L2 x r hm => ?_)
  unfold P_ref01_Product_L2
  obtain ⟨p0, v601, v804⟩ := x
  intro st hst
  refine RL_at hst ?_
  clear hst
  refine R_seq ?_
  refine R_seq ?_
  refine R_G ?_
  refine G_run 2 ?_
  refine I_len intD p0 (es := (List.map intD) p0) rfl ?_
  refine G_run 1 ?_
  refine G_end ?_
  refine R_ifp (p := v804 < (p0.length : Int)) (rfl) (fun hc => ?_) (fun hc => ?_)
  · replace hm := pos_inv hc hm
    refine R_skip ?_
    refine R_seq ?_
    refine R_block ?_
    refine R_seq ?_
    refine R_G ?_
    refine G_run 2 ?_
    obtain ⟨v1204, hx, hm⟩ := bind_inv hm
    refine I_idx 1 intD p0 v804 v1204 (es := (List.map intD) p0) (d := (intD v1204)) rfl hx rfl rfl ?_
    refine G_run 2 ?_
    refine G_end ?_
    refine R_ifp (p := v1204 > 65536) (rfl) (fun hc => ?_) (fun hc => ?_)
    · replace hm := pos_inv hc hm
      refine R_seq ?_
      refine R_G ?_
      refine G_run 2 ?_
      refine G_end ?_
      refine R_ret ?_
      obtain rfl := inj1 hm
      exact ⟨rfl, cut_leaf (by kernel_rfl)⟩
    replace hm := neg_inv hc hm
    refine R_skip ?_
    refine R_G ?_
    refine G_run 3 ?_
    refine G_end ?_
    exact w_ref01_Product_L2 _ _ hm _ (by kernel_rfl)
  replace hm := neg_inv hc hm
  refine R_exit ?_
  obtain rfl := inj1 hm
  exact ⟨rfl, cut_leaf (by kernel_rfl)⟩
def m_ref01_Product_L3 (x : ((List Int) × Int × Int)) : Option (Unit ⊕ Int) :=
  match x with
  | (p0, v1405, v1406) =>
  if v1406 < (p0.length : Int) then
    idx p0 v1406 >>= fun v1806 =>
    if (W (v1405 * v1806)) > 65536 then
      some (Sum.inl ())
    else
    m_ref01_Product_L3 (p0, (W (v1405 * v1806)), (W (v1406 + 1)))
  else
  some (Sum.inr v1405)
  partial_fixpoint
def P_ref01_Product_L3 : ((List Int) × Int × Int) → (Unit ⊕ Int) → Prop := fun x r => match x with
  | (p0, v1405, v1406) => ∀ st, prune 0 ((firstRegion (codeAt [1, 1, 1, 1, 1, 1, 0, 1, 0, 0] (bodyOf f51))).bind (env.hint 51).keepAt) st = ⟨kp 55 [(0, (.dat (.lst ((List.map intD) p0)))), (7, (intPV v1405)), (8, (intPV v1406))], []⟩ →
    RL prog env (env.hint 51) true (codeAt [1, 1, 1, 1, 1, 1, 0, 1, 0, 0] (bodyOf f51)) 0 st (fun e s => match r with | .inl _ => e = .ret ∧ ∃ d, s = ⟨sl d 55 [(2, (intPV 0)), (3, (intPV 7))], []⟩ | .inr (v1805) => e = .exit 4 ∧ ∃ d, s = ⟨sl d 55 [(7, (intPV v1805))], []⟩)
theorem w_ref01_Product_L3 : ∀ x r, m_ref01_Product_L3 x = some r → P_ref01_Product_L3 x r := by
  refine m_ref01_Product_L3.partial_correctness _ (fun m_ref01_Product_L3 w_ref01_Product_L3 x r hm => ?_)
  unfold P_ref01_Product_L3
  obtain ⟨p0, v1405, v1406⟩ := x
  intro st hst
  refine RL_at hst ?_
  clear hst
  refine R_seq ?_
  refine R_seq ?_
  refine R_G ?_
  refine G_run 2 ?_
  refine I_len intD p0 (es := (List.map intD) p0) rfl ?_
  refine G_run 1 ?_
  refine G_end ?_
  refine R_ifp (p := v1406 < (p0.length : Int)) (rfl) (fun hc => ?_) (fun hc => ?_)
  · replace hm := pos_inv hc hm
    refine R_skip ?_
    refine R_seq ?_
    refine R_block ?_
    refine R_seq ?_
    refine R_G ?_
    refine G_run 3 ?_
    obtain ⟨v1806, hx, hm⟩ := bind_inv hm
    refine I_idx 1 intD p0 v1406 v1806 (es := (List.map intD) p0) (d := (intD v1806)) rfl hx rfl rfl ?_
    refine G_run 3 ?_
    refine G_end ?_
    refine R_seq ?_
    refine R_G ?_
    refine G_run 2 ?_
    refine G_end ?_
    refine R_ifp (p := (W (v1405 * v1806)) > 65536) (rfl) (fun hc => ?_) (fun hc => ?_)
    · replace hm := pos_inv hc hm
      refine R_seq ?_
      refine R_G ?_
      refine G_run 2 ?_
      refine G_end ?_
      refine R_ret ?_
      obtain rfl := inj1 hm
      exact ⟨rfl, cut_leaf (by kernel_rfl)⟩
    replace hm := neg_inv hc hm
    refine R_skip ?_
    refine R_G ?_
    refine G_run 3 ?_
    refine G_end ?_
    exact w_ref01_Product_L3 _ _ hm _ (by kernel_rfl)
  replace hm := neg_inv hc hm
  refine R_exit ?_
  obtain rfl := inj1 hm
  exact ⟨rfl, cut_leaf (by kernel_rfl)⟩
def m_ref01_Product (x : (List Int)) : Option (Int × Int) :=
  match x with
  | p0 =>
  (
  m_ref01_Product_L1 (p0, false, 0) >>= fun (out : Unit ⊕ Bool) =>
  match out with
  | .inl _ =>
    some (0, 6)
  | .inr (v601) =>
    (
    m_ref01_Product_L2 (p0, v601, 0) >>= fun (out : Unit ⊕ Unit) =>
    match out with
    | .inl _ =>
      some (0, 7)
    | .inr (_) =>
      if v601 = true then
        some (0, 0)
      else
      (
      m_ref01_Product_L3 (p0, 1, 0) >>= fun (out : Unit ⊕ Int) =>
      match out with
      | .inl _ =>
        some (0, 7)
      | .inr (v1805) =>
        some (v1805, 0)
      )
    )
  )
def P_ref01_Product : (List Int) → (Int × Int) → Prop := fun x r => match x, r with
  | p0, (r0, r1) => ∀ H, PC prog env 51 ([(.lst ((List.map intD) p0))].map .dat) H (.tup [(intPV r0), (intPV r1)]) H
theorem w_ref01_Product : ∀ x r, m_ref01_Product x = some r → P_ref01_Product x r := by
  intro p0 r hm
  unfold m_ref01_Product at hm
  unfold P_ref01_Product
  obtain ⟨r0, r1⟩ := r
  intro H
  refine PC_sx (ds := [(.lst ((List.map intD) p0))]) (fn := f51) (by kernel_rfl) (by kernel_rfl) rfl ?_ (by kernel_rfl)
  refine R_seq ?_
  refine R_G ?_
  refine G_run 2 ?_
  refine G_end ?_
  refine R_seq ?_
  refine R_G ?_
  refine G_run 1 ?_
  refine G_end ?_
  refine R_seq ?_
  refine R_seq ?_
  refine R_G ?_
  refine G_run 1 ?_
  refine G_end ?_
  refine R_block ?_
  obtain ⟨out, hs, hm⟩ := bind_inv hm
  refine R_loop ?_
  rcases out with _ | v601
  · refine RL_use (w_ref01_Product_L1 _ _ hs) (by kernel_rfl) ?_
    clear hs
    intro e s hp
    obtain ⟨rfl, d, rfl⟩ := hp
    obtain ⟨rfl, rfl⟩ := inj2 hm
    exact ⟨trivial, fin_pure (by kernel_rfl)⟩
  · refine RL_use (w_ref01_Product_L1 _ _ hs) (by kernel_rfl) ?_
    clear hs
    intro e s hp
    obtain ⟨rfl, d, rfl⟩ := hp
    refine R_seq ?_
    refine R_seq ?_
    refine R_G ?_
    refine G_run 1 ?_
    refine G_end ?_
    refine R_block ?_
    obtain ⟨out, hs, hm⟩ := bind_inv hm
    refine R_loop ?_
    rcases out with _ | _
    · refine RL_use (w_ref01_Product_L2 _ _ hs) (by kernel_rfl) ?_
      clear hs
      intro e s hp
      obtain ⟨rfl, d, rfl⟩ := hp
      obtain ⟨rfl, rfl⟩ := inj2 hm
      exact ⟨trivial, fin_pure (by kernel_rfl)⟩
    · refine RL_use (w_ref01_Product_L2 _ _ hs) (by kernel_rfl) ?_
      clear hs
      intro e s hp
      obtain ⟨rfl, d, rfl⟩ := hp
      refine R_seq ?_
      refine R_seq ?_
      refine R_G ?_
      refine G_run 1 ?_
      refine G_end ?_
      refine R_ifp (p := v601 = true) (bool_dec _) (fun hc => ?_) (fun hc => ?_)
      · replace hm := pos_inv hc hm
        refine R_seq ?_
        refine R_G ?_
        refine G_run 2 ?_
        refine G_end ?_
        refine R_ret ?_
        obtain ⟨rfl, rfl⟩ := inj2 hm
        exact ⟨trivial, fin_pure (by kernel_rfl)⟩
      replace hm := neg_inv hc hm
      refine R_skip ?_
      refine R_seq ?_
      refine R_G ?_
      refine G_run 1 ?_
      refine G_end ?_
      refine R_seq ?_
      refine R_seq ?_
      refine R_G ?_
      refine G_run 1 ?_
      refine G_end ?_
      refine R_block ?_
      obtain ⟨out, hs, hm⟩ := bind_inv hm
      refine R_loop ?_
      rcases out with _ | v1805
      · refine RL_use (w_ref01_Product_L3 _ _ hs) (by kernel_rfl) ?_
        clear hs
        intro e s hp
        obtain ⟨rfl, d, rfl⟩ := hp
        obtain ⟨rfl, rfl⟩ := inj2 hm
        exact ⟨trivial, fin_pure (by kernel_rfl)⟩
      · refine RL_use (w_ref01_Product_L3 _ _ hs) (by kernel_rfl) ?_
        clear hs
        intro e s hp
        obtain ⟨rfl, d, rfl⟩ := hp
        refine R_seq ?_
        refine R_G ?_
        refine G_run 3 ?_
        refine G_end ?_
        refine R_ret ?_
        obtain ⟨rfl, rfl⟩ := inj2 hm
        exact ⟨trivial, fin_pure (by kernel_rfl)⟩
end Go.Proofs.Tryz
namespace Go.Proofs.Tryz
open Go Go.Pm
set_option linter.unusedVariables false
set_option maxHeartbeats 2000000
set_option maxRecDepth 2000
def m_ref02_Check_L1 (x : ((List Int) × Int)) : Option (Unit ⊕ Unit) :=
  match x with
  | (p0, v201) =>
  if v201 < (p0.length : Int) then
    idx p0 v201 >>= fun v601 =>
    if v601 < 0 then
      some (Sum.inl ())
    else
    m_ref02_Check_L1 (p0, (W (v201 + 1)))
  else
  some (Sum.inr ())
  partial_fixpoint
def P_ref02_Check_L1 : ((List Int) × Int) → (Unit ⊕ Unit) → Prop := fun x r => match x with
  | (p0, v201) => ∀ st, prune 0 ((firstRegion (codeAt [1, 0, 1, 0, 0] (bodyOf f20))).bind (env.hint 20).keepAt) st = ⟨kp 29 [(0, (.dat (.lst ((List.map intD) p0)))), (3, (intPV v201))], []⟩ →
    RL prog env (env.hint 20) true (codeAt [1, 0, 1, 0, 0] (bodyOf f20)) 0 st (fun e s => match r with | .inl _ => e = .ret ∧ ∃ d, s = ⟨sl d 29 [(2, (intPV 6))], []⟩ | .inr (_) => e = .exit 0 ∧ ∃ d, s = ⟨sl d 29 [(0, (.dat (.lst ((List.map intD) p0))))], []⟩)
theorem w_ref02_Check_L1 : ∀ x r, m_ref02_Check_L1 x = some r → P_ref02_Check_L1 x r := by
  refine m_ref02_Check_L1.partial_correctness _ (fun m_ref02_Check_L1 w_ref02_Check_L1 x r hm => ?_)
  unfold P_ref02_Check_L1
  obtain ⟨p0, v201⟩ := x
  intro st hst
  refine RL_at hst ?_
  clear hst
  refine R_seq ?_
  refine R_seq ?_
  refine R_G ?_
  refine G_run 2 ?_
  refine I_len intD p0 (es := (List.map intD) p0) rfl ?_
  refine G_run 1 ?_
  refine G_end ?_
  refine R_ifp (p := v201 < (p0.length : Int)) (rfl) (fun hc => ?_) (fun hc => ?_)
  · replace hm := pos_inv hc hm
    refine R_skip ?_
    refine R_seq ?_
    refine R_block ?_
    refine R_seq ?_
    refine R_G ?_
    refine G_run 2 ?_
    obtain ⟨v601, hx, hm⟩ := bind_inv hm
    refine I_idx 1 intD p0 v201 v601 (es := (List.map intD) p0) (d := (intD v601)) rfl hx rfl rfl ?_
    refine G_run 2 ?_
    refine G_end ?_
    refine R_ifp (p := v601 < 0) (rfl) (fun hc => ?_) (fun hc => ?_)
    · replace hm := pos_inv hc hm
      refine R_seq ?_
      refine R_G ?_
      refine G_run 1 ?_
      refine G_end ?_
      refine R_ret ?_
      obtain rfl := inj1 hm
      exact ⟨rfl, cut_leaf (by kernel_rfl)⟩
    replace hm := neg_inv hc hm
    refine R_skip ?_
    refine R_G ?_
    refine G_run 3 ?_
    refine G_end ?_
    exact w_ref02_Check_L1 _ _ hm _ (by kernel_rfl)
  replace hm := neg_inv hc hm
  refine R_exit ?_
  obtain rfl := inj1 hm
  exact ⟨rfl, cut_leaf (by kernel_rfl)⟩
def m_ref02_Check (x : (List Int)) : Option Int :=
  match x with
  | p0 =>
  (
  m_ref02_Check_L1 (p0, 0) >>= fun (out : Unit ⊕ Unit) =>
  match out with
  | .inl _ =>
    some 6
  | .inr (_) =>
    m_ref01_Product p0 >>= fun ((v602, v603) : (Int × Int)) =>
    (if (p0.length : Int) > 16 then
      some true
    else
    some (v603 != 0)
    ) >>= fun (v604 : Bool) =>
    if v604 = true then
      some 7
    else
    some 0
  )
def P_ref02_Check : (List Int) → Int → Prop := fun x r => match x, r with
  | p0, r0 => ∀ H, PC prog env 20 ([(.lst ((List.map intD) p0))].map .dat) H (intPV r0) H
theorem w_ref02_Check : ∀ x r, m_ref02_Check x = some r → P_ref02_Check x r := by
  intro p0 r0 hm
  unfold m_ref02_Check at hm
  unfold P_ref02_Check
  intro H
  refine PC_sx (ds := [(.lst ((List.map intD) p0))]) (fn := f20) (by kernel_rfl) (by kernel_rfl) rfl ?_ (by kernel_rfl)
  refine R_seq ?_
  refine R_G ?_
  refine G_run 1 ?_
  refine G_end ?_
  refine R_seq ?_
  refine R_seq ?_
  refine R_G ?_
  refine G_run 1 ?_
  refine G_end ?_
  refine R_block ?_
  obtain ⟨out, hs, hm⟩ := bind_inv hm
  refine R_loop ?_
  rcases out with _ | _
  · refine RL_use (w_ref02_Check_L1 _ _ hs) (by kernel_rfl) ?_
    clear hs
    intro e s hp
    obtain ⟨rfl, d, rfl⟩ := hp
    obtain rfl := inj1 hm
    exact ⟨trivial, fin_pure (by kernel_rfl)⟩
  · refine RL_use (w_ref02_Check_L1 _ _ hs) (by kernel_rfl) ?_
    clear hs
    intro e s hp
    obtain ⟨rfl, d, rfl⟩ := hp
    refine R_seq ?_
    refine R_G ?_
    refine G_run 1 ?_
    obtain ⟨⟨v602, v603⟩, hx, hm⟩ := bind_inv hm
    have hq := w_ref01_Product _ _ hx []
    refine G_callP hq ?_
    refine G_run 5 ?_
    refine G_end ?_
    refine R_seq ?_
    refine R_seq ?_
    obtain ⟨v604, hs, hm⟩ := bind_inv hm
    refine R_cut (fun d => ⟨sl d 29 [(28, (boolPV v604))], []⟩) ?_ (fun d => ?_)
    · replace hm := hs
      clear hs
      refine R_G ?_
      refine G_run 1 ?_
      refine I_len intD p0 (es := (List.map intD) p0) rfl ?_
      refine G_run 2 ?_
      refine G_split (p := (p0.length : Int) > 16) 25 (rfl) (fun hc => ?_) (fun hc => ?_)
      · replace hm := pos_inv hc hm
        refine G_run 3 ?_
        refine G_end ?_
        obtain rfl := inj1 hm
        exact cut_leaf (by kernel_rfl)
      replace hm := neg_inv hc hm
      refine G_run 3 ?_
      refine G_end ?_
      obtain rfl := inj1 hm
      exact cut_leaf (by kernel_rfl)
    clear hs
    refine R_ifp (p := v604 = true) (bool_dec _) (fun hc => ?_) (fun hc => ?_)
    · replace hm := pos_inv hc hm
      refine R_seq ?_
      refine R_G ?_
      refine G_run 1 ?_
      refine G_end ?_
      refine R_ret ?_
      obtain rfl := inj1 hm
      exact ⟨trivial, fin_pure (by kernel_rfl)⟩
    replace hm := neg_inv hc hm
    refine R_skip ?_
    refine R_seq ?_
    refine R_G ?_
    refine G_run 1 ?_
    refine G_end ?_
    refine R_ret ?_
    obtain rfl := inj1 hm
    exact ⟨trivial, fin_pure (by kernel_rfl)⟩
end Go.Proofs.Tryz
namespace Go.Proofs.Tryz
open Go Go.Pm
set_option linter.unusedVariables false
set_option maxHeartbeats 2000000
set_option maxRecDepth 2000
def m_ref02_Cells (x : (List Int)) : Option Int :=
  match x with
  | p0 =>
  m_ref02_Check p0 >>= fun (v1 : Int) =>
  if v1 ≠ 0 then
    some 0
  else
  m_ref01_Product p0 >>= fun ((v2, v3) : (Int × Int)) =>
  some v2
def P_ref02_Cells : (List Int) → Int → Prop := fun x r => match x, r with
  | p0, r0 => ∀ H, PC prog env 21 ([(.lst ((List.map intD) p0))].map .dat) H (intPV r0) H
theorem w_ref02_Cells : ∀ x r, m_ref02_Cells x = some r → P_ref02_Cells x r := by
  intro p0 r0 hm
  unfold m_ref02_Cells at hm
  unfold P_ref02_Cells
  intro H
  refine PC_sx (ds := [(.lst ((List.map intD) p0))]) (fn := f21) (by kernel_rfl) (by kernel_rfl) rfl ?_ (by kernel_rfl)
  refine R_seq ?_
  refine R_G ?_
  refine G_run 1 ?_
  refine G_end ?_
  refine R_seq ?_
  refine R_seq ?_
  refine R_G ?_
  refine G_run 1 ?_
  obtain ⟨v1, hx, hm⟩ := bind_inv hm
  have hq := w_ref02_Check _ _ hx []
  refine G_callP hq ?_
  refine G_run 1 ?_
  refine G_end ?_
  refine R_ifp (p := v1 ≠ 0) (ne_dec _ _) (fun hc => ?_) (fun hc => ?_)
  · replace hm := pos_inv hc hm
    refine R_seq ?_
    refine R_G ?_
    refine G_run 1 ?_
    refine G_end ?_
    refine R_ret ?_
    obtain rfl := inj1 hm
    exact ⟨trivial, fin_pure (by kernel_rfl)⟩
  replace hm := neg_inv hc hm
  refine R_skip ?_
  refine R_seq ?_
  refine R_G ?_
  refine G_run 1 ?_
  obtain ⟨⟨v2, v3⟩, hx, hm⟩ := bind_inv hm
  have hq := w_ref01_Product _ _ hx []
  refine G_callP hq ?_
  refine G_run 5 ?_
  refine G_end ?_
  refine R_seq ?_
  refine R_G ?_
  refine G_run 2 ?_
  refine G_end ?_
  refine R_ret ?_
  obtain rfl := inj1 hm
  exact ⟨trivial, fin_pure (by kernel_rfl)⟩
end Go.Proofs.Tryz
namespace Go.Proofs.Tryz
open Go Go.Pm
set_option linter.unusedVariables false
set_option maxHeartbeats 2000000
set_option maxRecDepth 2000
def m_ref02_Small_L1 (x : ((List Int) × Int × Int × Int)) : Option (Unit ⊕ Unit) :=
  match x with
  | (p0, p1, v205, v206) =>
  if v206 < (p0.length : Int) then
    idx p0 v206 >>= fun v605 =>
    if (W (v205 * (if v605 < 1 then 1 else v605))) > (W (100 * p1)) then
      some (Sum.inl ())
    else
    m_ref02_Small_L1 (p0, p1, (W (v205 * (if v605 < 1 then 1 else v605))), (W (v206 + 1)))
  else
  some (Sum.inr ())
  partial_fixpoint
def P_ref02_Small_L1 : ((List Int) × Int × Int × Int) → (Unit ⊕ Unit) → Prop := fun x r => match x with
  | (p0, p1, v205, v206) => ∀ st, prune 0 ((firstRegion (codeAt [1, 1, 1, 0, 1, 0, 0] (bodyOf f5))).bind (env.hint 5).keepAt) st = ⟨kp 38 [(0, (.dat (.lst ((List.map intD) p0)))), (1, (intPV p1)), (5, (intPV v205)), (6, (intPV v206))], []⟩ →
    RL prog env (env.hint 5) true (codeAt [1, 1, 1, 0, 1, 0, 0] (bodyOf f5)) 0 st (fun e s => match r with | .inl _ => e = .ret ∧ ∃ d, s = ⟨sl d 38 [(4, (boolPV false))], []⟩ | .inr (_) => e = .exit 0 ∧ ∃ d, s = ⟨sl d 38 [], []⟩)
theorem w_ref02_Small_L1 : ∀ x r, m_ref02_Small_L1 x = some r → P_ref02_Small_L1 x r := by
  refine m_ref02_Small_L1.partial_correctness _ (fun m_ref02_Small_L1 w_ref02_Small_L1 x r hm => ?_)
  unfold P_ref02_Small_L1
  obtain ⟨p0, p1, v205, v206⟩ := x
  intro st hst
  refine RL_at hst ?_
  clear hst
  refine R_seq ?_
  refine R_seq ?_
  refine R_G ?_
  refine G_run 2 ?_
  refine I_len intD p0 (es := (List.map intD) p0) rfl ?_
  refine G_run 1 ?_
  refine G_end ?_
  refine R_ifp (p := v206 < (p0.length : Int)) (rfl) (fun hc => ?_) (fun hc => ?_)
  · replace hm := pos_inv hc hm
    refine R_skip ?_
    refine R_seq ?_
    refine R_block ?_
    refine R_seq ?_
    refine R_G ?_
    refine G_run 3 ?_
    obtain ⟨v605, hx, hm⟩ := bind_inv hm
    refine I_idx 1 intD p0 v206 v605 (es := (List.map intD) p0) (d := (intD v605)) rfl hx rfl rfl ?_
    refine G_run 1 ?_
    refine G_semN rfl (by kernel_rfl) (fun _ => E_max (k := .i64) (m := v605) (n := 1) rfl (by kernel_rfl) (by kernel_rfl)) ?_
    refine G_run 2 ?_
    refine G_end ?_
    refine R_seq ?_
    refine R_G ?_
    refine G_run 4 ?_
    refine G_end ?_
    refine R_ifp (p := (W (v205 * (if v605 < 1 then 1 else v605))) > (W (100 * p1))) (rfl) (fun hc => ?_) (fun hc => ?_)
    · replace hm := pos_inv hc hm
      refine R_seq ?_
      refine R_G ?_
      refine G_run 1 ?_
      refine G_end ?_
      refine R_ret ?_
      obtain rfl := inj1 hm
      exact ⟨rfl, cut_leaf (by kernel_rfl)⟩
    replace hm := neg_inv hc hm
    refine R_skip ?_
    refine R_G ?_
    refine G_run 3 ?_
    refine G_end ?_
    exact w_ref02_Small_L1 _ _ hm _ (by kernel_rfl)
  replace hm := neg_inv hc hm
  refine R_exit ?_
  obtain rfl := inj1 hm
  exact ⟨rfl, cut_leaf (by kernel_rfl)⟩
def m_ref02_Small (x : ((List Int) × Int)) : Option Bool :=
  match x with
  | (p0, p1) =>
  ((if (p0.length : Int) > 6 then
    some true
  else
  m_ref02_Check p0 >>= fun (v3 : Int) =>
  some (v3 != 0)
  ) >>= fun (v2 : Bool) =>
  if v2 = true then
    some true
  else
  m_ref02_Cells p0 >>= fun (v4 : Int) =>
  some (decide (v4 > p1))
  ) >>= fun (v1 : Bool) =>
  if v1 = true then
    some false
  else
  (
  m_ref02_Small_L1 (p0, p1, 1, 0) >>= fun (out : Unit ⊕ Unit) =>
  match out with
  | .inl _ =>
    some false
  | .inr (_) =>
    some true
  )
def P_ref02_Small : ((List Int) × Int) → Bool → Prop := fun x r => match x, r with
  | (p0, p1), r0 => ∀ H, PC prog env 5 ([(.lst ((List.map intD) p0)), (intD p1)].map .dat) H (boolPV r0) H
theorem w_ref02_Small : ∀ x r, m_ref02_Small x = some r → P_ref02_Small x r := by
  intro x r0 hm
  unfold m_ref02_Small at hm
  unfold P_ref02_Small
  obtain ⟨p0, p1⟩ := x
  intro H
  refine PC_sx (ds := [(.lst ((List.map intD) p0)), (intD p1)]) (fn := f5) (by kernel_rfl) (by kernel_rfl) rfl ?_ (by kernel_rfl)
  refine R_seq ?_
  refine R_G ?_
  refine G_run 1 ?_
  refine G_end ?_
  refine R_seq ?_
  refine R_seq ?_
  obtain ⟨v1, hs, hm⟩ := bind_inv hm
  refine R_cut (fun d => ⟨sl d 38 [(0, (.dat (.lst ((List.map intD) p0)))), (1, (intPV p1)), (20, (boolPV v1))], []⟩) ?_ (fun d => ?_)
  · replace hm := hs
    clear hs
    refine R_GN ?_
    refine G_run 1 ?_
    refine I_len intD p0 (es := (List.map intD) p0) rfl ?_
    refine G_run 2 ?_
    obtain ⟨v2, hs, hm⟩ := bind_inv hm
    refine G_cut (j := 8) (fun d => ⟨sl d 38 [(0, (.dat (.lst ((List.map intD) p0)))), (1, (intPV p1)), (4, (boolPV false)), (7, (.dat (.lst ((List.map intD) p0)))), (8, (intPV (p0.length : Int))), (9, (boolPV (decide ((p0.length : Int) > 6)))), (14, (boolPV v2))], []⟩) (fun d => ?_) (fun hJ => ?_)
    · clear hs
      refine G_run 1 ?_
      refine G_split (p := v2 = true) 15 (bool_dec _) (fun hc => ?_) (fun hc => ?_)
      · replace hm := pos_inv hc hm
        refine G_run 5 ?_
        refine G_end ⟨by kernel_rfl, ?_⟩
        obtain rfl := inj1 hm
        exact cut_leaf (by kernel_rfl)
      replace hm := neg_inv hc hm
      refine G_run 1 ?_
      obtain ⟨v4, hx, hm⟩ := bind_inv hm
      have hq := w_ref02_Cells _ _ hx []
      refine G_callP hq ?_
      refine G_run 3 ?_
      refine G_end ⟨by kernel_rfl, ?_⟩
      obtain rfl := inj1 hm
      exact cut_leaf (by kernel_rfl)
    replace hm := hs
    clear hs
    refine G_split (p := (p0.length : Int) > 6) 10 (rfl) (fun hc => ?_) (fun hc => ?_)
    · replace hm := pos_inv hc hm
      refine G_run 4 ?_
      obtain rfl := inj1 hm
      exact hJ _ _ (by kernel_rfl) (by kernel_rfl)
    replace hm := neg_inv hc hm
    refine G_run 1 ?_
    obtain ⟨v3, hx, hm⟩ := bind_inv hm
    have hq := w_ref02_Check _ _ hx []
    refine G_callP hq ?_
    refine G_run 2 ?_
    obtain rfl := inj1 hm
    exact hJ _ _ (by kernel_rfl) (by kernel_rfl)
  clear hs
  refine R_ifp (p := v1 = true) (bool_dec _) (fun hc => ?_) (fun hc => ?_)
  · replace hm := pos_inv hc hm
    refine R_seq ?_
    refine R_G ?_
    refine G_run 1 ?_
    refine G_end ?_
    refine R_ret ?_
    obtain rfl := inj1 hm
    exact ⟨trivial, fin_pure (by kernel_rfl)⟩
  replace hm := neg_inv hc hm
  refine R_skip ?_
  refine R_seq ?_
  refine R_G ?_
  refine G_run 1 ?_
  refine G_end ?_
  refine R_seq ?_
  refine R_seq ?_
  refine R_G ?_
  refine G_run 1 ?_
  refine G_end ?_
  refine R_block ?_
  obtain ⟨out, hs, hm⟩ := bind_inv hm
  refine R_loop ?_
  rcases out with _ | _
  · refine RL_use (w_ref02_Small_L1 _ _ hs) (by kernel_rfl) ?_
    clear hs
    intro e s hp
    obtain ⟨rfl, d, rfl⟩ := hp
    obtain rfl := inj1 hm
    exact ⟨trivial, fin_pure (by kernel_rfl)⟩
  · refine RL_use (w_ref02_Small_L1 _ _ hs) (by kernel_rfl) ?_
    clear hs
    intro e s hp
    obtain ⟨rfl, d, rfl⟩ := hp
    refine R_seq ?_
    refine R_G ?_
    refine G_run 1 ?_
    refine G_end ?_
    refine R_ret ?_
    obtain rfl := inj1 hm
    exact ⟨trivial, fin_pure (by kernel_rfl)⟩
end Go.Proofs.Tryz
namespace Go.Proofs.Tryz
open Go Go.Pm
set_option linter.unusedVariables false
set_option maxHeartbeats 2000000
set_option maxRecDepth 2000
def m_law18_Back_L1 (x : ((List T_piece_Piece) × (List T_ref18_Piece) × Int)) : Option ((List T_ref18_Piece)) :=
  match x with
  | (p0, v201, v202) =>
  if v202 < (p0.length : Int) then
    idx p0 v202 >>= fun v602 =>
    idx p0 v202 >>= fun v603 =>
    idx p0 v202 >>= fun v604 =>
    app 120 v201 ([(⟨(⟨v602.box.lo, v603.box.hi⟩ : T_ref06_Box), (⟨v604.access.kind, v604.access.buffer, v604.access.base, v604.access.strides, v604.access.start, v604.access.step, v604.access.mod⟩ : T_ref17_Access)⟩ : T_ref18_Piece)] : List T_ref18_Piece) >>= fun v605 =>
    m_law18_Back_L1 (p0, v605, (W (v202 + 1)))
  else
  some v201
  partial_fixpoint
def P_law18_Back_L1 : ((List T_piece_Piece) × (List T_ref18_Piece) × Int) → (List T_ref18_Piece) → Prop := fun x r => match x with
  | (p0, v201, v202) => ∀ st, prune 1 ((firstRegion (codeAt [1, 1, 0, 1, 0, 0] (bodyOf f9))).bind (env.hint 9).keepAt) st = ⟨kp 67 [(0, (.dat (.lst ((List.map T_piece_Piece.toD) p0)))), (3, (.vec 0 ((List.map T_ref18_Piece.toD) v201))), (4, (intPV v202))], [(.tok 62 v201.length)]⟩ →
    RL prog env (env.hint 9) true (codeAt [1, 1, 0, 1, 0, 0] (bodyOf f9)) 1 st (fun e s => match r with | v601 => e = .exit 0 ∧ ∃ d, s = ⟨sl d 67 [(3, (.vec 0 ((List.map T_ref18_Piece.toD) v601)))], [(.tok 62 v601.length)]⟩)
theorem w_law18_Back_L1 : ∀ x r, m_law18_Back_L1 x = some r → P_law18_Back_L1 x r := by
  refine m_law18_Back_L1.partial_correctness _ (fun m_law18_Back_L1 w_law18_Back_L1 x r hm => ?_)
  unfold P_law18_Back_L1
  obtain ⟨p0, v201, v202⟩ := x
  intro st hst
  refine RL_at hst ?_
  clear hst
  refine R_seq ?_
  refine R_seq ?_
  refine R_G ?_
  refine G_run 2 ?_
  refine I_len T_piece_Piece.toD p0 (es := (List.map T_piece_Piece.toD) p0) rfl ?_
  refine G_run 1 ?_
  refine G_end ?_
  refine R_ifp (p := v202 < (p0.length : Int)) (rfl) (fun hc => ?_) (fun hc => ?_)
  · replace hm := pos_inv hc hm
    refine R_skip ?_
    refine R_seq ?_
    refine R_block ?_
    refine R_seq ?_
    refine R_G ?_
    refine G_run 1 ?_
    refine G_end ?_
    refine R_seq ?_
    refine R_G ?_
    refine G_run 2 ?_
    obtain ⟨v602, hx, hm⟩ := bind_inv hm
    refine I_idx 9 T_piece_Piece.toD p0 v202 v602 (es := (List.map T_piece_Piece.toD) p0) (d := (T_piece_Piece.toD v602)) rfl hx rfl rfl ?_
    refine G_run 6 ?_
    refine G_end ?_
    refine R_seq ?_
    refine R_G ?_
    refine G_run 2 ?_
    obtain ⟨v603, hx, hm⟩ := bind_inv hm
    refine I_idx 9 T_piece_Piece.toD p0 v202 v603 (es := (List.map T_piece_Piece.toD) p0) (d := (T_piece_Piece.toD v603)) rfl hx rfl rfl ?_
    refine G_run 6 ?_
    refine G_end ?_
    refine R_seq ?_
    refine R_G ?_
    refine G_run 2 ?_
    obtain ⟨v604, hx, hm⟩ := bind_inv hm
    refine I_idx 9 T_piece_Piece.toD p0 v202 v604 (es := (List.map T_piece_Piece.toD) p0) (d := (T_piece_Piece.toD v604)) rfl hx rfl rfl ?_
    refine G_run 4 ?_
    refine G_end ?_
    refine R_seq ?_
    refine R_G ?_
    refine G_run 5 ?_
    refine G_end ?_
    refine R_seq ?_
    refine R_G ?_
    refine G_run 5 ?_
    refine G_end ?_
    refine R_seq ?_
    refine R_G ?_
    refine G_run 5 ?_
    refine G_end ?_
    refine R_seq ?_
    refine R_G ?_
    refine G_run 5 ?_
    refine G_end ?_
    refine R_seq ?_
    refine R_G ?_
    refine G_run 5 ?_
    refine G_end ?_
    refine R_seq ?_
    refine R_G ?_
    refine G_run 5 ?_
    refine G_end ?_
    refine R_seq ?_
    refine R_G ?_
    refine G_run 5 ?_
    refine G_end ?_
    refine R_G ?_
    refine G_run 3 ?_
    obtain ⟨v605, hx, hm⟩ := bind_inv hm
    refine I_app 62 9 120 0 T_ref18_Piece.toD v201 ([(⟨(⟨v602.box.lo, v603.box.hi⟩ : T_ref06_Box), (⟨v604.access.kind, v604.access.buffer, v604.access.base, v604.access.strides, v604.access.start, v604.access.step, v604.access.mod⟩ : T_ref17_Access)⟩ : T_ref18_Piece)] : List T_ref18_Piece) v605 (xs := (List.map T_ref18_Piece.toD) v201) (es := (List.map T_ref18_Piece.toD) ([(⟨(⟨v602.box.lo, v603.box.hi⟩ : T_ref06_Box), (⟨v604.access.kind, v604.access.buffer, v604.access.base, v604.access.strides, v604.access.start, v604.access.step, v604.access.mod⟩ : T_ref17_Access)⟩ : T_ref18_Piece)] : List T_ref18_Piece)) (L := (List.map T_ref18_Piece.toD)) (fun _ => rfl) rfl rfl T_ref18_Piece.fit hx ?_
    refine G_run 1 ?_
    refine G_end ?_
    refine R_G ?_
    refine G_run 3 ?_
    refine G_end ?_
    exact w_law18_Back_L1 _ _ hm _ (by kernel_rfl)
  replace hm := neg_inv hc hm
  refine R_exit ?_
  obtain rfl := inj1 hm
  exact ⟨rfl, cut_leaf (by kernel_rfl)⟩
def m_law18_Back (x : (List T_piece_Piece)) : Option (List T_ref18_Piece) :=
  match x with
  | p0 =>
  m_law18_Back_L1 (p0, ([] : List T_ref18_Piece), 0) >>= fun (v601 : (List T_ref18_Piece)) =>
  some v601
def P_law18_Back : (List T_piece_Piece) → (List T_ref18_Piece) → Prop := fun x r => match x, r with
  | p0, r0 => ∀ H, PC prog env 9 ([(.lst ((List.map T_piece_Piece.toD) p0))].map .dat) H (.dat (.lst ((List.map T_ref18_Piece.toD) r0))) H
theorem w_law18_Back : ∀ x r, m_law18_Back x = some r → P_law18_Back x r := by
  intro p0 r0 hm
  unfold m_law18_Back at hm
  unfold P_law18_Back
  intro H
  refine PC_sx (ds := [(.lst ((List.map T_piece_Piece.toD) p0))]) (fn := f9) (by kernel_rfl) (by kernel_rfl) rfl ?_ (by kernel_rfl)
  refine R_seq ?_
  refine R_G ?_
  refine G_run 1 ?_
  refine G_end ?_
  refine R_seq ?_
  refine R_G ?_
  refine G_run 1 ?_
  refine G_end ?_
  refine R_seq ?_
  refine R_seq ?_
  refine R_G ?_
  refine G_run 1 ?_
  refine G_end ?_
  refine R_block ?_
  obtain ⟨v601, hs, hm⟩ := bind_inv hm
  refine R_loop ?_
  refine RL_use (w_law18_Back_L1 _ _ hs) (by kernel_rfl) ?_
  clear hs
  intro e s hp
  obtain ⟨rfl, d, rfl⟩ := hp
  refine R_seq ?_
  refine R_G ?_
  refine G_run 2 ?_
  refine G_end ?_
  refine R_ret ?_
  obtain rfl := inj1 hm
  exact ⟨trivial, fin_pure (by kernel_rfl)⟩
end Go.Proofs.Tryz
namespace Go.Proofs.Tryz
open Go Go.Pm
set_option linter.unusedVariables false
set_option maxHeartbeats 2000000
set_option maxRecDepth 2000
def m_ref18_whole (x : (List Int)) : Option T_ref06_Box :=
  match x with
  | p0 =>
  makeM 8 (p0.length : Int) 0 >>= fun v1 =>
  some (⟨v1, p0⟩ : T_ref06_Box)
def P_ref18_whole : (List Int) → T_ref06_Box → Prop := fun x r => match x, r with
  | p0, r0 => ∀ H, PC prog env 28 ([(.lst ((List.map intD) p0))].map .dat) H (.dat (T_ref06_Box.toD r0)) H
theorem w_ref18_whole : ∀ x r, m_ref18_whole x = some r → P_ref18_whole x r := by
  intro p0 r0 hm
  unfold m_ref18_whole at hm
  unfold P_ref18_whole
  intro H
  refine PC_sx (ds := [(.lst ((List.map intD) p0))]) (fn := f28) (by kernel_rfl) (by kernel_rfl) rfl ?_ (by kernel_rfl)
  refine R_seq ?_
  refine R_G ?_
  refine G_run 1 ?_
  refine G_end ?_
  refine R_seq ?_
  refine R_G ?_
  refine G_run 1 ?_
  refine I_len intD p0 (es := (List.map intD) p0) rfl ?_
  obtain ⟨v1, hx, hm⟩ := bind_inv hm
  refine G_semH (v := .arr 1 0 v1.length v1.length) (fun H => H ++ [.box (cellsOf intD v1)]) rfl (by kernel_rfl) ?_ ?_
  · intro K hk
    exact E_mkBoxN 1 intD (z := 0) (n := (p0.length : Int)) (bytes := 8) hx (e := 3) (by kernel_rfl) (by kernel_rfl) (by kernel_rfl) (by kernel_rfl) rfl rfl (by kernel_rfl) (by kernel_rfl) hk
  refine G_run 3 ?_
  refine G_end ?_
  refine R_ret ?_
  obtain rfl := inj1 hm
  exact ⟨trivial, fin_pureX [(.agg [(.arr 1 0 v1.length v1.length), (.dat (.lst ((List.map intD) p0)))])] (by kernel_rfl) (po_agg (pc_cons (pc_arr intD v1 rfl (fun _ => rfl) (by kernel_rfl)) (pc_cons (by kernel_rfl) pc_nil)))⟩
end Go.Proofs.Tryz
namespace Go.Proofs.Tryz
open Go Go.Pm
set_option linter.unusedVariables false
set_option maxHeartbeats 2000000
set_option maxRecDepth 2000
def m_ref02_Strides_L2 (x : ((List Int) × (List Int) × Int × Int × Int)) : Option (Int) :=
  match x with
  | (p0, v202, v203, v805, v806) =>
  (if v806 < (p0.length : Int) then
    some (decide (v805 > 0))
  else
  some false
  ) >>= fun (v1206 : Bool) =>
  if v1206 = true then
    idx p0 v806 >>= fun v1207 =>
    m_ref02_Strides_L2 (p0, v202, v203, (W (v805 * v1207)), (W (v806 + 1)))
  else
  some v805
  partial_fixpoint
def P_ref02_Strides_L2 : ((List Int) × (List Int) × Int × Int × Int) → Int → Prop := fun x r => match x with
  | (p0, v202, v203, v805, v806) => ∀ st, prune 1 ((firstRegion (codeAt [1, 1, 1, 0, 1, 0, 0, 1, 0, 0, 1, 1, 0, 1, 0, 0] (bodyOf f60))).bind (env.hint 60).keepAt) st = ⟨kp 42 [(0, (.dat (.lst ((List.map intD) p0)))), (3, (.vec 0 ((List.map intD) v202))), (4, (intPV v203)), (5, (intPV v805)), (6, (intPV v806))], [(.tok 3 v202.length)]⟩ →
    RL prog env (env.hint 60) true (codeAt [1, 1, 1, 0, 1, 0, 0, 1, 0, 0, 1, 1, 0, 1, 0, 0] (bodyOf f60)) 1 st (fun e s => match r with | v1205 => e = .exit 2 ∧ ∃ d, s = ⟨sl d 42 [(0, (.dat (.lst ((List.map intD) p0)))), (3, (.vec 0 ((List.map intD) v202))), (4, (intPV v203)), (5, (intPV v1205))], [(.tok 3 v202.length)]⟩)
theorem w_ref02_Strides_L2 : ∀ x r, m_ref02_Strides_L2 x = some r → P_ref02_Strides_L2 x r := by
  refine m_ref02_Strides_L2.partial_correctness _ (fun m_ref02_Strides_L2 w_ref02_Strides_L2 x r hm => ?_)
  unfold P_ref02_Strides_L2
  obtain ⟨p0, v202, v203, v805, v806⟩ := x
  intro st hst
  refine RL_at hst ?_
  clear hst
  refine R_seq ?_
  refine R_seq ?_
  obtain ⟨v1206, hs, hm⟩ := bind_inv hm
  refine R_cut (fun d => ⟨sl d 42 [(0, (.dat (.lst ((List.map intD) p0)))), (3, (.vec 0 ((List.map intD) v202))), (4, (intPV v203)), (5, (intPV v805)), (6, (intPV v806)), (28, (boolPV v1206))], [(.tok 3 v202.length)]⟩) ?_ (fun d => ?_)
  · replace hm := hs
    clear hs
    refine R_G ?_
    refine G_run 2 ?_
    refine I_len intD p0 (es := (List.map intD) p0) rfl ?_
    refine G_run 2 ?_
    refine G_split (p := v806 < (p0.length : Int)) 25 (rfl) (fun hc => ?_) (fun hc => ?_)
    · replace hm := pos_inv hc hm
      refine G_run 3 ?_
      refine G_end ?_
      obtain rfl := inj1 hm
      exact cut_leaf (by kernel_rfl)
    replace hm := neg_inv hc hm
    refine G_run 3 ?_
    refine G_end ?_
    obtain rfl := inj1 hm
    exact cut_leaf (by kernel_rfl)
  clear hs
  refine R_ifp (p := v1206 = true) (bool_dec _) (fun hc => ?_) (fun hc => ?_)
  · replace hm := pos_inv hc hm
    refine R_skip ?_
    refine R_seq ?_
    refine R_block ?_
    refine R_G ?_
    refine G_run 3 ?_
    obtain ⟨v1207, hx, hm⟩ := bind_inv hm
    refine I_idx 1 intD p0 v806 v1207 (es := (List.map intD) p0) (d := (intD v1207)) rfl hx rfl rfl ?_
    refine G_run 3 ?_
    refine G_end ?_
    refine R_G ?_
    refine G_run 3 ?_
    refine G_end ?_
    exact w_ref02_Strides_L2 _ _ hm _ (by kernel_rfl)
  replace hm := neg_inv hc hm
  refine R_exit ?_
  obtain rfl := inj1 hm
  exact ⟨rfl, cut_leaf (by kernel_rfl)⟩
def m_ref02_Strides_L1 (x : ((List Int) × (List Int) × Int)) : Option ((List Int)) :=
  match x with
  | (p0, v202, v203) =>
  if v203 < (p0.length : Int) then
    m_ref02_Cells p0 >>= fun (v603 : Int) =>
    (if v603 = 0 then
      some 0
    else
    some 1
    ) >>= fun (v604 : Int) =>
    m_ref02_Strides_L2 (p0, v202, v203, v604, (W (v203 + 1))) >>= fun (v1205 : Int) =>
    app 8 v202 ([v1205] : List Int) >>= fun v1208 =>
    m_ref02_Strides_L1 (p0, v1208, (W (v203 + 1)))
  else
  some v202
  partial_fixpoint
def P_ref02_Strides_L1 : ((List Int) × (List Int) × Int) → (List Int) → Prop := fun x r => match x with
  | (p0, v202, v203) => ∀ st, prune 1 ((firstRegion (codeAt [1, 1, 1, 0, 1, 0, 0] (bodyOf f60))).bind (env.hint 60).keepAt) st = ⟨kp 42 [(0, (.dat (.lst ((List.map intD) p0)))), (3, (.vec 0 ((List.map intD) v202))), (4, (intPV v203))], [(.tok 3 v202.length)]⟩ →
    RL prog env (env.hint 60) true (codeAt [1, 1, 1, 0, 1, 0, 0] (bodyOf f60)) 1 st (fun e s => match r with | v602 => e = .exit 0 ∧ ∃ d, s = ⟨sl d 42 [(3, (.vec 0 ((List.map intD) v602)))], [(.tok 3 v602.length)]⟩)
theorem w_ref02_Strides_L1 : ∀ x r, m_ref02_Strides_L1 x = some r → P_ref02_Strides_L1 x r := by
  refine m_ref02_Strides_L1.partial_correctness _ (fun m_ref02_Strides_L1 w_ref02_Strides_L1 x r hm => ?_)
  unfold P_ref02_Strides_L1
  obtain ⟨p0, v202, v203⟩ := x
  intro st hst
  refine RL_at hst ?_
  clear hst
  refine R_seq ?_
  refine R_seq ?_
  refine R_G ?_
  refine G_run 2 ?_
  refine I_len intD p0 (es := (List.map intD) p0) rfl ?_
  refine G_run 1 ?_
  refine G_end ?_
  refine R_ifp (p := v203 < (p0.length : Int)) (rfl) (fun hc => ?_) (fun hc => ?_)
  · replace hm := pos_inv hc hm
    refine R_skip ?_
    refine R_seq ?_
    refine R_block ?_
    refine R_seq ?_
    refine R_G ?_
    refine G_run 1 ?_
    refine G_end ?_
    refine R_seq ?_
    refine R_seq ?_
    refine R_G ?_
    refine G_run 1 ?_
    obtain ⟨v603, hx, hm⟩ := bind_inv hm
    have hq := w_ref02_Cells _ _ hx []
    refine G_callP hq ?_
    refine G_run 1 ?_
    refine G_end ?_
    obtain ⟨v604, hs, hm⟩ := bind_inv hm
    refine R_cut (fun d => ⟨sl d 42 [(0, (.dat (.lst ((List.map intD) p0)))), (3, (.vec 0 ((List.map intD) v202))), (4, (intPV v203)), (5, (intPV v604))], [(.tok 3 v202.length)]⟩) ?_ (fun d => ?_)
    · replace hm := hs
      clear hs
      refine R_ifp (p := v603 = 0) (eq_dec _ _) (fun hc => ?_) (fun hc => ?_)
      · replace hm := pos_inv hc hm
        refine R_G ?_
        refine G_run 1 ?_
        refine G_end ?_
        obtain rfl := inj1 hm
        exact cut_leaf (by kernel_rfl)
      replace hm := neg_inv hc hm
      refine R_skip ?_
      obtain rfl := inj1 hm
      exact cut_leaf (by kernel_rfl)
    clear hs
    refine R_seq ?_
    refine R_seq ?_
    refine R_G ?_
    refine G_run 3 ?_
    refine G_end ?_
    refine R_block ?_
    obtain ⟨v1205, hs, hm⟩ := bind_inv hm
    refine R_loop ?_
    refine RL_use (w_ref02_Strides_L2 _ _ hs) (by kernel_rfl) ?_
    clear hs
    intro e s hp
    obtain ⟨rfl, d, rfl⟩ := hp
    refine R_G ?_
    refine G_run 3 ?_
    obtain ⟨v1208, hx, hm⟩ := bind_inv hm
    refine I_app 3 1 8 0 intD v202 ([v1205] : List Int) v1208 (xs := (List.map intD) v202) (es := (List.map intD) ([v1205] : List Int)) (L := (List.map intD)) (fun _ => rfl) rfl rfl (fun _ => rfl) hx ?_
    refine G_run 1 ?_
    refine G_end ?_
    refine R_G ?_
    refine G_run 3 ?_
    refine G_end ?_
    exact w_ref02_Strides_L1 _ _ hm _ (by kernel_rfl)
  replace hm := neg_inv hc hm
  refine R_exit ?_
  obtain rfl := inj1 hm
  exact ⟨rfl, cut_leaf (by kernel_rfl)⟩
def m_ref02_Strides (x : (List Int)) : Option (List Int) :=
  match x with
  | p0 =>
  m_ref02_Check p0 >>= fun (v1 : Int) =>
  if v1 ≠ 0 then
    some ([] : (List Int))
  else
  m_ref02_Strides_L1 (p0, ([] : List Int), 0) >>= fun (v602 : (List Int)) =>
  some v602
def P_ref02_Strides : (List Int) → (List Int) → Prop := fun x r => match x, r with
  | p0, r0 => ∀ H, PC prog env 60 ([(.lst ((List.map intD) p0))].map .dat) H (.dat (.lst ((List.map intD) r0))) H
theorem w_ref02_Strides : ∀ x r, m_ref02_Strides x = some r → P_ref02_Strides x r := by
  intro p0 r0 hm
  unfold m_ref02_Strides at hm
  unfold P_ref02_Strides
  intro H
  refine PC_sx (ds := [(.lst ((List.map intD) p0))]) (fn := f60) (by kernel_rfl) (by kernel_rfl) rfl ?_ (by kernel_rfl)
  refine R_seq ?_
  refine R_G ?_
  refine G_run 1 ?_
  refine G_end ?_
  refine R_seq ?_
  refine R_seq ?_
  refine R_G ?_
  refine G_run 1 ?_
  obtain ⟨v1, hx, hm⟩ := bind_inv hm
  have hq := w_ref02_Check _ _ hx []
  refine G_callP hq ?_
  refine G_run 1 ?_
  refine G_end ?_
  refine R_ifp (p := v1 ≠ 0) (ne_dec _ _) (fun hc => ?_) (fun hc => ?_)
  · replace hm := pos_inv hc hm
    refine R_seq ?_
    refine R_G ?_
    refine G_run 1 ?_
    refine G_end ?_
    refine R_ret ?_
    obtain rfl := inj1 hm
    exact ⟨trivial, fin_pure (by kernel_rfl)⟩
  replace hm := neg_inv hc hm
  refine R_skip ?_
  refine R_seq ?_
  refine R_G ?_
  refine G_run 1 ?_
  refine G_end ?_
  refine R_seq ?_
  refine R_seq ?_
  refine R_G ?_
  refine G_run 1 ?_
  refine G_end ?_
  refine R_block ?_
  obtain ⟨v602, hs, hm⟩ := bind_inv hm
  refine R_loop ?_
  refine RL_use (w_ref02_Strides_L1 _ _ hs) (by kernel_rfl) ?_
  clear hs
  intro e s hp
  obtain ⟨rfl, d, rfl⟩ := hp
  refine R_seq ?_
  refine R_G ?_
  refine G_run 2 ?_
  refine G_end ?_
  refine R_ret ?_
  obtain rfl := inj1 hm
  exact ⟨trivial, fin_pure (by kernel_rfl)⟩
end Go.Proofs.Tryz
namespace Go.Proofs.Tryz
open Go Go.Pm
set_option linter.unusedVariables false
set_option maxHeartbeats 2000000
set_option maxRecDepth 2000
def m_ref17_Direct (x : (Int × (List Int))) : Option T_ref17_Access :=
  match x with
  | (p0, p1) =>
  m_ref02_Strides p1 >>= fun (v1 : (List Int)) =>
  some (⟨2, p0, 0, v1, 0, 0, 0⟩ : T_ref17_Access)
def P_ref17_Direct : (Int × (List Int)) → T_ref17_Access → Prop := fun x r => match x, r with
  | (p0, p1), r0 => ∀ H, PC prog env 29 ([(intD p0), (.lst ((List.map intD) p1))].map .dat) H (.dat (T_ref17_Access.toD r0)) H
theorem w_ref17_Direct : ∀ x r, m_ref17_Direct x = some r → P_ref17_Direct x r := by
  intro x r0 hm
  unfold m_ref17_Direct at hm
  unfold P_ref17_Direct
  obtain ⟨p0, p1⟩ := x
  intro H
  refine PC_sx (ds := [(intD p0), (.lst ((List.map intD) p1))]) (fn := f29) (by kernel_rfl) (by kernel_rfl) rfl ?_ (by kernel_rfl)
  refine R_seq ?_
  refine R_G ?_
  refine G_run 1 ?_
  refine G_end ?_
  refine R_seq ?_
  refine R_G ?_
  refine G_run 2 ?_
  obtain ⟨v1, hx, hm⟩ := bind_inv hm
  have hq := w_ref02_Strides _ _ hx []
  refine G_callP hq ?_
  refine G_run 2 ?_
  refine G_end ?_
  refine R_ret ?_
  obtain rfl := inj1 hm
  exact ⟨trivial, fin_pure (by kernel_rfl)⟩
end Go.Proofs.Tryz
namespace Go.Proofs.Tryz
open Go Go.Pm
set_option linter.unusedVariables false
set_option maxHeartbeats 2000000
set_option maxRecDepth 2000
def m_ref18_empty_L1 (x : (T_ref06_Box × Int)) : Option (Unit ⊕ Unit) :=
  match x with
  | (p0, v201) =>
  if v201 < (p0.lo.length : Int) then
    idx p0.lo v201 >>= fun v601 =>
    idx p0.hi v201 >>= fun v602 =>
    if v601 ≥ v602 then
      some (Sum.inl ())
    else
    m_ref18_empty_L1 (p0, (W (v201 + 1)))
  else
  some (Sum.inr ())
  partial_fixpoint
def P_ref18_empty_L1 : (T_ref06_Box × Int) → (Unit ⊕ Unit) → Prop := fun x r => match x with
  | (p0, v201) => ∀ st, prune 1 ((firstRegion (codeAt [1, 0, 1, 0, 0] (bodyOf f58))).bind (env.hint 58).keepAt) st = ⟨kp 22 [(1, (.ptr 0 0)), (3, (intPV v201))], [(.box [(.dat (.lst ((List.map intD) p0.lo))), (.dat (.lst ((List.map intD) p0.hi)))])]⟩ →
    RL prog env (env.hint 58) true (codeAt [1, 0, 1, 0, 0] (bodyOf f58)) 1 st (fun e s => match r with | .inl _ => e = .ret ∧ ∃ d, s = ⟨sl d 22 [(2, (boolPV true))], [(.box [(.dat (.lst ((List.map intD) p0.lo))), (.dat (.lst ((List.map intD) p0.hi)))])]⟩ | .inr (_) => e = .exit 0 ∧ ∃ d, s = ⟨sl d 22 [], [(.box [(.dat (.lst ((List.map intD) p0.lo))), (.dat (.lst ((List.map intD) p0.hi)))])]⟩)
theorem w_ref18_empty_L1 : ∀ x r, m_ref18_empty_L1 x = some r → P_ref18_empty_L1 x r := by
  refine m_ref18_empty_L1.partial_correctness _ (fun m_ref18_empty_L1 w_ref18_empty_L1 x r hm => ?_)
  unfold P_ref18_empty_L1
  obtain ⟨p0, v201⟩ := x
  intro st hst
  refine RL_at hst ?_
  clear hst
  refine R_seq ?_
  refine R_seq ?_
  refine R_G ?_
  refine G_run 3 ?_
  refine I_len intD p0.lo (es := (List.map intD) p0.lo) rfl ?_
  refine G_run 1 ?_
  refine G_end ?_
  refine R_ifp (p := v201 < (p0.lo.length : Int)) (rfl) (fun hc => ?_) (fun hc => ?_)
  · replace hm := pos_inv hc hm
    refine R_skip ?_
    refine R_seq ?_
    refine R_block ?_
    refine R_seq ?_
    refine R_GD ?_
    refine G_run 3 ?_
    obtain ⟨v601, hx, hm⟩ := bind_inv hm
    refine I_idx 1 intD p0.lo v201 v601 (es := (List.map intD) p0.lo) (d := (intD v601)) rfl hx rfl rfl ?_
    refine G_run 4 ?_
    obtain ⟨v602, hx, hm⟩ := bind_inv hm
    refine I_idx 1 intD p0.hi v201 v602 (es := (List.map intD) p0.hi) (d := (intD v602)) rfl hx rfl rfl ?_
    refine G_run 2 ?_
    refine G_end ⟨by kernel_rfl, ?_⟩
    refine R_ifp (p := v601 ≥ v602) (rfl) (fun hc => ?_) (fun hc => ?_)
    · replace hm := pos_inv hc hm
      refine R_seq ?_
      refine R_G ?_
      refine G_run 1 ?_
      refine G_end ?_
      refine R_ret ?_
      obtain rfl := inj1 hm
      exact ⟨rfl, cut_leaf (by kernel_rfl)⟩
    replace hm := neg_inv hc hm
    refine R_skip ?_
    refine R_G ?_
    refine G_run 3 ?_
    refine G_end ?_
    exact w_ref18_empty_L1 _ _ hm _ (by kernel_rfl)
  replace hm := neg_inv hc hm
  refine R_exit ?_
  obtain rfl := inj1 hm
  exact ⟨rfl, cut_leaf (by kernel_rfl)⟩
def m_ref18_empty (x : T_ref06_Box) : Option Bool :=
  match x with
  | p0 =>
  (
  m_ref18_empty_L1 (p0, 0) >>= fun (out : Unit ⊕ Unit) =>
  match out with
  | .inl _ =>
    some true
  | .inr (_) =>
    some false
  )
def P_ref18_empty : T_ref06_Box → Bool → Prop := fun x r => match x, r with
  | p0, r0 => ∀ H, PC prog env 58 ([(T_ref06_Box.toD p0)].map .dat) H (boolPV r0) H
theorem w_ref18_empty : ∀ x r, m_ref18_empty x = some r → P_ref18_empty x r := by
  intro p0 r0 hm
  unfold m_ref18_empty at hm
  unfold P_ref18_empty
  intro H
  refine PC_sx (ds := [(T_ref06_Box.toD p0)]) (fn := f58) (by kernel_rfl) (by kernel_rfl) rfl ?_ (by kernel_rfl)
  refine R_seq ?_
  refine R_G ?_
  refine G_run 2 ?_
  refine G_end ?_
  refine R_seq ?_
  refine R_seq ?_
  refine R_G ?_
  refine G_run 1 ?_
  refine G_end ?_
  refine R_block ?_
  obtain ⟨out, hs, hm⟩ := bind_inv hm
  refine R_loop ?_
  rcases out with _ | _
  · refine RL_use (w_ref18_empty_L1 _ _ hs) (by kernel_rfl) ?_
    clear hs
    intro e s hp
    obtain ⟨rfl, d, rfl⟩ := hp
    obtain rfl := inj1 hm
    exact ⟨trivial, fin_pure (by kernel_rfl)⟩
  · refine RL_use (w_ref18_empty_L1 _ _ hs) (by kernel_rfl) ?_
    clear hs
    intro e s hp
    obtain ⟨rfl, d, rfl⟩ := hp
    refine R_seq ?_
    refine R_G ?_
    refine G_run 1 ?_
    refine G_end ?_
    refine R_ret ?_
    obtain rfl := inj1 hm
    exact ⟨trivial, fin_pure (by kernel_rfl)⟩
end Go.Proofs.Tryz
namespace Go.Proofs.Tryz
open Go Go.Pm
set_option linter.unusedVariables false
set_option maxHeartbeats 2000000
set_option maxRecDepth 2000
def m_ref18_less_L1 (x : ((List Int) × (List Int) × Int)) : Option (Bool ⊕ Unit) :=
  match x with
  | (p0, p1, v201) =>
  (if v201 < (p0.length : Int) then
    some (decide (v201 < (p1.length : Int)))
  else
  some false
  ) >>= fun (v602 : Bool) =>
  if v602 = true then
    idx p0 v201 >>= fun v603 =>
    idx p1 v201 >>= fun v604 =>
    if v603 ≠ v604 then
      idx p0 v201 >>= fun v605 =>
      idx p1 v201 >>= fun v606 =>
      some (Sum.inl (decide (v605 < v606)))
    else
    m_ref18_less_L1 (p0, p1, (W (v201 + 1)))
  else
  some (Sum.inr ())
  partial_fixpoint
def P_ref18_less_L1 : ((List Int) × (List Int) × Int) → (Bool ⊕ Unit) → Prop := fun x r => match x with
  | (p0, p1, v201) => ∀ st, prune 0 ((firstRegion (codeAt [1, 0, 1, 0, 0] (bodyOf f59))).bind (env.hint 59).keepAt) st = ⟨kp 41 [(0, (.dat (.lst ((List.map intD) p0)))), (1, (.dat (.lst ((List.map intD) p1)))), (5, (intPV v201))], []⟩ →
    RL prog env (env.hint 59) true (codeAt [1, 0, 1, 0, 0] (bodyOf f59)) 0 st (fun e s => match r with | .inl v601 => e = .ret ∧ ∃ d, s = ⟨sl d 41 [(4, (boolPV v601))], []⟩ | .inr (_) => e = .exit 0 ∧ ∃ d, s = ⟨sl d 41 [(0, (.dat (.lst ((List.map intD) p0)))), (1, (.dat (.lst ((List.map intD) p1))))], []⟩)
theorem w_ref18_less_L1 : ∀ x r, m_ref18_less_L1 x = some r → P_ref18_less_L1 x r := by
  refine m_ref18_less_L1.partial_correctness _ (fun m_ref18_less_L1 w_ref18_less_L1 x r hm => ?_)
  unfold P_ref18_less_L1
  obtain ⟨p0, p1, v201⟩ := x
  intro st hst
  refine RL_at hst ?_
  clear hst
  refine R_seq ?_
  refine R_seq ?_
  obtain ⟨v602, hs, hm⟩ := bind_inv hm
  refine R_cut (fun d => ⟨sl d 41 [(0, (.dat (.lst ((List.map intD) p0)))), (1, (.dat (.lst ((List.map intD) p1)))), (5, (intPV v201)), (15, (boolPV v602))], []⟩) ?_ (fun d => ?_)
  · replace hm := hs
    clear hs
    refine R_G ?_
    refine G_run 2 ?_
    refine I_len intD p0 (es := (List.map intD) p0) rfl ?_
    refine G_run 2 ?_
    refine G_split (p := v201 < (p0.length : Int)) 10 (rfl) (fun hc => ?_) (fun hc => ?_)
    · replace hm := pos_inv hc hm
      refine G_run 2 ?_
      refine I_len intD p1 (es := (List.map intD) p1) rfl ?_
      refine G_run 2 ?_
      refine G_end ?_
      obtain rfl := inj1 hm
      exact cut_leaf (by kernel_rfl)
    replace hm := neg_inv hc hm
    refine G_run 5 ?_
    refine G_end ?_
    obtain rfl := inj1 hm
    exact cut_leaf (by kernel_rfl)
  clear hs
  refine R_ifp (p := v602 = true) (bool_dec _) (fun hc => ?_) (fun hc => ?_)
  · replace hm := pos_inv hc hm
    refine R_skip ?_
    refine R_seq ?_
    refine R_block ?_
    refine R_seq ?_
    refine R_GD ?_
    refine G_run 2 ?_
    obtain ⟨v603, hx, hm⟩ := bind_inv hm
    refine I_idx 1 intD p0 v201 v603 (es := (List.map intD) p0) (d := (intD v603)) rfl hx rfl rfl ?_
    refine G_run 3 ?_
    obtain ⟨v604, hx, hm⟩ := bind_inv hm
    refine I_idx 1 intD p1 v201 v604 (es := (List.map intD) p1) (d := (intD v604)) rfl hx rfl rfl ?_
    refine G_run 2 ?_
    refine G_end ⟨by kernel_rfl, ?_⟩
    refine R_ifp (p := v603 ≠ v604) (ne_dec _ _) (fun hc => ?_) (fun hc => ?_)
    · replace hm := pos_inv hc hm
      refine R_seq ?_
      refine R_GD ?_
      refine G_run 2 ?_
      obtain ⟨v605, hx, hm⟩ := bind_inv hm
      refine I_idx 1 intD p0 v201 v605 (es := (List.map intD) p0) (d := (intD v605)) rfl hx rfl rfl ?_
      refine G_run 3 ?_
      obtain ⟨v606, hx, hm⟩ := bind_inv hm
      refine I_idx 1 intD p1 v201 v606 (es := (List.map intD) p1) (d := (intD v606)) rfl hx rfl rfl ?_
      refine G_run 3 ?_
      refine G_end ⟨by kernel_rfl, ?_⟩
      refine R_ret ?_
      obtain rfl := inj1 hm
      exact ⟨rfl, cut_leaf (by kernel_rfl)⟩
    replace hm := neg_inv hc hm
    refine R_skip ?_
    refine R_G ?_
    refine G_run 3 ?_
    refine G_end ?_
    exact w_ref18_less_L1 _ _ hm _ (by kernel_rfl)
  replace hm := neg_inv hc hm
  refine R_exit ?_
  obtain rfl := inj1 hm
  exact ⟨rfl, cut_leaf (by kernel_rfl)⟩
def m_ref18_less (x : ((List Int) × (List Int))) : Option Bool :=
  match x with
  | (p0, p1) =>
  (
  m_ref18_less_L1 (p0, p1, 0) >>= fun (out : Bool ⊕ Unit) =>
  match out with
  | .inl v601 =>
    some v601
  | .inr (_) =>
    some (decide ((p0.length : Int) < (p1.length : Int)))
  )
def P_ref18_less : ((List Int) × (List Int)) → Bool → Prop := fun x r => match x, r with
  | (p0, p1), r0 => ∀ H, PC prog env 59 ([(.lst ((List.map intD) p0)), (.lst ((List.map intD) p1))].map .dat) H (boolPV r0) H
theorem w_ref18_less : ∀ x r, m_ref18_less x = some r → P_ref18_less x r := by
  intro x r0 hm
  unfold m_ref18_less at hm
  unfold P_ref18_less
  obtain ⟨p0, p1⟩ := x
  intro H
  refine PC_sx (ds := [(.lst ((List.map intD) p0)), (.lst ((List.map intD) p1))]) (fn := f59) (by kernel_rfl) (by kernel_rfl) rfl ?_ (by kernel_rfl)
  refine R_seq ?_
  refine R_G ?_
  refine G_run 1 ?_
  refine G_end ?_
  refine R_seq ?_
  refine R_seq ?_
  refine R_G ?_
  refine G_run 1 ?_
  refine G_end ?_
  refine R_block ?_
  obtain ⟨out, hs, hm⟩ := bind_inv hm
  refine R_loop ?_
  rcases out with v601 | _
  · refine RL_use (w_ref18_less_L1 _ _ hs) (by kernel_rfl) ?_
    clear hs
    intro e s hp
    obtain ⟨rfl, d, rfl⟩ := hp
    obtain rfl := inj1 hm
    exact ⟨trivial, fin_pure (by kernel_rfl)⟩
  · refine RL_use (w_ref18_less_L1 _ _ hs) (by kernel_rfl) ?_
    clear hs
    intro e s hp
    obtain ⟨rfl, d, rfl⟩ := hp
    refine R_seq ?_
    refine R_G ?_
    refine G_run 1 ?_
    refine I_len intD p0 (es := (List.map intD) p0) rfl ?_
    refine G_run 1 ?_
    refine I_len intD p1 (es := (List.map intD) p1) rfl ?_
    refine G_run 2 ?_
    refine G_end ?_
    refine R_ret ?_
    obtain rfl := inj1 hm
    exact ⟨trivial, fin_pure (by kernel_rfl)⟩
end Go.Proofs.Tryz
namespace Go.Proofs.Tryz
open Go Go.Pm
set_option linter.unusedVariables false
set_option maxHeartbeats 2000000
set_option maxRecDepth 2000
def m_ref18_put_L1 (x : ((List T_ref18_Piece) × T_ref18_Piece × Int)) : Option (Int) :=
  match x with
  | (p0, p1, v202) =>
  (if v202 < (p0.length : Int) then
    idx p0 v202 >>= fun v604 =>
    m_ref18_less (v604.box.lo, p1.box.lo) >>= fun (v605 : Bool) =>
    some v605
  else
  some false
  ) >>= fun (v603 : Bool) =>
  if v603 = true then
    m_ref18_put_L1 (p0, p1, (W (v202 + 1)))
  else
  some v202
  partial_fixpoint
def P_ref18_put_L1 : ((List T_ref18_Piece) × T_ref18_Piece × Int) → Int → Prop := fun x r => match x with
  | (p0, p1, v202) => ∀ st, prune 1 ((firstRegion (codeAt [1, 1, 1, 0, 0, 0] (bodyOf f27))).bind (env.hint 27).keepAt) st = ⟨kp 40 [(0, (.dat (.lst ((List.map T_ref18_Piece.toD) p0)))), (3, (.ptr 0 0)), (5, (intPV v202))], [(.box [(.dat (.lst ((List.map intD) p1.box.lo))), (.dat (.lst ((List.map intD) p1.box.hi))), (intPV p1.access.kind), (intPV p1.access.buffer), (intPV p1.access.base), (.dat (.lst ((List.map intD) p1.access.strides))), (intPV p1.access.start), (intPV p1.access.step), (intPV p1.access.mod)])]⟩ →
    RL prog env (env.hint 27) true (codeAt [1, 1, 1, 0, 0, 0] (bodyOf f27)) 1 st (fun e s => match r with | v602 => e = .exit 0 ∧ ∃ d, s = ⟨sl d 40 [(0, (.dat (.lst ((List.map T_ref18_Piece.toD) p0)))), (3, (.ptr 0 0)), (5, (intPV v602))], [(.box [(.dat (.lst ((List.map intD) p1.box.lo))), (.dat (.lst ((List.map intD) p1.box.hi))), (intPV p1.access.kind), (intPV p1.access.buffer), (intPV p1.access.base), (.dat (.lst ((List.map intD) p1.access.strides))), (intPV p1.access.start), (intPV p1.access.step), (intPV p1.access.mod)])]⟩)
theorem w_ref18_put_L1 : ∀ x r, m_ref18_put_L1 x = some r → P_ref18_put_L1 x r := by
  refine m_ref18_put_L1.partial_correctness _ (fun m_ref18_put_L1 w_ref18_put_L1 x r hm => ?_)
  unfold P_ref18_put_L1
  obtain ⟨p0, p1, v202⟩ := x
  intro st hst
  refine RL_at hst ?_
  clear hst
  refine R_seq ?_
  refine R_seq ?_
  obtain ⟨v603, hs, hm⟩ := bind_inv hm
  refine R_cut (fun d => ⟨sl d 40 [(0, (.dat (.lst ((List.map T_ref18_Piece.toD) p0)))), (3, (.ptr 0 0)), (5, (intPV v202)), (25, (boolPV v603))], [(.box [(.dat (.lst ((List.map intD) p1.box.lo))), (.dat (.lst ((List.map intD) p1.box.hi))), (intPV p1.access.kind), (intPV p1.access.buffer), (intPV p1.access.base), (.dat (.lst ((List.map intD) p1.access.strides))), (intPV p1.access.start), (intPV p1.access.step), (intPV p1.access.mod)])]⟩) ?_ (fun d => ?_)
  · replace hm := hs
    clear hs
    refine R_GD ?_
    refine G_run 2 ?_
    refine I_len T_ref18_Piece.toD p0 (es := (List.map T_ref18_Piece.toD) p0) rfl ?_
    refine G_run 2 ?_
    refine G_split (p := v202 < (p0.length : Int)) 14 (rfl) (fun hc => ?_) (fun hc => ?_)
    · replace hm := pos_inv hc hm
      refine G_run 2 ?_
      obtain ⟨v604, hx, hm⟩ := bind_inv hm
      refine I_idx 9 T_ref18_Piece.toD p0 v202 v604 (es := (List.map T_ref18_Piece.toD) p0) (d := (T_ref18_Piece.toD v604)) rfl hx rfl rfl ?_
      refine G_run 6 ?_
      obtain ⟨v605, hx, hm⟩ := bind_inv hm
      have hq := w_ref18_less _ _ hx []
      refine G_callP hq ?_
      refine G_run 1 ?_
      refine G_end ⟨by kernel_rfl, ?_⟩
      obtain rfl := inj1 hm
      exact cut_leaf (by kernel_rfl)
    replace hm := neg_inv hc hm
    refine G_run 11 ?_
    refine G_end ⟨by kernel_rfl, ?_⟩
    obtain rfl := inj1 hm
    exact cut_leaf (by kernel_rfl)
  clear hs
  refine R_ifp (p := v603 = true) (bool_dec _) (fun hc => ?_) (fun hc => ?_)
  · replace hm := pos_inv hc hm
    refine R_skip ?_
    refine R_block ?_
    refine R_G ?_
    refine G_run 3 ?_
    refine G_end ?_
    exact w_ref18_put_L1 _ _ hm _ (by kernel_rfl)
  replace hm := neg_inv hc hm
  refine R_exit ?_
  obtain rfl := inj1 hm
  exact ⟨rfl, cut_leaf (by kernel_rfl)⟩
def m_ref18_put (x : ((List T_ref18_Piece) × T_ref18_Piece)) : Option (List T_ref18_Piece) :=
  match x with
  | (p0, p1) =>
  m_ref18_empty p1.box >>= fun (v1 : Bool) =>
  if v1 = true then
    some p0
  else
  m_ref18_put_L1 (p0, p1, 0) >>= fun (v602 : Int) =>
  sub p0 0 v602 >>= fun v606 =>
  app 120 ([] : List T_ref18_Piece) v606 >>= fun v607 =>
  app 120 v607 ([(⟨(⟨p1.box.lo, p1.box.hi⟩ : T_ref06_Box), (⟨p1.access.kind, p1.access.buffer, p1.access.base, p1.access.strides, p1.access.start, p1.access.step, p1.access.mod⟩ : T_ref17_Access)⟩ : T_ref18_Piece)] : List T_ref18_Piece) >>= fun v608 =>
  sub p0 v602 (p0.length : Int) >>= fun v609 =>
  app 120 v608 v609 >>= fun v610 =>
  some v610
def P_ref18_put : ((List T_ref18_Piece) × T_ref18_Piece) → (List T_ref18_Piece) → Prop := fun x r => match x, r with
  | (p0, p1), r0 => ∀ H, PC prog env 27 ([(.lst ((List.map T_ref18_Piece.toD) p0)), (T_ref18_Piece.toD p1)].map .dat) H (.dat (.lst ((List.map T_ref18_Piece.toD) r0))) H
theorem w_ref18_put : ∀ x r, m_ref18_put x = some r → P_ref18_put x r := by
  intro x r0 hm
  unfold m_ref18_put at hm
  unfold P_ref18_put
  obtain ⟨p0, p1⟩ := x
  intro H
  refine PC_sx (ds := [(.lst ((List.map T_ref18_Piece.toD) p0)), (T_ref18_Piece.toD p1)]) (fn := f27) (by kernel_rfl) (by kernel_rfl) rfl ?_ (by kernel_rfl)
  refine R_seq ?_
  refine R_G ?_
  refine G_run 2 ?_
  refine G_end ?_
  refine R_seq ?_
  refine R_seq ?_
  refine R_G ?_
  refine G_run 2 ?_
  obtain ⟨v1, hx, hm⟩ := bind_inv hm
  have hq := w_ref18_empty _ _ hx []
  refine G_callP hq ?_
  refine G_end ?_
  refine R_ifp (p := v1 = true) (bool_dec _) (fun hc => ?_) (fun hc => ?_)
  · replace hm := pos_inv hc hm
    refine R_seq ?_
    refine R_G ?_
    refine G_run 2 ?_
    refine G_end ?_
    refine R_ret ?_
    obtain rfl := inj1 hm
    exact ⟨trivial, fin_pure (by kernel_rfl)⟩
  replace hm := neg_inv hc hm
  refine R_skip ?_
  refine R_seq ?_
  refine R_G ?_
  refine G_run 1 ?_
  refine G_end ?_
  refine R_seq ?_
  refine R_block ?_
  obtain ⟨v602, hs, hm⟩ := bind_inv hm
  refine R_loop ?_
  refine RL_use (w_ref18_put_L1 _ _ hs) (by kernel_rfl) ?_
  clear hs
  intro e s hp
  obtain ⟨rfl, d, rfl⟩ := hp
  refine R_seq ?_
  refine R_GD ?_
  refine G_run 3 ?_
  obtain ⟨v606, hx, hm⟩ := bind_inv hm
  refine I_sub 9 T_ref18_Piece.toD p0 v606 0 v602 (es := (List.map T_ref18_Piece.toD) p0) (L := (List.map T_ref18_Piece.toD)) (a := natI 0) (b := natI v602) (fun _ => rfl) rfl (fun _ => by first | rfl | exact num_of_fit (T_ref18_Piece.fit _)) hx rfl (Or.inl rfl) ?_
  obtain ⟨v607, hx, hm⟩ := bind_inv hm
  refine I_app 62 9 120 1 T_ref18_Piece.toD ([] : List T_ref18_Piece) v606 v607 (xs := (List.map T_ref18_Piece.toD) ([] : List T_ref18_Piece)) (es := (List.map T_ref18_Piece.toD) v606) (L := (List.map T_ref18_Piece.toD)) (fun _ => rfl) rfl rfl T_ref18_Piece.fit hx ?_
  refine G_run 2 ?_
  obtain ⟨v608, hx, hm⟩ := bind_inv hm
  refine I_app 62 9 120 1 T_ref18_Piece.toD v607 ([(⟨(⟨p1.box.lo, p1.box.hi⟩ : T_ref06_Box), (⟨p1.access.kind, p1.access.buffer, p1.access.base, p1.access.strides, p1.access.start, p1.access.step, p1.access.mod⟩ : T_ref17_Access)⟩ : T_ref18_Piece)] : List T_ref18_Piece) v608 (xs := (List.map T_ref18_Piece.toD) v607) (es := (List.map T_ref18_Piece.toD) ([(⟨(⟨p1.box.lo, p1.box.hi⟩ : T_ref06_Box), (⟨p1.access.kind, p1.access.buffer, p1.access.base, p1.access.strides, p1.access.start, p1.access.step, p1.access.mod⟩ : T_ref17_Access)⟩ : T_ref18_Piece)] : List T_ref18_Piece)) (L := (List.map T_ref18_Piece.toD)) (fun _ => rfl) rfl rfl T_ref18_Piece.fit hx ?_
  refine G_run 2 ?_
  obtain ⟨v609, hx, hm⟩ := bind_inv hm
  refine I_sub 9 T_ref18_Piece.toD p0 v609 v602 (p0.length : Int) (es := (List.map T_ref18_Piece.toD) p0) (L := (List.map T_ref18_Piece.toD)) (a := natI v602) (b := some ((List.map T_ref18_Piece.toD) p0).length) (fun _ => rfl) rfl (fun _ => by first | rfl | exact num_of_fit (T_ref18_Piece.fit _)) hx rfl (Or.inr ⟨rfl, rfl⟩) ?_
  obtain ⟨v610, hx, hm⟩ := bind_inv hm
  refine I_app 62 9 120 1 T_ref18_Piece.toD v608 v609 v610 (xs := (List.map T_ref18_Piece.toD) v608) (es := (List.map T_ref18_Piece.toD) v609) (L := (List.map T_ref18_Piece.toD)) (fun _ => rfl) rfl rfl T_ref18_Piece.fit hx ?_
  refine G_run 1 ?_
  refine G_end ⟨by kernel_rfl, ?_⟩
  refine R_ret ?_
  obtain rfl := inj1 hm
  exact ⟨trivial, fin_pure (by kernel_rfl)⟩
end Go.Proofs.Tryz
namespace Go.Proofs.Tryz
open Go Go.Pm
set_option linter.unusedVariables false
set_option maxHeartbeats 2000000
set_option maxRecDepth 2000
def m_ref18_Whole (x : (Int × (List Int))) : Option (List T_ref18_Piece) :=
  match x with
  | (p0, p1) =>
  m_ref18_whole p1 >>= fun (v1 : T_ref06_Box) =>
  m_ref17_Direct (p0, p1) >>= fun (v2 : T_ref17_Access) =>
  m_ref18_put (([] : (List T_ref18_Piece)), (⟨(⟨v1.lo, v1.hi⟩ : T_ref06_Box), (⟨v2.kind, v2.buffer, v2.base, v2.strides, v2.start, v2.step, v2.mod⟩ : T_ref17_Access)⟩ : T_ref18_Piece)) >>= fun (v3 : (List T_ref18_Piece)) =>
  some v3
def P_ref18_Whole : (Int × (List Int)) → (List T_ref18_Piece) → Prop := fun x r => match x, r with
  | (p0, p1), r0 => ∀ H, PC prog env 10 ([(intD p0), (.lst ((List.map intD) p1))].map .dat) H (.dat (.lst ((List.map T_ref18_Piece.toD) r0))) H
theorem w_ref18_Whole : ∀ x r, m_ref18_Whole x = some r → P_ref18_Whole x r := by
  intro x r0 hm
  unfold m_ref18_Whole at hm
  unfold P_ref18_Whole
  obtain ⟨p0, p1⟩ := x
  intro H
  refine PC_sx (ds := [(intD p0), (.lst ((List.map intD) p1))]) (fn := f10) (by kernel_rfl) (by kernel_rfl) rfl ?_ (by kernel_rfl)
  refine R_seq ?_
  refine R_G ?_
  refine G_run 1 ?_
  refine G_end ?_
  refine R_seq ?_
  refine R_G ?_
  refine G_run 1 ?_
  obtain ⟨v1, hx, hm⟩ := bind_inv hm
  have hq := w_ref18_whole _ _ hx []
  refine G_callP hq ?_
  refine G_run 2 ?_
  obtain ⟨v2, hx, hm⟩ := bind_inv hm
  have hq := w_ref17_Direct _ _ hx []
  refine G_callP hq ?_
  refine G_run 1 ?_
  obtain ⟨v3, hx, hm⟩ := bind_inv hm
  have hq := w_ref18_put _ _ hx []
  refine G_callP hq ?_
  refine G_run 1 ?_
  refine G_end ?_
  refine R_ret ?_
  obtain rfl := inj1 hm
  exact ⟨trivial, fin_pure (by kernel_rfl)⟩
end Go.Proofs.Tryz
namespace Go.Proofs.Tryz
open Go Go.Pm
set_option linter.unusedVariables false
set_option maxHeartbeats 2000000
set_option maxRecDepth 2000
def m_ref02_Equal_L1 (x : ((List Int) × (List Int) × Int)) : Option (Unit ⊕ Unit) :=
  match x with
  | (p0, p1, v201) =>
  if v201 < (p0.length : Int) then
    idx p0 v201 >>= fun v601 =>
    idx p1 v201 >>= fun v602 =>
    if v601 ≠ v602 then
      some (Sum.inl ())
    else
    m_ref02_Equal_L1 (p0, p1, (W (v201 + 1)))
  else
  some (Sum.inr ())
  partial_fixpoint
def P_ref02_Equal_L1 : ((List Int) × (List Int) × Int) → (Unit ⊕ Unit) → Prop := fun x r => match x with
  | (p0, p1, v201) => ∀ st, prune 0 ((firstRegion (codeAt [1, 1, 0, 1, 0, 0] (bodyOf f57))).bind (env.hint 57).keepAt) st = ⟨kp 26 [(0, (.dat (.lst ((List.map intD) p0)))), (1, (.dat (.lst ((List.map intD) p1)))), (5, (intPV v201))], []⟩ →
    RL prog env (env.hint 57) true (codeAt [1, 1, 0, 1, 0, 0] (bodyOf f57)) 0 st (fun e s => match r with | .inl _ => e = .ret ∧ ∃ d, s = ⟨sl d 26 [(4, (boolPV false))], []⟩ | .inr (_) => e = .exit 0 ∧ ∃ d, s = ⟨sl d 26 [], []⟩)
theorem w_ref02_Equal_L1 : ∀ x r, m_ref02_Equal_L1 x = some r → P_ref02_Equal_L1 x r := by
  refine m_ref02_Equal_L1.partial_correctness _ (fun m_ref02_Equal_L1 w_ref02_Equal_L1 x r hm => ?_)
  unfold P_ref02_Equal_L1
  obtain ⟨p0, p1, v201⟩ := x
  intro st hst
  refine RL_at hst ?_
  clear hst
  refine R_seq ?_
  refine R_seq ?_
  refine R_G ?_
  refine G_run 2 ?_
  refine I_len intD p0 (es := (List.map intD) p0) rfl ?_
  refine G_run 1 ?_
  refine G_end ?_
  refine R_ifp (p := v201 < (p0.length : Int)) (rfl) (fun hc => ?_) (fun hc => ?_)
  · replace hm := pos_inv hc hm
    refine R_skip ?_
    refine R_seq ?_
    refine R_block ?_
    refine R_seq ?_
    refine R_GD ?_
    refine G_run 2 ?_
    obtain ⟨v601, hx, hm⟩ := bind_inv hm
    refine I_idx 1 intD p0 v201 v601 (es := (List.map intD) p0) (d := (intD v601)) rfl hx rfl rfl ?_
    refine G_run 3 ?_
    obtain ⟨v602, hx, hm⟩ := bind_inv hm
    refine I_idx 1 intD p1 v201 v602 (es := (List.map intD) p1) (d := (intD v602)) rfl hx rfl rfl ?_
    refine G_run 2 ?_
    refine G_end ⟨by kernel_rfl, ?_⟩
    refine R_ifp (p := v601 ≠ v602) (ne_dec _ _) (fun hc => ?_) (fun hc => ?_)
    · replace hm := pos_inv hc hm
      refine R_seq ?_
      refine R_G ?_
      refine G_run 1 ?_
      refine G_end ?_
      refine R_ret ?_
      obtain rfl := inj1 hm
      exact ⟨rfl, cut_leaf (by kernel_rfl)⟩
    replace hm := neg_inv hc hm
    refine R_skip ?_
    refine R_G ?_
    refine G_run 3 ?_
    refine G_end ?_
    exact w_ref02_Equal_L1 _ _ hm _ (by kernel_rfl)
  replace hm := neg_inv hc hm
  refine R_exit ?_
  obtain rfl := inj1 hm
  exact ⟨rfl, cut_leaf (by kernel_rfl)⟩
def m_ref02_Equal (x : ((List Int) × (List Int))) : Option Bool :=
  match x with
  | (p0, p1) =>
  if (p0.length : Int) ≠ (p1.length : Int) then
    some false
  else
  (
  m_ref02_Equal_L1 (p0, p1, 0) >>= fun (out : Unit ⊕ Unit) =>
  match out with
  | .inl _ =>
    some false
  | .inr (_) =>
    some true
  )
def P_ref02_Equal : ((List Int) × (List Int)) → Bool → Prop := fun x r => match x, r with
  | (p0, p1), r0 => ∀ H, PC prog env 57 ([(.lst ((List.map intD) p0)), (.lst ((List.map intD) p1))].map .dat) H (boolPV r0) H
theorem w_ref02_Equal : ∀ x r, m_ref02_Equal x = some r → P_ref02_Equal x r := by
  intro x r0 hm
  unfold m_ref02_Equal at hm
  unfold P_ref02_Equal
  obtain ⟨p0, p1⟩ := x
  intro H
  refine PC_sx (ds := [(.lst ((List.map intD) p0)), (.lst ((List.map intD) p1))]) (fn := f57) (by kernel_rfl) (by kernel_rfl) rfl ?_ (by kernel_rfl)
  refine R_seq ?_
  refine R_G ?_
  refine G_run 1 ?_
  refine G_end ?_
  refine R_seq ?_
  refine R_seq ?_
  refine R_G ?_
  refine G_run 1 ?_
  refine I_len intD p0 (es := (List.map intD) p0) rfl ?_
  refine G_run 1 ?_
  refine I_len intD p1 (es := (List.map intD) p1) rfl ?_
  refine G_run 1 ?_
  refine G_end ?_
  refine R_ifp (p := (p0.length : Int) ≠ (p1.length : Int)) (ne_dec _ _) (fun hc => ?_) (fun hc => ?_)
  · replace hm := pos_inv hc hm
    refine R_seq ?_
    refine R_G ?_
    refine G_run 1 ?_
    refine G_end ?_
    refine R_ret ?_
    obtain rfl := inj1 hm
    exact ⟨trivial, fin_pure (by kernel_rfl)⟩
  replace hm := neg_inv hc hm
  refine R_skip ?_
  refine R_seq ?_
  refine R_seq ?_
  refine R_G ?_
  refine G_run 1 ?_
  refine G_end ?_
  refine R_block ?_
  obtain ⟨out, hs, hm⟩ := bind_inv hm
  refine R_loop ?_
  rcases out with _ | _
  · refine RL_use (w_ref02_Equal_L1 _ _ hs) (by kernel_rfl) ?_
    clear hs
    intro e s hp
    obtain ⟨rfl, d, rfl⟩ := hp
    obtain rfl := inj1 hm
    exact ⟨trivial, fin_pure (by kernel_rfl)⟩
  · refine RL_use (w_ref02_Equal_L1 _ _ hs) (by kernel_rfl) ?_
    clear hs
    intro e s hp
    obtain ⟨rfl, d, rfl⟩ := hp
    refine R_seq ?_
    refine R_G ?_
    refine G_run 1 ?_
    refine G_end ?_
    refine R_ret ?_
    obtain rfl := inj1 hm
    exact ⟨trivial, fin_pure (by kernel_rfl)⟩
end Go.Proofs.Tryz
