/-
  Models of functions, their walks, and plain laws.
-/
import Derived.Test.YtihmepianhmphaaPmSx
import Derived.Test.YtihmepianhmphaaProg
import Derived.Test.YtihmepianhmphaaPmStr
import Derived.Test.YtihmepianhmphaaPmLaw
namespace Go.Proofs.Try
open Go Go.Pm
set_option linter.unusedVariables false
set_option linter.unusedSimpArgs false
set_option maxRecDepth 2000
/-- lists that a machine can hold -/
def Sm (n : Nat) : Prop := n ≤ 9223372036854775807
theorem Sm_of {n m : Nat} (h : n ≤ m) (hm : m ≤ 9223372036854775807 := by decide) : Sm n := Nat.le_trans h hm
theorem idx_ok {α : Type} {l : List α} {j : Nat} (h : j < l.length) : idx l (j : Int) = some l[j] := by simp [idx, h]
theorem app_ok {α : Type} {b : Nat} {l es : List α} (h : (l.length + es.length) * b ≤ room) : app b l es = some (l ++ es) := if_pos h
theorem W_ok {n : Int} (h1 : -9223372036854775808 ≤ n) (h2 : n < 9223372036854775808) : W n = n := by
  simp only [W, IntKind.wrap, IntKind.bits, IntKind.signed]; simp; split <;> omega
theorem W_succ {j : Nat} (h : j < 9223372036854775807) : W ((j : Int) + 1) = ((j + 1 : Nat) : Int) := by rw [W_ok (by omega) (by omega)]; omega
/-! a loop over a list: what lies behind, what lies ahead -/
section
variable {α : Type} {p s : List α} {x : α}
theorem mid_lt : ((p.length : Int) < ((p ++ x :: s).length : Int)) := by simp; omega
theorem end_lt : ¬ ((p.length : Int) < ((p ++ ([] : List α)).length : Int)) := by simp
theorem mid_idx : idx (p ++ x :: s) (p.length : Int) = some x := by simp [idx]
theorem mid_app : p ++ x :: s = (p ++ [x]) ++ s := by simp
theorem mid_W (hs : Sm (p ++ x :: s).length) : W ((p.length : Int) + 1) = ((p ++ [x]).length : Int) := by
  unfold Sm at hs
  rw [W_ok (by omega) (by simp at hs; omega)]; simp
end
theorem bind_ok {α β : Type} (a : α) (f : α → Option β) : (some a >>= f) = f a := rfl
end Go.Proofs.Try
namespace Go.Proofs.Try
open Go Go.Pm
set_option linter.unusedVariables false
set_option maxHeartbeats 2000000
set_option maxRecDepth 2000
def hintOf : FuncId → Hint
  | 3 => { own := [((3, 0), [(0, 28)])], keep := [(5, [0, 1, 2, 7, 8])] }
  | 5 => { own := [], keep := [(5, [0, 1, 5, 6])] }
  | 6 => { own := [], keep := [(4, [0, 5])] }
  | 7 => { own := [((1, 0), [(0, 42)])], keep := [(3, [0, 3, 4]), (5, [0, 3, 4, 5])] }
  | 8 => { own := [((1, 0), [(0, 38)])], keep := [(3, [0, 3, 4])] }
  | 9 => { own := [((10, 0), [(0, 55)])], keep := [(12, [0, 1, 5, 6, 7, 8, 9])] }
  | 11 => { own := [((1, 0), [(0, 28)])], keep := [(3, [0, 3, 4])] }
  | 13 => { own := [((1, 0), [(0, 49)])], keep := [(3, [0, 1, 5, 8, 9, 10])] }
  | 14 => { own := [((1, 2), [(1000, 38)])], keep := [(3, [3, 5, 16, 17, 18, 29])] }
  | 15 => { own := [], keep := [(2, [0, 3])] }
  | 20 => { own := [((1, 2), [(8000, 3)]), ((1, 4), [(0, 3)])], keep := [] }
  | 23 => { own := [((1, 0), [(0, 55)]), ((5, 1), [(0, 3)]), ((5, 3), [(0, 3)]), ((17, 1), [(5000, 3)])], keep := [(2, [0, 1, 2, 3, 4, 11]), (7, [0, 1, 2, 3, 4, 11, 12, 13, 15, 16, 44, 45])] }
  | 24 => { own := [], keep := [(3, [0, 4, 5]), (9, [0, 4, 6]), (17, [0, 7, 8])] }
  | 26 => { own := [], keep := [(4, [1, 19, 20, 21])] }
  | 28 => { own := [((1, 17), [(0, 3)])], keep := [] }
  | 31 => { own := [], keep := [(3, [0, 1, 5, 12, 13, 14]), (9, [0, 1, 5, 7, 12, 13, 14, 29, 30, 31])] }
  | 32 => { own := [((1, 1), [(0, 3)]), ((1, 3), [(0, 3)])], keep := [] }
  | 37 => { own := [((2, 0), [(1000, 3)]), ((3, 0), [(1000, 3)])], keep := [] }
  | 38 => { own := [], keep := [(8, [0, 3, 4, 18, 19])] }
  | 39 => { own := [((1, 0), [(0, 3)])], keep := [(3, [1, 5, 8, 9, 10])] }
  | 41 => { own := [], keep := [(3, [1, 5, 13, 14, 15])] }
  | 43 => { own := [], keep := [(3, [0, 1, 2, 8, 9, 10])] }
  | 46 => { own := [], keep := [(3, [0, 1, 5, 9, 10]), (9, [0, 1, 5, 24, 25])] }
  | 49 => { own := [((0, 0), [(9000, 3)]), ((0, 1), [(9000, 3)])], keep := [] }
  | 50 => { own := [], keep := [(2, [0, 1, 9, 10, 11])] }
  | 51 => { own := [], keep := [(4, [0, 19, 20, 21])] }
  | 53 => { own := [((0, 1), [(0, 3)]), ((4, 2), [(5000, 3)])], keep := [(2, [0, 1, 2, 4, 5])] }
  | 54 => { own := [], keep := [(2, [0, 1, 2, 7])] }
  | 55 => { own := [], keep := [(4, [0, 12, 13, 14])] }
  | 57 => { own := [((1, 4), [(0, 3)])], keep := [] }
  | 65 => { own := [((1, 0), [(0, 55)])], keep := [(3, [1, 5, 8, 9, 10])] }
  | 69 => { own := [], keep := [(2, [0, 1, 7, 8])] }
  | 70 => { own := [], keep := [(4, [0, 1, 12, 13])] }
  | 71 => { own := [((1, 0), [(0, 3)])], keep := [(3, [1, 2, 7, 10, 11, 12])] }
  | 74 => { own := [], keep := [(3, [0, 1, 5, 11, 12])] }
  | 77 => { own := [], keep := [(2, [0, 1, 7, 8])] }
  | 78 => { own := [], keep := [(3, [2, 8, 13, 14, 15])] }
  | 79 => { own := [], keep := [(2, [0, 1, 2, 3, 4, 10, 11])] }
  | 81 => { own := [], keep := [(1, [0, 1, 2, 3, 8]), (4, [0, 1, 2, 3, 8, 9])] }
  | 82 => { own := [], keep := [(4, [0, 3, 8, 9, 10, 11]), (8, [0, 3, 8, 9, 12])] }
  | 83 => { own := [], keep := [(5, [0, 1, 8, 9, 10, 11])] }
  | 85 => { own := [], keep := [(2, [0, 8, 9])] }
  | 86 => { own := [], keep := [(3, [0, 1, 2, 3, 9, 10]), (5, [0, 1, 2, 3, 9, 10]), (14, [0, 1, 2, 3, 9, 10, 11]), (20, [0, 1, 2, 3, 9, 10, 12])] }
  | 87 => { own := [], keep := [(3, [0, 1, 4, 11, 12]), (5, [0, 1, 4, 11, 12])] }
  | 88 => { own := [], keep := [(3, [0, 1, 4, 12, 13]), (5, [0, 1, 4, 12, 13]), (13, [0, 1, 4, 12, 13]), (15, [0, 1, 4, 12, 13])] }
  | 91 => { own := [], keep := [(1, [0, 2, 3, 4, 10])] }
  | _ => {}
def env : Env where
  summ := fun _ => none
  hint := hintOf
  pure := fun f => f != 22 && f != 23 && f != 37 && f != 41 && f != 54 && f != 57
  split := fun f => f == 37

end Go.Proofs.Try
namespace Go.Proofs.Try
open Go Go.Pm
set_option linter.unusedVariables false
set_option maxHeartbeats 2000000
set_option maxRecDepth 2000
structure T_ref16_Cell where
  fill : Bool
  buffer : Int
  offset : Int
def T_ref16_Cell.toD (x : T_ref16_Cell) : Dat := .agg [(boolD x.fill), (intD x.buffer), (intD x.offset)]
theorem T_ref16_Cell.fit (x : T_ref16_Cell) : Dat.fits 3 x.toD = true := rfl
structure T_psi_Cell where
  fill : Bool
  buffer : Int
  offset : Int
def T_psi_Cell.toD (x : T_psi_Cell) : Dat := .agg [(boolD x.fill), (intD x.buffer), (intD x.offset)]
theorem T_psi_Cell.fit (x : T_psi_Cell) : Dat.fits 3 x.toD = true := rfl
structure T_runs_Run where
  at0_ : Int
  len : Int
  fill : Bool
  buffer : Int
  offset : Int
  step : Int
def T_runs_Run.toD (x : T_runs_Run) : Dat := .agg [(intD x.at0_), (intD x.len), (boolD x.fill), (intD x.buffer), (intD x.offset), (intD x.step)]
theorem T_runs_Run.fit (x : T_runs_Run) : Dat.fits 6 x.toD = true := rfl
structure T_box_Box where
  lo : (List Int)
  hi : (List Int)
def T_box_Box.toD (x : T_box_Box) : Dat := .agg [(.lst ((List.map intD) x.lo)), (.lst ((List.map intD) x.hi))]
theorem T_box_Box.fit (x : T_box_Box) : Dat.fits 2 x.toD = true := rfl
structure T_access_Access where
  kind : Int
  buffer : Int
  base : Int
  strides : (List Int)
  start : Int
  step : Int
  mod : Int
def T_access_Access.toD (x : T_access_Access) : Dat := .agg [(intD x.kind), (intD x.buffer), (intD x.base), (.lst ((List.map intD) x.strides)), (intD x.start), (intD x.step), (intD x.mod)]
theorem T_access_Access.fit (x : T_access_Access) : Dat.fits 7 x.toD = true := rfl
structure T_piece_Piece where
  box : T_box_Box
  access : T_access_Access
def T_piece_Piece.toD (x : T_piece_Piece) : Dat := .agg [(.lst ((List.map intD) x.box.lo)), (.lst ((List.map intD) x.box.hi)), (intD x.access.kind), (intD x.access.buffer), (intD x.access.base), (.lst ((List.map intD) x.access.strides)), (intD x.access.start), (intD x.access.step), (intD x.access.mod)]
theorem T_piece_Piece.fit (x : T_piece_Piece) : Dat.fits 9 x.toD = true := rfl
structure T_gamma_layout where
  strides : (List Int)
  dims : (List Int)
def T_gamma_layout.toD (x : T_gamma_layout) : Dat := .agg [(.lst ((List.map intD) x.strides)), (.lst ((List.map intD) x.dims))]
theorem T_gamma_layout.fit (x : T_gamma_layout) : Dat.fits 2 x.toD = true := rfl
end Go.Proofs.Try
namespace Go.Proofs.Try
open Go Go.Pm
set_option linter.unusedVariables false
set_option maxHeartbeats 2000000
set_option maxRecDepth 2000
def m_law19_awake (x : Unit) : Option Bool := some true
def P_law19_awake : Unit → Bool → Prop := fun x r => ∀ H, PC prog env 4 ([].map .dat) H (boolPV r) H
theorem w_law19_awake : ∀ x r, m_law19_awake x = some r → P_law19_awake x r := by
  intro x r hm
  cases hm
  intro H
  exact PC_of (n := 200) (by kernel_rfl)
end Go.Proofs.Try
namespace Go.Proofs.Try
open Go Go.Pm
set_option linter.unusedVariables false
set_option maxHeartbeats 2000000
set_option maxRecDepth 2000
def m_ref01_Product_L1 (x : ((List Int) × Bool × Int)) : Option (Unit ⊕ Bool) :=
  match x with
  | (p0, v201, v202) =>
  if v202 < (p0.length : Int) then
    idx p0 v202 >>= fun v602 =>
    if v602 < 0 then
      some (Sum.inl ())
    else
    if v201 = true then
      m_ref01_Product_L1 (p0, true, (W (v202 + 1)))
    else
    idx p0 v202 >>= fun v603 =>
    m_ref01_Product_L1 (p0, (v603 == 0), (W (v202 + 1)))
  else
  some (Sum.inr v201)
  partial_fixpoint
def P_ref01_Product_L1 : ((List Int) × Bool × Int) → (Unit ⊕ Bool) → Prop := fun x r => match x with
  | (p0, v201, v202) => ∀ st, prune 0 ((firstRegion (codeAt [1, 1, 0, 1, 0, 0] (bodyOf f24))).bind (env.hint 24).keepAt) st = ⟨kp 55 [(0, (.dat (.lst ((List.map intD) p0)))), (4, (boolPV v201)), (5, (intPV v202))], []⟩ →
    RL prog env (env.hint 24) true (codeAt [1, 1, 0, 1, 0, 0] (bodyOf f24)) 0 st (fun e s => match r with | .inl _ => e = .ret ∧ ∃ d, s = ⟨sl d 55 [(2, (intPV 0)), (3, (intPV 6))], []⟩ | .inr (v601) => e = .exit 0 ∧ ∃ d, s = ⟨sl d 55 [(0, (.dat (.lst ((List.map intD) p0)))), (4, (boolPV v601))], []⟩)
theorem w_ref01_Product_L1 : ∀ x r, m_ref01_Product_L1 x = some r → P_ref01_Product_L1 x r := by
  refine m_ref01_Product_L1.partial_correctness _ (fun m_ref01_Product_L1 w_ref01_Product_L1 x r hm => ?_)
  unfold P_ref01_Product_L1
  obtain ⟨p0, v201, v202⟩ := x
  intro st hst
  refine RL_at hst ?_
  clear hst
  refine R_seq ?_
  refine R_seq ?_
  refine R_G ?_
  refine G_run 2 ?_
  refine I_len intD p0 (es := (List.map intD) p0) rfl ?_
  refine G_run 1 ?_
  refine G_end ?_
  refine R_ifp (p := v202 < (p0.length : Int)) (rfl) (fun hc => ?_) (fun hc => ?_)
  · replace hm := pos_inv hc hm
    refine R_skip ?_
    refine R_seq ?_
    refine R_block ?_
    refine R_seq ?_
    refine R_seq ?_
    refine R_G ?_
    refine G_run 2 ?_
    obtain ⟨v602, hx, hm⟩ := bind_inv hm
    refine I_idx 1 intD p0 v202 v602 (es := (List.map intD) p0) (d := (intD v602)) rfl hx rfl rfl ?_
    refine G_run 2 ?_
    refine G_end ?_
    refine R_ifp (p := v602 < 0) (rfl) (fun hc => ?_) (fun hc => ?_)
    · replace hm := pos_inv hc hm
      refine R_seq ?_
      refine R_G ?_
      refine G_run 2 ?_
      refine G_end ?_
      refine R_ret ?_
      obtain rfl := inj1 hm
      exact ⟨rfl, cut_leaf (by kernel_rfl)⟩
    replace hm := neg_inv hc hm
    refine R_skip ?_
    refine R_G ?_
    refine G_run 2 ?_
    refine G_split (p := v201 = true) 21 (bool_dec _) (fun hc => ?_) (fun hc => ?_)
    · replace hm := pos_inv hc hm
      refine G_run 7 ?_
      refine G_end ?_
      refine R_G ?_
      refine G_run 3 ?_
      refine G_end ?_
      exact w_ref01_Product_L1 _ _ hm _ (by kernel_rfl)
    replace hm := neg_inv hc hm
    refine G_run 2 ?_
    obtain ⟨v603, hx, hm⟩ := bind_inv hm
    refine I_idx 1 intD p0 v202 v603 (es := (List.map intD) p0) (d := (intD v603)) rfl hx rfl rfl ?_
    refine G_run 4 ?_
    refine G_end ?_
    refine R_G ?_
    refine G_run 3 ?_
    refine G_end ?_
    exact w_ref01_Product_L1 _ _ hm _ (by kernel_rfl)
  replace hm := neg_inv hc hm
  refine R_exit ?_
  obtain rfl := inj1 hm
  exact ⟨rfl, cut_leaf (by kernel_rfl)⟩
def m_ref01_Product_L2 (x : ((List Int) × Bool × Int)) : Option (Unit ⊕ Unit) :=
  match x with
  | (p0, v601, v804) =>
  if v804 < (p0.length : Int) then
    idx p0 v804 >>= fun v1204 =>
    if v1204 > 65536 then
      some (Sum.inl ())
    else
    m_ref01_Product_L2 (p0, v601, (W (v804 + 1)))
  else
  some (Sum.inr ())
  partial_fixpoint
def P_ref01_Product_L2 : ((List Int) × Bool × Int) → (Unit ⊕ Unit) → Prop := fun x r => match x with
  | (p0, v601, v804) => ∀ st, prune 0 ((firstRegion (codeAt [1, 1, 1, 0, 1, 0, 0] (bodyOf f24))).bind (env.hint 24).keepAt) st = ⟨kp 55 [(0, (.dat (.lst ((List.map intD) p0)))), (4, (boolPV v601)), (6, (intPV v804))], []⟩ →
    RL prog env (env.hint 24) true (codeAt [1, 1, 1, 0, 1, 0, 0] (bodyOf f24)) 0 st (fun e s => match r with | .inl _ => e = .ret ∧ ∃ d, s = ⟨sl d 55 [(2, (intPV 0)), (3, (intPV 7))], []⟩ | .inr (_) => e = .exit 2 ∧ ∃ d, s = ⟨sl d 55 [(0, (.dat (.lst ((List.map intD) p0)))), (4, (boolPV v601))], []⟩)
theorem w_ref01_Product_L2 : ∀ x r, m_ref01_Product_L2 x = some r → P_ref01_Product_L2 x r := by
  refine m_ref01_Product_L2.partial_correctness _ (fun m_ref01_Product_L2 w_ref01_Product_L2 x r hm => ?_)
  unfold P_ref01_Product_L2
  obtain ⟨p0, v601, v804⟩ := x
  intro st hst
  refine RL_at hst ?_
  clear hst
  refine R_seq ?_
  refine R_seq ?_
  refine R_G ?_
  refine G_run 2 ?_
  refine I_len intD p0 (es := (List.map intD) p0) rfl ?_
  refine G_run 1 ?_
  refine G_end ?_
  refine R_ifp (p := v804 < (p0.length : Int)) (rfl) (fun hc => ?_) (fun hc => ?_)
  · replace hm := pos_inv hc hm
    refine R_skip ?_
    refine R_seq ?_
    refine R_block ?_
    refine R_seq ?_
    refine R_G ?_
    refine G_run 2 ?_
    obtain ⟨v1204, hx, hm⟩ := bind_inv hm
    refine I_idx 1 intD p0 v804 v1204 (es := (List.map intD) p0) (d := (intD v1204)) rfl hx rfl rfl ?_
    refine G_run 2 ?_
    refine G_end ?_
    refine R_ifp (p := v1204 > 65536) (rfl) (fun hc => ?_) (fun hc => ?_)
    · replace hm := pos_inv hc hm
      refine R_seq ?_
      refine R_G ?_
      refine G_run 2 ?_
      refine G_end ?_
      refine R_ret ?_
      obtain rfl := inj1 hm
      exact ⟨rfl, cut_leaf (by kernel_rfl)⟩
    replace hm := neg_inv hc hm
    refine R_skip ?_
    refine R_G ?_
    refine G_run 3 ?_
    refine G_end ?_
    exact w_ref01_Product_L2 _ _ hm _ (by kernel_rfl)
  replace hm := neg_inv hc hm
  refine R_exit ?_
  obtain rfl := inj1 hm
  exact ⟨rfl, cut_leaf (by kernel_rfl)⟩
def m_ref01_Product_L3 (x : ((List Int) × Int × Int)) : Option (Unit ⊕ Int) :=
  match x with
  | (p0, v1405, v1406) =>
  if v1406 < (p0.length : Int) then
    idx p0 v1406 >>= fun v1806 =>
    if (W (v1405 * v1806)) > 65536 then
      some (Sum.inl ())
    else
    m_ref01_Product_L3 (p0, (W (v1405 * v1806)), (W (v1406 + 1)))
  else
  some (Sum.inr v1405)
  partial_fixpoint
def P_ref01_Product_L3 : ((List Int) × Int × Int) → (Unit ⊕ Int) → Prop := fun x r => match x with
  | (p0, v1405, v1406) => ∀ st, prune 0 ((firstRegion (codeAt [1, 1, 1, 1, 1, 1, 0, 1, 0, 0] (bodyOf f24))).bind (env.hint 24).keepAt) st = ⟨kp 55 [(0, (.dat (.lst ((List.map intD) p0)))), (7, (intPV v1405)), (8, (intPV v1406))], []⟩ →
    RL prog env (env.hint 24) true (codeAt [1, 1, 1, 1, 1, 1, 0, 1, 0, 0] (bodyOf f24)) 0 st (fun e s => match r with | .inl _ => e = .ret ∧ ∃ d, s = ⟨sl d 55 [(2, (intPV 0)), (3, (intPV 7))], []⟩ | .inr (v1805) => e = .exit 4 ∧ ∃ d, s = ⟨sl d 55 [(7, (intPV v1805))], []⟩)
theorem w_ref01_Product_L3 : ∀ x r, m_ref01_Product_L3 x = some r → P_ref01_Product_L3 x r := by
  refine m_ref01_Product_L3.partial_correctness _ (fun m_ref01_Product_L3 w_ref01_Product_L3 x r hm => ?_)
  unfold P_ref01_Product_L3
  obtain ⟨p0, v1405, v1406⟩ := x
  intro st hst
  refine RL_at hst ?_
  clear hst
  refine R_seq ?_
  refine R_seq ?_
  refine R_G ?_
  refine G_run 2 ?_
  refine I_len intD p0 (es := (List.map intD) p0) rfl ?_
  refine G_run 1 ?_
  refine G_end ?_
  refine R_ifp (p := v1406 < (p0.length : Int)) (rfl) (fun hc => ?_) (fun hc => ?_)
  · replace hm := pos_inv hc hm
    refine R_skip ?_
    refine R_seq ?_
    refine R_block ?_
    refine R_seq ?_
    refine R_G ?_
    refine G_run 3 ?_
    obtain ⟨v1806, hx, hm⟩ := bind_inv hm
    refine I_idx 1 intD p0 v1406 v1806 (es := (List.map intD) p0) (d := (intD v1806)) rfl hx rfl rfl ?_
    refine G_run 3 ?_
    refine G_end ?_
    refine R_seq ?_
    refine R_G ?_
    refine G_run 2 ?_
    refine G_end ?_
    refine R_ifp (p := (W (v1405 * v1806)) > 65536) (rfl) (fun hc => ?_) (fun hc => ?_)
    · replace hm := pos_inv hc hm
      refine R_seq ?_
      refine R_G ?_
      refine G_run 2 ?_
      refine G_end ?_
      refine R_ret ?_
      obtain rfl := inj1 hm
      exact ⟨rfl, cut_leaf (by kernel_rfl)⟩
    replace hm := neg_inv hc hm
    refine R_skip ?_
    refine R_G ?_
    refine G_run 3 ?_
    refine G_end ?_
    exact w_ref01_Product_L3 _ _ hm _ (by kernel_rfl)
  replace hm := neg_inv hc hm
  refine R_exit ?_
  obtain rfl := inj1 hm
  exact ⟨rfl, cut_leaf (by kernel_rfl)⟩
def m_ref01_Product (x : (List Int)) : Option (Int × Int) :=
  match x with
  | p0 =>
  (
  m_ref01_Product_L1 (p0, false, 0) >>= fun (out : Unit ⊕ Bool) =>
  match out with
  | .inl _ =>
    some (0, 6)
  | .inr (v601) =>
    (
    m_ref01_Product_L2 (p0, v601, 0) >>= fun (out : Unit ⊕ Unit) =>
    match out with
    | .inl _ =>
      some (0, 7)
    | .inr (_) =>
      if v601 = true then
        some (0, 0)
      else
      (
      m_ref01_Product_L3 (p0, 1, 0) >>= fun (out : Unit ⊕ Int) =>
      match out with
      | .inl _ =>
        some (0, 7)
      | .inr (v1805) =>
        some (v1805, 0)
      )
    )
  )
def P_ref01_Product : (List Int) → (Int × Int) → Prop := fun x r => match x, r with
  | p0, (r0, r1) => ∀ H, PC prog env 24 ([(.lst ((List.map intD) p0))].map .dat) H (.tup [(intPV r0), (intPV r1)]) H
theorem w_ref01_Product : ∀ x r, m_ref01_Product x = some r → P_ref01_Product x r := by
  intro p0 r hm
  unfold m_ref01_Product at hm
  unfold P_ref01_Product
  obtain ⟨r0, r1⟩ := r
  intro H
  refine PC_sx (ds := [(.lst ((List.map intD) p0))]) (fn := f24) (by kernel_rfl) (by kernel_rfl) rfl ?_ (by kernel_rfl)
  refine R_seq ?_
  refine R_G ?_
  refine G_run 2 ?_
  refine G_end ?_
  refine R_seq ?_
  refine R_G ?_
  refine G_run 1 ?_
  refine G_end ?_
  refine R_seq ?_
  refine R_seq ?_
  refine R_G ?_
  refine G_run 1 ?_
  refine G_end ?_
  refine R_block ?_
  obtain ⟨out, hs, hm⟩ := bind_inv hm
  refine R_loop ?_
  rcases out with _ | v601
  · refine RL_use (w_ref01_Product_L1 _ _ hs) (by kernel_rfl) ?_
    clear hs
    intro e s hp
    obtain ⟨rfl, d, rfl⟩ := hp
    obtain ⟨rfl, rfl⟩ := inj2 hm
    exact ⟨trivial, fin_pure (by kernel_rfl)⟩
  · refine RL_use (w_ref01_Product_L1 _ _ hs) (by kernel_rfl) ?_
    clear hs
    intro e s hp
    obtain ⟨rfl, d, rfl⟩ := hp
    refine R_seq ?_
    refine R_seq ?_
    refine R_G ?_
    refine G_run 1 ?_
    refine G_end ?_
    refine R_block ?_
    obtain ⟨out, hs, hm⟩ := bind_inv hm
    refine R_loop ?_
    rcases out with _ | _
    · refine RL_use (w_ref01_Product_L2 _ _ hs) (by kernel_rfl) ?_
      clear hs
      intro e s hp
      obtain ⟨rfl, d, rfl⟩ := hp
      obtain ⟨rfl, rfl⟩ := inj2 hm
      exact ⟨trivial, fin_pure (by kernel_rfl)⟩
    · refine RL_use (w_ref01_Product_L2 _ _ hs) (by kernel_rfl) ?_
      clear hs
      intro e s hp
      obtain ⟨rfl, d, rfl⟩ := hp
      refine R_seq ?_
      refine R_seq ?_
      refine R_G ?_
      refine G_run 1 ?_
      refine G_end ?_
      refine R_ifp (p := v601 = true) (bool_dec _) (fun hc => ?_) (fun hc => ?_)
      · replace hm := pos_inv hc hm
        refine R_seq ?_
        refine R_G ?_
        refine G_run 2 ?_
        refine G_end ?_
        refine R_ret ?_
        obtain ⟨rfl, rfl⟩ := inj2 hm
        exact ⟨trivial, fin_pure (by kernel_rfl)⟩
      replace hm := neg_inv hc hm
      refine R_skip ?_
      refine R_seq ?_
      refine R_G ?_
      refine G_run 1 ?_
      refine G_end ?_
      refine R_seq ?_
      refine R_seq ?_
      refine R_G ?_
      refine G_run 1 ?_
      refine G_end ?_
      refine R_block ?_
      obtain ⟨out, hs, hm⟩ := bind_inv hm
      refine R_loop ?_
      rcases out with _ | v1805
      · refine RL_use (w_ref01_Product_L3 _ _ hs) (by kernel_rfl) ?_
        clear hs
        intro e s hp
        obtain ⟨rfl, d, rfl⟩ := hp
        obtain ⟨rfl, rfl⟩ := inj2 hm
        exact ⟨trivial, fin_pure (by kernel_rfl)⟩
      · refine RL_use (w_ref01_Product_L3 _ _ hs) (by kernel_rfl) ?_
        clear hs
        intro e s hp
        obtain ⟨rfl, d, rfl⟩ := hp
        refine R_seq ?_
        refine R_G ?_
        refine G_run 3 ?_
        refine G_end ?_
        refine R_ret ?_
        obtain ⟨rfl, rfl⟩ := inj2 hm
        exact ⟨trivial, fin_pure (by kernel_rfl)⟩
end Go.Proofs.Try
namespace Go.Proofs.Try
open Go Go.Pm
set_option linter.unusedVariables false
set_option maxHeartbeats 2000000
set_option maxRecDepth 2000
def m_ref02_Check_L1 (x : ((List Int) × Int)) : Option (Unit ⊕ Unit) :=
  match x with
  | (p0, v201) =>
  if v201 < (p0.length : Int) then
    idx p0 v201 >>= fun v601 =>
    if v601 < 0 then
      some (Sum.inl ())
    else
    m_ref02_Check_L1 (p0, (W (v201 + 1)))
  else
  some (Sum.inr ())
  partial_fixpoint
def P_ref02_Check_L1 : ((List Int) × Int) → (Unit ⊕ Unit) → Prop := fun x r => match x with
  | (p0, v201) => ∀ st, prune 0 ((firstRegion (codeAt [1, 0, 1, 0, 0] (bodyOf f15))).bind (env.hint 15).keepAt) st = ⟨kp 29 [(0, (.dat (.lst ((List.map intD) p0)))), (3, (intPV v201))], []⟩ →
    RL prog env (env.hint 15) true (codeAt [1, 0, 1, 0, 0] (bodyOf f15)) 0 st (fun e s => match r with | .inl _ => e = .ret ∧ ∃ d, s = ⟨sl d 29 [(2, (intPV 6))], []⟩ | .inr (_) => e = .exit 0 ∧ ∃ d, s = ⟨sl d 29 [(0, (.dat (.lst ((List.map intD) p0))))], []⟩)
theorem w_ref02_Check_L1 : ∀ x r, m_ref02_Check_L1 x = some r → P_ref02_Check_L1 x r := by
  refine m_ref02_Check_L1.partial_correctness _ (fun m_ref02_Check_L1 w_ref02_Check_L1 x r hm => ?_)
  unfold P_ref02_Check_L1
  obtain ⟨p0, v201⟩ := x
  intro st hst
  refine RL_at hst ?_
  clear hst
  refine R_seq ?_
  refine R_seq ?_
  refine R_G ?_
  refine G_run 2 ?_
  refine I_len intD p0 (es := (List.map intD) p0) rfl ?_
  refine G_run 1 ?_
  refine G_end ?_
  refine R_ifp (p := v201 < (p0.length : Int)) (rfl) (fun hc => ?_) (fun hc => ?_)
  · replace hm := pos_inv hc hm
    refine R_skip ?_
    refine R_seq ?_
    refine R_block ?_
    refine R_seq ?_
    refine R_G ?_
    refine G_run 2 ?_
    obtain ⟨v601, hx, hm⟩ := bind_inv hm
    refine I_idx 1 intD p0 v201 v601 (es := (List.map intD) p0) (d := (intD v601)) rfl hx rfl rfl ?_
    refine G_run 2 ?_
    refine G_end ?_
    refine R_ifp (p := v601 < 0) (rfl) (fun hc => ?_) (fun hc => ?_)
    · replace hm := pos_inv hc hm
      refine R_seq ?_
      refine R_G ?_
      refine G_run 1 ?_
      refine G_end ?_
      refine R_ret ?_
      obtain rfl := inj1 hm
      exact ⟨rfl, cut_leaf (by kernel_rfl)⟩
    replace hm := neg_inv hc hm
    refine R_skip ?_
    refine R_G ?_
    refine G_run 3 ?_
    refine G_end ?_
    exact w_ref02_Check_L1 _ _ hm _ (by kernel_rfl)
  replace hm := neg_inv hc hm
  refine R_exit ?_
  obtain rfl := inj1 hm
  exact ⟨rfl, cut_leaf (by kernel_rfl)⟩
def m_ref02_Check (x : (List Int)) : Option Int :=
  match x with
  | p0 =>
  (
  m_ref02_Check_L1 (p0, 0) >>= fun (out : Unit ⊕ Unit) =>
  match out with
  | .inl _ =>
    some 6
  | .inr (_) =>
    m_ref01_Product p0 >>= fun ((v602, v603) : (Int × Int)) =>
    (if (p0.length : Int) > 16 then
      some true
    else
    some (v603 != 0)
    ) >>= fun (v604 : Bool) =>
    if v604 = true then
      some 7
    else
    some 0
  )
def P_ref02_Check : (List Int) → Int → Prop := fun x r => match x, r with
  | p0, r0 => ∀ H, PC prog env 15 ([(.lst ((List.map intD) p0))].map .dat) H (intPV r0) H
theorem w_ref02_Check : ∀ x r, m_ref02_Check x = some r → P_ref02_Check x r := by
  intro p0 r0 hm
  unfold m_ref02_Check at hm
  unfold P_ref02_Check
  intro H
  refine PC_sx (ds := [(.lst ((List.map intD) p0))]) (fn := f15) (by kernel_rfl) (by kernel_rfl) rfl ?_ (by kernel_rfl)
  refine R_seq ?_
  refine R_G ?_
  refine G_run 1 ?_
  refine G_end ?_
  refine R_seq ?_
  refine R_seq ?_
  refine R_G ?_
  refine G_run 1 ?_
  refine G_end ?_
  refine R_block ?_
  obtain ⟨out, hs, hm⟩ := bind_inv hm
  refine R_loop ?_
  rcases out with _ | _
  · refine RL_use (w_ref02_Check_L1 _ _ hs) (by kernel_rfl) ?_
    clear hs
    intro e s hp
    obtain ⟨rfl, d, rfl⟩ := hp
    obtain rfl := inj1 hm
    exact ⟨trivial, fin_pure (by kernel_rfl)⟩
  · refine RL_use (w_ref02_Check_L1 _ _ hs) (by kernel_rfl) ?_
    clear hs
    intro e s hp
    obtain ⟨rfl, d, rfl⟩ := hp
    refine R_seq ?_
    refine R_G ?_
    refine G_run 1 ?_
    obtain ⟨⟨v602, v603⟩, hx, hm⟩ := bind_inv hm
    have hq := w_ref01_Product _ _ hx []
    refine G_callP hq ?_
    refine G_run 5 ?_
    refine G_end ?_
    refine R_seq ?_
    refine R_seq ?_
    obtain ⟨v604, hs, hm⟩ := bind_inv hm
    refine R_cut (fun d => ⟨sl d 29 [(28, (boolPV v604))], []⟩) ?_ (fun d => ?_)
    · replace hm := hs
      clear hs
      refine R_G ?_
      refine G_run 1 ?_
      refine I_len intD p0 (es := (List.map intD) p0) rfl ?_
      refine G_run 2 ?_
      refine G_split (p := (p0.length : Int) > 16) 25 (rfl) (fun hc => ?_) (fun hc => ?_)
      · replace hm := pos_inv hc hm
        refine G_run 3 ?_
        refine G_end ?_
        obtain rfl := inj1 hm
        exact cut_leaf (by kernel_rfl)
      replace hm := neg_inv hc hm
      refine G_run 3 ?_
      refine G_end ?_
      obtain rfl := inj1 hm
      exact cut_leaf (by kernel_rfl)
    clear hs
    refine R_ifp (p := v604 = true) (bool_dec _) (fun hc => ?_) (fun hc => ?_)
    · replace hm := pos_inv hc hm
      refine R_seq ?_
      refine R_G ?_
      refine G_run 1 ?_
      refine G_end ?_
      refine R_ret ?_
      obtain rfl := inj1 hm
      exact ⟨trivial, fin_pure (by kernel_rfl)⟩
    replace hm := neg_inv hc hm
    refine R_skip ?_
    refine R_seq ?_
    refine R_G ?_
    refine G_run 1 ?_
    refine G_end ?_
    refine R_ret ?_
    obtain rfl := inj1 hm
    exact ⟨trivial, fin_pure (by kernel_rfl)⟩
end Go.Proofs.Try
namespace Go.Proofs.Try
open Go Go.Pm
set_option linter.unusedVariables false
set_option maxHeartbeats 2000000
set_option maxRecDepth 2000
def m_ref02_Cells (x : (List Int)) : Option Int :=
  match x with
  | p0 =>
  m_ref02_Check p0 >>= fun (v1 : Int) =>
  if v1 ≠ 0 then
    some 0
  else
  m_ref01_Product p0 >>= fun ((v2, v3) : (Int × Int)) =>
  some v2
def P_ref02_Cells : (List Int) → Int → Prop := fun x r => match x, r with
  | p0, r0 => ∀ H, PC prog env 10 ([(.lst ((List.map intD) p0))].map .dat) H (intPV r0) H
theorem w_ref02_Cells : ∀ x r, m_ref02_Cells x = some r → P_ref02_Cells x r := by
  intro p0 r0 hm
  unfold m_ref02_Cells at hm
  unfold P_ref02_Cells
  intro H
  refine PC_sx (ds := [(.lst ((List.map intD) p0))]) (fn := f10) (by kernel_rfl) (by kernel_rfl) rfl ?_ (by kernel_rfl)
  refine R_seq ?_
  refine R_G ?_
  refine G_run 1 ?_
  refine G_end ?_
  refine R_seq ?_
  refine R_seq ?_
  refine R_G ?_
  refine G_run 1 ?_
  obtain ⟨v1, hx, hm⟩ := bind_inv hm
  have hq := w_ref02_Check _ _ hx []
  refine G_callP hq ?_
  refine G_run 1 ?_
  refine G_end ?_
  refine R_ifp (p := v1 ≠ 0) (ne_dec _ _) (fun hc => ?_) (fun hc => ?_)
  · replace hm := pos_inv hc hm
    refine R_seq ?_
    refine R_G ?_
    refine G_run 1 ?_
    refine G_end ?_
    refine R_ret ?_
    obtain rfl := inj1 hm
    exact ⟨trivial, fin_pure (by kernel_rfl)⟩
  replace hm := neg_inv hc hm
  refine R_skip ?_
  refine R_seq ?_
  refine R_G ?_
  refine G_run 1 ?_
  obtain ⟨⟨v2, v3⟩, hx, hm⟩ := bind_inv hm
  have hq := w_ref01_Product _ _ hx []
  refine G_callP hq ?_
  refine G_run 5 ?_
  refine G_end ?_
  refine R_seq ?_
  refine R_G ?_
  refine G_run 2 ?_
  refine G_end ?_
  refine R_ret ?_
  obtain rfl := inj1 hm
  exact ⟨trivial, fin_pure (by kernel_rfl)⟩
end Go.Proofs.Try
namespace Go.Proofs.Try
open Go Go.Pm
set_option linter.unusedVariables false
set_option maxHeartbeats 2000000
set_option maxRecDepth 2000
def m_ref02_Small_L1 (x : ((List Int) × Int × Int × Int)) : Option (Unit ⊕ Unit) :=
  match x with
  | (p0, p1, v205, v206) =>
  if v206 < (p0.length : Int) then
    idx p0 v206 >>= fun v605 =>
    if (W (v205 * (if v605 < 1 then 1 else v605))) > (W (100 * p1)) then
      some (Sum.inl ())
    else
    m_ref02_Small_L1 (p0, p1, (W (v205 * (if v605 < 1 then 1 else v605))), (W (v206 + 1)))
  else
  some (Sum.inr ())
  partial_fixpoint
def P_ref02_Small_L1 : ((List Int) × Int × Int × Int) → (Unit ⊕ Unit) → Prop := fun x r => match x with
  | (p0, p1, v205, v206) => ∀ st, prune 0 ((firstRegion (codeAt [1, 1, 1, 0, 1, 0, 0] (bodyOf f5))).bind (env.hint 5).keepAt) st = ⟨kp 38 [(0, (.dat (.lst ((List.map intD) p0)))), (1, (intPV p1)), (5, (intPV v205)), (6, (intPV v206))], []⟩ →
    RL prog env (env.hint 5) true (codeAt [1, 1, 1, 0, 1, 0, 0] (bodyOf f5)) 0 st (fun e s => match r with | .inl _ => e = .ret ∧ ∃ d, s = ⟨sl d 38 [(4, (boolPV false))], []⟩ | .inr (_) => e = .exit 0 ∧ ∃ d, s = ⟨sl d 38 [], []⟩)
theorem w_ref02_Small_L1 : ∀ x r, m_ref02_Small_L1 x = some r → P_ref02_Small_L1 x r := by
  refine m_ref02_Small_L1.partial_correctness _ (fun m_ref02_Small_L1 w_ref02_Small_L1 x r hm => ?_)
  unfold P_ref02_Small_L1
  obtain ⟨p0, p1, v205, v206⟩ := x
  intro st hst
  refine RL_at hst ?_
  clear hst
  refine R_seq ?_
  refine R_seq ?_
  refine R_G ?_
  refine G_run 2 ?_
  refine I_len intD p0 (es := (List.map intD) p0) rfl ?_
  refine G_run 1 ?_
  refine G_end ?_
  refine R_ifp (p := v206 < (p0.length : Int)) (rfl) (fun hc => ?_) (fun hc => ?_)
  · replace hm := pos_inv hc hm
    refine R_skip ?_
    refine R_seq ?_
    refine R_block ?_
    refine R_seq ?_
    refine R_G ?_
    refine G_run 3 ?_
    obtain ⟨v605, hx, hm⟩ := bind_inv hm
    refine I_idx 1 intD p0 v206 v605 (es := (List.map intD) p0) (d := (intD v605)) rfl hx rfl rfl ?_
    refine G_run 1 ?_
    refine G_semN rfl (by kernel_rfl) (fun _ => E_max (k := .i64) (m := v605) (n := 1) rfl (by kernel_rfl) (by kernel_rfl)) ?_
    refine G_run 2 ?_
    refine G_end ?_
    refine R_seq ?_
    refine R_G ?_
    refine G_run 4 ?_
    refine G_end ?_
    refine R_ifp (p := (W (v205 * (if v605 < 1 then 1 else v605))) > (W (100 * p1))) (rfl) (fun hc => ?_) (fun hc => ?_)
    · replace hm := pos_inv hc hm
      refine R_seq ?_
      refine R_G ?_
      refine G_run 1 ?_
      refine G_end ?_
      refine R_ret ?_
      obtain rfl := inj1 hm
      exact ⟨rfl, cut_leaf (by kernel_rfl)⟩
    replace hm := neg_inv hc hm
    refine R_skip ?_
    refine R_G ?_
    refine G_run 3 ?_
    refine G_end ?_
    exact w_ref02_Small_L1 _ _ hm _ (by kernel_rfl)
  replace hm := neg_inv hc hm
  refine R_exit ?_
  obtain rfl := inj1 hm
  exact ⟨rfl, cut_leaf (by kernel_rfl)⟩
def m_ref02_Small (x : ((List Int) × Int)) : Option Bool :=
  match x with
  | (p0, p1) =>
  ((if (p0.length : Int) > 6 then
    some true
  else
  m_ref02_Check p0 >>= fun (v3 : Int) =>
  some (v3 != 0)
  ) >>= fun (v2 : Bool) =>
  if v2 = true then
    some true
  else
  m_ref02_Cells p0 >>= fun (v4 : Int) =>
  some (decide (v4 > p1))
  ) >>= fun (v1 : Bool) =>
  if v1 = true then
    some false
  else
  (
  m_ref02_Small_L1 (p0, p1, 1, 0) >>= fun (out : Unit ⊕ Unit) =>
  match out with
  | .inl _ =>
    some false
  | .inr (_) =>
    some true
  )
def P_ref02_Small : ((List Int) × Int) → Bool → Prop := fun x r => match x, r with
  | (p0, p1), r0 => ∀ H, PC prog env 5 ([(.lst ((List.map intD) p0)), (intD p1)].map .dat) H (boolPV r0) H
theorem w_ref02_Small : ∀ x r, m_ref02_Small x = some r → P_ref02_Small x r := by
  intro x r0 hm
  unfold m_ref02_Small at hm
  unfold P_ref02_Small
  obtain ⟨p0, p1⟩ := x
  intro H
  refine PC_sx (ds := [(.lst ((List.map intD) p0)), (intD p1)]) (fn := f5) (by kernel_rfl) (by kernel_rfl) rfl ?_ (by kernel_rfl)
  refine R_seq ?_
  refine R_G ?_
  refine G_run 1 ?_
  refine G_end ?_
  refine R_seq ?_
  refine R_seq ?_
  obtain ⟨v1, hs, hm⟩ := bind_inv hm
  refine R_cut (fun d => ⟨sl d 38 [(0, (.dat (.lst ((List.map intD) p0)))), (1, (intPV p1)), (20, (boolPV v1))], []⟩) ?_ (fun d => ?_)
  · replace hm := hs
    clear hs
    refine R_GN ?_
    refine G_run 1 ?_
    refine I_len intD p0 (es := (List.map intD) p0) rfl ?_
    refine G_run 2 ?_
    obtain ⟨v2, hs, hm⟩ := bind_inv hm
    refine G_cut (j := 8) (fun d => ⟨sl d 38 [(0, (.dat (.lst ((List.map intD) p0)))), (1, (intPV p1)), (4, (boolPV false)), (7, (.dat (.lst ((List.map intD) p0)))), (8, (intPV (p0.length : Int))), (9, (boolPV (decide ((p0.length : Int) > 6)))), (14, (boolPV v2))], []⟩) (fun d => ?_) (fun hJ => ?_)
    · clear hs
      refine G_run 1 ?_
      refine G_split (p := v2 = true) 15 (bool_dec _) (fun hc => ?_) (fun hc => ?_)
      · replace hm := pos_inv hc hm
        refine G_run 5 ?_
        refine G_end ⟨by kernel_rfl, ?_⟩
        obtain rfl := inj1 hm
        exact cut_leaf (by kernel_rfl)
      replace hm := neg_inv hc hm
      refine G_run 1 ?_
      obtain ⟨v4, hx, hm⟩ := bind_inv hm
      have hq := w_ref02_Cells _ _ hx []
      refine G_callP hq ?_
      refine G_run 3 ?_
      refine G_end ⟨by kernel_rfl, ?_⟩
      obtain rfl := inj1 hm
      exact cut_leaf (by kernel_rfl)
    replace hm := hs
    clear hs
    refine G_split (p := (p0.length : Int) > 6) 10 (rfl) (fun hc => ?_) (fun hc => ?_)
    · replace hm := pos_inv hc hm
      refine G_run 4 ?_
      obtain rfl := inj1 hm
      exact hJ _ _ (by kernel_rfl) (by kernel_rfl)
    replace hm := neg_inv hc hm
    refine G_run 1 ?_
    obtain ⟨v3, hx, hm⟩ := bind_inv hm
    have hq := w_ref02_Check _ _ hx []
    refine G_callP hq ?_
    refine G_run 2 ?_
    obtain rfl := inj1 hm
    exact hJ _ _ (by kernel_rfl) (by kernel_rfl)
  clear hs
  refine R_ifp (p := v1 = true) (bool_dec _) (fun hc => ?_) (fun hc => ?_)
  · replace hm := pos_inv hc hm
    refine R_seq ?_
    refine R_G ?_
    refine G_run 1 ?_
    refine G_end ?_
    refine R_ret ?_
    obtain rfl := inj1 hm
    exact ⟨trivial, fin_pure (by kernel_rfl)⟩
  replace hm := neg_inv hc hm
  refine R_skip ?_
  refine R_seq ?_
  refine R_G ?_
  refine G_run 1 ?_
  refine G_end ?_
  refine R_seq ?_
  refine R_seq ?_
  refine R_G ?_
  refine G_run 1 ?_
  refine G_end ?_
  refine R_block ?_
  obtain ⟨out, hs, hm⟩ := bind_inv hm
  refine R_loop ?_
  rcases out with _ | _
  · refine RL_use (w_ref02_Small_L1 _ _ hs) (by kernel_rfl) ?_
    clear hs
    intro e s hp
    obtain ⟨rfl, d, rfl⟩ := hp
    obtain rfl := inj1 hm
    exact ⟨trivial, fin_pure (by kernel_rfl)⟩
  · refine RL_use (w_ref02_Small_L1 _ _ hs) (by kernel_rfl) ?_
    clear hs
    intro e s hp
    obtain ⟨rfl, d, rfl⟩ := hp
    refine R_seq ?_
    refine R_G ?_
    refine G_run 1 ?_
    refine G_end ?_
    refine R_ret ?_
    obtain rfl := inj1 hm
    exact ⟨trivial, fin_pure (by kernel_rfl)⟩
end Go.Proofs.Try
namespace Go.Proofs.Try
open Go Go.Pm
set_option linter.unusedVariables false
set_option maxHeartbeats 2000000
set_option maxRecDepth 2000
def m_law19_right_L1 (x : ((List T_ref16_Cell) × Int)) : Option ((Bool × Int × Int) ⊕ Unit) :=
  match x with
  | (p0, v201) =>
  if v201 < (p0.length : Int) then
    idx p0 v201 >>= fun v604 =>
    ((if v604.buffer < 0 then
      some true
    else
    some (decide (v604.offset < 0))
    ) >>= fun (v606 : Bool) =>
    (if v606 = true then
      some true
    else
    some (decide (v604.buffer > 100000))
    ) >>= fun (v607 : Bool) =>
    (if v607 = true then
      some true
    else
    some (decide (v604.offset > 100000))
    ) >>= fun (v608 : Bool) =>
    if v608 = true then
      some true
    else
    if v604.fill = true then
      (if v604.buffer ≠ 0 then
        some true
      else
      some (v604.offset != 0)
      ) >>= fun (v609 : Bool) =>
      some v609
    else
    some false
    ) >>= fun (v605 : Bool) =>
    if v605 = true then
      some (Sum.inl (v604.fill, v604.buffer, v604.offset))
    else
    m_law19_right_L1 (p0, (W (v201 + 1)))
  else
  some (Sum.inr ())
  partial_fixpoint
def P_law19_right_L1 : ((List T_ref16_Cell) × Int) → ((Bool × Int × Int) ⊕ Unit) → Prop := fun x r => match x with
  | (p0, v201) => ∀ st, prune 0 ((firstRegion (codeAt [1, 1, 0, 1, 0, 0] (bodyOf f6))).bind (env.hint 6).keepAt) st = ⟨kp 53 [(0, (.dat (.lst ((List.map T_ref16_Cell.toD) p0)))), (5, (intPV v201))], []⟩ →
    RL prog env (env.hint 6) true (codeAt [1, 1, 0, 1, 0, 0] (bodyOf f6)) 0 st (fun e s => match r with | .inl (v601, v602, v603) => e = .ret ∧ ∃ d, s = ⟨sl d 53 [(4, (boolPV false))], [(.box [(boolPV v601), (intPV v602), (intPV v603)])]⟩ | .inr (_) => e = .exit 0 ∧ ∃ d, s = ⟨sl d 53 [], []⟩)
theorem w_law19_right_L1 : ∀ x r, m_law19_right_L1 x = some r → P_law19_right_L1 x r := by
  refine m_law19_right_L1.partial_correctness _ (fun m_law19_right_L1 w_law19_right_L1 x r hm => ?_)
  unfold P_law19_right_L1
  obtain ⟨p0, v201⟩ := x
  intro st hst
  refine RL_at hst ?_
  clear hst
  refine R_seq ?_
  refine R_seq ?_
  refine R_G ?_
  refine G_run 2 ?_
  refine I_len T_ref16_Cell.toD p0 (es := (List.map T_ref16_Cell.toD) p0) rfl ?_
  refine G_run 1 ?_
  refine G_end ?_
  refine R_ifp (p := v201 < (p0.length : Int)) (rfl) (fun hc => ?_) (fun hc => ?_)
  · replace hm := pos_inv hc hm
    refine R_skip ?_
    refine R_seq ?_
    refine R_block ?_
    refine R_seq ?_
    refine R_G ?_
    refine G_run 2 ?_
    obtain ⟨v604, hx, hm⟩ := bind_inv hm
    refine I_idx 3 T_ref16_Cell.toD p0 v201 v604 (es := (List.map T_ref16_Cell.toD) p0) (d := (T_ref16_Cell.toD v604)) rfl hx rfl rfl ?_
    refine G_run 3 ?_
    refine G_end ?_
    refine R_seq ?_
    obtain ⟨v605, hs, hm⟩ := bind_inv hm
    refine R_cut (fun d => ⟨sl d 53 [(0, (.dat (.lst ((List.map T_ref16_Cell.toD) p0)))), (5, (intPV v201)), (52, (boolPV v605))], [(.box [(boolPV v604.fill), (intPV v604.buffer), (intPV v604.offset)])]⟩) ?_ (fun d => ?_)
    · replace hm := hs
      clear hs
      refine R_GN ?_
      refine G_run 4 ?_
      obtain ⟨v606, hs, hm⟩ := bind_inv hm
      refine G_cut (j := 8) (fun d => ⟨sl d 53 [(0, (.dat (.lst ((List.map T_ref16_Cell.toD) p0)))), (5, (intPV v201)), (6, (.ptr 0 0)), (11, (intPV v201)), (12, (.dat (.lst ((List.map T_ref16_Cell.toD) p0)))), (13, (intPV (p0.length : Int))), (14, (boolPV (decide (v201 < (p0.length : Int))))), (17, (.dat (.lst ((List.map T_ref16_Cell.toD) p0)))), (18, (intPV v201)), (19, (.iptr [(boolD v604.fill), (intD v604.buffer), (intD v604.offset)])), (20, (.dat (.agg [(boolD v604.fill), (intD v604.buffer), (intD v604.offset)]))), (21, (.ptr 0 1)), (22, (intPV v604.buffer)), (23, (boolPV (decide (v604.buffer < 0)))), (28, (boolPV v606))], [(.box [(boolPV v604.fill), (intPV v604.buffer), (intPV v604.offset)])]⟩) (fun d => ?_) (fun hJ => ?_)
      · clear hs
        refine G_run 1 ?_
        obtain ⟨v607, hs, hm⟩ := bind_inv hm
        refine G_cut (j := 13) (fun d => ⟨sl d 53 [(0, (.dat (.lst ((List.map T_ref16_Cell.toD) p0)))), (5, (intPV v201)), (6, (.ptr 0 0)), (11, (intPV v201)), (12, (.dat (.lst ((List.map T_ref16_Cell.toD) p0)))), (13, (intPV (p0.length : Int))), (14, (boolPV (decide (v201 < (p0.length : Int))))), (17, (.dat (.lst ((List.map T_ref16_Cell.toD) p0)))), (18, (intPV v201)), (19, (.iptr [(boolD v604.fill), (intD v604.buffer), (intD v604.offset)])), (20, (.dat (.agg [(boolD v604.fill), (intD v604.buffer), (intD v604.offset)]))), (21, (.ptr 0 1)), (22, (intPV v604.buffer)), (23, (boolPV (decide (v604.buffer < 0)))), (28, (boolPV v606)), (33, (boolPV v607))], [(.box [(boolPV v604.fill), (intPV v604.buffer), (intPV v604.offset)])]⟩) (fun d => ?_) (fun hJ => ?_)
        · clear hs
          refine G_run 1 ?_
          obtain ⟨v608, hs, hm⟩ := bind_inv hm
          refine G_cut (j := 18) (fun d => ⟨sl d 53 [(0, (.dat (.lst ((List.map T_ref16_Cell.toD) p0)))), (5, (intPV v201)), (6, (.ptr 0 0)), (11, (intPV v201)), (12, (.dat (.lst ((List.map T_ref16_Cell.toD) p0)))), (13, (intPV (p0.length : Int))), (14, (boolPV (decide (v201 < (p0.length : Int))))), (17, (.dat (.lst ((List.map T_ref16_Cell.toD) p0)))), (18, (intPV v201)), (19, (.iptr [(boolD v604.fill), (intD v604.buffer), (intD v604.offset)])), (20, (.dat (.agg [(boolD v604.fill), (intD v604.buffer), (intD v604.offset)]))), (21, (.ptr 0 1)), (22, (intPV v604.buffer)), (23, (boolPV (decide (v604.buffer < 0)))), (28, (boolPV v606)), (33, (boolPV v607)), (38, (boolPV v608))], [(.box [(boolPV v604.fill), (intPV v604.buffer), (intPV v604.offset)])]⟩) (fun d => ?_) (fun hJ => ?_)
          · clear hs
            refine G_run 1 ?_
            refine G_split (p := v608 = true) 39 (bool_dec _) (fun hc => ?_) (fun hc => ?_)
            · replace hm := pos_inv hc hm
              refine G_run 13 ?_
              refine G_end ⟨by kernel_rfl, ?_⟩
              obtain rfl := inj1 hm
              exact cut_leaf (by kernel_rfl)
            replace hm := neg_inv hc hm
            refine G_run 3 ?_
            refine G_split (p := v604.fill = true) 42 (bool_dec _) (fun hc => ?_) (fun hc => ?_)
            · replace hm := pos_inv hc hm
              refine G_run 4 ?_
              obtain ⟨v609, hs, hm⟩ := bind_inv hm
              refine G_cut (j := 30) (fun d => ⟨sl d 53 [(0, (.dat (.lst ((List.map T_ref16_Cell.toD) p0)))), (5, (intPV v201)), (6, (.ptr 0 0)), (11, (intPV v201)), (12, (.dat (.lst ((List.map T_ref16_Cell.toD) p0)))), (13, (intPV (p0.length : Int))), (14, (boolPV (decide (v201 < (p0.length : Int))))), (17, (.dat (.lst ((List.map T_ref16_Cell.toD) p0)))), (18, (intPV v201)), (19, (.iptr [(boolD v604.fill), (intD v604.buffer), (intD v604.offset)])), (20, (.dat (.agg [(boolD v604.fill), (intD v604.buffer), (intD v604.offset)]))), (21, (.ptr 0 1)), (22, (intPV v604.buffer)), (23, (boolPV (decide (v604.buffer < 0)))), (28, (boolPV v606)), (33, (boolPV v607)), (38, (boolPV v608)), (39, (boolPV false)), (40, (.ptr 0 0)), (41, (boolPV v604.fill)), (42, (boolPV true)), (43, (.ptr 0 1)), (44, (intPV v604.buffer)), (45, (boolPV (v604.buffer != 0))), (50, (boolPV v609))], [(.box [(boolPV v604.fill), (intPV v604.buffer), (intPV v604.offset)])]⟩) (fun d => ?_) (fun hJ => ?_)
              · clear hs
                refine G_run 2 ?_
                refine G_end ⟨by kernel_rfl, ?_⟩
                obtain rfl := inj1 hm
                exact cut_leaf (by kernel_rfl)
              replace hm := hs
              clear hs
              refine G_split (p := v604.buffer ≠ 0) 46 (ne_dec _ _) (fun hc => ?_) (fun hc => ?_)
              · replace hm := pos_inv hc hm
                refine G_run 4 ?_
                obtain rfl := inj1 hm
                exact hJ _ _ (by kernel_rfl) (by kernel_rfl)
              replace hm := neg_inv hc hm
              refine G_run 4 ?_
              obtain rfl := inj1 hm
              exact hJ _ _ (by kernel_rfl) (by kernel_rfl)
            replace hm := neg_inv hc hm
            refine G_run 10 ?_
            refine G_end ⟨by kernel_rfl, ?_⟩
            obtain rfl := inj1 hm
            exact cut_leaf (by kernel_rfl)
          replace hm := hs
          clear hs
          refine G_split (p := v607 = true) 34 (bool_dec _) (fun hc => ?_) (fun hc => ?_)
          · replace hm := pos_inv hc hm
            refine G_run 4 ?_
            obtain rfl := inj1 hm
            exact hJ _ _ (by kernel_rfl) (by kernel_rfl)
          replace hm := neg_inv hc hm
          refine G_run 4 ?_
          obtain rfl := inj1 hm
          exact hJ _ _ (by kernel_rfl) (by kernel_rfl)
        replace hm := hs
        clear hs
        refine G_split (p := v606 = true) 29 (bool_dec _) (fun hc => ?_) (fun hc => ?_)
        · replace hm := pos_inv hc hm
          refine G_run 4 ?_
          obtain rfl := inj1 hm
          exact hJ _ _ (by kernel_rfl) (by kernel_rfl)
        replace hm := neg_inv hc hm
        refine G_run 4 ?_
        obtain rfl := inj1 hm
        exact hJ _ _ (by kernel_rfl) (by kernel_rfl)
      replace hm := hs
      clear hs
      refine G_split (p := v604.buffer < 0) 24 (rfl) (fun hc => ?_) (fun hc => ?_)
      · replace hm := pos_inv hc hm
        refine G_run 4 ?_
        obtain rfl := inj1 hm
        exact hJ _ _ (by kernel_rfl) (by kernel_rfl)
      replace hm := neg_inv hc hm
      refine G_run 4 ?_
      obtain rfl := inj1 hm
      exact hJ _ _ (by kernel_rfl) (by kernel_rfl)
    clear hs
    refine R_ifp (p := v605 = true) (bool_dec _) (fun hc => ?_) (fun hc => ?_)
    · replace hm := pos_inv hc hm
      refine R_seq ?_
      refine R_G ?_
      refine G_run 1 ?_
      refine G_end ?_
      refine R_ret ?_
      obtain rfl := inj1 hm
      exact ⟨rfl, cut_leaf (by kernel_rfl)⟩
    replace hm := neg_inv hc hm
    refine R_skip ?_
    refine R_G ?_
    refine G_run 3 ?_
    refine G_end ?_
    exact w_law19_right_L1 _ _ hm _ (by kernel_rfl)
  replace hm := neg_inv hc hm
  refine R_exit ?_
  obtain rfl := inj1 hm
  exact ⟨rfl, cut_leaf (by kernel_rfl)⟩
def m_law19_right (x : ((List T_ref16_Cell) × Int)) : Option Bool :=
  match x with
  | (p0, p1) =>
  if (p0.length : Int) > p1 then
    some false
  else
  (
  m_law19_right_L1 (p0, 0) >>= fun (out : (Bool × Int × Int) ⊕ Unit) =>
  match out with
  | .inl (v601, v602, v603) =>
    some false
  | .inr (_) =>
    some true
  )
def P_law19_right : ((List T_ref16_Cell) × Int) → Bool → Prop := fun x r => match x, r with
  | (p0, p1), r0 => ∀ H, PC prog env 6 ([(.lst ((List.map T_ref16_Cell.toD) p0)), (intD p1)].map .dat) H (boolPV r0) H
theorem w_law19_right : ∀ x r, m_law19_right x = some r → P_law19_right x r := by
  intro x r0 hm
  unfold m_law19_right at hm
  unfold P_law19_right
  obtain ⟨p0, p1⟩ := x
  intro H
  refine PC_sx (ds := [(.lst ((List.map T_ref16_Cell.toD) p0)), (intD p1)]) (fn := f6) (by kernel_rfl) (by kernel_rfl) rfl ?_ (by kernel_rfl)
  refine R_seq ?_
  refine R_G ?_
  refine G_run 1 ?_
  refine G_end ?_
  refine R_seq ?_
  refine R_seq ?_
  refine R_G ?_
  refine G_run 1 ?_
  refine I_len T_ref16_Cell.toD p0 (es := (List.map T_ref16_Cell.toD) p0) rfl ?_
  refine G_run 2 ?_
  refine G_end ?_
  refine R_ifp (p := (p0.length : Int) > p1) (rfl) (fun hc => ?_) (fun hc => ?_)
  · replace hm := pos_inv hc hm
    refine R_seq ?_
    refine R_G ?_
    refine G_run 1 ?_
    refine G_end ?_
    refine R_ret ?_
    obtain rfl := inj1 hm
    exact ⟨trivial, fin_pure (by kernel_rfl)⟩
  replace hm := neg_inv hc hm
  refine R_skip ?_
  refine R_seq ?_
  refine R_seq ?_
  refine R_G ?_
  refine G_run 1 ?_
  refine G_end ?_
  refine R_block ?_
  obtain ⟨out, hs, hm⟩ := bind_inv hm
  refine R_loop ?_
  rcases out with ⟨v601, v602, v603⟩ | _
  · refine RL_use (w_law19_right_L1 _ _ hs) (by kernel_rfl) ?_
    clear hs
    intro e s hp
    obtain ⟨rfl, d, rfl⟩ := hp
    obtain rfl := inj1 hm
    exact ⟨trivial, fin_pure (by kernel_rfl)⟩
  · refine RL_use (w_law19_right_L1 _ _ hs) (by kernel_rfl) ?_
    clear hs
    intro e s hp
    obtain ⟨rfl, d, rfl⟩ := hp
    refine R_seq ?_
    refine R_G ?_
    refine G_run 1 ?_
    refine G_end ?_
    refine R_ret ?_
    obtain rfl := inj1 hm
    exact ⟨trivial, fin_pure (by kernel_rfl)⟩
end Go.Proofs.Try
namespace Go.Proofs.Try
open Go Go.Pm
set_option linter.unusedVariables false
set_option maxHeartbeats 2000000
set_option maxRecDepth 2000
def m_law19_cells_L1 (x : ((List T_ref16_Cell) × (List T_psi_Cell) × Int)) : Option ((List T_psi_Cell)) :=
  match x with
  | (p0, v201, v202) =>
  if v202 < (p0.length : Int) then
    idx p0 v202 >>= fun v602 =>
    app 24 v201 ([(⟨v602.fill, v602.buffer, v602.offset⟩ : T_psi_Cell)] : List T_psi_Cell) >>= fun v603 =>
    m_law19_cells_L1 (p0, v603, (W (v202 + 1)))
  else
  some v201
  partial_fixpoint
def P_law19_cells_L1 : ((List T_ref16_Cell) × (List T_psi_Cell) × Int) → (List T_psi_Cell) → Prop := fun x r => match x with
  | (p0, v201, v202) => ∀ st, prune 1 ((firstRegion (codeAt [1, 1, 0, 1, 0, 0] (bodyOf f8))).bind (env.hint 8).keepAt) st = ⟨kp 19 [(0, (.dat (.lst ((List.map T_ref16_Cell.toD) p0)))), (3, (.vec 0 ((List.map T_psi_Cell.toD) v201))), (4, (intPV v202))], [(.tok 38 v201.length)]⟩ →
    RL prog env (env.hint 8) true (codeAt [1, 1, 0, 1, 0, 0] (bodyOf f8)) 1 st (fun e s => match r with | v601 => e = .exit 0 ∧ ∃ d, s = ⟨sl d 19 [(3, (.vec 0 ((List.map T_psi_Cell.toD) v601)))], [(.tok 38 v601.length)]⟩)
theorem w_law19_cells_L1 : ∀ x r, m_law19_cells_L1 x = some r → P_law19_cells_L1 x r := by
  refine m_law19_cells_L1.partial_correctness _ (fun m_law19_cells_L1 w_law19_cells_L1 x r hm => ?_)
  unfold P_law19_cells_L1
  obtain ⟨p0, v201, v202⟩ := x
  intro st hst
  refine RL_at hst ?_
  clear hst
  refine R_seq ?_
  refine R_seq ?_
  refine R_G ?_
  refine G_run 2 ?_
  refine I_len T_ref16_Cell.toD p0 (es := (List.map T_ref16_Cell.toD) p0) rfl ?_
  refine G_run 1 ?_
  refine G_end ?_
  refine R_ifp (p := v202 < (p0.length : Int)) (rfl) (fun hc => ?_) (fun hc => ?_)
  · replace hm := pos_inv hc hm
    refine R_skip ?_
    refine R_seq ?_
    refine R_block ?_
    refine R_G ?_
    refine G_run 3 ?_
    obtain ⟨v602, hx, hm⟩ := bind_inv hm
    refine I_idx 3 T_ref16_Cell.toD p0 v202 v602 (es := (List.map T_ref16_Cell.toD) p0) (d := (T_ref16_Cell.toD v602)) rfl hx rfl rfl ?_
    refine G_run 2 ?_
    obtain ⟨v603, hx, hm⟩ := bind_inv hm
    refine I_app 38 3 24 0 T_psi_Cell.toD v201 ([(⟨v602.fill, v602.buffer, v602.offset⟩ : T_psi_Cell)] : List T_psi_Cell) v603 (xs := (List.map T_psi_Cell.toD) v201) (es := (List.map T_psi_Cell.toD) ([(⟨v602.fill, v602.buffer, v602.offset⟩ : T_psi_Cell)] : List T_psi_Cell)) (L := (List.map T_psi_Cell.toD)) (fun _ => rfl) rfl rfl T_psi_Cell.fit hx ?_
    refine G_run 1 ?_
    refine G_end ?_
    refine R_G ?_
    refine G_run 3 ?_
    refine G_end ?_
    exact w_law19_cells_L1 _ _ hm _ (by kernel_rfl)
  replace hm := neg_inv hc hm
  refine R_exit ?_
  obtain rfl := inj1 hm
  exact ⟨rfl, cut_leaf (by kernel_rfl)⟩
def m_law19_cells (x : (List T_ref16_Cell)) : Option (List T_psi_Cell) :=
  match x with
  | p0 =>
  m_law19_cells_L1 (p0, ([] : List T_psi_Cell), 0) >>= fun (v601 : (List T_psi_Cell)) =>
  some v601
def P_law19_cells : (List T_ref16_Cell) → (List T_psi_Cell) → Prop := fun x r => match x, r with
  | p0, r0 => ∀ H, PC prog env 8 ([(.lst ((List.map T_ref16_Cell.toD) p0))].map .dat) H (.dat (.lst ((List.map T_psi_Cell.toD) r0))) H
theorem w_law19_cells : ∀ x r, m_law19_cells x = some r → P_law19_cells x r := by
  intro p0 r0 hm
  unfold m_law19_cells at hm
  unfold P_law19_cells
  intro H
  refine PC_sx (ds := [(.lst ((List.map T_ref16_Cell.toD) p0))]) (fn := f8) (by kernel_rfl) (by kernel_rfl) rfl ?_ (by kernel_rfl)
  refine R_seq ?_
  refine R_G ?_
  refine G_run 1 ?_
  refine G_end ?_
  refine R_seq ?_
  refine R_G ?_
  refine G_run 1 ?_
  refine G_end ?_
  refine R_seq ?_
  refine R_seq ?_
  refine R_G ?_
  refine G_run 1 ?_
  refine G_end ?_
  refine R_block ?_
  obtain ⟨v601, hs, hm⟩ := bind_inv hm
  refine R_loop ?_
  refine RL_use (w_law19_cells_L1 _ _ hs) (by kernel_rfl) ?_
  clear hs
  intro e s hp
  obtain ⟨rfl, d, rfl⟩ := hp
  refine R_seq ?_
  refine R_G ?_
  refine G_run 2 ?_
  refine G_end ?_
  refine R_ret ?_
  obtain rfl := inj1 hm
  exact ⟨trivial, fin_pure (by kernel_rfl)⟩
end Go.Proofs.Try
namespace Go.Proofs.Try
open Go Go.Pm
set_option linter.unusedVariables false
set_option maxHeartbeats 2000000
set_option maxRecDepth 2000
def m_runs_begun (x : ((List T_psi_Cell) × Int)) : Option T_runs_Run :=
  match x with
  | (p0, p1) =>
  idx p0 0 >>= fun v1 =>
  idx p0 0 >>= fun v2 =>
  idx p0 0 >>= fun v3 =>
  ((if (p0.length : Int) > 1 then
    some (!v1.fill)
  else
  some false
  ) >>= fun (v5 : Bool) =>
  (if v5 = true then
    idx p0 1 >>= fun v7 =>
    some (!v7.fill)
  else
  some false
  ) >>= fun (v6 : Bool) =>
  if v6 = true then
    idx p0 1 >>= fun v8 =>
    some (v8.buffer == v2.buffer)
  else
  some false
  ) >>= fun (v4 : Bool) =>
  if v4 = true then
    idx p0 1 >>= fun v9 =>
    some (⟨p1, 1, v1.fill, v2.buffer, v3.offset, (W (v9.offset - v3.offset))⟩ : T_runs_Run)
  else
  some (⟨p1, 1, v1.fill, v2.buffer, v3.offset, 0⟩ : T_runs_Run)
def P_runs_begun : ((List T_psi_Cell) × Int) → T_runs_Run → Prop := fun x r => match x, r with
  | (p0, p1), r0 => ∀ H, PC prog env 16 ([(.lst ((List.map T_psi_Cell.toD) p0)), (intD p1)].map .dat) H (.dat (T_runs_Run.toD r0)) H
theorem w_runs_begun : ∀ x r, m_runs_begun x = some r → P_runs_begun x r := by
  intro x r0 hm
  unfold m_runs_begun at hm
  unfold P_runs_begun
  obtain ⟨p0, p1⟩ := x
  intro H
  refine PC_sx (ds := [(.lst ((List.map T_psi_Cell.toD) p0)), (intD p1)]) (fn := f16) (by kernel_rfl) (by kernel_rfl) rfl ?_ (by kernel_rfl)
  refine R_seq ?_
  refine R_G ?_
  refine G_run 1 ?_
  refine G_end ?_
  refine R_seq ?_
  refine R_GD ?_
  refine G_run 2 ?_
  obtain ⟨v1, hx, hm⟩ := bind_inv hm
  refine I_idx 3 T_psi_Cell.toD p0 0 v1 (es := (List.map T_psi_Cell.toD) p0) (d := (T_psi_Cell.toD v1)) rfl hx rfl rfl ?_
  refine G_run 3 ?_
  obtain ⟨v2, hx, hm⟩ := bind_inv hm
  refine I_idx 3 T_psi_Cell.toD p0 0 v2 (es := (List.map T_psi_Cell.toD) p0) (d := (T_psi_Cell.toD v2)) rfl hx rfl rfl ?_
  refine G_run 3 ?_
  obtain ⟨v3, hx, hm⟩ := bind_inv hm
  refine I_idx 3 T_psi_Cell.toD p0 0 v3 (es := (List.map T_psi_Cell.toD) p0) (d := (T_psi_Cell.toD v3)) rfl hx rfl rfl ?_
  refine G_run 5 ?_
  refine G_end ⟨by kernel_rfl, ?_⟩
  refine R_seq ?_
  refine R_seq ?_
  obtain ⟨v4, hs, hm⟩ := bind_inv hm
  refine R_cut (fun d => ⟨sl d 53 [(0, (.dat (.lst ((List.map T_psi_Cell.toD) p0)))), (4, (.ptr 0 0)), (5, (.ptr 1 0)), (43, (boolPV v4))], [(.box [(intPV 0), (intPV 0), (boolPV false), (intPV 0), (intPV 0), (intPV 0)]), (.box [(intPV p1), (intPV 1), (boolPV v1.fill), (intPV v2.buffer), (intPV v3.offset), (intPV 0)])]⟩) ?_ (fun d => ?_)
  · replace hm := hs
    clear hs
    refine R_GW ?_
    refine G_run 1 ?_
    refine I_len T_psi_Cell.toD p0 (es := (List.map T_psi_Cell.toD) p0) rfl ?_
    refine G_run 2 ?_
    obtain ⟨v5, hs, hm⟩ := bind_inv hm
    refine G_cut (j := 8) (fun d => ⟨sl d 53 [(0, (.dat (.lst ((List.map T_psi_Cell.toD) p0)))), (1, (intPV p1)), (4, (.ptr 0 0)), (5, (.ptr 1 0)), (6, (intPV p1)), (7, (.dat (.lst ((List.map T_psi_Cell.toD) p0)))), (8, (.iptr [(boolD v1.fill), (intD v1.buffer), (intD v1.offset)])), (9, (.iptr [(boolD v1.fill), (intD v1.buffer), (intD v1.offset)])), (10, (boolPV v1.fill)), (11, (.dat (.lst ((List.map T_psi_Cell.toD) p0)))), (12, (.iptr [(boolD v2.fill), (intD v2.buffer), (intD v2.offset)])), (13, (.iptr [(intD v2.buffer), (intD v2.offset)])), (14, (intPV v2.buffer)), (15, (.dat (.lst ((List.map T_psi_Cell.toD) p0)))), (16, (.iptr [(boolD v3.fill), (intD v3.buffer), (intD v3.offset)])), (17, (.iptr [(intD v3.offset)])), (18, (intPV v3.offset)), (19, (.dat (.agg [(intD p1), (intD 1), (boolD v1.fill), (intD v2.buffer), (intD v3.offset), (intD 0)]))), (20, (.dat (.lst ((List.map T_psi_Cell.toD) p0)))), (21, (intPV (p0.length : Int))), (22, (boolPV (decide ((p0.length : Int) > 1)))), (27, (boolPV v5))], [(.box [(intPV 0), (intPV 0), (boolPV false), (intPV 0), (intPV 0), (intPV 0)]), (.box [(intPV p1), (intPV 1), (boolPV v1.fill), (intPV v2.buffer), (intPV v3.offset), (intPV 0)])]⟩) (fun d => ?_) (fun hJ => ?_)
    · clear hs
      refine G_run 1 ?_
      obtain ⟨v6, hs, hm⟩ := bind_inv hm
      refine G_cut (j := 15) (fun d => ⟨sl d 53 [(0, (.dat (.lst ((List.map T_psi_Cell.toD) p0)))), (1, (intPV p1)), (4, (.ptr 0 0)), (5, (.ptr 1 0)), (6, (intPV p1)), (7, (.dat (.lst ((List.map T_psi_Cell.toD) p0)))), (8, (.iptr [(boolD v1.fill), (intD v1.buffer), (intD v1.offset)])), (9, (.iptr [(boolD v1.fill), (intD v1.buffer), (intD v1.offset)])), (10, (boolPV v1.fill)), (11, (.dat (.lst ((List.map T_psi_Cell.toD) p0)))), (12, (.iptr [(boolD v2.fill), (intD v2.buffer), (intD v2.offset)])), (13, (.iptr [(intD v2.buffer), (intD v2.offset)])), (14, (intPV v2.buffer)), (15, (.dat (.lst ((List.map T_psi_Cell.toD) p0)))), (16, (.iptr [(boolD v3.fill), (intD v3.buffer), (intD v3.offset)])), (17, (.iptr [(intD v3.offset)])), (18, (intPV v3.offset)), (19, (.dat (.agg [(intD p1), (intD 1), (boolD v1.fill), (intD v2.buffer), (intD v3.offset), (intD 0)]))), (20, (.dat (.lst ((List.map T_psi_Cell.toD) p0)))), (21, (intPV (p0.length : Int))), (22, (boolPV (decide ((p0.length : Int) > 1)))), (27, (boolPV v5)), (34, (boolPV v6))], [(.box [(intPV 0), (intPV 0), (boolPV false), (intPV 0), (intPV 0), (intPV 0)]), (.box [(intPV p1), (intPV 1), (boolPV v1.fill), (intPV v2.buffer), (intPV v3.offset), (intPV 0)])]⟩) (fun d => ?_) (fun hJ => ?_)
      · clear hs
        refine G_run 1 ?_
        refine G_split (p := v6 = true) 35 (bool_dec _) (fun hc => ?_) (fun hc => ?_)
        · replace hm := pos_inv hc hm
          refine G_run 1 ?_
          obtain ⟨v8, hx, hm⟩ := bind_inv hm
          refine I_idx 3 T_psi_Cell.toD p0 1 v8 (es := (List.map T_psi_Cell.toD) p0) (d := (T_psi_Cell.toD v8)) rfl hx rfl rfl ?_
          refine G_run 6 ?_
          refine G_end ⟨by kernel_rfl, ?_⟩
          obtain rfl := inj1 hm
          exact cut_leaf (by kernel_rfl)
        replace hm := neg_inv hc hm
        refine G_run 8 ?_
        refine G_end ⟨by kernel_rfl, ?_⟩
        obtain rfl := inj1 hm
        exact cut_leaf (by kernel_rfl)
      replace hm := hs
      clear hs
      refine G_split (p := v5 = true) 28 (bool_dec _) (fun hc => ?_) (fun hc => ?_)
      · replace hm := pos_inv hc hm
        refine G_run 1 ?_
        obtain ⟨v7, hx, hm⟩ := bind_inv hm
        refine I_idx 3 T_psi_Cell.toD p0 1 v7 (es := (List.map T_psi_Cell.toD) p0) (d := (T_psi_Cell.toD v7)) rfl hx rfl rfl ?_
        refine G_run 4 ?_
        obtain rfl := inj1 hm
        exact hJ _ _ (by kernel_rfl) (by kernel_rfl)
      replace hm := neg_inv hc hm
      refine G_run 6 ?_
      obtain rfl := inj1 hm
      exact hJ _ _ (by kernel_rfl) (by kernel_rfl)
    replace hm := hs
    clear hs
    refine G_split (p := (p0.length : Int) > 1) 23 (rfl) (fun hc => ?_) (fun hc => ?_)
    · replace hm := pos_inv hc hm
      refine G_run 4 ?_
      obtain rfl := inj1 hm
      exact hJ _ _ (by kernel_rfl) (by kernel_rfl)
    replace hm := neg_inv hc hm
    refine G_run 4 ?_
    obtain rfl := inj1 hm
    exact hJ _ _ (by kernel_rfl) (by kernel_rfl)
  clear hs
  refine R_ifp (p := v4 = true) (bool_dec _) (fun hc => ?_) (fun hc => ?_)
  · replace hm := pos_inv hc hm
    refine R_GD ?_
    refine G_run 1 ?_
    obtain ⟨v9, hx, hm⟩ := bind_inv hm
    refine I_idx 3 T_psi_Cell.toD p0 1 v9 (es := (List.map T_psi_Cell.toD) p0) (d := (T_psi_Cell.toD v9)) rfl hx rfl rfl ?_
    refine G_run 7 ?_
    refine G_end ⟨by kernel_rfl, ?_⟩
    refine R_seq ?_
    refine R_G ?_
    refine G_run 2 ?_
    refine G_end ?_
    refine R_ret ?_
    obtain rfl := inj1 hm
    exact ⟨trivial, fin_pure (by kernel_rfl)⟩
  replace hm := neg_inv hc hm
  refine R_skip ?_
  refine R_seq ?_
  refine R_G ?_
  refine G_run 2 ?_
  refine G_end ?_
  refine R_ret ?_
  obtain rfl := inj1 hm
  exact ⟨trivial, fin_pure (by kernel_rfl)⟩
end Go.Proofs.Try
namespace Go.Proofs.Try
open Go Go.Pm
set_option linter.unusedVariables false
set_option maxHeartbeats 2000000
set_option maxRecDepth 2000
def m_runs_Run_cell (x : (T_runs_Run × Int)) : Option T_psi_Cell :=
  match x with
  | (p0, p1) =>
  if p0.fill = true then
    some (⟨true, 0, 0⟩ : T_psi_Cell)
  else
  some (⟨false, p0.buffer, (W (p0.offset + (W (p1 * p0.step))))⟩ : T_psi_Cell)
def P_runs_Run_cell : (T_runs_Run × Int) → T_psi_Cell → Prop := fun x r => match x, r with
  | (p0, p1), r0 => ∀ H, PC prog env 17 ([(T_runs_Run.toD p0), (intD p1)].map .dat) H (.dat (T_psi_Cell.toD r0)) H
theorem w_runs_Run_cell : ∀ x r, m_runs_Run_cell x = some r → P_runs_Run_cell x r := by
  intro x r0 hm
  unfold m_runs_Run_cell at hm
  unfold P_runs_Run_cell
  obtain ⟨p0, p1⟩ := x
  intro H
  refine PC_sx (ds := [(T_runs_Run.toD p0), (intD p1)]) (fn := f17) (by kernel_rfl) (by kernel_rfl) rfl ?_ (by kernel_rfl)
  refine R_seq ?_
  refine R_G ?_
  refine G_run 2 ?_
  refine G_end ?_
  refine R_seq ?_
  refine R_seq ?_
  refine R_G ?_
  refine G_run 2 ?_
  refine G_end ?_
  refine R_ifp (p := p0.fill = true) (bool_dec _) (fun hc => ?_) (fun hc => ?_)
  · replace hm := pos_inv hc hm
    refine R_seq ?_
    refine R_G ?_
    refine G_run 2 ?_
    refine G_end ?_
    refine R_ret ?_
    obtain rfl := inj1 hm
    exact ⟨trivial, fin_pure (by kernel_rfl)⟩
  replace hm := neg_inv hc hm
  refine R_skip ?_
  refine R_seq ?_
  refine R_G ?_
  refine G_run 11 ?_
  refine G_end ?_
  refine R_ret ?_
  obtain rfl := inj1 hm
  exact ⟨trivial, fin_pure (by kernel_rfl)⟩
end Go.Proofs.Try
namespace Go.Proofs.Try
open Go Go.Pm
set_option linter.unusedVariables false
set_option maxHeartbeats 2000000
set_option maxRecDepth 2000
def m_runs_Of_L2 (x : ((List T_psi_Cell) × T_runs_Run × (List T_runs_Run) × Int × Int)) : Option ((Int × (List T_runs_Run) × Int)) :=
  match x with
  | (p0, v603, v201, v804, v805) =>
  (if (W (v805 + 1)) = (p0.length : Int) then
    some true
  else
  idx p0 (W (v805 + 1)) >>= fun v1208 =>
  m_runs_Run_cell ((⟨v603.at0_, v804, v603.fill, v603.buffer, v603.offset, v603.step⟩ : T_runs_Run), v804) >>= fun (v1209 : T_psi_Cell) =>
  some (!((v1208.fill == v1209.fill) && ((v1208.buffer == v1209.buffer) && ((v1208.offset == v1209.offset) && true))))
  ) >>= fun (v1207 : Bool) =>
  if v1207 = true then
    app 48 v201 ([(⟨v603.at0_, v804, v603.fill, v603.buffer, v603.offset, v603.step⟩ : T_runs_Run)] : List T_runs_Run) >>= fun v1210 =>
    some (v804, v1210, (W (v805 + 1)))
  else
  m_runs_Of_L2 (p0, v603, v201, (W (v804 + 1)), (W (v805 + 1)))
  partial_fixpoint
def P_runs_Of_L2 : ((List T_psi_Cell) × T_runs_Run × (List T_runs_Run) × Int × Int) → (Int × (List T_runs_Run) × Int) → Prop := fun x r => match x with
  | (p0, v603, v201, v804, v805) => ∀ st, prune 2 ((firstRegion (codeAt [1, 0, 1, 1, 0, 1, 0, 0, 1, 0, 1, 0, 0] (bodyOf f7))).bind (env.hint 7).keepAt) st = ⟨kp 41 [(0, (.dat (.lst ((List.map T_psi_Cell.toD) p0)))), (3, (.vec 0 ((List.map T_runs_Run.toD) v201))), (4, (intPV v805)), (5, (.ptr 1 0))], [(.tok 42 v201.length), (.box [(intPV v603.at0_), (intPV v804), (boolPV v603.fill), (intPV v603.buffer), (intPV v603.offset), (intPV v603.step)])]⟩ →
    RL prog env (env.hint 7) true (codeAt [1, 0, 1, 1, 0, 1, 0, 0, 1, 0, 1, 0, 0] (bodyOf f7)) 2 st (fun e s => match r with | (v1204, v1205, v1206) => e = .exit 1 ∧ ∃ d, s = ⟨sl d 41 [(0, (.dat (.lst ((List.map T_psi_Cell.toD) p0)))), (3, (.vec 0 ((List.map T_runs_Run.toD) v1205))), (4, (intPV v1206))], [(.tok 42 v1205.length), (.box [(intPV v603.at0_), (intPV v1204), (boolPV v603.fill), (intPV v603.buffer), (intPV v603.offset), (intPV v603.step)])]⟩)
theorem w_runs_Of_L2 : ∀ x r, m_runs_Of_L2 x = some r → P_runs_Of_L2 x r := by
  refine m_runs_Of_L2.partial_correctness _ (fun m_runs_Of_L2 w_runs_Of_L2 x r hm => ?_)
  unfold P_runs_Of_L2
  obtain ⟨p0, v603, v201, v804, v805⟩ := x
  intro st hst
  refine RL_at hst ?_
  clear hst
  refine R_block ?_
  refine R_seq ?_
  refine R_seq ?_
  refine R_G ?_
  refine G_run 3 ?_
  refine G_end ?_
  refine R_seq ?_
  obtain ⟨v1207, hs, hm⟩ := bind_inv hm
  refine R_cut (fun d => ⟨sl d 41 [(0, (.dat (.lst ((List.map T_psi_Cell.toD) p0)))), (3, (.vec 0 ((List.map T_runs_Run.toD) v201))), (4, (intPV (W (v805 + 1)))), (5, (.ptr 1 0)), (31, (boolPV v1207))], [(.tok 42 v201.length), (.box [(intPV v603.at0_), (intPV v804), (boolPV v603.fill), (intPV v603.buffer), (intPV v603.offset), (intPV v603.step)])]⟩) ?_ (fun d => ?_)
  · replace hm := hs
    clear hs
    refine R_GD ?_
    refine G_run 2 ?_
    refine I_len T_psi_Cell.toD p0 (es := (List.map T_psi_Cell.toD) p0) rfl ?_
    refine G_run 2 ?_
    refine G_split (p := (W (v805 + 1)) = (p0.length : Int)) 21 (eq_dec _ _) (fun hc => ?_) (fun hc => ?_)
    · replace hm := pos_inv hc hm
      refine G_run 10 ?_
      refine G_end ⟨by kernel_rfl, ?_⟩
      obtain rfl := inj1 hm
      exact cut_leaf (by kernel_rfl)
    replace hm := neg_inv hc hm
    refine G_run 2 ?_
    obtain ⟨v1208, hx, hm⟩ := bind_inv hm
    refine I_idx 3 T_psi_Cell.toD p0 (W (v805 + 1)) v1208 (es := (List.map T_psi_Cell.toD) p0) (d := (T_psi_Cell.toD v1208)) rfl hx rfl rfl ?_
    refine G_run 4 ?_
    obtain ⟨v1209, hx, hm⟩ := bind_inv hm
    have hq := w_runs_Run_cell _ _ hx []
    refine G_callP hq ?_
    refine G_semN rfl (by kernel_rfl) (fun _ => E_neqS (t := 38) (xs := #[.bool v1208.fill, .int .i64 v1208.buffer, .int .i64 v1208.offset]) (ys := #[.bool v1209.fill, .int .i64 v1209.buffer, .int .i64 v1209.offset]) (b := ((v1208.fill == v1209.fill) && ((v1208.buffer == v1209.buffer) && ((v1208.offset == v1209.offset) && true)))) rfl (by kernel_rfl) (by kernel_rfl) (SEq_of (fs := prog.fieldsOf 38) (by kernel_rfl) (by kernel_rfl) (by kernel_rfl) (by kernel_rfl))) ?_
    refine G_run 1 ?_
    refine G_end ⟨by kernel_rfl, ?_⟩
    obtain rfl := inj1 hm
    exact cut_leaf (by kernel_rfl)
  clear hs
  refine R_ifp (p := v1207 = true) (bool_dec _) (fun hc => ?_) (fun hc => ?_)
  · replace hm := pos_inv hc hm
    refine R_seq ?_
    refine R_G ?_
    refine G_run 3 ?_
    obtain ⟨v1210, hx, hm⟩ := bind_inv hm
    refine I_app 42 6 48 0 T_runs_Run.toD v201 ([(⟨v603.at0_, v804, v603.fill, v603.buffer, v603.offset, v603.step⟩ : T_runs_Run)] : List T_runs_Run) v1210 (xs := (List.map T_runs_Run.toD) v201) (es := (List.map T_runs_Run.toD) ([(⟨v603.at0_, v804, v603.fill, v603.buffer, v603.offset, v603.step⟩ : T_runs_Run)] : List T_runs_Run)) (L := (List.map T_runs_Run.toD)) (fun _ => rfl) rfl rfl T_runs_Run.fit hx ?_
    refine G_run 1 ?_
    refine G_end ?_
    refine R_exit ?_
    obtain rfl := inj1 hm
    exact ⟨rfl, cut_leaf (by kernel_rfl)⟩
  replace hm := neg_inv hc hm
  refine R_skip ?_
  refine R_G ?_
  refine G_run 5 ?_
  refine G_end ?_
  exact w_runs_Of_L2 _ _ hm _ (by kernel_rfl)
def m_runs_Of_L1 (x : ((List T_psi_Cell) × (List T_runs_Run) × Int)) : Option ((List T_runs_Run)) :=
  match x with
  | (p0, v201, v202) =>
  if v202 < (p0.length : Int) then
    sub p0 v202 (p0.length : Int) >>= fun v602 =>
    m_runs_begun (v602, v202) >>= fun (v603 : T_runs_Run) =>
    m_runs_Of_L2 (p0, v603, v201, v603.len, v202) >>= fun ((v1204, v1205, v1206) : (Int × (List T_runs_Run) × Int)) =>
    m_runs_Of_L1 (p0, v1205, v1206)
  else
  some v201
  partial_fixpoint
def P_runs_Of_L1 : ((List T_psi_Cell) × (List T_runs_Run) × Int) → (List T_runs_Run) → Prop := fun x r => match x with
  | (p0, v201, v202) => ∀ st, prune 1 ((firstRegion (codeAt [1, 0, 1, 1, 0, 1, 0, 0] (bodyOf f7))).bind (env.hint 7).keepAt) st = ⟨kp 41 [(0, (.dat (.lst ((List.map T_psi_Cell.toD) p0)))), (3, (.vec 0 ((List.map T_runs_Run.toD) v201))), (4, (intPV v202))], [(.tok 42 v201.length)]⟩ →
    RL prog env (env.hint 7) true (codeAt [1, 0, 1, 1, 0, 1, 0, 0] (bodyOf f7)) 1 st (fun e s => match r with | v601 => e = .exit 0 ∧ ∃ d, s = ⟨sl d 41 [(3, (.vec 0 ((List.map T_runs_Run.toD) v601)))], [(.tok 42 v601.length)]⟩)
theorem w_runs_Of_L1 : ∀ x r, m_runs_Of_L1 x = some r → P_runs_Of_L1 x r := by
  refine m_runs_Of_L1.partial_correctness _ (fun m_runs_Of_L1 w_runs_Of_L1 x r hm => ?_)
  unfold P_runs_Of_L1
  obtain ⟨p0, v201, v202⟩ := x
  intro st hst
  refine RL_at hst ?_
  clear hst
  refine R_seq ?_
  refine R_seq ?_
  refine R_G ?_
  refine G_run 2 ?_
  refine I_len T_psi_Cell.toD p0 (es := (List.map T_psi_Cell.toD) p0) rfl ?_
  refine G_run 1 ?_
  refine G_end ?_
  refine R_ifp (p := v202 < (p0.length : Int)) (rfl) (fun hc => ?_) (fun hc => ?_)
  · replace hm := pos_inv hc hm
    refine R_skip ?_
    refine R_block ?_
    refine R_seq ?_
    refine R_G ?_
    refine G_run 2 ?_
    obtain ⟨v602, hx, hm⟩ := bind_inv hm
    refine I_sub 3 T_psi_Cell.toD p0 v602 v202 (p0.length : Int) (es := (List.map T_psi_Cell.toD) p0) (L := (List.map T_psi_Cell.toD)) (a := natI v202) (b := some ((List.map T_psi_Cell.toD) p0).length) (fun _ => rfl) rfl (fun _ => by first | rfl | exact num_of_fit (T_psi_Cell.fit _)) hx rfl (Or.inr ⟨rfl, rfl⟩) ?_
    refine G_run 1 ?_
    obtain ⟨v603, hx, hm⟩ := bind_inv hm
    have hq := w_runs_begun _ _ hx []
    refine G_callP hq ?_
    refine G_run 2 ?_
    refine G_end ?_
    refine R_block ?_
    obtain ⟨⟨v1204, v1205, v1206⟩, hs, hm⟩ := bind_inv hm
    refine R_loop ?_
    refine RL_use (w_runs_Of_L2 _ _ hs) (by kernel_rfl) ?_
    clear hs
    intro e s hp
    obtain ⟨rfl, d, rfl⟩ := hp
    exact w_runs_Of_L1 _ _ hm _ (by kernel_rfl)
  replace hm := neg_inv hc hm
  refine R_exit ?_
  obtain rfl := inj1 hm
  exact ⟨rfl, cut_leaf (by kernel_rfl)⟩
def m_runs_Of (x : (List T_psi_Cell)) : Option (List T_runs_Run) :=
  match x with
  | p0 =>
  m_runs_Of_L1 (p0, ([] : List T_runs_Run), 0) >>= fun (v601 : (List T_runs_Run)) =>
  some v601
def P_runs_Of : (List T_psi_Cell) → (List T_runs_Run) → Prop := fun x r => match x, r with
  | p0, r0 => ∀ H, PC prog env 7 ([(.lst ((List.map T_psi_Cell.toD) p0))].map .dat) H (.dat (.lst ((List.map T_runs_Run.toD) r0))) H
theorem w_runs_Of : ∀ x r, m_runs_Of x = some r → P_runs_Of x r := by
  intro p0 r0 hm
  unfold m_runs_Of at hm
  unfold P_runs_Of
  intro H
  refine PC_sx (ds := [(.lst ((List.map T_psi_Cell.toD) p0))]) (fn := f7) (by kernel_rfl) (by kernel_rfl) rfl ?_ (by kernel_rfl)
  refine R_seq ?_
  refine R_G ?_
  refine G_run 1 ?_
  refine G_end ?_
  refine R_scope ?_
  refine R_seq ?_
  refine R_G ?_
  refine G_run 1 ?_
  refine G_end ?_
  refine R_seq ?_
  refine R_label ?_
  refine R_seq ?_
  refine R_seq ?_
  refine R_G ?_
  refine G_run 1 ?_
  refine G_end ?_
  refine R_block ?_
  obtain ⟨v601, hs, hm⟩ := bind_inv hm
  refine R_loop ?_
  refine RL_use (w_runs_Of_L1 _ _ hs) (by kernel_rfl) ?_
  clear hs
  intro e s hp
  obtain ⟨rfl, d, rfl⟩ := hp
  refine R_seq ?_
  refine R_G ?_
  refine G_run 2 ?_
  refine G_end ?_
  refine R_ret ?_
  obtain rfl := inj1 hm
  exact ⟨trivial, fin_pure (by kernel_rfl)⟩
end Go.Proofs.Try
namespace Go.Proofs.Try
open Go Go.Pm
set_option linter.unusedVariables false
set_option maxHeartbeats 2000000
set_option maxRecDepth 2000
def m_size_check_1 (x : Int) : Option Bool :=
  match x with
  | p0 =>
  some (decide (p0 < 0))
def P_size_check_1 : Int → Bool → Prop := fun x r => match x, r with
  | p0, r0 => ∀ H, PC prog env 75 ([(intD p0)].map .dat) H (boolPV r0) H
theorem w_size_check_1 : ∀ x r, m_size_check_1 x = some r → P_size_check_1 x r := by
  intro p0 r0 hm
  unfold m_size_check_1 at hm
  unfold P_size_check_1
  intro H
  refine PC_sx (ds := [(intD p0)]) (fn := f75) (by kernel_rfl) (by kernel_rfl) rfl ?_ (by kernel_rfl)
  refine R_seq ?_
  refine R_G ?_
  refine G_run 1 ?_
  refine G_end ?_
  refine R_seq ?_
  refine R_G ?_
  refine G_run 3 ?_
  refine G_end ?_
  refine R_ret ?_
  obtain rfl := inj1 hm
  exact ⟨trivial, fin_pure (by kernel_rfl)⟩
end Go.Proofs.Try
namespace Go.Proofs.Try
open Go Go.Pm
set_option linter.unusedVariables false
set_option maxHeartbeats 2000000
set_option maxRecDepth 2000
def m_slices_IndexFunc_int_int_size_check_1_L1 (x : ((List Int) × Int)) : Option (Int ⊕ Unit) :=
  match x with
  | (p0, v201) =>
  if v201 < (p0.length : Int) then
    idx p0 v201 >>= fun v602 =>
    m_size_check_1 v602 >>= fun (v603 : Bool) =>
    if v603 = true then
      some (Sum.inl v201)
    else
    m_slices_IndexFunc_int_int_size_check_1_L1 (p0, (W (v201 + 1)))
  else
  some (Sum.inr ())
  partial_fixpoint
def P_slices_IndexFunc_int_int_size_check_1_L1 : ((List Int) × Int) → (Int ⊕ Unit) → Prop := fun x r => match x with
  | (p0, v201) => ∀ st, prune 0 ((firstRegion (codeAt [1, 0, 1, 0, 0] (bodyOf f69))).bind (env.hint 69).keepAt) st = ⟨kp 19 [(0, (.dat (.lst ((List.map intD) p0)))), (1, (.dat (.raw (.func (.func 75) #[] #[])))), (7, (intPV (p0.length : Int))), (8, (intPV v201))], []⟩ →
    RL prog env (env.hint 69) true (codeAt [1, 0, 1, 0, 0] (bodyOf f69)) 0 st (fun e s => match r with | .inl v601 => e = .ret ∧ ∃ d, s = ⟨sl d 19 [(4, (intPV v601))], []⟩ | .inr (_) => e = .exit 0 ∧ ∃ d, s = ⟨sl d 19 [], []⟩)
theorem w_slices_IndexFunc_int_int_size_check_1_L1 : ∀ x r, m_slices_IndexFunc_int_int_size_check_1_L1 x = some r → P_slices_IndexFunc_int_int_size_check_1_L1 x r := by
  refine m_slices_IndexFunc_int_int_size_check_1_L1.partial_correctness _ (fun m_slices_IndexFunc_int_int_size_check_1_L1 w_slices_IndexFunc_int_int_size_check_1_L1 x r hm => ?_)
  unfold P_slices_IndexFunc_int_int_size_check_1_L1
  obtain ⟨p0, v201⟩ := x
  intro st hst
  refine RL_at hst ?_
  clear hst
  refine R_seq ?_
  refine R_G ?_
  refine G_run 1 ?_
  refine G_end ?_
  refine R_seq ?_
  refine R_ifp (p := v201 < (p0.length : Int)) (rfl) (fun hc => ?_) (fun hc => ?_)
  · replace hm := pos_inv hc hm
    refine R_skip ?_
    refine R_seq ?_
    refine R_block ?_
    refine R_seq ?_
    refine R_G ?_
    refine G_run 2 ?_
    refine G_end ?_
    refine R_seq ?_
    refine R_G ?_
    refine G_run 3 ?_
    obtain ⟨v602, hx, hm⟩ := bind_inv hm
    refine I_idx 1 intD p0 v201 v602 (es := (List.map intD) p0) (d := (intD v602)) rfl hx rfl rfl ?_
    refine G_run 1 ?_
    obtain ⟨v603, hx, hm⟩ := bind_inv hm
    have hq := w_size_check_1 _ _ hx []
    refine G_callP hq ?_
    refine G_end ?_
    refine R_ifp (p := v603 = true) (bool_dec _) (fun hc => ?_) (fun hc => ?_)
    · replace hm := pos_inv hc hm
      refine R_seq ?_
      refine R_G ?_
      refine G_run 2 ?_
      refine G_end ?_
      refine R_ret ?_
      obtain rfl := inj1 hm
      exact ⟨rfl, cut_leaf (by kernel_rfl)⟩
    replace hm := neg_inv hc hm
    refine R_skip ?_
    refine R_G ?_
    refine G_run 2 ?_
    refine G_end ?_
    exact w_slices_IndexFunc_int_int_size_check_1_L1 _ _ hm _ (by kernel_rfl)
  replace hm := neg_inv hc hm
  refine R_exit ?_
  obtain rfl := inj1 hm
  exact ⟨rfl, cut_leaf (by kernel_rfl)⟩
def m_slices_IndexFunc_int_int_size_check_1 (x : (List Int)) : Option Int :=
  match x with
  | p0 =>
  (
  m_slices_IndexFunc_int_int_size_check_1_L1 (p0, 0) >>= fun (out : Int ⊕ Unit) =>
  match out with
  | .inl v601 =>
    some v601
  | .inr (_) =>
    some (-1)
  )
def P_slices_IndexFunc_int_int_size_check_1 : (List Int) → Int → Prop := fun x r => match x, r with
  | p0, r0 => ∀ H, PC prog env 69 ([(.lst ((List.map intD) p0)), (.raw (.func (.func 75) #[] #[]))].map .dat) H (intPV r0) H
theorem w_slices_IndexFunc_int_int_size_check_1 : ∀ x r, m_slices_IndexFunc_int_int_size_check_1 x = some r → P_slices_IndexFunc_int_int_size_check_1 x r := by
  intro p0 r0 hm
  unfold m_slices_IndexFunc_int_int_size_check_1 at hm
  unfold P_slices_IndexFunc_int_int_size_check_1
  intro H
  refine PC_sx (ds := [(.lst ((List.map intD) p0)), (.raw (.func (.func 75) #[] #[]))]) (fn := f69) (by kernel_rfl) (by kernel_rfl) rfl ?_ (by kernel_rfl)
  refine R_seq ?_
  refine R_G ?_
  refine G_run 1 ?_
  refine G_end ?_
  refine R_seq ?_
  refine R_seq ?_
  refine R_G ?_
  refine G_run 1 ?_
  refine I_len intD p0 (es := (List.map intD) p0) rfl ?_
  refine G_run 1 ?_
  refine G_end ?_
  refine R_block ?_
  obtain ⟨out, hs, hm⟩ := bind_inv hm
  refine R_loop ?_
  rcases out with v601 | _
  · refine RL_use (w_slices_IndexFunc_int_int_size_check_1_L1 _ _ hs) (by kernel_rfl) ?_
    clear hs
    intro e s hp
    obtain ⟨rfl, d, rfl⟩ := hp
    obtain rfl := inj1 hm
    exact ⟨trivial, fin_pure (by kernel_rfl)⟩
  · refine RL_use (w_slices_IndexFunc_int_int_size_check_1_L1 _ _ hs) (by kernel_rfl) ?_
    clear hs
    intro e s hp
    obtain ⟨rfl, d, rfl⟩ := hp
    refine R_seq ?_
    refine R_G ?_
    refine G_run 1 ?_
    refine G_end ?_
    refine R_ret ?_
    obtain rfl := inj1 hm
    exact ⟨trivial, fin_pure (by kernel_rfl)⟩
end Go.Proofs.Try
namespace Go.Proofs.Try
open Go Go.Pm
set_option linter.unusedVariables false
set_option maxHeartbeats 2000000
set_option maxRecDepth 2000
def m_slices_ContainsFunc_int_int_size_check_1 (x : (List Int)) : Option Bool :=
  match x with
  | p0 =>
  m_slices_IndexFunc_int_int_size_check_1 p0 >>= fun (v1 : Int) =>
  some (decide (v1 ≥ 0))
def P_slices_ContainsFunc_int_int_size_check_1 : (List Int) → Bool → Prop := fun x r => match x, r with
  | p0, r0 => ∀ H, PC prog env 47 ([(.lst ((List.map intD) p0)), (.raw (.func (.func 75) #[] #[]))].map .dat) H (boolPV r0) H
theorem w_slices_ContainsFunc_int_int_size_check_1 : ∀ x r, m_slices_ContainsFunc_int_int_size_check_1 x = some r → P_slices_ContainsFunc_int_int_size_check_1 x r := by
  intro p0 r0 hm
  unfold m_slices_ContainsFunc_int_int_size_check_1 at hm
  unfold P_slices_ContainsFunc_int_int_size_check_1
  intro H
  refine PC_sx (ds := [(.lst ((List.map intD) p0)), (.raw (.func (.func 75) #[] #[]))]) (fn := f47) (by kernel_rfl) (by kernel_rfl) rfl ?_ (by kernel_rfl)
  refine R_seq ?_
  refine R_G ?_
  refine G_run 1 ?_
  refine G_end ?_
  refine R_seq ?_
  refine R_G ?_
  refine G_run 2 ?_
  obtain ⟨v1, hx, hm⟩ := bind_inv hm
  have hq := w_slices_IndexFunc_int_int_size_check_1 _ _ hx []
  refine G_callP hq ?_
  refine G_run 2 ?_
  refine G_end ?_
  refine R_ret ?_
  obtain rfl := inj1 hm
  exact ⟨trivial, fin_pure (by kernel_rfl)⟩
end Go.Proofs.Try
namespace Go.Proofs.Try
open Go Go.Pm
set_option linter.unusedVariables false
set_option maxHeartbeats 2000000
set_option maxRecDepth 2000
def m_size_check_2 (x : Int) : Option Bool :=
  match x with
  | p0 =>
  some (decide (p0 > 65536))
def P_size_check_2 : Int → Bool → Prop := fun x r => match x, r with
  | p0, r0 => ∀ H, PC prog env 76 ([(intD p0)].map .dat) H (boolPV r0) H
theorem w_size_check_2 : ∀ x r, m_size_check_2 x = some r → P_size_check_2 x r := by
  intro p0 r0 hm
  unfold m_size_check_2 at hm
  unfold P_size_check_2
  intro H
  refine PC_sx (ds := [(intD p0)]) (fn := f76) (by kernel_rfl) (by kernel_rfl) rfl ?_ (by kernel_rfl)
  refine R_seq ?_
  refine R_G ?_
  refine G_run 1 ?_
  refine G_end ?_
  refine R_seq ?_
  refine R_G ?_
  refine G_run 3 ?_
  refine G_end ?_
  refine R_ret ?_
  obtain rfl := inj1 hm
  exact ⟨trivial, fin_pure (by kernel_rfl)⟩
end Go.Proofs.Try
namespace Go.Proofs.Try
open Go Go.Pm
set_option linter.unusedVariables false
set_option maxHeartbeats 2000000
set_option maxRecDepth 2000
def m_slices_IndexFunc_int_int_size_check_2_L1 (x : ((List Int) × Int)) : Option (Int ⊕ Unit) :=
  match x with
  | (p0, v201) =>
  if v201 < (p0.length : Int) then
    idx p0 v201 >>= fun v602 =>
    m_size_check_2 v602 >>= fun (v603 : Bool) =>
    if v603 = true then
      some (Sum.inl v201)
    else
    m_slices_IndexFunc_int_int_size_check_2_L1 (p0, (W (v201 + 1)))
  else
  some (Sum.inr ())
  partial_fixpoint
def P_slices_IndexFunc_int_int_size_check_2_L1 : ((List Int) × Int) → (Int ⊕ Unit) → Prop := fun x r => match x with
  | (p0, v201) => ∀ st, prune 0 ((firstRegion (codeAt [1, 0, 1, 0, 0] (bodyOf f69))).bind (env.hint 69).keepAt) st = ⟨kp 19 [(0, (.dat (.lst ((List.map intD) p0)))), (1, (.dat (.raw (.func (.func 76) #[] #[])))), (7, (intPV (p0.length : Int))), (8, (intPV v201))], []⟩ →
    RL prog env (env.hint 69) true (codeAt [1, 0, 1, 0, 0] (bodyOf f69)) 0 st (fun e s => match r with | .inl v601 => e = .ret ∧ ∃ d, s = ⟨sl d 19 [(4, (intPV v601))], []⟩ | .inr (_) => e = .exit 0 ∧ ∃ d, s = ⟨sl d 19 [], []⟩)
theorem w_slices_IndexFunc_int_int_size_check_2_L1 : ∀ x r, m_slices_IndexFunc_int_int_size_check_2_L1 x = some r → P_slices_IndexFunc_int_int_size_check_2_L1 x r := by
  refine m_slices_IndexFunc_int_int_size_check_2_L1.partial_correctness _ (fun m_slices_IndexFunc_int_int_size_check_2_L1 w_slices_IndexFunc_int_int_size_check_2_L1 x r hm => ?_)
  unfold P_slices_IndexFunc_int_int_size_check_2_L1
  obtain ⟨p0, v201⟩ := x
  intro st hst
  refine RL_at hst ?_
  clear hst
  refine R_seq ?_
  refine R_G ?_
  refine G_run 1 ?_
  refine G_end ?_
  refine R_seq ?_
  refine R_ifp (p := v201 < (p0.length : Int)) (rfl) (fun hc => ?_) (fun hc => ?_)
  · replace hm := pos_inv hc hm
    refine R_skip ?_
    refine R_seq ?_
    refine R_block ?_
    refine R_seq ?_
    refine R_G ?_
    refine G_run 2 ?_
    refine G_end ?_
    refine R_seq ?_
    refine R_G ?_
    refine G_run 3 ?_
    obtain ⟨v602, hx, hm⟩ := bind_inv hm
    refine I_idx 1 intD p0 v201 v602 (es := (List.map intD) p0) (d := (intD v602)) rfl hx rfl rfl ?_
    refine G_run 1 ?_
    obtain ⟨v603, hx, hm⟩ := bind_inv hm
    have hq := w_size_check_2 _ _ hx []
    refine G_callP hq ?_
    refine G_end ?_
    refine R_ifp (p := v603 = true) (bool_dec _) (fun hc => ?_) (fun hc => ?_)
    · replace hm := pos_inv hc hm
      refine R_seq ?_
      refine R_G ?_
      refine G_run 2 ?_
      refine G_end ?_
      refine R_ret ?_
      obtain rfl := inj1 hm
      exact ⟨rfl, cut_leaf (by kernel_rfl)⟩
    replace hm := neg_inv hc hm
    refine R_skip ?_
    refine R_G ?_
    refine G_run 2 ?_
    refine G_end ?_
    exact w_slices_IndexFunc_int_int_size_check_2_L1 _ _ hm _ (by kernel_rfl)
  replace hm := neg_inv hc hm
  refine R_exit ?_
  obtain rfl := inj1 hm
  exact ⟨rfl, cut_leaf (by kernel_rfl)⟩
def m_slices_IndexFunc_int_int_size_check_2 (x : (List Int)) : Option Int :=
  match x with
  | p0 =>
  (
  m_slices_IndexFunc_int_int_size_check_2_L1 (p0, 0) >>= fun (out : Int ⊕ Unit) =>
  match out with
  | .inl v601 =>
    some v601
  | .inr (_) =>
    some (-1)
  )
def P_slices_IndexFunc_int_int_size_check_2 : (List Int) → Int → Prop := fun x r => match x, r with
  | p0, r0 => ∀ H, PC prog env 69 ([(.lst ((List.map intD) p0)), (.raw (.func (.func 76) #[] #[]))].map .dat) H (intPV r0) H
theorem w_slices_IndexFunc_int_int_size_check_2 : ∀ x r, m_slices_IndexFunc_int_int_size_check_2 x = some r → P_slices_IndexFunc_int_int_size_check_2 x r := by
  intro p0 r0 hm
  unfold m_slices_IndexFunc_int_int_size_check_2 at hm
  unfold P_slices_IndexFunc_int_int_size_check_2
  intro H
  refine PC_sx (ds := [(.lst ((List.map intD) p0)), (.raw (.func (.func 76) #[] #[]))]) (fn := f69) (by kernel_rfl) (by kernel_rfl) rfl ?_ (by kernel_rfl)
  refine R_seq ?_
  refine R_G ?_
  refine G_run 1 ?_
  refine G_end ?_
  refine R_seq ?_
  refine R_seq ?_
  refine R_G ?_
  refine G_run 1 ?_
  refine I_len intD p0 (es := (List.map intD) p0) rfl ?_
  refine G_run 1 ?_
  refine G_end ?_
  refine R_block ?_
  obtain ⟨out, hs, hm⟩ := bind_inv hm
  refine R_loop ?_
  rcases out with v601 | _
  · refine RL_use (w_slices_IndexFunc_int_int_size_check_2_L1 _ _ hs) (by kernel_rfl) ?_
    clear hs
    intro e s hp
    obtain ⟨rfl, d, rfl⟩ := hp
    obtain rfl := inj1 hm
    exact ⟨trivial, fin_pure (by kernel_rfl)⟩
  · refine RL_use (w_slices_IndexFunc_int_int_size_check_2_L1 _ _ hs) (by kernel_rfl) ?_
    clear hs
    intro e s hp
    obtain ⟨rfl, d, rfl⟩ := hp
    refine R_seq ?_
    refine R_G ?_
    refine G_run 1 ?_
    refine G_end ?_
    refine R_ret ?_
    obtain rfl := inj1 hm
    exact ⟨trivial, fin_pure (by kernel_rfl)⟩
end Go.Proofs.Try
namespace Go.Proofs.Try
open Go Go.Pm
set_option linter.unusedVariables false
set_option maxHeartbeats 2000000
set_option maxRecDepth 2000
def m_slices_ContainsFunc_int_int_size_check_2 (x : (List Int)) : Option Bool :=
  match x with
  | p0 =>
  m_slices_IndexFunc_int_int_size_check_2 p0 >>= fun (v1 : Int) =>
  some (decide (v1 ≥ 0))
def P_slices_ContainsFunc_int_int_size_check_2 : (List Int) → Bool → Prop := fun x r => match x, r with
  | p0, r0 => ∀ H, PC prog env 47 ([(.lst ((List.map intD) p0)), (.raw (.func (.func 76) #[] #[]))].map .dat) H (boolPV r0) H
theorem w_slices_ContainsFunc_int_int_size_check_2 : ∀ x r, m_slices_ContainsFunc_int_int_size_check_2 x = some r → P_slices_ContainsFunc_int_int_size_check_2 x r := by
  intro p0 r0 hm
  unfold m_slices_ContainsFunc_int_int_size_check_2 at hm
  unfold P_slices_ContainsFunc_int_int_size_check_2
  intro H
  refine PC_sx (ds := [(.lst ((List.map intD) p0)), (.raw (.func (.func 76) #[] #[]))]) (fn := f47) (by kernel_rfl) (by kernel_rfl) rfl ?_ (by kernel_rfl)
  refine R_seq ?_
  refine R_G ?_
  refine G_run 1 ?_
  refine G_end ?_
  refine R_seq ?_
  refine R_G ?_
  refine G_run 2 ?_
  obtain ⟨v1, hx, hm⟩ := bind_inv hm
  have hq := w_slices_IndexFunc_int_int_size_check_2 _ _ hx []
  refine G_callP hq ?_
  refine G_run 2 ?_
  refine G_end ?_
  refine R_ret ?_
  obtain rfl := inj1 hm
  exact ⟨trivial, fin_pure (by kernel_rfl)⟩
end Go.Proofs.Try
namespace Go.Proofs.Try
open Go Go.Pm
set_option linter.unusedVariables false
set_option maxHeartbeats 2000000
set_option maxRecDepth 2000
def m_size_check (x : (List Int)) : Option Int :=
  match x with
  | p0 =>
  m_slices_ContainsFunc_int_int_size_check_1 p0 >>= fun (v1 : Bool) =>
  if v1 = true then
    some 6
  else
  m_slices_ContainsFunc_int_int_size_check_2 p0 >>= fun (v2 : Bool) =>
  if v2 = true then
    some 7
  else
  some 0
def P_size_check : (List Int) → Int → Prop := fun x r => match x, r with
  | p0, r0 => ∀ H, PC prog env 60 ([(.lst ((List.map intD) p0))].map .dat) H (intPV r0) H
theorem w_size_check : ∀ x r, m_size_check x = some r → P_size_check x r := by
  intro p0 r0 hm
  unfold m_size_check at hm
  unfold P_size_check
  intro H
  refine PC_sx (ds := [(.lst ((List.map intD) p0))]) (fn := f60) (by kernel_rfl) (by kernel_rfl) rfl ?_ (by kernel_rfl)
  refine R_seq ?_
  refine R_G ?_
  refine G_run 1 ?_
  refine G_end ?_
  refine R_seq ?_
  refine R_block ?_
  refine R_seq ?_
  refine R_G ?_
  refine G_run 1 ?_
  obtain ⟨v1, hx, hm⟩ := bind_inv hm
  have hq := w_slices_ContainsFunc_int_int_size_check_1 _ _ hx []
  refine G_callP hq ?_
  refine G_run 1 ?_
  refine G_end ?_
  refine R_ifp (p := v1 = true) (bool_dec _) (fun hc => ?_) (fun hc => ?_)
  · replace hm := pos_inv hc hm
    refine R_seq ?_
    refine R_G ?_
    refine G_run 1 ?_
    refine G_end ?_
    refine R_ret ?_
    obtain rfl := inj1 hm
    exact ⟨trivial, fin_pure (by kernel_rfl)⟩
  replace hm := neg_inv hc hm
  refine R_seq ?_
  refine R_G ?_
  refine G_run 1 ?_
  obtain ⟨v2, hx, hm⟩ := bind_inv hm
  have hq := w_slices_ContainsFunc_int_int_size_check_2 _ _ hx []
  refine G_callP hq ?_
  refine G_run 1 ?_
  refine G_end ?_
  refine R_ifp (p := v2 = true) (bool_dec _) (fun hc => ?_) (fun hc => ?_)
  · replace hm := pos_inv hc hm
    refine R_seq ?_
    refine R_G ?_
    refine G_run 1 ?_
    refine G_end ?_
    refine R_ret ?_
    obtain rfl := inj1 hm
    exact ⟨trivial, fin_pure (by kernel_rfl)⟩
  replace hm := neg_inv hc hm
  refine R_skip ?_
  refine R_seq ?_
  refine R_G ?_
  refine G_run 1 ?_
  refine G_end ?_
  refine R_ret ?_
  obtain rfl := inj1 hm
  exact ⟨trivial, fin_pure (by kernel_rfl)⟩
end Go.Proofs.Try
namespace Go.Proofs.Try
open Go Go.Pm
set_option linter.unusedVariables false
set_option maxHeartbeats 2000000
set_option maxRecDepth 2000
def m_slices_Index_int_int_L1 (x : ((List Int) × Int × Int)) : Option (Int ⊕ Unit) :=
  match x with
  | (p0, p1, v201) =>
  if v201 < (p0.length : Int) then
    idx p0 v201 >>= fun v602 =>
    if p1 = v602 then
      some (Sum.inl v201)
    else
    m_slices_Index_int_int_L1 (p0, p1, (W (v201 + 1)))
  else
  some (Sum.inr ())
  partial_fixpoint
def P_slices_Index_int_int_L1 : ((List Int) × Int × Int) → (Int ⊕ Unit) → Prop := fun x r => match x with
  | (p0, p1, v201) => ∀ st, prune 0 ((firstRegion (codeAt [1, 0, 1, 0, 0] (bodyOf f77))).bind (env.hint 77).keepAt) st = ⟨kp 19 [(0, (.dat (.lst ((List.map intD) p0)))), (1, (intPV p1)), (7, (intPV (p0.length : Int))), (8, (intPV v201))], []⟩ →
    RL prog env (env.hint 77) true (codeAt [1, 0, 1, 0, 0] (bodyOf f77)) 0 st (fun e s => match r with | .inl v601 => e = .ret ∧ ∃ d, s = ⟨sl d 19 [(4, (intPV v601))], []⟩ | .inr (_) => e = .exit 0 ∧ ∃ d, s = ⟨sl d 19 [], []⟩)
theorem w_slices_Index_int_int_L1 : ∀ x r, m_slices_Index_int_int_L1 x = some r → P_slices_Index_int_int_L1 x r := by
  refine m_slices_Index_int_int_L1.partial_correctness _ (fun m_slices_Index_int_int_L1 w_slices_Index_int_int_L1 x r hm => ?_)
  unfold P_slices_Index_int_int_L1
  obtain ⟨p0, p1, v201⟩ := x
  intro st hst
  refine RL_at hst ?_
  clear hst
  refine R_seq ?_
  refine R_G ?_
  refine G_run 1 ?_
  refine G_end ?_
  refine R_seq ?_
  refine R_ifp (p := v201 < (p0.length : Int)) (rfl) (fun hc => ?_) (fun hc => ?_)
  · replace hm := pos_inv hc hm
    refine R_skip ?_
    refine R_seq ?_
    refine R_block ?_
    refine R_seq ?_
    refine R_G ?_
    refine G_run 2 ?_
    refine G_end ?_
    refine R_seq ?_
    refine R_G ?_
    refine G_run 3 ?_
    obtain ⟨v602, hx, hm⟩ := bind_inv hm
    refine I_idx 1 intD p0 v201 v602 (es := (List.map intD) p0) (d := (intD v602)) rfl hx rfl rfl ?_
    refine G_run 2 ?_
    refine G_end ?_
    refine R_ifp (p := p1 = v602) (eq_dec _ _) (fun hc => ?_) (fun hc => ?_)
    · replace hm := pos_inv hc hm
      refine R_seq ?_
      refine R_G ?_
      refine G_run 2 ?_
      refine G_end ?_
      refine R_ret ?_
      obtain rfl := inj1 hm
      exact ⟨rfl, cut_leaf (by kernel_rfl)⟩
    replace hm := neg_inv hc hm
    refine R_skip ?_
    refine R_G ?_
    refine G_run 2 ?_
    refine G_end ?_
    exact w_slices_Index_int_int_L1 _ _ hm _ (by kernel_rfl)
  replace hm := neg_inv hc hm
  refine R_exit ?_
  obtain rfl := inj1 hm
  exact ⟨rfl, cut_leaf (by kernel_rfl)⟩
def m_slices_Index_int_int (x : ((List Int) × Int)) : Option Int :=
  match x with
  | (p0, p1) =>
  (
  m_slices_Index_int_int_L1 (p0, p1, 0) >>= fun (out : Int ⊕ Unit) =>
  match out with
  | .inl v601 =>
    some v601
  | .inr (_) =>
    some (-1)
  )
def P_slices_Index_int_int : ((List Int) × Int) → Int → Prop := fun x r => match x, r with
  | (p0, p1), r0 => ∀ H, PC prog env 77 ([(.lst ((List.map intD) p0)), (intD p1)].map .dat) H (intPV r0) H
theorem w_slices_Index_int_int : ∀ x r, m_slices_Index_int_int x = some r → P_slices_Index_int_int x r := by
  intro x r0 hm
  unfold m_slices_Index_int_int at hm
  unfold P_slices_Index_int_int
  obtain ⟨p0, p1⟩ := x
  intro H
  refine PC_sx (ds := [(.lst ((List.map intD) p0)), (intD p1)]) (fn := f77) (by kernel_rfl) (by kernel_rfl) rfl ?_ (by kernel_rfl)
  refine R_seq ?_
  refine R_G ?_
  refine G_run 1 ?_
  refine G_end ?_
  refine R_seq ?_
  refine R_seq ?_
  refine R_G ?_
  refine G_run 1 ?_
  refine I_len intD p0 (es := (List.map intD) p0) rfl ?_
  refine G_run 1 ?_
  refine G_end ?_
  refine R_block ?_
  obtain ⟨out, hs, hm⟩ := bind_inv hm
  refine R_loop ?_
  rcases out with v601 | _
  · refine RL_use (w_slices_Index_int_int_L1 _ _ hs) (by kernel_rfl) ?_
    clear hs
    intro e s hp
    obtain ⟨rfl, d, rfl⟩ := hp
    obtain rfl := inj1 hm
    exact ⟨trivial, fin_pure (by kernel_rfl)⟩
  · refine RL_use (w_slices_Index_int_int_L1 _ _ hs) (by kernel_rfl) ?_
    clear hs
    intro e s hp
    obtain ⟨rfl, d, rfl⟩ := hp
    refine R_seq ?_
    refine R_G ?_
    refine G_run 1 ?_
    refine G_end ?_
    refine R_ret ?_
    obtain rfl := inj1 hm
    exact ⟨trivial, fin_pure (by kernel_rfl)⟩
end Go.Proofs.Try
namespace Go.Proofs.Try
open Go Go.Pm
set_option linter.unusedVariables false
set_option maxHeartbeats 2000000
set_option maxRecDepth 2000
def m_slices_Contains_int_int (x : ((List Int) × Int)) : Option Bool :=
  match x with
  | (p0, p1) =>
  m_slices_Index_int_int (p0, p1) >>= fun (v1 : Int) =>
  some (decide (v1 ≥ 0))
def P_slices_Contains_int_int : ((List Int) × Int) → Bool → Prop := fun x r => match x, r with
  | (p0, p1), r0 => ∀ H, PC prog env 61 ([(.lst ((List.map intD) p0)), (intD p1)].map .dat) H (boolPV r0) H
theorem w_slices_Contains_int_int : ∀ x r, m_slices_Contains_int_int x = some r → P_slices_Contains_int_int x r := by
  intro x r0 hm
  unfold m_slices_Contains_int_int at hm
  unfold P_slices_Contains_int_int
  obtain ⟨p0, p1⟩ := x
  intro H
  refine PC_sx (ds := [(.lst ((List.map intD) p0)), (intD p1)]) (fn := f61) (by kernel_rfl) (by kernel_rfl) rfl ?_ (by kernel_rfl)
  refine R_seq ?_
  refine R_G ?_
  refine G_run 1 ?_
  refine G_end ?_
  refine R_seq ?_
  refine R_G ?_
  refine G_run 2 ?_
  obtain ⟨v1, hx, hm⟩ := bind_inv hm
  have hq := w_slices_Index_int_int _ _ hx []
  refine G_callP hq ?_
  refine G_run 2 ?_
  refine G_end ?_
  refine R_ret ?_
  obtain rfl := inj1 hm
  exact ⟨trivial, fin_pure (by kernel_rfl)⟩
end Go.Proofs.Try
namespace Go.Proofs.Try
open Go Go.Pm
set_option linter.unusedVariables false
set_option maxHeartbeats 2000000
set_option maxRecDepth 2000
def m_size_Mul (x : (Int × Int × Int)) : Option (Int × Bool) :=
  match x with
  | (p0, p1, p2) =>
  ((if p0 < 0 then
    some true
  else
  some (decide (p1 < 0))
  ) >>= fun (v2 : Bool) =>
  (if v2 = true then
    some true
  else
  some (decide (p0 > p2))
  ) >>= fun (v3 : Bool) =>
  (if v3 = true then
    some true
  else
  some (decide (p1 > p2))
  ) >>= fun (v4 : Bool) =>
  if v4 = true then
    some true
  else
  if p1 > 0 then
    quoM p2 p1 >>= fun v5 =>
    some (decide (p0 > v5))
  else
  some false
  ) >>= fun (v1 : Bool) =>
  if v1 = true then
    some (0, false)
  else
  some ((W (p0 * p1)), true)
def P_size_Mul : (Int × Int × Int) → (Int × Bool) → Prop := fun x r => match x, r with
  | (p0, p1, p2), (r0, r1) => ∀ H, PC prog env 64 ([(intD p0), (intD p1), (intD p2)].map .dat) H (.tup [(intPV r0), (boolPV r1)]) H
theorem w_size_Mul : ∀ x r, m_size_Mul x = some r → P_size_Mul x r := by
  intro x r hm
  unfold m_size_Mul at hm
  unfold P_size_Mul
  obtain ⟨p0, p1, p2⟩ := x
  obtain ⟨r0, r1⟩ := r
  intro H
  refine PC_sx (ds := [(intD p0), (intD p1), (intD p2)]) (fn := f64) (by kernel_rfl) (by kernel_rfl) rfl ?_ (by kernel_rfl)
  refine R_seq ?_
  refine R_G ?_
  refine G_run 2 ?_
  refine G_end ?_
  refine R_seq ?_
  refine R_seq ?_
  obtain ⟨v1, hs, hm⟩ := bind_inv hm
  refine R_cut (fun d => ⟨sl d 38 [(0, (intPV p0)), (1, (intPV p1)), (34, (boolPV v1))], []⟩) ?_ (fun d => ?_)
  · replace hm := hs
    clear hs
    refine R_GN ?_
    refine G_run 3 ?_
    obtain ⟨v2, hs, hm⟩ := bind_inv hm
    refine G_cut (j := 6) (fun d => ⟨sl d 38 [(0, (intPV p0)), (1, (intPV p1)), (2, (intPV p2)), (6, (intPV 0)), (7, (boolPV false)), (8, (intPV p0)), (9, (boolPV (decide (p0 < 0)))), (13, (boolPV v2))], []⟩) (fun d => ?_) (fun hJ => ?_)
    · clear hs
      refine G_run 1 ?_
      obtain ⟨v3, hs, hm⟩ := bind_inv hm
      refine G_cut (j := 11) (fun d => ⟨sl d 38 [(0, (intPV p0)), (1, (intPV p1)), (2, (intPV p2)), (6, (intPV 0)), (7, (boolPV false)), (8, (intPV p0)), (9, (boolPV (decide (p0 < 0)))), (13, (boolPV v2)), (18, (boolPV v3))], []⟩) (fun d => ?_) (fun hJ => ?_)
      · clear hs
        refine G_run 1 ?_
        obtain ⟨v4, hs, hm⟩ := bind_inv hm
        refine G_cut (j := 16) (fun d => ⟨sl d 38 [(0, (intPV p0)), (1, (intPV p1)), (2, (intPV p2)), (6, (intPV 0)), (7, (boolPV false)), (8, (intPV p0)), (9, (boolPV (decide (p0 < 0)))), (13, (boolPV v2)), (18, (boolPV v3)), (23, (boolPV v4))], []⟩) (fun d => ?_) (fun hJ => ?_)
        · clear hs
          refine G_run 1 ?_
          refine G_split (p := v4 = true) 24 (bool_dec _) (fun hc => ?_) (fun hc => ?_)
          · replace hm := pos_inv hc hm
            refine G_run 10 ?_
            refine G_end ⟨by kernel_rfl, ?_⟩
            obtain rfl := inj1 hm
            exact cut_leaf (by kernel_rfl)
          replace hm := neg_inv hc hm
          refine G_run 3 ?_
          refine G_split (p := p1 > 0) 27 (rfl) (fun hc => ?_) (fun hc => ?_)
          · replace hm := pos_inv hc hm
            refine G_run 3 ?_
            obtain ⟨v5, hx, hm⟩ := bind_inv hm
            refine G_semN rfl (by kernel_rfl) (fun _ => E_quo (a := p2) (b := p1) hx rfl (by kernel_rfl) (by kernel_rfl)) ?_
            refine G_run 3 ?_
            refine G_end ⟨by kernel_rfl, ?_⟩
            obtain rfl := inj1 hm
            exact cut_leaf (by kernel_rfl)
          replace hm := neg_inv hc hm
          refine G_run 7 ?_
          refine G_end ⟨by kernel_rfl, ?_⟩
          obtain rfl := inj1 hm
          exact cut_leaf (by kernel_rfl)
        replace hm := hs
        clear hs
        refine G_split (p := v3 = true) 19 (bool_dec _) (fun hc => ?_) (fun hc => ?_)
        · replace hm := pos_inv hc hm
          refine G_run 4 ?_
          obtain rfl := inj1 hm
          exact hJ _ _ (by kernel_rfl) (by kernel_rfl)
        replace hm := neg_inv hc hm
        refine G_run 4 ?_
        obtain rfl := inj1 hm
        exact hJ _ _ (by kernel_rfl) (by kernel_rfl)
      replace hm := hs
      clear hs
      refine G_split (p := v2 = true) 14 (bool_dec _) (fun hc => ?_) (fun hc => ?_)
      · replace hm := pos_inv hc hm
        refine G_run 4 ?_
        obtain rfl := inj1 hm
        exact hJ _ _ (by kernel_rfl) (by kernel_rfl)
      replace hm := neg_inv hc hm
      refine G_run 4 ?_
      obtain rfl := inj1 hm
      exact hJ _ _ (by kernel_rfl) (by kernel_rfl)
    replace hm := hs
    clear hs
    refine G_split (p := p0 < 0) 10 (rfl) (fun hc => ?_) (fun hc => ?_)
    · replace hm := pos_inv hc hm
      refine G_run 3 ?_
      obtain rfl := inj1 hm
      exact hJ _ _ (by kernel_rfl) (by kernel_rfl)
    replace hm := neg_inv hc hm
    refine G_run 3 ?_
    obtain rfl := inj1 hm
    exact hJ _ _ (by kernel_rfl) (by kernel_rfl)
  clear hs
  refine R_ifp (p := v1 = true) (bool_dec _) (fun hc => ?_) (fun hc => ?_)
  · replace hm := pos_inv hc hm
    refine R_seq ?_
    refine R_G ?_
    refine G_run 2 ?_
    refine G_end ?_
    refine R_ret ?_
    obtain ⟨rfl, rfl⟩ := inj2 hm
    exact ⟨trivial, fin_pure (by kernel_rfl)⟩
  replace hm := neg_inv hc hm
  refine R_skip ?_
  refine R_seq ?_
  refine R_G ?_
  refine G_run 5 ?_
  refine G_end ?_
  refine R_ret ?_
  obtain ⟨rfl, rfl⟩ := inj2 hm
  exact ⟨trivial, fin_pure (by kernel_rfl)⟩
end Go.Proofs.Try
namespace Go.Proofs.Try
open Go Go.Pm
set_option linter.unusedVariables false
set_option maxHeartbeats 2000000
set_option maxRecDepth 2000
def m_size_Product_1 (x : (Int × Int)) : Option (Int × Bool) :=
  match x with
  | (p0, p1) =>
  m_size_Mul (p0, p1, 65536) >>= fun ((v1, v2) : (Int × Bool)) =>
  some (v1, v2)
def P_size_Product_1 : (Int × Int) → (Int × Bool) → Prop := fun x r => match x, r with
  | (p0, p1), (r0, r1) => ∀ H, PC prog env 63 ([(intD p0), (intD p1)].map .dat) H (.tup [(intPV r0), (boolPV r1)]) H
theorem w_size_Product_1 : ∀ x r, m_size_Product_1 x = some r → P_size_Product_1 x r := by
  intro x r hm
  unfold m_size_Product_1 at hm
  unfold P_size_Product_1
  obtain ⟨p0, p1⟩ := x
  obtain ⟨r0, r1⟩ := r
  intro H
  refine PC_sx (ds := [(intD p0), (intD p1)]) (fn := f63) (by kernel_rfl) (by kernel_rfl) rfl ?_ (by kernel_rfl)
  refine R_seq ?_
  refine R_G ?_
  refine G_run 2 ?_
  refine G_end ?_
  refine R_seq ?_
  refine R_G ?_
  refine G_run 2 ?_
  obtain ⟨⟨v1, v2⟩, hx, hm⟩ := bind_inv hm
  have hq := w_size_Mul _ _ hx []
  refine G_callP hq ?_
  refine G_run 4 ?_
  refine G_end ?_
  refine R_ret ?_
  obtain ⟨rfl, rfl⟩ := inj2 hm
  exact ⟨trivial, fin_pure (by kernel_rfl)⟩
end Go.Proofs.Try
namespace Go.Proofs.Try
open Go Go.Pm
set_option linter.unusedVariables false
set_option maxHeartbeats 2000000
set_option maxRecDepth 2000
def m_size_fold_int_size_Product_1_L1 (x : ((List Int) × Int × Int)) : Option (Int ⊕ Int) :=
  match x with
  | (p0, v201, v202) =>
  if v202 < (p0.length : Int) then
    idx p0 v202 >>= fun v603 =>
    m_size_Product_1 (v201, v603) >>= fun ((v604, v605) : (Int × Bool)) =>
    if v605 = false then
      some (Sum.inl v604)
    else
    m_size_fold_int_size_Product_1_L1 (p0, v604, (W (v202 + 1)))
  else
  some (Sum.inr v201)
  partial_fixpoint
def P_size_fold_int_size_Product_1_L1 : ((List Int) × Int × Int) → (Int ⊕ Int) → Prop := fun x r => match x with
  | (p0, v201, v202) => ∀ st, prune 0 ((firstRegion (codeAt [1, 1, 0, 1, 0, 0] (bodyOf f78))).bind (env.hint 78).keepAt) st = ⟨kp 31 [(2, (.dat (.raw (.func (.func 63) #[] #[])))), (8, (intPV v201)), (13, (.dat (.lst ((List.map intD) p0)))), (14, (intPV (p0.length : Int))), (15, (intPV v202))], []⟩ →
    RL prog env (env.hint 78) true (codeAt [1, 1, 0, 1, 0, 0] (bodyOf f78)) 0 st (fun e s => match r with | .inl v601 => e = .ret ∧ ∃ d, s = ⟨sl d 31 [(6, (intPV v601)), (7, (boolPV false))], []⟩ | .inr (v602) => e = .exit 0 ∧ ∃ d, s = ⟨sl d 31 [(8, (intPV v602))], []⟩)
theorem w_size_fold_int_size_Product_1_L1 : ∀ x r, m_size_fold_int_size_Product_1_L1 x = some r → P_size_fold_int_size_Product_1_L1 x r := by
  refine m_size_fold_int_size_Product_1_L1.partial_correctness _ (fun m_size_fold_int_size_Product_1_L1 w_size_fold_int_size_Product_1_L1 x r hm => ?_)
  unfold P_size_fold_int_size_Product_1_L1
  obtain ⟨p0, v201, v202⟩ := x
  intro st hst
  refine RL_at hst ?_
  clear hst
  refine R_seq ?_
  refine R_G ?_
  refine G_run 1 ?_
  refine G_end ?_
  refine R_seq ?_
  refine R_ifp (p := v202 < (p0.length : Int)) (rfl) (fun hc => ?_) (fun hc => ?_)
  · replace hm := pos_inv hc hm
    refine R_skip ?_
    refine R_seq ?_
    refine R_block ?_
    refine R_seq ?_
    refine R_G ?_
    obtain ⟨v603, hx, hm⟩ := bind_inv hm
    refine I_idx 1 intD p0 v202 v603 (es := (List.map intD) p0) (d := (intD v603)) rfl hx rfl rfl ?_
    refine G_run 2 ?_
    refine G_end ?_
    refine R_seq ?_
    refine R_G ?_
    refine G_run 3 ?_
    obtain ⟨⟨v604, v605⟩, hx, hm⟩ := bind_inv hm
    have hq := w_size_Product_1 _ _ hx []
    refine G_callP hq ?_
    refine G_run 5 ?_
    refine G_end ?_
    refine R_seq ?_
    refine R_G ?_
    refine G_run 2 ?_
    refine G_end ?_
    refine R_ifp (p := v605 = false) (not_dec _) (fun hc => ?_) (fun hc => ?_)
    · replace hm := pos_inv hc hm
      refine R_seq ?_
      refine R_G ?_
      refine G_run 3 ?_
      refine G_end ?_
      refine R_ret ?_
      obtain rfl := inj1 hm
      exact ⟨rfl, cut_leaf (by kernel_rfl)⟩
    replace hm := neg_inv hc hm
    refine R_skip ?_
    refine R_G ?_
    refine G_run 2 ?_
    refine G_end ?_
    exact w_size_fold_int_size_Product_1_L1 _ _ hm _ (by kernel_rfl)
  replace hm := neg_inv hc hm
  refine R_exit ?_
  obtain rfl := inj1 hm
  exact ⟨rfl, cut_leaf (by kernel_rfl)⟩
def m_size_fold_int_size_Product_1 (x : ((List Int) × Int)) : Option (Int × Bool) :=
  match x with
  | (p0, p1) =>
  (
  m_size_fold_int_size_Product_1_L1 (p0, p1, 0) >>= fun (out : Int ⊕ Int) =>
  match out with
  | .inl v601 =>
    some (v601, false)
  | .inr (v602) =>
    some (v602, true)
  )
def P_size_fold_int_size_Product_1 : ((List Int) × Int) → (Int × Bool) → Prop := fun x r => match x, r with
  | (p0, p1), (r0, r1) => ∀ H, PC prog env 78 ([(.lst ((List.map intD) p0)), (intD p1), (.raw (.func (.func 63) #[] #[]))].map .dat) H (.tup [(intPV r0), (boolPV r1)]) H
theorem w_size_fold_int_size_Product_1 : ∀ x r, m_size_fold_int_size_Product_1 x = some r → P_size_fold_int_size_Product_1 x r := by
  intro x r hm
  unfold m_size_fold_int_size_Product_1 at hm
  unfold P_size_fold_int_size_Product_1
  obtain ⟨p0, p1⟩ := x
  obtain ⟨r0, r1⟩ := r
  intro H
  refine PC_sx (ds := [(.lst ((List.map intD) p0)), (intD p1), (.raw (.func (.func 63) #[] #[]))]) (fn := f78) (by kernel_rfl) (by kernel_rfl) rfl ?_ (by kernel_rfl)
  refine R_seq ?_
  refine R_G ?_
  refine G_run 2 ?_
  refine G_end ?_
  refine R_seq ?_
  refine R_G ?_
  refine G_run 3 ?_
  refine G_end ?_
  refine R_seq ?_
  refine R_seq ?_
  refine R_G ?_
  refine G_run 1 ?_
  refine I_len intD p0 (es := (List.map intD) p0) rfl ?_
  refine G_run 1 ?_
  refine G_end ?_
  refine R_block ?_
  obtain ⟨out, hs, hm⟩ := bind_inv hm
  refine R_loop ?_
  rcases out with v601 | v602
  · refine RL_use (w_size_fold_int_size_Product_1_L1 _ _ hs) (by kernel_rfl) ?_
    clear hs
    intro e s hp
    obtain ⟨rfl, d, rfl⟩ := hp
    obtain ⟨rfl, rfl⟩ := inj2 hm
    exact ⟨trivial, fin_pure (by kernel_rfl)⟩
  · refine RL_use (w_size_fold_int_size_Product_1_L1 _ _ hs) (by kernel_rfl) ?_
    clear hs
    intro e s hp
    obtain ⟨rfl, d, rfl⟩ := hp
    refine R_seq ?_
    refine R_G ?_
    refine G_run 3 ?_
    refine G_end ?_
    refine R_ret ?_
    obtain ⟨rfl, rfl⟩ := inj2 hm
    exact ⟨trivial, fin_pure (by kernel_rfl)⟩
end Go.Proofs.Try
namespace Go.Proofs.Try
open Go Go.Pm
set_option linter.unusedVariables false
set_option maxHeartbeats 2000000
set_option maxRecDepth 2000
def m_size_combined_size_Product_1 (x : ((List Int) × Int)) : Option (Int × Int) :=
  match x with
  | (p0, p1) =>
  m_size_check p0 >>= fun (v1 : Int) =>
  if v1 ≠ 0 then
    some (0, v1)
  else
  m_size_fold_int_size_Product_1 (p0, p1) >>= fun ((v2, v3) : (Int × Bool)) =>
  if v3 = false then
    some (0, 7)
  else
  some (v2, 0)
def P_size_combined_size_Product_1 : ((List Int) × Int) → (Int × Int) → Prop := fun x r => match x, r with
  | (p0, p1), (r0, r1) => ∀ H, PC prog env 62 ([(.lst ((List.map intD) p0)), (intD p1), (.raw (.func (.func 63) #[] #[]))].map .dat) H (.tup [(intPV r0), (intPV r1)]) H
theorem w_size_combined_size_Product_1 : ∀ x r, m_size_combined_size_Product_1 x = some r → P_size_combined_size_Product_1 x r := by
  intro x r hm
  unfold m_size_combined_size_Product_1 at hm
  unfold P_size_combined_size_Product_1
  obtain ⟨p0, p1⟩ := x
  obtain ⟨r0, r1⟩ := r
  intro H
  refine PC_sx (ds := [(.lst ((List.map intD) p0)), (intD p1), (.raw (.func (.func 63) #[] #[]))]) (fn := f62) (by kernel_rfl) (by kernel_rfl) rfl ?_ (by kernel_rfl)
  refine R_seq ?_
  refine R_G ?_
  refine G_run 2 ?_
  refine G_end ?_
  refine R_seq ?_
  refine R_seq ?_
  refine R_G ?_
  refine G_run 1 ?_
  obtain ⟨v1, hx, hm⟩ := bind_inv hm
  have hq := w_size_check _ _ hx []
  refine G_callP hq ?_
  refine G_run 1 ?_
  refine G_end ?_
  refine R_seq ?_
  refine R_G ?_
  refine G_run 2 ?_
  refine G_end ?_
  refine R_ifp (p := v1 ≠ 0) (ne_dec _ _) (fun hc => ?_) (fun hc => ?_)
  · replace hm := pos_inv hc hm
    refine R_seq ?_
    refine R_G ?_
    refine G_run 3 ?_
    refine G_end ?_
    refine R_ret ?_
    obtain ⟨rfl, rfl⟩ := inj2 hm
    exact ⟨trivial, fin_pure (by kernel_rfl)⟩
  replace hm := neg_inv hc hm
  refine R_skip ?_
  refine R_seq ?_
  refine R_G ?_
  refine G_run 3 ?_
  obtain ⟨⟨v2, v3⟩, hx, hm⟩ := bind_inv hm
  have hq := w_size_fold_int_size_Product_1 _ _ hx []
  refine G_callP hq ?_
  refine G_run 5 ?_
  refine G_end ?_
  refine R_seq ?_
  refine R_seq ?_
  refine R_G ?_
  refine G_run 2 ?_
  refine G_end ?_
  refine R_ifp (p := v3 = false) (not_dec _) (fun hc => ?_) (fun hc => ?_)
  · replace hm := pos_inv hc hm
    refine R_seq ?_
    refine R_G ?_
    refine G_run 2 ?_
    refine G_end ?_
    refine R_ret ?_
    obtain ⟨rfl, rfl⟩ := inj2 hm
    exact ⟨trivial, fin_pure (by kernel_rfl)⟩
  replace hm := neg_inv hc hm
  refine R_skip ?_
  refine R_seq ?_
  refine R_G ?_
  refine G_run 3 ?_
  refine G_end ?_
  refine R_ret ?_
  obtain ⟨rfl, rfl⟩ := inj2 hm
  exact ⟨trivial, fin_pure (by kernel_rfl)⟩
end Go.Proofs.Try
namespace Go.Proofs.Try
open Go Go.Pm
set_option linter.unusedVariables false
set_option maxHeartbeats 2000000
set_option maxRecDepth 2000
def m_size_Product (x : (List Int)) : Option (Int × Int) :=
  match x with
  | p0 =>
  m_size_check p0 >>= fun (v1 : Int) =>
  (if v1 = 0 then
    m_slices_Contains_int_int (p0, 0) >>= fun (v3 : Bool) =>
    some v3
  else
  some false
  ) >>= fun (v2 : Bool) =>
  if v2 = true then
    some (0, 0)
  else
  m_size_combined_size_Product_1 (p0, 1) >>= fun ((v4, v5) : (Int × Int)) =>
  some (v4, v5)
def P_size_Product : (List Int) → (Int × Int) → Prop := fun x r => match x, r with
  | p0, (r0, r1) => ∀ H, PC prog env 35 ([(.lst ((List.map intD) p0))].map .dat) H (.tup [(intPV r0), (intPV r1)]) H
theorem w_size_Product : ∀ x r, m_size_Product x = some r → P_size_Product x r := by
  intro p0 r hm
  unfold m_size_Product at hm
  unfold P_size_Product
  obtain ⟨r0, r1⟩ := r
  intro H
  refine PC_sx (ds := [(.lst ((List.map intD) p0))]) (fn := f35) (by kernel_rfl) (by kernel_rfl) rfl ?_ (by kernel_rfl)
  refine R_seq ?_
  refine R_G ?_
  refine G_run 2 ?_
  refine G_end ?_
  refine R_seq ?_
  refine R_seq ?_
  refine R_G ?_
  refine G_run 1 ?_
  obtain ⟨v1, hx, hm⟩ := bind_inv hm
  have hq := w_size_check _ _ hx []
  refine G_callP hq ?_
  refine G_run 1 ?_
  refine G_end ?_
  refine R_seq ?_
  obtain ⟨v2, hs, hm⟩ := bind_inv hm
  refine R_cut (fun d => ⟨sl d 17 [(0, (.dat (.lst ((List.map intD) p0)))), (12, (boolPV v2))], []⟩) ?_ (fun d => ?_)
  · replace hm := hs
    clear hs
    refine R_G ?_
    refine G_run 3 ?_
    refine G_split (p := v1 = 0) 9 (eq_dec _ _) (fun hc => ?_) (fun hc => ?_)
    · replace hm := pos_inv hc hm
      refine G_run 1 ?_
      obtain ⟨v3, hx, hm⟩ := bind_inv hm
      have hq := w_slices_Contains_int_int _ _ hx []
      refine G_callP hq ?_
      refine G_run 1 ?_
      refine G_end ?_
      obtain rfl := inj1 hm
      exact cut_leaf (by kernel_rfl)
    replace hm := neg_inv hc hm
    refine G_run 3 ?_
    refine G_end ?_
    obtain rfl := inj1 hm
    exact cut_leaf (by kernel_rfl)
  clear hs
  refine R_ifp (p := v2 = true) (bool_dec _) (fun hc => ?_) (fun hc => ?_)
  · replace hm := pos_inv hc hm
    refine R_seq ?_
    refine R_G ?_
    refine G_run 2 ?_
    refine G_end ?_
    refine R_ret ?_
    obtain ⟨rfl, rfl⟩ := inj2 hm
    exact ⟨trivial, fin_pure (by kernel_rfl)⟩
  replace hm := neg_inv hc hm
  refine R_skip ?_
  refine R_seq ?_
  refine R_G ?_
  refine G_run 1 ?_
  obtain ⟨⟨v4, v5⟩, hx, hm⟩ := bind_inv hm
  have hq := w_size_combined_size_Product_1 _ _ hx []
  refine G_callP hq ?_
  refine G_run 4 ?_
  refine G_end ?_
  refine R_ret ?_
  obtain ⟨rfl, rfl⟩ := inj2 hm
  exact ⟨trivial, fin_pure (by kernel_rfl)⟩
end Go.Proofs.Try
namespace Go.Proofs.Try
open Go Go.Pm
set_option linter.unusedVariables false
set_option maxHeartbeats 2000000
set_option maxRecDepth 2000
def m_shape_Check (x : (List Int)) : Option Int :=
  match x with
  | p0 =>
  m_size_Product p0 >>= fun ((v1, v2) : (Int × Int)) =>
  (if v2 ≠ 6 then
    some (decide ((p0.length : Int) > 16))
  else
  some false
  ) >>= fun (v3 : Bool) =>
  if v3 = true then
    some 7
  else
  some v2
def P_shape_Check : (List Int) → Int → Prop := fun x r => match x, r with
  | p0, r0 => ∀ H, PC prog env 30 ([(.lst ((List.map intD) p0))].map .dat) H (intPV r0) H
theorem w_shape_Check : ∀ x r, m_shape_Check x = some r → P_shape_Check x r := by
  intro p0 r0 hm
  unfold m_shape_Check at hm
  unfold P_shape_Check
  intro H
  refine PC_sx (ds := [(.lst ((List.map intD) p0))]) (fn := f30) (by kernel_rfl) (by kernel_rfl) rfl ?_ (by kernel_rfl)
  refine R_seq ?_
  refine R_G ?_
  refine G_run 1 ?_
  refine G_end ?_
  refine R_seq ?_
  refine R_G ?_
  refine G_run 1 ?_
  obtain ⟨⟨v1, v2⟩, hx, hm⟩ := bind_inv hm
  have hq := w_size_Product _ _ hx []
  refine G_callP hq ?_
  refine G_run 5 ?_
  refine G_end ?_
  refine R_seq ?_
  refine R_seq ?_
  obtain ⟨v3, hs, hm⟩ := bind_inv hm
  refine R_cut (fun d => ⟨sl d 18 [(4, (intPV v2)), (16, (boolPV v3))], []⟩) ?_ (fun d => ?_)
  · replace hm := hs
    clear hs
    refine R_G ?_
    refine G_run 3 ?_
    refine G_split (p := v2 ≠ 6) 12 (ne_dec _ _) (fun hc => ?_) (fun hc => ?_)
    · replace hm := pos_inv hc hm
      refine G_run 1 ?_
      refine I_len intD p0 (es := (List.map intD) p0) rfl ?_
      refine G_run 2 ?_
      refine G_end ?_
      obtain rfl := inj1 hm
      exact cut_leaf (by kernel_rfl)
    replace hm := neg_inv hc hm
    refine G_run 4 ?_
    refine G_end ?_
    obtain rfl := inj1 hm
    exact cut_leaf (by kernel_rfl)
  clear hs
  refine R_ifp (p := v3 = true) (bool_dec _) (fun hc => ?_) (fun hc => ?_)
  · replace hm := pos_inv hc hm
    refine R_seq ?_
    refine R_G ?_
    refine G_run 1 ?_
    refine G_end ?_
    refine R_ret ?_
    obtain rfl := inj1 hm
    exact ⟨trivial, fin_pure (by kernel_rfl)⟩
  replace hm := neg_inv hc hm
  refine R_skip ?_
  refine R_seq ?_
  refine R_G ?_
  refine G_run 2 ?_
  refine G_end ?_
  refine R_ret ?_
  obtain rfl := inj1 hm
  exact ⟨trivial, fin_pure (by kernel_rfl)⟩
end Go.Proofs.Try
namespace Go.Proofs.Try
open Go Go.Pm
set_option linter.unusedVariables false
set_option maxHeartbeats 2000000
set_option maxRecDepth 2000
def m_shape_Cells (x : (List Int)) : Option Int :=
  match x with
  | p0 =>
  m_shape_Check p0 >>= fun (v1 : Int) =>
  if v1 ≠ 0 then
    some 0
  else
  m_size_Product p0 >>= fun ((v2, v3) : (Int × Int)) =>
  some v2
def P_shape_Cells : (List Int) → Int → Prop := fun x r => match x, r with
  | p0, r0 => ∀ H, PC prog env 18 ([(.lst ((List.map intD) p0))].map .dat) H (intPV r0) H
theorem w_shape_Cells : ∀ x r, m_shape_Cells x = some r → P_shape_Cells x r := by
  intro p0 r0 hm
  unfold m_shape_Cells at hm
  unfold P_shape_Cells
  intro H
  refine PC_sx (ds := [(.lst ((List.map intD) p0))]) (fn := f18) (by kernel_rfl) (by kernel_rfl) rfl ?_ (by kernel_rfl)
  refine R_seq ?_
  refine R_G ?_
  refine G_run 1 ?_
  refine G_end ?_
  refine R_seq ?_
  refine R_seq ?_
  refine R_G ?_
  refine G_run 1 ?_
  obtain ⟨v1, hx, hm⟩ := bind_inv hm
  have hq := w_shape_Check _ _ hx []
  refine G_callP hq ?_
  refine G_run 1 ?_
  refine G_end ?_
  refine R_ifp (p := v1 ≠ 0) (ne_dec _ _) (fun hc => ?_) (fun hc => ?_)
  · replace hm := pos_inv hc hm
    refine R_seq ?_
    refine R_G ?_
    refine G_run 1 ?_
    refine G_end ?_
    refine R_ret ?_
    obtain rfl := inj1 hm
    exact ⟨trivial, fin_pure (by kernel_rfl)⟩
  replace hm := neg_inv hc hm
  refine R_skip ?_
  refine R_seq ?_
  refine R_G ?_
  refine G_run 1 ?_
  obtain ⟨⟨v2, v3⟩, hx, hm⟩ := bind_inv hm
  have hq := w_size_Product _ _ hx []
  refine G_callP hq ?_
  refine G_run 5 ?_
  refine G_end ?_
  refine R_seq ?_
  refine R_G ?_
  refine G_run 2 ?_
  refine G_end ?_
  refine R_ret ?_
  obtain rfl := inj1 hm
  exact ⟨trivial, fin_pure (by kernel_rfl)⟩
end Go.Proofs.Try
namespace Go.Proofs.Try
open Go Go.Pm
set_option linter.unusedVariables false
set_option maxHeartbeats 2000000
set_option maxRecDepth 2000
def m_slices_Clone_int_int (x : List Int) : Option (List Int) := app 8 [] x
def cgm_slices_Clone_int_int (l : List Int) : Nat := match l with | [] => 0 | _ => 1
def P_slices_Clone_int_int : List Int → List Int → Prop := fun x r => PC prog env 37 [.dat (.lst ((List.map intD) x))] [] (.ms 0 (cgm_slices_Clone_int_int r) 0 r.length r.length) [.mt 3 (cgm_slices_Clone_int_int r) (cellsOf intD r)]
theorem w_slices_Clone_int_int : ∀ x r, m_slices_Clone_int_int x = some r → P_slices_Clone_int_int x r := by
  intro x r hm
  obtain ⟨hroom, hr⟩ := app_some hm
  have hr : r = x := hr
  subst hr
  unfold P_slices_Clone_int_int
  cases r with
  | nil => exact PC_of (n := 20) (by kernel_rfl)
  | cons a l =>
    refine PC_sxB (fn := f37) (by kernel_rfl) (by kernel_rfl) rfl ?_
    refine R_seq ?_
    refine R_G ?_
    refine G_run 1 ?_
    refine G_end ?_
    refine R_seq ?_
    refine R_seq ?_
    refine R_G ?_
    refine G_run 1 ?_
    refine G_semN rfl (by kernel_rfl) (fun _ => E_lstNil (p := .dat (.lst ((List.map intD) (a :: l)))) (b := false) rfl (by kernel_rfl) (by kernel_rfl) (by kernel_rfl)) ?_
    refine G_end ?_
    refine R_false (by kernel_rfl) ?_
    refine R_skip ?_
    refine R_seq ?_
    refine R_G ?_
    refine G_run 2 ?_
    refine G_semH (v := .ms 0 1 0 (a :: l).length (a :: l).length) (fun H => H.set 0 (.mt 3 1 (cellsOf intD (a :: l)))) rfl (by kernel_rfl) (fun _ hk => E_apMs intD (l := []) (es := a :: l) (bytes := 8) (e := 3) (tt := 0) (g := 0) (m := 0) hm (fun _ => rfl) (by kernel_rfl) (by kernel_rfl) (by kernel_rfl) (by kernel_rfl) rfl rfl (by kernel_rfl) rfl (by kernel_rfl) (source_lst (fun _ => rfl)) hk) ?_
    refine G_run 1 ?_
    refine G_end ?_
    refine R_ret ?_
    exact ⟨trivial, fin_body (by kernel_rfl) (by kernel_rfl)⟩
end Go.Proofs.Try
namespace Go.Proofs.Try
open Go Go.Pm
set_option linter.unusedVariables false
set_option maxHeartbeats 2000000
set_option maxRecDepth 2000
def m_box_Whole (x : (List Int)) : Option T_box_Box :=
  match x with
  | p0 =>
  makeM 8 (p0.length : Int) 0 >>= fun v1 =>
  m_slices_Clone_int_int p0 >>= fun v2 =>
  some (⟨v1, v2⟩ : T_box_Box)
def P_box_Whole : (List Int) → T_box_Box → Prop := fun x r => match x, r with
  | p0, r0 => ∀ H, PC prog env 20 ([(.lst ((List.map intD) p0))].map .dat) H (.dat (T_box_Box.toD r0)) H
theorem w_box_Whole : ∀ x r, m_box_Whole x = some r → P_box_Whole x r := by
  intro p0 r0 hm
  unfold m_box_Whole at hm
  unfold P_box_Whole
  intro H
  refine PC_sx (ds := [(.lst ((List.map intD) p0))]) (fn := f20) (by kernel_rfl) (by kernel_rfl) rfl ?_ (by kernel_rfl)
  refine R_seq ?_
  refine R_G ?_
  refine G_run 1 ?_
  refine G_end ?_
  refine R_seq ?_
  refine R_GD ?_
  refine G_run 1 ?_
  refine I_len intD p0 (es := (List.map intD) p0) rfl ?_
  obtain ⟨v1, hx, hm⟩ := bind_inv hm
  refine G_semN (v := .dat (.lst (List.map intD v1))) rfl (by kernel_rfl) ?_ ?_
  · intro K hk
    exact E_mkLst intD (z := 0) (n := (p0.length : Int)) (bytes := 8) (j := 8000) (e' := 3) (os := []) hx (e := 3) (by kernel_rfl) (by kernel_rfl) (by kernel_rfl) (by kernel_rfl) rfl rfl (by kernel_rfl) (by kernel_rfl) (by kernel_rfl) hk
  refine G_run 1 ?_
  obtain ⟨v2, hx, hm⟩ := bind_inv hm
  have hq := w_slices_Clone_int_int _ _ hx
  dsimp only [P_slices_Clone_int_int] at hq
  have hl9 : mtOf [Blk.mt 3 (cgm_slices_Clone_int_int v2) (cellsOf intD v2)] 0 = some (3, cgm_slices_Clone_int_int v2, cellsOf intD v2) := mtOf_at (by kernel_rfl)
  refine G_semH (v := .ms 1 1 0 v2.length v2.length) (fun H => H ++ [.mt 3 1 (cellsOf intD v2)]) rfl (by kernel_rfl) ?_ ?_
  · intro K hk
    refine E_callOwnN 1 (first := #[]) (cap := #[]) (j := (0, 3)) (ow' := []) (f0 := intD) (l := v2) rfl ?_ ?_ ?_ (ds := [.lst ((List.map intD) p0)]) ?_ hq hl9 ?_ ?_ ?_
    · kernel_rfl
    · kernel_rfl
    · kernel_rfl
    · kernel_rfl
    · exact hk
    · kernel_rfl
    · decide
  refine G_run 2 ?_
  refine G_end ⟨by kernel_rfl, ?_⟩
  refine R_ret ?_
  obtain rfl := inj1 hm
  exact ⟨trivial, fin_pureX [(.agg [(.dat (.lst ((List.map intD) v1))), (.ms 1 1 0 v2.length v2.length)])] (by kernel_rfl) (po_agg (pc_cons (by kernel_rfl) (pc_cons (pc_ms (e := 3) intD v2 rfl (fun _ => rfl) (by kernel_rfl)) pc_nil)))⟩
end Go.Proofs.Try
namespace Go.Proofs.Try
open Go Go.Pm
set_option linter.unusedVariables false
set_option maxHeartbeats 2000000
set_option maxRecDepth 2000
def m_odometer_Count_L1 (x : ((List Int) × (List Int) × Int)) : Option (Unit ⊕ Unit) :=
  match x with
  | (p0, p1, v201) =>
  if v201 < (p0.length : Int) then
    idx p0 v201 >>= fun v601 =>
    idx p1 v201 >>= fun v602 =>
    if v601 ≥ v602 then
      some (Sum.inl ())
    else
    m_odometer_Count_L1 (p0, p1, (W (v201 + 1)))
  else
  some (Sum.inr ())
  partial_fixpoint
def P_odometer_Count_L1 : ((List Int) × (List Int) × Int) → (Unit ⊕ Unit) → Prop := fun x r => match x with
  | (p0, p1, v201) => ∀ st, prune 0 ((firstRegion (codeAt [1, 1, 0, 1, 0, 0] (bodyOf f46))).bind (env.hint 46).keepAt) st = ⟨kp 41 [(0, (.dat (.lst ((List.map intD) p0)))), (1, (.dat (.lst ((List.map intD) p1)))), (5, (intPV 1)), (9, (intPV (p0.length : Int))), (10, (intPV v201))], []⟩ →
    RL prog env (env.hint 46) true (codeAt [1, 1, 0, 1, 0, 0] (bodyOf f46)) 0 st (fun e s => match r with | .inl _ => e = .ret ∧ ∃ d, s = ⟨sl d 41 [(4, (intPV 0))], []⟩ | .inr (_) => e = .exit 0 ∧ ∃ d, s = ⟨sl d 41 [(0, (.dat (.lst ((List.map intD) p0)))), (1, (.dat (.lst ((List.map intD) p1)))), (5, (intPV 1))], []⟩)
theorem w_odometer_Count_L1 : ∀ x r, m_odometer_Count_L1 x = some r → P_odometer_Count_L1 x r := by
  refine m_odometer_Count_L1.partial_correctness _ (fun m_odometer_Count_L1 w_odometer_Count_L1 x r hm => ?_)
  unfold P_odometer_Count_L1
  obtain ⟨p0, p1, v201⟩ := x
  intro st hst
  refine RL_at hst ?_
  clear hst
  refine R_seq ?_
  refine R_G ?_
  refine G_run 1 ?_
  refine G_end ?_
  refine R_seq ?_
  refine R_ifp (p := v201 < (p0.length : Int)) (rfl) (fun hc => ?_) (fun hc => ?_)
  · replace hm := pos_inv hc hm
    refine R_skip ?_
    refine R_seq ?_
    refine R_block ?_
    refine R_seq ?_
    refine R_G ?_
    refine G_run 2 ?_
    refine G_end ?_
    refine R_seq ?_
    refine R_GD ?_
    refine G_run 2 ?_
    obtain ⟨v601, hx, hm⟩ := bind_inv hm
    refine I_idx 1 intD p0 v201 v601 (es := (List.map intD) p0) (d := (intD v601)) rfl hx rfl rfl ?_
    refine G_run 3 ?_
    obtain ⟨v602, hx, hm⟩ := bind_inv hm
    refine I_idx 1 intD p1 v201 v602 (es := (List.map intD) p1) (d := (intD v602)) rfl hx rfl rfl ?_
    refine G_run 2 ?_
    refine G_end ⟨by kernel_rfl, ?_⟩
    refine R_ifp (p := v601 ≥ v602) (rfl) (fun hc => ?_) (fun hc => ?_)
    · replace hm := pos_inv hc hm
      refine R_seq ?_
      refine R_G ?_
      refine G_run 1 ?_
      refine G_end ?_
      refine R_ret ?_
      obtain rfl := inj1 hm
      exact ⟨rfl, cut_leaf (by kernel_rfl)⟩
    replace hm := neg_inv hc hm
    refine R_skip ?_
    refine R_G ?_
    refine G_run 2 ?_
    refine G_end ?_
    exact w_odometer_Count_L1 _ _ hm _ (by kernel_rfl)
  replace hm := neg_inv hc hm
  refine R_exit ?_
  obtain rfl := inj1 hm
  exact ⟨rfl, cut_leaf (by kernel_rfl)⟩
def m_odometer_Count_L2 (x : ((List Int) × (List Int) × Int × Int)) : Option (Int) :=
  match x with
  | (p0, p1, v803, v804) =>
  if v804 < (p0.length : Int) then
    idx p1 v804 >>= fun v1204 =>
    idx p0 v804 >>= fun v1205 =>
    m_odometer_Count_L2 (p0, p1, (W (v803 * (W (v1204 - v1205)))), (W (v804 + 1)))
  else
  some v803
  partial_fixpoint
def P_odometer_Count_L2 : ((List Int) × (List Int) × Int × Int) → Int → Prop := fun x r => match x with
  | (p0, p1, v803, v804) => ∀ st, prune 0 ((firstRegion (codeAt [1, 1, 1, 0, 1, 0, 0] (bodyOf f46))).bind (env.hint 46).keepAt) st = ⟨kp 41 [(0, (.dat (.lst ((List.map intD) p0)))), (1, (.dat (.lst ((List.map intD) p1)))), (5, (intPV v803)), (24, (intPV (p0.length : Int))), (25, (intPV v804))], []⟩ →
    RL prog env (env.hint 46) true (codeAt [1, 1, 1, 0, 1, 0, 0] (bodyOf f46)) 0 st (fun e s => match r with | v1203 => e = .exit 2 ∧ ∃ d, s = ⟨sl d 41 [(5, (intPV v1203))], []⟩)
theorem w_odometer_Count_L2 : ∀ x r, m_odometer_Count_L2 x = some r → P_odometer_Count_L2 x r := by
  refine m_odometer_Count_L2.partial_correctness _ (fun m_odometer_Count_L2 w_odometer_Count_L2 x r hm => ?_)
  unfold P_odometer_Count_L2
  obtain ⟨p0, p1, v803, v804⟩ := x
  intro st hst
  refine RL_at hst ?_
  clear hst
  refine R_seq ?_
  refine R_G ?_
  refine G_run 1 ?_
  refine G_end ?_
  refine R_seq ?_
  refine R_ifp (p := v804 < (p0.length : Int)) (rfl) (fun hc => ?_) (fun hc => ?_)
  · replace hm := pos_inv hc hm
    refine R_skip ?_
    refine R_seq ?_
    refine R_block ?_
    refine R_seq ?_
    refine R_G ?_
    refine G_run 2 ?_
    refine G_end ?_
    refine R_GD ?_
    refine G_run 3 ?_
    obtain ⟨v1204, hx, hm⟩ := bind_inv hm
    refine I_idx 1 intD p1 v804 v1204 (es := (List.map intD) p1) (d := (intD v1204)) rfl hx rfl rfl ?_
    refine G_run 3 ?_
    obtain ⟨v1205, hx, hm⟩ := bind_inv hm
    refine I_idx 1 intD p0 v804 v1205 (es := (List.map intD) p0) (d := (intD v1205)) rfl hx rfl rfl ?_
    refine G_run 4 ?_
    refine G_end ⟨by kernel_rfl, ?_⟩
    refine R_G ?_
    refine G_run 2 ?_
    refine G_end ?_
    exact w_odometer_Count_L2 _ _ hm _ (by kernel_rfl)
  replace hm := neg_inv hc hm
  refine R_exit ?_
  obtain rfl := inj1 hm
  exact ⟨rfl, cut_leaf (by kernel_rfl)⟩
def m_odometer_Count (x : ((List Int) × (List Int))) : Option Int :=
  match x with
  | (p0, p1) =>
  (
  m_odometer_Count_L1 (p0, p1, 0) >>= fun (out : Unit ⊕ Unit) =>
  match out with
  | .inl _ =>
    some 0
  | .inr (_) =>
    m_odometer_Count_L2 (p0, p1, 1, 0) >>= fun (v1203 : Int) =>
    some v1203
  )
def P_odometer_Count : ((List Int) × (List Int)) → Int → Prop := fun x r => match x, r with
  | (p0, p1), r0 => ∀ H, PC prog env 46 ([(.lst ((List.map intD) p0)), (.lst ((List.map intD) p1))].map .dat) H (intPV r0) H
theorem w_odometer_Count : ∀ x r, m_odometer_Count x = some r → P_odometer_Count x r := by
  intro x r0 hm
  unfold m_odometer_Count at hm
  unfold P_odometer_Count
  obtain ⟨p0, p1⟩ := x
  intro H
  refine PC_sx (ds := [(.lst ((List.map intD) p0)), (.lst ((List.map intD) p1))]) (fn := f46) (by kernel_rfl) (by kernel_rfl) rfl ?_ (by kernel_rfl)
  refine R_seq ?_
  refine R_G ?_
  refine G_run 1 ?_
  refine G_end ?_
  refine R_seq ?_
  refine R_G ?_
  refine G_run 1 ?_
  refine G_end ?_
  refine R_seq ?_
  refine R_seq ?_
  refine R_G ?_
  refine G_run 1 ?_
  refine I_len intD p0 (es := (List.map intD) p0) rfl ?_
  refine G_run 1 ?_
  refine G_end ?_
  refine R_block ?_
  obtain ⟨out, hs, hm⟩ := bind_inv hm
  refine R_loop ?_
  rcases out with _ | _
  · refine RL_use (w_odometer_Count_L1 _ _ hs) (by kernel_rfl) ?_
    clear hs
    intro e s hp
    obtain ⟨rfl, d, rfl⟩ := hp
    obtain rfl := inj1 hm
    exact ⟨trivial, fin_pure (by kernel_rfl)⟩
  · refine RL_use (w_odometer_Count_L1 _ _ hs) (by kernel_rfl) ?_
    clear hs
    intro e s hp
    obtain ⟨rfl, d, rfl⟩ := hp
    refine R_seq ?_
    refine R_seq ?_
    refine R_G ?_
    refine G_run 1 ?_
    refine I_len intD p0 (es := (List.map intD) p0) rfl ?_
    refine G_run 1 ?_
    refine G_end ?_
    refine R_block ?_
    obtain ⟨v1203, hs, hm⟩ := bind_inv hm
    refine R_loop ?_
    refine RL_use (w_odometer_Count_L2 _ _ hs) (by kernel_rfl) ?_
    clear hs
    intro e s hp
    obtain ⟨rfl, d, rfl⟩ := hp
    refine R_seq ?_
    refine R_G ?_
    refine G_run 2 ?_
    refine G_end ?_
    refine R_ret ?_
    obtain rfl := inj1 hm
    exact ⟨trivial, fin_pure (by kernel_rfl)⟩
end Go.Proofs.Try
namespace Go.Proofs.Try
open Go Go.Pm
set_option linter.unusedVariables false
set_option maxHeartbeats 2000000
set_option maxRecDepth 2000
def m_box_Size (x : T_box_Box) : Option Int :=
  match x with
  | p0 =>
  m_odometer_Count (p0.lo, p0.hi) >>= fun (v1 : Int) =>
  some v1
def P_box_Size : T_box_Box → Int → Prop := fun x r => match x, r with
  | p0, r0 => ∀ H, PC prog env 27 ([(T_box_Box.toD p0)].map .dat) H (intPV r0) H
theorem w_box_Size : ∀ x r, m_box_Size x = some r → P_box_Size x r := by
  intro p0 r0 hm
  unfold m_box_Size at hm
  unfold P_box_Size
  intro H
  refine PC_sx (ds := [(T_box_Box.toD p0)]) (fn := f27) (by kernel_rfl) (by kernel_rfl) rfl ?_ (by kernel_rfl)
  refine R_seq ?_
  refine R_G ?_
  refine G_run 2 ?_
  refine G_end ?_
  refine R_seq ?_
  refine R_G ?_
  refine G_run 4 ?_
  obtain ⟨v1, hx, hm⟩ := bind_inv hm
  have hq := w_odometer_Count _ _ hx []
  refine G_callP hq ?_
  refine G_run 1 ?_
  refine G_end ?_
  refine R_ret ?_
  obtain rfl := inj1 hm
  exact ⟨trivial, fin_pure (by kernel_rfl)⟩
end Go.Proofs.Try
namespace Go.Proofs.Try
open Go Go.Pm
set_option linter.unusedVariables false
set_option maxHeartbeats 2000000
set_option maxRecDepth 2000
def m_piece_listed_1 (x : T_piece_Piece) : Option Bool :=
  match x with
  | p0 =>
  m_box_Size (⟨p0.box.lo, p0.box.hi⟩ : T_box_Box) >>= fun (v1 : Int) =>
  some (decide (v1 > 0))
def P_piece_listed_1 : T_piece_Piece → Bool → Prop := fun x r => match x, r with
  | p0, r0 => ∀ H, PC prog env 66 ([(T_piece_Piece.toD p0)].map .dat) H (boolPV r0) H
theorem w_piece_listed_1 : ∀ x r, m_piece_listed_1 x = some r → P_piece_listed_1 x r := by
  intro p0 r0 hm
  unfold m_piece_listed_1 at hm
  unfold P_piece_listed_1
  intro H
  refine PC_sx (ds := [(T_piece_Piece.toD p0)]) (fn := f66) (by kernel_rfl) (by kernel_rfl) rfl ?_ (by kernel_rfl)
  refine R_seq ?_
  refine R_G ?_
  refine G_run 2 ?_
  refine G_end ?_
  refine R_seq ?_
  refine R_G ?_
  refine G_run 2 ?_
  obtain ⟨v1, hx, hm⟩ := bind_inv hm
  have hq := w_box_Size _ _ hx []
  refine G_callP hq ?_
  refine G_run 2 ?_
  refine G_end ?_
  refine R_ret ?_
  obtain rfl := inj1 hm
  exact ⟨trivial, fin_pure (by kernel_rfl)⟩
end Go.Proofs.Try
namespace Go.Proofs.Try
open Go Go.Pm
set_option linter.unusedVariables false
set_option maxHeartbeats 2000000
set_option maxRecDepth 2000
def m_piece_kept_piece_Piece_piece_listed_1_L1 (x : ((List T_piece_Piece) × (List T_piece_Piece) × Int)) : Option ((List T_piece_Piece)) :=
  match x with
  | (p0, v201, v202) =>
  if v202 < (p0.length : Int) then
    idx p0 v202 >>= fun v602 =>
    m_piece_listed_1 v602 >>= fun (v603 : Bool) =>
    if v603 = true then
      app 120 v201 ([v602] : List T_piece_Piece) >>= fun v604 =>
      m_piece_kept_piece_Piece_piece_listed_1_L1 (p0, v604, (W (v202 + 1)))
    else
    m_piece_kept_piece_Piece_piece_listed_1_L1 (p0, v201, (W (v202 + 1)))
  else
  some v201
  partial_fixpoint
def P_piece_kept_piece_Piece_piece_listed_1_L1 : ((List T_piece_Piece) × (List T_piece_Piece) × Int) → (List T_piece_Piece) → Prop := fun x r => match x with
  | (p0, v201, v202) => ∀ st, prune 1 ((firstRegion (codeAt [1, 1, 0, 1, 0, 0] (bodyOf f65))).bind (env.hint 65).keepAt) st = ⟨kp 23 [(1, (.dat (.raw (.func (.func 66) #[] #[])))), (5, (.vec 0 ((List.map T_piece_Piece.toD) v201))), (8, (.dat (.lst ((List.map T_piece_Piece.toD) p0)))), (9, (intPV (p0.length : Int))), (10, (intPV v202))], [(.tok 55 v201.length)]⟩ →
    RL prog env (env.hint 65) true (codeAt [1, 1, 0, 1, 0, 0] (bodyOf f65)) 1 st (fun e s => match r with | v601 => e = .exit 0 ∧ ∃ d, s = ⟨sl d 23 [(5, (.vec 0 ((List.map T_piece_Piece.toD) v601)))], [(.tok 55 v601.length)]⟩)
theorem w_piece_kept_piece_Piece_piece_listed_1_L1 : ∀ x r, m_piece_kept_piece_Piece_piece_listed_1_L1 x = some r → P_piece_kept_piece_Piece_piece_listed_1_L1 x r := by
  refine m_piece_kept_piece_Piece_piece_listed_1_L1.partial_correctness _ (fun m_piece_kept_piece_Piece_piece_listed_1_L1 w_piece_kept_piece_Piece_piece_listed_1_L1 x r hm => ?_)
  unfold P_piece_kept_piece_Piece_piece_listed_1_L1
  obtain ⟨p0, v201, v202⟩ := x
  intro st hst
  refine RL_at hst ?_
  clear hst
  refine R_seq ?_
  refine R_G ?_
  refine G_run 1 ?_
  refine G_end ?_
  refine R_seq ?_
  refine R_ifp (p := v202 < (p0.length : Int)) (rfl) (fun hc => ?_) (fun hc => ?_)
  · replace hm := pos_inv hc hm
    refine R_skip ?_
    refine R_seq ?_
    refine R_block ?_
    refine R_seq ?_
    refine R_G ?_
    obtain ⟨v602, hx, hm⟩ := bind_inv hm
    refine I_idx 9 T_piece_Piece.toD p0 v202 v602 (es := (List.map T_piece_Piece.toD) p0) (d := (T_piece_Piece.toD v602)) rfl hx rfl rfl ?_
    refine G_run 3 ?_
    refine G_end ?_
    refine R_seq ?_
    refine R_G ?_
    refine G_run 2 ?_
    obtain ⟨v603, hx, hm⟩ := bind_inv hm
    have hq := w_piece_listed_1 _ _ hx []
    refine G_callP hq ?_
    refine G_end ?_
    refine R_ifp (p := v603 = true) (bool_dec _) (fun hc => ?_) (fun hc => ?_)
    · replace hm := pos_inv hc hm
      refine R_G ?_
      refine G_run 3 ?_
      obtain ⟨v604, hx, hm⟩ := bind_inv hm
      refine I_app 55 9 120 0 T_piece_Piece.toD v201 ([v602] : List T_piece_Piece) v604 (xs := (List.map T_piece_Piece.toD) v201) (es := (List.map T_piece_Piece.toD) ([v602] : List T_piece_Piece)) (L := (List.map T_piece_Piece.toD)) (fun _ => rfl) rfl rfl T_piece_Piece.fit hx ?_
      refine G_run 1 ?_
      refine G_end ?_
      refine R_G ?_
      refine G_run 2 ?_
      refine G_end ?_
      exact w_piece_kept_piece_Piece_piece_listed_1_L1 _ _ hm _ (by kernel_rfl)
    replace hm := neg_inv hc hm
    refine R_skip ?_
    refine R_G ?_
    refine G_run 2 ?_
    refine G_end ?_
    exact w_piece_kept_piece_Piece_piece_listed_1_L1 _ _ hm _ (by kernel_rfl)
  replace hm := neg_inv hc hm
  refine R_exit ?_
  obtain rfl := inj1 hm
  exact ⟨rfl, cut_leaf (by kernel_rfl)⟩
def m_piece_kept_piece_Piece_piece_listed_1 (x : (List T_piece_Piece)) : Option (List T_piece_Piece) :=
  match x with
  | p0 =>
  m_piece_kept_piece_Piece_piece_listed_1_L1 (p0, ([] : List T_piece_Piece), 0) >>= fun (v601 : (List T_piece_Piece)) =>
  some v601
def P_piece_kept_piece_Piece_piece_listed_1 : (List T_piece_Piece) → (List T_piece_Piece) → Prop := fun x r => match x, r with
  | p0, r0 => ∀ H, PC prog env 65 ([(.lst ((List.map T_piece_Piece.toD) p0)), (.raw (.func (.func 66) #[] #[]))].map .dat) H (.dat (.lst ((List.map T_piece_Piece.toD) r0))) H
theorem w_piece_kept_piece_Piece_piece_listed_1 : ∀ x r, m_piece_kept_piece_Piece_piece_listed_1 x = some r → P_piece_kept_piece_Piece_piece_listed_1 x r := by
  intro p0 r0 hm
  unfold m_piece_kept_piece_Piece_piece_listed_1 at hm
  unfold P_piece_kept_piece_Piece_piece_listed_1
  intro H
  refine PC_sx (ds := [(.lst ((List.map T_piece_Piece.toD) p0)), (.raw (.func (.func 66) #[] #[]))]) (fn := f65) (by kernel_rfl) (by kernel_rfl) rfl ?_ (by kernel_rfl)
  refine R_seq ?_
  refine R_G ?_
  refine G_run 1 ?_
  refine G_end ?_
  refine R_seq ?_
  refine R_G ?_
  refine G_run 1 ?_
  refine G_end ?_
  refine R_seq ?_
  refine R_seq ?_
  refine R_G ?_
  refine G_run 1 ?_
  refine I_len T_piece_Piece.toD p0 (es := (List.map T_piece_Piece.toD) p0) rfl ?_
  refine G_run 1 ?_
  refine G_end ?_
  refine R_block ?_
  obtain ⟨v601, hs, hm⟩ := bind_inv hm
  refine R_loop ?_
  refine RL_use (w_piece_kept_piece_Piece_piece_listed_1_L1 _ _ hs) (by kernel_rfl) ?_
  clear hs
  intro e s hp
  obtain ⟨rfl, d, rfl⟩ := hp
  refine R_seq ?_
  refine R_G ?_
  refine G_run 2 ?_
  refine G_end ?_
  refine R_ret ?_
  obtain rfl := inj1 hm
  exact ⟨trivial, fin_pure (by kernel_rfl)⟩
end Go.Proofs.Try
namespace Go.Proofs.Try
open Go Go.Pm
set_option linter.unusedVariables false
set_option maxHeartbeats 2000000
set_option maxRecDepth 2000
def m_slices_SortFunc_piece_Piece_piece_Piece__piece_before (x : (List T_piece_Piece)) : Option Unit := if x.length ≤ 1 then some () else none
def P_slices_SortFunc_piece_Piece_piece_Piece__piece_before : (List T_piece_Piece) → Unit → Prop := fun x _ => ∀ H, PC prog env 67 ([(.lst ((List.map T_piece_Piece.toD) x)), (.raw (.func (.func 29) #[] #[]))].map .dat) H (.tup []) H
theorem w_slices_SortFunc_piece_Piece_piece_Piece__piece_before : ∀ x r, m_slices_SortFunc_piece_Piece_piece_Piece__piece_before x = some r → P_slices_SortFunc_piece_Piece_piece_Piece__piece_before x r := by
  intro x r hm
  unfold m_slices_SortFunc_piece_Piece_piece_Piece__piece_before at hm
  match x, hm with
  | [], _ => exact fun H => PC_of (n := 60) (by kernel_rfl)
  | [a], _ => exact fun H => PC_of (n := 60) (by kernel_rfl)
  | _ :: _ :: _, hm => simp at hm
end Go.Proofs.Try
namespace Go.Proofs.Try
open Go Go.Pm
set_option linter.unusedVariables false
set_option maxHeartbeats 2000000
set_option maxRecDepth 2000
def m_piece_listed (x : (List T_piece_Piece)) : Option (List T_piece_Piece) :=
  match x with
  | p0 =>
  m_piece_kept_piece_Piece_piece_listed_1 p0 >>= fun (v1 : (List T_piece_Piece)) =>
  m_slices_SortFunc_piece_Piece_piece_Piece__piece_before v1 >>= fun (_ : Unit) =>
  some v1
def P_piece_listed : (List T_piece_Piece) → (List T_piece_Piece) → Prop := fun x r => match x, r with
  | p0, r0 => ∀ H, PC prog env 36 ([(.lst ((List.map T_piece_Piece.toD) p0))].map .dat) H (.dat (.lst ((List.map T_piece_Piece.toD) r0))) H
theorem w_piece_listed : ∀ x r, m_piece_listed x = some r → P_piece_listed x r := by
  intro p0 r0 hm
  unfold m_piece_listed at hm
  unfold P_piece_listed
  intro H
  refine PC_sx (ds := [(.lst ((List.map T_piece_Piece.toD) p0))]) (fn := f36) (by kernel_rfl) (by kernel_rfl) rfl ?_ (by kernel_rfl)
  refine R_seq ?_
  refine R_G ?_
  refine G_run 1 ?_
  refine G_end ?_
  refine R_seq ?_
  refine R_G ?_
  refine G_run 1 ?_
  obtain ⟨v1, hx, hm⟩ := bind_inv hm
  have hq := w_piece_kept_piece_Piece_piece_listed_1 _ _ hx []
  refine G_callP hq ?_
  refine G_run 1 ?_
  refine G_end ?_
  refine R_seq ?_
  refine R_G ?_
  refine G_run 1 ?_
  obtain ⟨_, hx, hm⟩ := bind_inv hm
  have hq := w_slices_SortFunc_piece_Piece_piece_Piece__piece_before _ _ hx []
  refine G_callP hq ?_
  refine G_end ?_
  refine R_seq ?_
  refine R_G ?_
  refine G_run 2 ?_
  refine G_end ?_
  refine R_ret ?_
  obtain rfl := inj1 hm
  exact ⟨trivial, fin_pure (by kernel_rfl)⟩
end Go.Proofs.Try
namespace Go.Proofs.Try
open Go Go.Pm
set_option linter.unusedVariables false
set_option maxHeartbeats 2000000
set_option maxRecDepth 2000
def m_piece_Filled (x : (List Int)) : Option (List T_piece_Piece) :=
  match x with
  | p0 =>
  m_box_Whole p0 >>= fun (v1 : T_box_Box) =>
  m_piece_listed ([(⟨v1, (⟨1, 0, 0, ([] : (List Int)), 0, 0, 0⟩ : T_access_Access)⟩ : T_piece_Piece)] : List T_piece_Piece) >>= fun (v2 : (List T_piece_Piece)) =>
  some v2
def P_piece_Filled : (List Int) → (List T_piece_Piece) → Prop := fun x r => match x, r with
  | p0, r0 => ∀ H, PC prog env 19 ([(.lst ((List.map intD) p0))].map .dat) H (.dat (.lst ((List.map T_piece_Piece.toD) r0))) H
theorem w_piece_Filled : ∀ x r, m_piece_Filled x = some r → P_piece_Filled x r := by
  intro p0 r0 hm
  unfold m_piece_Filled at hm
  unfold P_piece_Filled
  intro H
  refine PC_sx (ds := [(.lst ((List.map intD) p0))]) (fn := f19) (by kernel_rfl) (by kernel_rfl) rfl ?_ (by kernel_rfl)
  refine R_seq ?_
  refine R_G ?_
  refine G_run 1 ?_
  refine G_end ?_
  refine R_seq ?_
  refine R_G ?_
  refine G_run 1 ?_
  obtain ⟨v1, hx, hm⟩ := bind_inv hm
  have hq := w_box_Whole _ _ hx []
  refine G_callP hq ?_
  refine G_run 3 ?_
  obtain ⟨v2, hx, hm⟩ := bind_inv hm
  have hq := w_piece_listed _ _ hx []
  refine G_callP hq ?_
  refine G_run 1 ?_
  refine G_end ?_
  refine R_ret ?_
  obtain rfl := inj1 hm
  exact ⟨trivial, fin_pure (by kernel_rfl)⟩
end Go.Proofs.Try
namespace Go.Proofs.Try
open Go Go.Pm
set_option linter.unusedVariables false
set_option maxHeartbeats 2000000
set_option maxRecDepth 2000
def m_shape_Strides_L1 (x : ((List Int) × (List Int) × (List Int) × Int × Int)) : Option ((List Int)) :=
  match x with
  | (p0, v2, v204, v205, v206) =>
  if v206 < (p0.length : Int) then
    guardM (v204.length = v2.length) >>= fun (_ : Unit) =>
    idx v204 (W ((W ((p0.length : Int) - 1)) - v206)) >>= fun v605 =>
    setM v204 (W ((W ((p0.length : Int) - 1)) - v206)) v205 >>= fun v607 =>
    idx p0 (W ((W ((p0.length : Int) - 1)) - v206)) >>= fun v608 =>
    m_shape_Strides_L1 (p0, v2, v607, (W (v205 * v608)), (W (v206 + 1)))
  else
  some v204
  partial_fixpoint
def P_shape_Strides_L1 : ((List Int) × (List Int) × (List Int) × Int × Int) → (List Int) → Prop := fun x r => match x with
  | (p0, v2, v204, v205, v206) => ∀ st, prune 1 ((firstRegion (codeAt [1, 1, 1, 1, 1, 0, 1, 0, 0] (bodyOf f38))).bind (env.hint 38).keepAt) st = ⟨kp 39 [(0, (.dat (.lst ((List.map intD) p0)))), (3, (.arr 0 0 v2.length v2.length)), (4, (intPV v205)), (18, (intPV (p0.length : Int))), (19, (intPV v206))], [(.box (cellsOf intD v204))]⟩ →
    RL prog env (env.hint 38) true (codeAt [1, 1, 1, 1, 1, 0, 1, 0, 0] (bodyOf f38)) 1 st (fun e s => match r with | v604 => e = .exit 0 ∧ ∃ d, s = ⟨sl d 39 [(3, (.arr 0 0 v2.length v2.length))], [(.box (cellsOf intD v604))]⟩)
theorem w_shape_Strides_L1 : ∀ x r, m_shape_Strides_L1 x = some r → P_shape_Strides_L1 x r := by
  refine m_shape_Strides_L1.partial_correctness _ (fun m_shape_Strides_L1 w_shape_Strides_L1 x r hm => ?_)
  unfold P_shape_Strides_L1
  obtain ⟨p0, v2, v204, v205, v206⟩ := x
  intro st hst
  refine RL_at hst ?_
  clear hst
  refine R_seq ?_
  refine R_G ?_
  refine G_run 1 ?_
  refine G_end ?_
  refine R_seq ?_
  refine R_ifp (p := v206 < (p0.length : Int)) (rfl) (fun hc => ?_) (fun hc => ?_)
  · replace hm := pos_inv hc hm
    refine R_skip ?_
    refine R_seq ?_
    refine R_block ?_
    refine R_seq ?_
    refine R_G ?_
    refine G_run 2 ?_
    refine G_end ?_
    refine R_seq ?_
    refine R_G ?_
    refine G_run 1 ?_
    refine I_len intD p0 (es := (List.map intD) p0) rfl ?_
    refine G_run 4 ?_
    refine G_end ?_
    refine R_seq ?_
    refine R_G ?_
    refine G_run 3 ?_
    obtain ⟨_, hl606, hm⟩ := bind_inv hm
    replace hl606 := guard_inv hl606
    obtain ⟨v605, hx, hm⟩ := bind_inv hm
    refine G_semN rfl (by kernel_rfl) (fun _ => E_ixBox (e := 3) (l := v204) (n := (W ((W ((p0.length : Int) - 1)) - v206))) (i := 0) (cap := v2.length) (m := v2.length) hx hl606 (by kernel_rfl) (by kernel_rfl) rfl (by kernel_rfl) (by kernel_rfl)) ?_
    obtain ⟨v607, hx, hm⟩ := bind_inv hm
    refine G_semH (fun H => H.set 0 (.box (cellsOf intD v607))) rfl (by kernel_rfl) (fun _ => E_stBox intD (l := v204) (n := (W ((W ((p0.length : Int) - 1)) - v206))) (y := v205) hx (fun _ => rfl) (by kernel_rfl) rfl (by kernel_rfl) (by kernel_rfl) (by kernel_rfl) (by kernel_rfl)) ?_
    refine G_end ?_
    refine R_G ?_
    refine G_run 3 ?_
    obtain ⟨v608, hx, hm⟩ := bind_inv hm
    refine I_idx 1 intD p0 (W ((W ((p0.length : Int) - 1)) - v206)) v608 (es := (List.map intD) p0) (d := (intD v608)) rfl hx rfl rfl ?_
    refine G_run 3 ?_
    refine G_end ?_
    refine R_G ?_
    refine G_run 2 ?_
    refine G_end ?_
    exact w_shape_Strides_L1 _ _ hm _ (prune_of2 [(.box (cellsOf intD v607))] (fun _ => (pg_cons (purge_box intD _ _ _) pg_nil)) rfl)
  replace hm := neg_inv hc hm
  refine R_exit ?_
  obtain rfl := inj1 hm
  exact ⟨rfl, cut_leaf (by kernel_rfl)⟩
def m_shape_Strides (x : (List Int)) : Option (List Int) :=
  match x with
  | p0 =>
  m_shape_Check p0 >>= fun (v1 : Int) =>
  if v1 ≠ 0 then
    some ([] : (List Int))
  else
  makeM 8 (p0.length : Int) 0 >>= fun v2 =>
  m_shape_Cells p0 >>= fun (v3 : Int) =>
  if v3 = 0 then
    some v2
  else
  m_shape_Strides_L1 (p0, v2, v2, 1, 0) >>= fun (v604 : (List Int)) =>
  guardM (v604.length = v2.length) >>= fun (_ : Unit) =>
  some v604
def P_shape_Strides : (List Int) → (List Int) → Prop := fun x r => match x, r with
  | p0, r0 => ∀ H, PC prog env 38 ([(.lst ((List.map intD) p0))].map .dat) H (.dat (.lst ((List.map intD) r0))) H
theorem w_shape_Strides : ∀ x r, m_shape_Strides x = some r → P_shape_Strides x r := by
  intro p0 r0 hm
  unfold m_shape_Strides at hm
  unfold P_shape_Strides
  intro H
  refine PC_sx (ds := [(.lst ((List.map intD) p0))]) (fn := f38) (by kernel_rfl) (by kernel_rfl) rfl ?_ (by kernel_rfl)
  refine R_seq ?_
  refine R_G ?_
  refine G_run 1 ?_
  refine G_end ?_
  refine R_seq ?_
  refine R_seq ?_
  refine R_G ?_
  refine G_run 1 ?_
  obtain ⟨v1, hx, hm⟩ := bind_inv hm
  have hq := w_shape_Check _ _ hx []
  refine G_callP hq ?_
  refine G_run 1 ?_
  refine G_end ?_
  refine R_ifp (p := v1 ≠ 0) (ne_dec _ _) (fun hc => ?_) (fun hc => ?_)
  · replace hm := pos_inv hc hm
    refine R_seq ?_
    refine R_G ?_
    refine G_run 1 ?_
    refine G_end ?_
    refine R_ret ?_
    obtain rfl := inj1 hm
    exact ⟨trivial, fin_pure (by kernel_rfl)⟩
  replace hm := neg_inv hc hm
  refine R_skip ?_
  refine R_seq ?_
  refine R_G ?_
  refine G_run 1 ?_
  refine I_len intD p0 (es := (List.map intD) p0) rfl ?_
  obtain ⟨v2, hx, hm⟩ := bind_inv hm
  refine G_semH (v := .arr 0 0 v2.length v2.length) (fun H => H ++ [.box (cellsOf intD v2)]) rfl (by kernel_rfl) ?_ ?_
  · intro K hk
    exact E_mkBoxN 0 intD (z := 0) (n := (p0.length : Int)) (bytes := 8) hx (e := 3) (by kernel_rfl) (by kernel_rfl) (by kernel_rfl) (by kernel_rfl) rfl rfl (by kernel_rfl) (by kernel_rfl) hk
  refine G_run 1 ?_
  refine G_end ?_
  refine R_seq ?_
  refine R_seq ?_
  refine R_G ?_
  refine G_run 1 ?_
  obtain ⟨v3, hx, hm⟩ := bind_inv hm
  have hq := w_shape_Cells _ _ hx []
  refine G_callP hq ?_
  refine G_run 1 ?_
  refine G_end ?_
  refine R_ifp (p := v3 = 0) (eq_dec _ _) (fun hc => ?_) (fun hc => ?_)
  · replace hm := pos_inv hc hm
    refine R_seq ?_
    refine R_G ?_
    refine G_run 2 ?_
    refine G_end ?_
    refine R_ret ?_
    obtain rfl := inj1 hm
    exact ⟨trivial, fin_pureX [(.arr 0 0 v2.length v2.length)] (by kernel_rfl) (po_arr (pc_arr intD v2 rfl (fun _ => rfl) (by kernel_rfl)))⟩
  replace hm := neg_inv hc hm
  refine R_skip ?_
  refine R_seq ?_
  refine R_G ?_
  refine G_run 1 ?_
  refine G_end ?_
  refine R_seq ?_
  refine R_seq ?_
  refine R_G ?_
  refine G_run 1 ?_
  refine I_len intD p0 (es := (List.map intD) p0) rfl ?_
  refine G_run 1 ?_
  refine G_end ?_
  refine R_block ?_
  obtain ⟨v604, hs, hm⟩ := bind_inv hm
  refine R_loop ?_
  refine RL_use (w_shape_Strides_L1 _ _ hs) (prune_of2 [(.box (cellsOf intD v2))] (fun _ => (pg_cons (purge_box intD _ _ _) pg_nil)) rfl) ?_
  clear hs
  intro e s hp
  obtain ⟨rfl, d, rfl⟩ := hp
  refine R_seq ?_
  refine R_G ?_
  refine G_run 2 ?_
  refine G_end ?_
  refine R_ret ?_
  obtain ⟨_, hl609, hm⟩ := bind_inv hm
  replace hl609 := guard_inv hl609
  obtain rfl := inj1 hm
  exact ⟨trivial, fin_pureX [(.arr 0 0 v2.length v2.length)] (by kernel_rfl) (po_arr (pc_arr intD v604 hl609 (fun _ => rfl) (by kernel_rfl)))⟩
end Go.Proofs.Try
namespace Go.Proofs.Try
open Go Go.Pm
set_option linter.unusedVariables false
set_option maxHeartbeats 2000000
set_option maxRecDepth 2000
def m_runs_times_L1 (x : ((List Int) × Int × (List Int) × Int)) : Option ((List Int)) :=
  match x with
  | (p0, p1, v201, v202) =>
  if v202 < (p0.length : Int) then
    idx p0 v202 >>= fun v602 =>
    app 8 v201 ([(W (v602 * p1))] : List Int) >>= fun v603 =>
    m_runs_times_L1 (p0, p1, v603, (W (v202 + 1)))
  else
  some v201
  partial_fixpoint
def P_runs_times_L1 : ((List Int) × Int × (List Int) × Int) → (List Int) → Prop := fun x r => match x with
  | (p0, p1, v201, v202) => ∀ st, prune 1 ((firstRegion (codeAt [1, 1, 0, 1, 0, 0] (bodyOf f39))).bind (env.hint 39).keepAt) st = ⟨kp 22 [(1, (intPV p1)), (5, (.vec 0 ((List.map intD) v201))), (8, (.dat (.lst ((List.map intD) p0)))), (9, (intPV (p0.length : Int))), (10, (intPV v202))], [(.tok 3 v201.length)]⟩ →
    RL prog env (env.hint 39) true (codeAt [1, 1, 0, 1, 0, 0] (bodyOf f39)) 1 st (fun e s => match r with | v601 => e = .exit 0 ∧ ∃ d, s = ⟨sl d 22 [(5, (.vec 0 ((List.map intD) v601)))], [(.tok 3 v601.length)]⟩)
theorem w_runs_times_L1 : ∀ x r, m_runs_times_L1 x = some r → P_runs_times_L1 x r := by
  refine m_runs_times_L1.partial_correctness _ (fun m_runs_times_L1 w_runs_times_L1 x r hm => ?_)
  unfold P_runs_times_L1
  obtain ⟨p0, p1, v201, v202⟩ := x
  intro st hst
  refine RL_at hst ?_
  clear hst
  refine R_seq ?_
  refine R_G ?_
  refine G_run 1 ?_
  refine G_end ?_
  refine R_seq ?_
  refine R_ifp (p := v202 < (p0.length : Int)) (rfl) (fun hc => ?_) (fun hc => ?_)
  · replace hm := pos_inv hc hm
    refine R_skip ?_
    refine R_seq ?_
    refine R_block ?_
    refine R_seq ?_
    refine R_G ?_
    obtain ⟨v602, hx, hm⟩ := bind_inv hm
    refine I_idx 1 intD p0 v202 v602 (es := (List.map intD) p0) (d := (intD v602)) rfl hx rfl rfl ?_
    refine G_run 2 ?_
    refine G_end ?_
    refine R_G ?_
    refine G_run 5 ?_
    obtain ⟨v603, hx, hm⟩ := bind_inv hm
    refine I_app 3 1 8 0 intD v201 ([(W (v602 * p1))] : List Int) v603 (xs := (List.map intD) v201) (es := (List.map intD) ([(W (v602 * p1))] : List Int)) (L := (List.map intD)) (fun _ => rfl) rfl rfl (fun _ => rfl) hx ?_
    refine G_run 1 ?_
    refine G_end ?_
    refine R_G ?_
    refine G_run 2 ?_
    refine G_end ?_
    exact w_runs_times_L1 _ _ hm _ (by kernel_rfl)
  replace hm := neg_inv hc hm
  refine R_exit ?_
  obtain rfl := inj1 hm
  exact ⟨rfl, cut_leaf (by kernel_rfl)⟩
def m_runs_times (x : ((List Int) × Int)) : Option (List Int) :=
  match x with
  | (p0, p1) =>
  m_runs_times_L1 (p0, p1, ([] : List Int), 0) >>= fun (v601 : (List Int)) =>
  some v601
def P_runs_times : ((List Int) × Int) → (List Int) → Prop := fun x r => match x, r with
  | (p0, p1), r0 => ∀ H, PC prog env 39 ([(.lst ((List.map intD) p0)), (intD p1)].map .dat) H (.dat (.lst ((List.map intD) r0))) H
theorem w_runs_times : ∀ x r, m_runs_times x = some r → P_runs_times x r := by
  intro x r0 hm
  unfold m_runs_times at hm
  unfold P_runs_times
  obtain ⟨p0, p1⟩ := x
  intro H
  refine PC_sx (ds := [(.lst ((List.map intD) p0)), (intD p1)]) (fn := f39) (by kernel_rfl) (by kernel_rfl) rfl ?_ (by kernel_rfl)
  refine R_seq ?_
  refine R_G ?_
  refine G_run 1 ?_
  refine G_end ?_
  refine R_seq ?_
  refine R_G ?_
  refine G_run 1 ?_
  refine G_end ?_
  refine R_seq ?_
  refine R_seq ?_
  refine R_G ?_
  refine G_run 1 ?_
  refine I_len intD p0 (es := (List.map intD) p0) rfl ?_
  refine G_run 1 ?_
  refine G_end ?_
  refine R_block ?_
  obtain ⟨v601, hs, hm⟩ := bind_inv hm
  refine R_loop ?_
  refine RL_use (w_runs_times_L1 _ _ hs) (by kernel_rfl) ?_
  clear hs
  intro e s hp
  obtain ⟨rfl, d, rfl⟩ := hp
  refine R_seq ?_
  refine R_G ?_
  refine G_run 2 ?_
  refine G_end ?_
  refine R_ret ?_
  obtain rfl := inj1 hm
  exact ⟨trivial, fin_pure (by kernel_rfl)⟩
end Go.Proofs.Try
namespace Go.Proofs.Try
open Go Go.Pm
set_option linter.unusedVariables false
set_option maxHeartbeats 2000000
set_option maxRecDepth 2000
def m_runs_single (x : (T_runs_Run × (List Int))) : Option T_access_Access :=
  match x with
  | (p0, p1) =>
  m_shape_Strides p1 >>= fun (v1 : (List Int)) =>
  if p0.fill = true then
    some (⟨1, 0, 0, ([] : (List Int)), 0, 0, 0⟩ : T_access_Access)
  else
  (if p0.step = 0 then
    some true
  else
  m_shape_Cells p1 >>= fun (v3 : Int) =>
  some (decide (v3 ≤ p0.len))
  ) >>= fun (v2 : Bool) =>
  if v2 = true then
    m_runs_times (v1, p0.step) >>= fun (v4 : (List Int)) =>
    some (⟨2, p0.buffer, p0.offset, v4, 0, 0, 0⟩ : T_access_Access)
  else
  some (⟨3, p0.buffer, p0.offset, v1, 0, p0.step, p0.len⟩ : T_access_Access)
def P_runs_single : (T_runs_Run × (List Int)) → T_access_Access → Prop := fun x r => match x, r with
  | (p0, p1), r0 => ∀ H, PC prog env 21 ([(T_runs_Run.toD p0), (.lst ((List.map intD) p1))].map .dat) H (.dat (T_access_Access.toD r0)) H
theorem w_runs_single : ∀ x r, m_runs_single x = some r → P_runs_single x r := by
  intro x r0 hm
  unfold m_runs_single at hm
  unfold P_runs_single
  obtain ⟨p0, p1⟩ := x
  intro H
  refine PC_sx (ds := [(T_runs_Run.toD p0), (.lst ((List.map intD) p1))]) (fn := f21) (by kernel_rfl) (by kernel_rfl) rfl ?_ (by kernel_rfl)
  refine R_seq ?_
  refine R_G ?_
  refine G_run 2 ?_
  refine G_end ?_
  refine R_seq ?_
  refine R_G ?_
  refine G_run 1 ?_
  obtain ⟨v1, hx, hm⟩ := bind_inv hm
  have hq := w_shape_Strides _ _ hx []
  refine G_callP hq ?_
  refine G_run 1 ?_
  refine G_end ?_
  refine R_seq ?_
  refine R_block ?_
  refine R_seq ?_
  refine R_G ?_
  refine G_run 3 ?_
  refine G_end ?_
  refine R_ifp (p := p0.fill = true) (bool_dec _) (fun hc => ?_) (fun hc => ?_)
  · replace hm := pos_inv hc hm
    refine R_seq ?_
    refine R_G ?_
    refine G_run 2 ?_
    refine G_end ?_
    refine R_ret ?_
    obtain rfl := inj1 hm
    exact ⟨trivial, fin_pure (by kernel_rfl)⟩
  replace hm := neg_inv hc hm
  refine R_seq ?_
  obtain ⟨v2, hs, hm⟩ := bind_inv hm
  refine R_cut (fun d => ⟨sl d 42 [(2, (.ptr 0 0)), (4, (.ptr 1 0)), (5, (.dat (.lst ((List.map intD) v1)))), (12, (boolPV v2))], [(.box [(intPV p0.at0_), (intPV p0.len), (boolPV p0.fill), (intPV p0.buffer), (intPV p0.offset), (intPV p0.step)]), (.box [(intPV 0), (intPV 0), (intPV 0), (.dat (.lst ((List.map intD) []))), (intPV 0), (intPV 0), (intPV 0)])]⟩) ?_ (fun d => ?_)
  · replace hm := hs
    clear hs
    refine R_GD ?_
    refine G_run 4 ?_
    refine G_split (p := p0.step = 0) 16 (eq_dec _ _) (fun hc => ?_) (fun hc => ?_)
    · replace hm := pos_inv hc hm
      refine G_run 7 ?_
      refine G_end ⟨by kernel_rfl, ?_⟩
      obtain rfl := inj1 hm
      exact cut_leaf (by kernel_rfl)
    replace hm := neg_inv hc hm
    refine G_run 1 ?_
    obtain ⟨v3, hx, hm⟩ := bind_inv hm
    have hq := w_shape_Cells _ _ hx []
    refine G_callP hq ?_
    refine G_run 5 ?_
    refine G_end ⟨by kernel_rfl, ?_⟩
    obtain rfl := inj1 hm
    exact cut_leaf (by kernel_rfl)
  clear hs
  refine R_ifp (p := v2 = true) (bool_dec _) (fun hc => ?_) (fun hc => ?_)
  · replace hm := pos_inv hc hm
    refine R_seq ?_
    refine R_GD ?_
    refine G_run 7 ?_
    obtain ⟨v4, hx, hm⟩ := bind_inv hm
    have hq := w_runs_times _ _ hx []
    refine G_callP hq ?_
    refine G_run 2 ?_
    refine G_end ⟨by kernel_rfl, ?_⟩
    refine R_ret ?_
    obtain rfl := inj1 hm
    exact ⟨trivial, fin_pure (by kernel_rfl)⟩
  replace hm := neg_inv hc hm
  refine R_skip ?_
  refine R_seq ?_
  refine R_G ?_
  refine G_run 11 ?_
  refine G_end ?_
  refine R_ret ?_
  obtain rfl := inj1 hm
  exact ⟨trivial, fin_pure (by kernel_rfl)⟩
end Go.Proofs.Try
namespace Go.Proofs.Try
open Go Go.Pm
set_option linter.unusedVariables false
set_option maxHeartbeats 2000000
set_option maxRecDepth 2000
def m_gamma_layoutOf (x : (List Int)) : Option T_gamma_layout :=
  match x with
  | p0 =>
  m_shape_Strides p0 >>= fun (v1 : (List Int)) =>
  some (⟨v1, p0⟩ : T_gamma_layout)
def P_gamma_layoutOf : (List Int) → T_gamma_layout → Prop := fun x r => match x, r with
  | p0, r0 => ∀ H, PC prog env 40 ([(.lst ((List.map intD) p0))].map .dat) H (.dat (T_gamma_layout.toD r0)) H
theorem w_gamma_layoutOf : ∀ x r, m_gamma_layoutOf x = some r → P_gamma_layoutOf x r := by
  intro p0 r0 hm
  unfold m_gamma_layoutOf at hm
  unfold P_gamma_layoutOf
  intro H
  refine PC_sx (ds := [(.lst ((List.map intD) p0))]) (fn := f40) (by kernel_rfl) (by kernel_rfl) rfl ?_ (by kernel_rfl)
  refine R_seq ?_
  refine R_G ?_
  refine G_run 1 ?_
  refine G_end ?_
  refine R_seq ?_
  refine R_G ?_
  refine G_run 1 ?_
  obtain ⟨v1, hx, hm⟩ := bind_inv hm
  have hq := w_shape_Strides _ _ hx []
  refine G_callP hq ?_
  refine G_run 3 ?_
  refine G_end ?_
  refine R_ret ?_
  obtain rfl := inj1 hm
  exact ⟨trivial, fin_pure (by kernel_rfl)⟩
end Go.Proofs.Try
namespace Go.Proofs.Try
open Go Go.Pm
set_option linter.unusedVariables false
set_option maxHeartbeats 2000000
set_option maxRecDepth 2000
def m_gamma_layout_index_b479f_L1 (x : ((List Int) × (List Int) × (List Int) × (List Int) × Int × Int)) : Option ((List Int)) :=
  match x with
  | (q0, v1, q1, v202, v203, v204) =>
  if v204 < (q0.length : Int) then
    idx q0 v204 >>= fun v603 =>
    quoM v203 v603 >>= fun v604 =>
    guardM (v202.length = v1.length) >>= fun (_ : Unit) =>
    idx v202 v204 >>= fun v605 =>
    setM v202 v204 v604 >>= fun v607 =>
    remM v203 v603 >>= fun v608 =>
    m_gamma_layout_index_b479f_L1 (q0, v1, q1, v607, v608, (W (v204 + 1)))
  else
  some v202
  partial_fixpoint
def P_gamma_layout_index_b479f_L1 : ((List Int) × (List Int) × (List Int) × (List Int) × Int × Int) → (List Int) → Prop := fun x r => match x with
  | (q0, v1, q1, v202, v203, v204) => ∀ st, prune 3 ((firstRegion (codeAt [1, 1, 0, 1, 0, 0] (bodyOf f41))).bind (env.hint 41).keepAt) st = ⟨kp 31 [(1, (intPV v203)), (5, (.arr 2 0 v1.length v1.length)), (13, (.dat (.lst ((List.map intD) q0)))), (14, (intPV (q0.length : Int))), (15, (intPV v204))], [(.tok 55 (([] : List T_piece_Piece).length)), (.box [(.dat (.lst ((List.map intD) q0))), (.dat (.lst ((List.map intD) q1)))]), (.box (cellsOf intD v202))]⟩ →
    RL prog env (env.hint 41) true (codeAt [1, 1, 0, 1, 0, 0] (bodyOf f41)) 3 st (fun e s => match r with | v602 => e = .exit 0 ∧ ∃ d, s = ⟨sl d 31 [(5, (.arr 2 0 v1.length v1.length))], [(.tok 55 (([] : List T_piece_Piece).length)), (.box [(.dat (.lst ((List.map intD) q0))), (.dat (.lst ((List.map intD) q1)))]), (.box (cellsOf intD v602))]⟩)
theorem w_gamma_layout_index_b479f_L1 : ∀ x r, m_gamma_layout_index_b479f_L1 x = some r → P_gamma_layout_index_b479f_L1 x r := by
  refine m_gamma_layout_index_b479f_L1.partial_correctness _ (fun m_gamma_layout_index_b479f_L1 w_gamma_layout_index_b479f_L1 x r hm => ?_)
  unfold P_gamma_layout_index_b479f_L1
  obtain ⟨q0, v1, q1, v202, v203, v204⟩ := x
  intro st hst
  refine RL_at hst ?_
  clear hst
  refine R_seq ?_
  refine R_G ?_
  refine G_run 1 ?_
  refine G_end ?_
  refine R_seq ?_
  refine R_ifp (p := v204 < (q0.length : Int)) (rfl) (fun hc => ?_) (fun hc => ?_)
  · replace hm := pos_inv hc hm
    refine R_skip ?_
    refine R_seq ?_
    refine R_block ?_
    refine R_seq ?_
    refine R_G ?_
    refine G_run 1 ?_
    obtain ⟨v603, hx, hm⟩ := bind_inv hm
    refine I_idx 1 intD q0 v204 v603 (es := (List.map intD) q0) (d := (intD v603)) rfl hx rfl rfl ?_
    refine G_run 3 ?_
    refine G_end ?_
    refine R_seq ?_
    refine R_G ?_
    refine G_run 4 ?_
    obtain ⟨v604, hx, hm⟩ := bind_inv hm
    refine G_semN rfl (by kernel_rfl) (fun _ => E_quo (a := v203) (b := v603) hx rfl (by kernel_rfl) (by kernel_rfl)) ?_
    obtain ⟨_, hl606, hm⟩ := bind_inv hm
    replace hl606 := guard_inv hl606
    obtain ⟨v605, hx, hm⟩ := bind_inv hm
    refine G_semN rfl (by kernel_rfl) (fun _ => E_ixBox (e := 3) (l := v202) (n := v204) (i := 2) (cap := v1.length) (m := v1.length) hx hl606 (by kernel_rfl) (by kernel_rfl) rfl (by kernel_rfl) (by kernel_rfl)) ?_
    obtain ⟨v607, hx, hm⟩ := bind_inv hm
    refine G_semH (fun H => H.set 2 (.box (cellsOf intD v607))) rfl (by kernel_rfl) (fun _ => E_stBox intD (l := v202) (n := v204) (y := v604) hx (fun _ => rfl) (by kernel_rfl) rfl (by kernel_rfl) (by kernel_rfl) (by kernel_rfl) (by kernel_rfl)) ?_
    refine G_end ?_
    refine R_G ?_
    refine G_run 2 ?_
    obtain ⟨v608, hx, hm⟩ := bind_inv hm
    refine G_semN rfl (by kernel_rfl) (fun _ => E_rem (a := v203) (b := v603) hx rfl (by kernel_rfl) (by kernel_rfl)) ?_
    refine G_run 1 ?_
    refine G_end ?_
    refine R_G ?_
    refine G_run 2 ?_
    refine G_end ?_
    exact w_gamma_layout_index_b479f_L1 _ _ hm _ (prune_of2 [(.tok 55 (([] : List T_piece_Piece).length)), (.box [(.dat (.lst ((List.map intD) q0))), (.dat (.lst ((List.map intD) q1)))]), (.box (cellsOf intD v607))] (fun _ => (pg_cons (by kernel_rfl) (pg_cons (by kernel_rfl) (pg_cons (purge_box intD _ _ _) pg_nil)))) rfl)
  replace hm := neg_inv hc hm
  refine R_exit ?_
  obtain rfl := inj1 hm
  exact ⟨rfl, cut_leaf (by kernel_rfl)⟩
def m_gamma_layout_index_b479f (x : ((List Int) × (List Int))) : Option (((List Int) × Nat)) :=
  match x with
  | (q0, q1) =>
  makeM 8 (q1.length : Int) 0 >>= fun v1 =>
  m_gamma_layout_index_b479f_L1 (q0, v1, q1, v1, 0, 0) >>= fun (v602 : (List Int)) =>
  some (v602, v1.length)
def P_gamma_layout_index_b479f : ((List Int) × (List Int)) → ((List Int) × Nat) → Prop := fun x r => match x with
  | (q0, q1) => PC prog env 41 [(.dat (.agg [(.lst ((List.map intD) q0)), (.lst ((List.map intD) q1))])), (intPV 0)] [(.tok 55 (([] : List T_piece_Piece).length))] (match r with | (v5001, v5002) => (.arr 2 0 v5002 v5002)) (match r with | (v5001, v5002) => [(.tok 55 (([] : List T_piece_Piece).length)), (.box [(.dat (.lst ((List.map intD) q0))), (.dat (.lst ((List.map intD) q1)))]), (.box (cellsOf intD v5001))])
theorem w_gamma_layout_index_b479f : ∀ x r, m_gamma_layout_index_b479f x = some r → P_gamma_layout_index_b479f x r := by
  intro x r hm
  unfold m_gamma_layout_index_b479f at hm
  unfold P_gamma_layout_index_b479f
  obtain ⟨q0, q1⟩ := x
  refine PC_sxB (fn := f41) (by kernel_rfl) (by kernel_rfl) rfl ?_
  refine R_seq ?_
  refine R_G ?_
  refine G_run 2 ?_
  refine G_end ?_
  refine R_seq ?_
  refine R_G ?_
  refine G_run 2 ?_
  refine I_len intD q1 (es := (List.map intD) q1) rfl ?_
  obtain ⟨v1, hx, hm⟩ := bind_inv hm
  refine G_semH (v := .arr 2 0 v1.length v1.length) (fun H => H ++ [.box (cellsOf intD v1)]) rfl (by kernel_rfl) ?_ ?_
  · intro K hk
    exact E_mkBoxN 2 intD (z := 0) (n := (q1.length : Int)) (bytes := 8) hx (e := 3) (by kernel_rfl) (by kernel_rfl) (by kernel_rfl) (by kernel_rfl) rfl rfl (by kernel_rfl) (by kernel_rfl) hk
  refine G_run 1 ?_
  refine G_end ?_
  refine R_seq ?_
  refine R_seq ?_
  refine R_G ?_
  refine G_run 2 ?_
  refine I_len intD q0 (es := (List.map intD) q0) rfl ?_
  refine G_run 1 ?_
  refine G_end ?_
  refine R_block ?_
  obtain ⟨v602, hs, hm⟩ := bind_inv hm
  refine R_loop ?_
  refine RL_use (w_gamma_layout_index_b479f_L1 _ _ hs) (prune_of2 [(.tok 55 (([] : List T_piece_Piece).length)), (.box [(.dat (.lst ((List.map intD) q0))), (.dat (.lst ((List.map intD) q1)))]), (.box (cellsOf intD v1))] (fun _ => (pg_cons (by kernel_rfl) (pg_cons (by kernel_rfl) (pg_cons (purge_box intD _ _ _) pg_nil)))) rfl) ?_
  clear hs
  intro e s hp
  obtain ⟨rfl, d, rfl⟩ := hp
  refine R_seq ?_
  refine R_G ?_
  refine G_run 2 ?_
  refine G_end ?_
  refine R_ret ?_
  obtain rfl := inj1 hm
  exact ⟨trivial, fin_body (by kernel_rfl) (by kernel_rfl)⟩
end Go.Proofs.Try
namespace Go.Proofs.Try
open Go Go.Pm
set_option linter.unusedVariables false
set_option maxHeartbeats 2000000
set_option maxRecDepth 2000
def m_gamma_Index_b4ee8 (x : (List Int)) : Option (Unit ⊕ ((List Int) × (List Int) × (List Int) × Nat)) :=
  match x with
  | q0 =>
  m_shape_Cells q0 >>= fun (v1 : Int) =>
  if 0 ≥ v1 then
    some (Sum.inl ())
  else
  m_gamma_layoutOf q0 >>= fun (v2 : T_gamma_layout) =>
  m_gamma_layout_index_b479f (v2.strides, v2.dims) >>= fun ((v3, v4) : ((List Int) × Nat)) =>
  some (Sum.inr (v3, v2.strides, v2.dims, v4))
def P_gamma_Index_b4ee8 : (List Int) → (Unit ⊕ ((List Int) × (List Int) × (List Int) × Nat)) → Prop := fun x r => match x with
  | q0 => PC prog env 22 [(.dat (.lst ((List.map intD) q0))), (intPV 0)] [(.tok 55 (([] : List T_piece_Piece).length))] (match r with | .inl _ => (.tup [(.dat (.lst ((List.map intD) []))), (boolPV false)]) | .inr ((v5001, v5002, v5003, v5004)) => (.tup [(.arr 2 0 v5004 v5004), (boolPV true)])) (match r with | .inl _ => [(.tok 55 (([] : List T_piece_Piece).length))] | .inr ((v5001, v5002, v5003, v5004)) => [(.tok 55 (([] : List T_piece_Piece).length)), (.box [(.dat (.lst ((List.map intD) v5002))), (.dat (.lst ((List.map intD) v5003)))]), (.box (cellsOf intD v5001))])
theorem w_gamma_Index_b4ee8 : ∀ x r, m_gamma_Index_b4ee8 x = some r → P_gamma_Index_b4ee8 x r := by
  intro q0 r hm
  unfold m_gamma_Index_b4ee8 at hm
  unfold P_gamma_Index_b4ee8
  refine PC_sxB (fn := f22) (by kernel_rfl) (by kernel_rfl) rfl ?_
  refine R_seq ?_
  refine R_G ?_
  refine G_run 2 ?_
  refine G_end ?_
  refine R_seq ?_
  refine R_seq ?_
  refine R_G ?_
  refine G_run 5 ?_
  obtain ⟨v1, hx, hm⟩ := bind_inv hm
  have hq := w_shape_Cells _ _ hx []
  refine G_callP hq ?_
  refine G_run 2 ?_
  refine G_end ?_
  refine R_ifp (p := 0 ≥ v1) (rfl) (fun hc => ?_) (fun hc => ?_)
  · replace hm := pos_inv hc hm
    refine R_seq ?_
    refine R_G ?_
    refine G_run 2 ?_
    refine G_end ?_
    refine R_ret ?_
    obtain rfl := inj1 hm
    exact ⟨trivial, fin_body (by kernel_rfl) (by kernel_rfl)⟩
  replace hm := neg_inv hc hm
  refine R_skip ?_
  refine R_seq ?_
  refine R_G ?_
  refine G_run 1 ?_
  obtain ⟨v2, hx, hm⟩ := bind_inv hm
  have hq := w_gamma_layoutOf _ _ hx []
  refine G_callP hq ?_
  refine G_run 1 ?_
  obtain ⟨⟨v3, v4⟩, hx, hm⟩ := bind_inv hm
  have hq := w_gamma_layout_index_b479f _ _ hx
  dsimp only [P_gamma_layout_index_b479f] at hq
  refine G_callB hq ?_
  refine G_run 2 ?_
  refine G_end ?_
  refine R_ret ?_
  obtain rfl := inj1 hm
  exact ⟨trivial, fin_body (by kernel_rfl) (by kernel_rfl)⟩
end Go.Proofs.Try
namespace Go.Proofs.Try
open Go Go.Pm
set_option linter.unusedVariables false
set_option maxHeartbeats 2000000
set_option maxRecDepth 2000
def m_runs_Pieces_L1 (x : (Int × (List Int) × (List T_runs_Run) × Int × T_runs_Run × T_runs_Run)) : Option (Unit) :=
  match x with
  | (v1, p1, p0, v7, v9, v10) =>
  if 0 < v1 then
    (
    m_gamma_Index_b4ee8 p1 >>= fun (out : Unit ⊕ ((List Int) × (List Int) × (List Int) × Nat)) =>
    match out with
    | .inl _ =>
      none
    | .inr ((v411, v412, v413, v414)) =>
      none
    )
  else
  some ()
def P_runs_Pieces_L1 : (Int × (List Int) × (List T_runs_Run) × Int × T_runs_Run × T_runs_Run) → Unit → Prop := fun x r => match x with
  | (v1, p1, p0, v7, v9, v10) => ∀ st, prune 1 ((firstRegion (codeAt [1, 1, 1, 1, 1, 1, 1, 0, 1, 0, 0] (bodyOf f9))).bind (env.hint 9).keepAt) st = ⟨kp 82 [(0, (.dat (.lst ((List.map T_runs_Run.toD) p0)))), (1, (.dat (.lst ((List.map intD) p1)))), (5, (intPV v1)), (6, (intPV v7)), (7, (intPV (W (v9.at0_ + v10.len)))), (8, (.vec 0 [])), (9, (intPV 0))], [(.tok 55 (([] : List T_piece_Piece).length))]⟩ →
    RL prog env (env.hint 9) true (codeAt [1, 1, 1, 1, 1, 1, 1, 0, 1, 0, 0] (bodyOf f9)) 1 st (fun e s => match r with | _ => e = .exit 1 ∧ ∃ d, s = ⟨sl d 82 [(8, (.vec 0 []))], [(.tok 55 (([] : List T_piece_Piece).length))]⟩)
theorem w_runs_Pieces_L1 : ∀ x r, m_runs_Pieces_L1 x = some r → P_runs_Pieces_L1 x r := by
  intro x r hm
  unfold m_runs_Pieces_L1 at hm
  unfold P_runs_Pieces_L1
  obtain ⟨v1, p1, p0, v7, v9, v10⟩ := x
  intro st hst
  refine RL_at hst ?_
  clear hst
  refine R_seq ?_
  refine R_seq ?_
  refine R_G ?_
  refine G_run 3 ?_
  refine G_end ?_
  refine R_ifp (p := 0 < v1) (rfl) (fun hc => ?_) (fun hc => ?_)
  · replace hm := pos_inv hc hm
    refine R_skip ?_
    refine R_seq ?_
    refine R_block ?_
    refine R_seq ?_
    refine R_G ?_
    refine G_run 2 ?_
    obtain ⟨out, hx, hm⟩ := bind_inv hm
    rcases out with _ | ⟨v411, v412, v413, v414⟩
    · have hq := w_gamma_Index_b4ee8 _ _ hx
      dsimp only [P_gamma_Index_b4ee8] at hq
      refine G_callB hq ?_
      refine G_run 5 ?_
      refine G_end ?_
      refine R_G ?_
      refine G_run 6 ?_
      exact (none_inv hm).elim
    · have hq := w_gamma_Index_b4ee8 _ _ hx
      dsimp only [P_gamma_Index_b4ee8] at hq
      refine G_callB hq ?_
      refine G_run 5 ?_
      refine G_end ?_
      refine R_G ?_
      refine G_run 6 ?_
      exact (none_inv hm).elim
  replace hm := neg_inv hc hm
  refine R_exit ?_
  obtain rfl := inj1 hm
  exact ⟨rfl, cut_leaf (by kernel_rfl)⟩
def m_runs_Pieces (x : ((List T_runs_Run) × (List Int))) : Option (List T_piece_Piece) :=
  match x with
  | (p0, p1) =>
  m_shape_Cells p1 >>= fun (v1 : Int) =>
  (if v1 = 0 then
    some true
  else
  some ((p0.length : Int) == 0)
  ) >>= fun (v2 : Bool) =>
  if v2 = true then
    m_piece_Filled p1 >>= fun (v3 : (List T_piece_Piece)) =>
    some v3
  else
  if (p0.length : Int) = 1 then
    m_box_Whole p1 >>= fun (v4 : T_box_Box) =>
    idx p0 0 >>= fun v5 =>
    m_runs_single (v5, p1) >>= fun (v6 : T_access_Access) =>
    some ([(⟨v4, v6⟩ : T_piece_Piece)] : List T_piece_Piece)
  else
  (if (p1.length : Int) > 0 then
    idx p1 (W ((p1.length : Int) - 1)) >>= fun v8 =>
    some v8
  else
  some 1
  ) >>= fun (v7 : Int) =>
  idx p0 (W ((p0.length : Int) - 1)) >>= fun v9 =>
  idx p0 (W ((p0.length : Int) - 1)) >>= fun v10 =>
  m_runs_Pieces_L1 (v1, p1, p0, v7, v9, v10) >>= fun (_ : Unit) =>
  some ([] : (List T_piece_Piece))
def P_runs_Pieces : ((List T_runs_Run) × (List Int)) → (List T_piece_Piece) → Prop := fun x r => match x, r with
  | (p0, p1), r0 => ∀ H, PC prog env 9 ([(.lst ((List.map T_runs_Run.toD) p0)), (.lst ((List.map intD) p1))].map .dat) H (.dat (.lst ((List.map T_piece_Piece.toD) r0))) H
theorem w_runs_Pieces : ∀ x r, m_runs_Pieces x = some r → P_runs_Pieces x r := by
  intro x r0 hm
  unfold m_runs_Pieces at hm
  unfold P_runs_Pieces
  obtain ⟨p0, p1⟩ := x
  intro H
  refine PC_sx (ds := [(.lst ((List.map T_runs_Run.toD) p0)), (.lst ((List.map intD) p1))]) (fn := f9) (by kernel_rfl) (by kernel_rfl) rfl ?_ (by kernel_rfl)
  refine R_seq ?_
  refine R_G ?_
  refine G_run 1 ?_
  refine G_end ?_
  refine R_seq ?_
  refine R_G ?_
  refine G_run 1 ?_
  obtain ⟨v1, hx, hm⟩ := bind_inv hm
  have hq := w_shape_Cells _ _ hx []
  refine G_callP hq ?_
  refine G_run 1 ?_
  refine G_end ?_
  refine R_seq ?_
  refine R_block ?_
  refine R_seq ?_
  obtain ⟨v2, hs, hm⟩ := bind_inv hm
  refine R_cut (fun d => ⟨sl d 82 [(0, (.dat (.lst ((List.map T_runs_Run.toD) p0)))), (1, (.dat (.lst ((List.map intD) p1)))), (5, (intPV v1)), (14, (boolPV v2))], []⟩) ?_ (fun d => ?_)
  · replace hm := hs
    clear hs
    refine R_G ?_
    refine G_run 3 ?_
    refine G_split (p := v1 = 0) 17 (eq_dec _ _) (fun hc => ?_) (fun hc => ?_)
    · replace hm := pos_inv hc hm
      refine G_run 5 ?_
      refine G_end ?_
      obtain rfl := inj1 hm
      exact cut_leaf (by kernel_rfl)
    replace hm := neg_inv hc hm
    refine G_run 1 ?_
    refine I_len T_runs_Run.toD p0 (es := (List.map T_runs_Run.toD) p0) rfl ?_
    refine G_run 3 ?_
    refine G_end ?_
    obtain rfl := inj1 hm
    exact cut_leaf (by kernel_rfl)
  clear hs
  refine R_ifp (p := v2 = true) (bool_dec _) (fun hc => ?_) (fun hc => ?_)
  · replace hm := pos_inv hc hm
    refine R_seq ?_
    refine R_G ?_
    refine G_run 1 ?_
    obtain ⟨v3, hx, hm⟩ := bind_inv hm
    have hq := w_piece_Filled _ _ hx []
    refine G_callP hq ?_
    refine G_run 1 ?_
    refine G_end ?_
    refine R_ret ?_
    obtain rfl := inj1 hm
    exact ⟨trivial, fin_pure (by kernel_rfl)⟩
  replace hm := neg_inv hc hm
  refine R_seq ?_
  refine R_G ?_
  refine G_run 1 ?_
  refine I_len T_runs_Run.toD p0 (es := (List.map T_runs_Run.toD) p0) rfl ?_
  refine G_run 2 ?_
  refine G_end ?_
  refine R_ifp (p := (p0.length : Int) = 1) (eq_dec _ _) (fun hc => ?_) (fun hc => ?_)
  · replace hm := pos_inv hc hm
    refine R_seq ?_
    refine R_GD ?_
    refine G_run 1 ?_
    obtain ⟨v4, hx, hm⟩ := bind_inv hm
    have hq := w_box_Whole _ _ hx []
    refine G_callP hq ?_
    refine G_run 1 ?_
    obtain ⟨v5, hx, hm⟩ := bind_inv hm
    refine I_idx 6 T_runs_Run.toD p0 0 v5 (es := (List.map T_runs_Run.toD) p0) (d := (T_runs_Run.toD v5)) rfl hx rfl rfl ?_
    refine G_run 2 ?_
    obtain ⟨v6, hx, hm⟩ := bind_inv hm
    have hq := w_runs_single _ _ hx []
    refine G_callP hq ?_
    refine G_run 3 ?_
    refine G_end ⟨by kernel_rfl, ?_⟩
    refine R_ret ?_
    obtain rfl := inj1 hm
    exact ⟨trivial, fin_pure (by kernel_rfl)⟩
  replace hm := neg_inv hc hm
  refine R_skip ?_
  refine R_seq ?_
  refine R_G ?_
  refine G_run 1 ?_
  refine G_end ?_
  refine R_seq ?_
  refine R_seq ?_
  refine R_G ?_
  refine G_run 1 ?_
  refine I_len intD p1 (es := (List.map intD) p1) rfl ?_
  refine G_run 1 ?_
  refine G_end ?_
  obtain ⟨v7, hs, hm⟩ := bind_inv hm
  refine R_cut (fun d => ⟨sl d 82 [(0, (.dat (.lst ((List.map T_runs_Run.toD) p0)))), (1, (.dat (.lst ((List.map intD) p1)))), (5, (intPV v1)), (6, (intPV v7))], []⟩) ?_ (fun d => ?_)
  · replace hm := hs
    clear hs
    refine R_ifp (p := (p1.length : Int) > 0) (rfl) (fun hc => ?_) (fun hc => ?_)
    · replace hm := pos_inv hc hm
      refine R_G ?_
      refine G_run 2 ?_
      refine I_len intD p1 (es := (List.map intD) p1) rfl ?_
      refine G_run 1 ?_
      obtain ⟨v8, hx, hm⟩ := bind_inv hm
      refine I_idx 1 intD p1 (W ((p1.length : Int) - 1)) v8 (es := (List.map intD) p1) (d := (intD v8)) rfl hx rfl rfl ?_
      refine G_run 2 ?_
      refine G_end ?_
      obtain rfl := inj1 hm
      exact cut_leaf (by kernel_rfl)
    replace hm := neg_inv hc hm
    refine R_skip ?_
    obtain rfl := inj1 hm
    exact cut_leaf (by kernel_rfl)
  clear hs
  refine R_seq ?_
  refine R_GD ?_
  refine G_run 2 ?_
  refine I_len T_runs_Run.toD p0 (es := (List.map T_runs_Run.toD) p0) rfl ?_
  refine G_run 1 ?_
  obtain ⟨v9, hx, hm⟩ := bind_inv hm
  refine I_idx 6 T_runs_Run.toD p0 (W ((p0.length : Int) - 1)) v9 (es := (List.map T_runs_Run.toD) p0) (d := (T_runs_Run.toD v9)) rfl hx rfl rfl ?_
  refine G_run 4 ?_
  refine I_len T_runs_Run.toD p0 (es := (List.map T_runs_Run.toD) p0) rfl ?_
  refine G_run 1 ?_
  obtain ⟨v10, hx, hm⟩ := bind_inv hm
  refine I_idx 6 T_runs_Run.toD p0 (W ((p0.length : Int) - 1)) v10 (es := (List.map T_runs_Run.toD) p0) (d := (T_runs_Run.toD v10)) rfl hx rfl rfl ?_
  refine G_run 4 ?_
  refine G_end ⟨by kernel_rfl, ?_⟩
  refine R_seq ?_
  refine R_G ?_
  refine G_run 1 ?_
  refine G_end ?_
  refine R_seq ?_
  refine R_seq ?_
  refine R_G ?_
  refine G_run 1 ?_
  refine G_end ?_
  refine R_block ?_
  obtain ⟨_, hs, hm⟩ := bind_inv hm
  refine R_loop ?_
  refine RL_use (w_runs_Pieces_L1 _ _ hs) (by kernel_rfl) ?_
  clear hs
  intro e s hp
  obtain ⟨rfl, d, rfl⟩ := hp
  refine R_seq ?_
  refine R_G ?_
  refine G_run 2 ?_
  refine G_end ?_
  refine R_ret ?_
  obtain rfl := inj1 hm
  exact ⟨trivial, fin_pure (by kernel_rfl)⟩
end Go.Proofs.Try
namespace Go.Proofs.Try
open Go Go.Pm
set_option linter.unusedVariables false
set_option maxHeartbeats 2000000
set_option maxRecDepth 2000
def m_law19_RunsFew_L1 (x : (Int × (List Int) × (List T_ref16_Cell) × (List T_ref16_Cell) × Int)) : Option ((List T_ref16_Cell)) :=
  match x with
  | (p0, p1, p2, v207, v208) =>
  if v208 < (W (p0)) then
    app 24 v207 ([(⟨false, 3, v208⟩ : T_ref16_Cell)] : List T_ref16_Cell) >>= fun v608 =>
    m_law19_RunsFew_L1 (p0, p1, p2, v608, (W (v208 + 1)))
  else
  some v207
  partial_fixpoint
def P_law19_RunsFew_L1 : (Int × (List Int) × (List T_ref16_Cell) × (List T_ref16_Cell) × Int) → (List T_ref16_Cell) → Prop := fun x r => match x with
  | (p0, p1, p2, v207, v208) => ∀ st, prune 1 ((firstRegion (codeAt [1, 1, 1, 0, 1, 0, 0] (bodyOf f3))).bind (env.hint 3).keepAt) st = ⟨kp 64 [(0, (.dat (numD .u8 p0))), (1, (.dat (.lst ((List.map intD) p1)))), (2, (.dat (.lst ((List.map T_ref16_Cell.toD) p2)))), (7, (.vec 0 ((List.map T_ref16_Cell.toD) v207))), (8, (intPV v208))], [(.tok 28 v207.length)]⟩ →
    RL prog env (env.hint 3) true (codeAt [1, 1, 1, 0, 1, 0, 0] (bodyOf f3)) 1 st (fun e s => match r with | v607 => e = .exit 0 ∧ ∃ d, s = ⟨sl d 64 [(0, (.dat (numD .u8 p0))), (1, (.dat (.lst ((List.map intD) p1)))), (2, (.dat (.lst ((List.map T_ref16_Cell.toD) p2)))), (7, (.vec 0 ((List.map T_ref16_Cell.toD) v607)))], [(.tok 28 v607.length)]⟩)
theorem w_law19_RunsFew_L1 : ∀ x r, m_law19_RunsFew_L1 x = some r → P_law19_RunsFew_L1 x r := by
  refine m_law19_RunsFew_L1.partial_correctness _ (fun m_law19_RunsFew_L1 w_law19_RunsFew_L1 x r hm => ?_)
  unfold P_law19_RunsFew_L1
  obtain ⟨p0, p1, p2, v207, v208⟩ := x
  intro st hst
  refine RL_at hst ?_
  clear hst
  refine R_seq ?_
  refine R_seq ?_
  refine R_G ?_
  refine G_run 4 ?_
  refine G_end ?_
  refine R_ifp (p := v208 < (W (p0))) (rfl) (fun hc => ?_) (fun hc => ?_)
  · replace hm := pos_inv hc hm
    refine R_skip ?_
    refine R_seq ?_
    refine R_block ?_
    refine R_G ?_
    refine G_run 4 ?_
    obtain ⟨v608, hx, hm⟩ := bind_inv hm
    refine I_app 28 3 24 0 T_ref16_Cell.toD v207 ([(⟨false, 3, v208⟩ : T_ref16_Cell)] : List T_ref16_Cell) v608 (xs := (List.map T_ref16_Cell.toD) v207) (es := (List.map T_ref16_Cell.toD) ([(⟨false, 3, v208⟩ : T_ref16_Cell)] : List T_ref16_Cell)) (L := (List.map T_ref16_Cell.toD)) (fun _ => rfl) rfl rfl T_ref16_Cell.fit hx ?_
    refine G_run 1 ?_
    refine G_end ?_
    refine R_G ?_
    refine G_run 3 ?_
    refine G_end ?_
    exact w_law19_RunsFew_L1 _ _ hm _ (by kernel_rfl)
  replace hm := neg_inv hc hm
  refine R_exit ?_
  obtain rfl := inj1 hm
  exact ⟨rfl, cut_leaf (by kernel_rfl)⟩
def m_law19_RunsFew (x : (Int × (List Int) × (List T_ref16_Cell))) : Option Bool :=
  match x with
  | (p0, p1, p2) =>
  (m_law19_awake () >>= fun (v2 : Bool) =>
  (if v2 = false then
    some true
  else
  m_ref02_Small (p1, 300) >>= fun (v4 : Bool) =>
  some (!v4)
  ) >>= fun (v3 : Bool) =>
  if v3 = true then
    some true
  else
  m_law19_right (p2, 200) >>= fun (v5 : Bool) =>
  some (!v5)
  ) >>= fun (v1 : Bool) =>
  if v1 = true then
    m_law19_awake () >>= fun (v6 : Bool) =>
    some v6
  else
  m_law19_RunsFew_L1 (p0, p1, p2, ([] : List T_ref16_Cell), 0) >>= fun (v607 : (List T_ref16_Cell)) =>
  m_law19_cells v607 >>= fun (v609 : (List T_psi_Cell)) =>
  m_runs_Of v609 >>= fun (v610 : (List T_runs_Run)) =>
  m_runs_Pieces (v610, p1) >>= fun (v611 : (List T_piece_Piece)) =>
  (if (v610.length : Int) = (if 1 < (W (p0)) then 1 else (W (p0))) then
    m_ref02_Cells p1 >>= fun (v613 : Int) =>
    some ((v611.length : Int) == (if 1 < v613 then 1 else v613))
  else
  some false
  ) >>= fun (v612 : Bool) =>
  if v612 = true then
    m_law19_cells p2 >>= fun (v614 : (List T_psi_Cell)) =>
    m_runs_Of v614 >>= fun (v615 : (List T_runs_Run)) =>
    some (decide ((v615.length : Int) ≤ (p2.length : Int)))
  else
  some false
def P_law19_RunsFew : (Int × (List Int) × (List T_ref16_Cell)) → Bool → Prop := fun x r => match x, r with
  | (p0, p1, p2), r0 => ∀ H, PC prog env 3 ([(numD .u8 p0), (.lst ((List.map intD) p1)), (.lst ((List.map T_ref16_Cell.toD) p2))].map .dat) H (boolPV r0) H
theorem w_law19_RunsFew : ∀ x r, m_law19_RunsFew x = some r → P_law19_RunsFew x r := by
  intro x r0 hm
  unfold m_law19_RunsFew at hm
  unfold P_law19_RunsFew
  obtain ⟨p0, p1, p2⟩ := x
  intro H
  refine PC_sx (ds := [(numD .u8 p0), (.lst ((List.map intD) p1)), (.lst ((List.map T_ref16_Cell.toD) p2))]) (fn := f3) (by kernel_rfl) (by kernel_rfl) rfl ?_ (by kernel_rfl)
  refine R_seq ?_
  refine R_G ?_
  refine G_run 1 ?_
  refine G_end ?_
  refine R_seq ?_
  refine R_seq ?_
  obtain ⟨v1, hs, hm⟩ := bind_inv hm
  refine R_cut (fun d => ⟨sl d 64 [(0, (.dat (numD .u8 p0))), (1, (.dat (.lst ((List.map intD) p1)))), (2, (.dat (.lst ((List.map T_ref16_Cell.toD) p2)))), (22, (boolPV v1))], []⟩) ?_ (fun d => ?_)
  · replace hm := hs
    clear hs
    refine R_GN ?_
    obtain ⟨v2, hx, hm⟩ := bind_inv hm
    have hq := w_law19_awake _ _ hx []
    refine G_callP hq ?_
    refine G_run 2 ?_
    obtain ⟨v3, hs, hm⟩ := bind_inv hm
    refine G_cut (j := 7) (fun d => ⟨sl d 64 [(0, (.dat (numD .u8 p0))), (1, (.dat (.lst ((List.map intD) p1)))), (2, (.dat (.lst ((List.map T_ref16_Cell.toD) p2)))), (6, (boolPV false)), (11, (boolPV v2)), (12, (boolPV (!v2))), (17, (boolPV v3))], []⟩) (fun d => ?_) (fun hJ => ?_)
    · clear hs
      refine G_run 1 ?_
      refine G_split (p := v3 = true) 18 (bool_dec _) (fun hc => ?_) (fun hc => ?_)
      · replace hm := pos_inv hc hm
        refine G_run 4 ?_
        refine G_end ⟨by kernel_rfl, ?_⟩
        obtain rfl := inj1 hm
        exact cut_leaf (by kernel_rfl)
      replace hm := neg_inv hc hm
      refine G_run 1 ?_
      obtain ⟨v5, hx, hm⟩ := bind_inv hm
      have hq := w_law19_right _ _ hx []
      refine G_callP hq ?_
      refine G_run 2 ?_
      refine G_end ⟨by kernel_rfl, ?_⟩
      obtain rfl := inj1 hm
      exact cut_leaf (by kernel_rfl)
    replace hm := hs
    clear hs
    refine G_split (p := v2 = false) 13 (not_dec _) (fun hc => ?_) (fun hc => ?_)
    · replace hm := pos_inv hc hm
      refine G_run 4 ?_
      obtain rfl := inj1 hm
      exact hJ _ _ (by kernel_rfl) (by kernel_rfl)
    replace hm := neg_inv hc hm
    refine G_run 1 ?_
    obtain ⟨v4, hx, hm⟩ := bind_inv hm
    have hq := w_ref02_Small _ _ hx []
    refine G_callP hq ?_
    refine G_run 2 ?_
    obtain rfl := inj1 hm
    exact hJ _ _ (by kernel_rfl) (by kernel_rfl)
  clear hs
  refine R_ifp (p := v1 = true) (bool_dec _) (fun hc => ?_) (fun hc => ?_)
  · replace hm := pos_inv hc hm
    refine R_seq ?_
    refine R_G ?_
    obtain ⟨v6, hx, hm⟩ := bind_inv hm
    have hq := w_law19_awake _ _ hx []
    refine G_callP hq ?_
    refine G_run 1 ?_
    refine G_end ?_
    refine R_ret ?_
    obtain rfl := inj1 hm
    exact ⟨trivial, fin_pure (by kernel_rfl)⟩
  replace hm := neg_inv hc hm
  refine R_skip ?_
  refine R_seq ?_
  refine R_G ?_
  refine G_run 1 ?_
  refine G_end ?_
  refine R_seq ?_
  refine R_seq ?_
  refine R_G ?_
  refine G_run 1 ?_
  refine G_end ?_
  refine R_block ?_
  obtain ⟨v607, hs, hm⟩ := bind_inv hm
  refine R_loop ?_
  refine RL_use (w_law19_RunsFew_L1 _ _ hs) (by kernel_rfl) ?_
  clear hs
  intro e s hp
  obtain ⟨rfl, d, rfl⟩ := hp
  refine R_seq ?_
  refine R_G ?_
  refine G_run 1 ?_
  obtain ⟨v609, hx, hm⟩ := bind_inv hm
  have hq := w_law19_cells _ _ hx []
  refine G_callP hq ?_
  obtain ⟨v610, hx, hm⟩ := bind_inv hm
  have hq := w_runs_Of _ _ hx []
  refine G_callP hq ?_
  refine G_run 1 ?_
  refine G_end ?_
  refine R_seq ?_
  refine R_G ?_
  refine G_run 2 ?_
  obtain ⟨v611, hx, hm⟩ := bind_inv hm
  have hq := w_runs_Pieces _ _ hx []
  refine G_callP hq ?_
  refine G_run 1 ?_
  refine G_end ?_
  refine R_seq ?_
  refine R_GN ?_
  refine G_run 1 ?_
  refine I_len T_runs_Run.toD v610 (es := (List.map T_runs_Run.toD) v610) rfl ?_
  refine G_run 2 ?_
  refine G_semN rfl (by kernel_rfl) (fun _ => E_min (k := .i64) (m := (W (p0))) (n := 1) rfl (by kernel_rfl) (by kernel_rfl)) ?_
  refine G_run 2 ?_
  obtain ⟨v612, hs, hm⟩ := bind_inv hm
  refine G_cut (j := 14) (fun d => ⟨sl d 64 [(0, (.dat (numD .u8 p0))), (1, (.dat (.lst ((List.map intD) p1)))), (2, (.dat (.lst ((List.map T_ref16_Cell.toD) p2)))), (7, (.vec 0 ((List.map T_ref16_Cell.toD) v607))), (9, (.dat (.lst ((List.map T_runs_Run.toD) v610)))), (10, (.dat (.lst ((List.map T_piece_Piece.toD) v611)))), (35, (.vec 0 ((List.map T_ref16_Cell.toD) v607))), (36, (.dat (.lst ((List.map T_psi_Cell.toD) v609)))), (37, (.dat (.lst ((List.map T_runs_Run.toD) v610)))), (38, (.dat (.lst ((List.map T_runs_Run.toD) v610)))), (39, (.dat (.lst ((List.map intD) p1)))), (40, (.dat (.lst ((List.map T_piece_Piece.toD) v611)))), (41, (.dat (.lst ((List.map T_runs_Run.toD) v610)))), (42, (intPV (v610.length : Int))), (43, (.dat (numD .u8 p0))), (44, (intPV (W (p0)))), (45, (intPV (if 1 < (W (p0)) then 1 else (W (p0))))), (46, (boolPV ((v610.length : Int) == (if 1 < (W (p0)) then 1 else (W (p0)))))), (54, (boolPV v612))], [(.tok 28 v607.length)]⟩) (fun d => ?_) (fun hJ => ?_)
  · clear hs
    refine G_run 1 ?_
    refine G_split (p := v612 = true) 55 (bool_dec _) (fun hc => ?_) (fun hc => ?_)
    · replace hm := pos_inv hc hm
      refine G_run 1 ?_
      obtain ⟨v614, hx, hm⟩ := bind_inv hm
      have hq := w_law19_cells _ _ hx []
      refine G_callP hq ?_
      obtain ⟨v615, hx, hm⟩ := bind_inv hm
      have hq := w_runs_Of _ _ hx []
      refine G_callP hq ?_
      refine I_len T_runs_Run.toD v615 (es := (List.map T_runs_Run.toD) v615) rfl ?_
      refine G_run 1 ?_
      refine I_len T_ref16_Cell.toD p2 (es := (List.map T_ref16_Cell.toD) p2) rfl ?_
      refine G_run 3 ?_
      refine G_end ⟨by kernel_rfl, ?_⟩
      refine R_ret ?_
      obtain rfl := inj1 hm
      exact ⟨trivial, fin_pure (by kernel_rfl)⟩
    replace hm := neg_inv hc hm
    refine G_run 9 ?_
    refine G_end ⟨by kernel_rfl, ?_⟩
    refine R_ret ?_
    obtain rfl := inj1 hm
    exact ⟨trivial, fin_pure (by kernel_rfl)⟩
  replace hm := hs
  clear hs
  refine G_split (p := (v610.length : Int) = (if 1 < (W (p0)) then 1 else (W (p0)))) 47 (eq_dec _ _) (fun hc => ?_) (fun hc => ?_)
  · replace hm := pos_inv hc hm
    refine G_run 1 ?_
    refine I_len T_piece_Piece.toD v611 (es := (List.map T_piece_Piece.toD) v611) rfl ?_
    refine G_run 1 ?_
    obtain ⟨v613, hx, hm⟩ := bind_inv hm
    have hq := w_ref02_Cells _ _ hx []
    refine G_callP hq ?_
    refine G_semN rfl (by kernel_rfl) (fun _ => E_min (k := .i64) (m := v613) (n := 1) rfl (by kernel_rfl) (by kernel_rfl)) ?_
    refine G_run 2 ?_
    obtain rfl := inj1 hm
    exact hJ _ _ (by kernel_rfl) (by kernel_rfl)
  replace hm := neg_inv hc hm
  refine G_run 7 ?_
  obtain rfl := inj1 hm
  exact hJ _ _ (by kernel_rfl) (by kernel_rfl)
end Go.Proofs.Try
namespace Go.Proofs.Try
open Go Go.Pm
set_option linter.unusedVariables false
set_option linter.unusedSimpArgs false
set_option maxRecDepth 2000
/-- the product, exactly -/
def prodI (l : List Int) : Int := l.foldl (· * ·) 1
def negB (l : List Int) : Bool := l.any fun d => decide (d < 0)
def bigB (l : List Int) : Bool := l.any fun d => decide (d > 65536)
def prodR (l : List Int) : Int × Int := if negB l then (0, 6) else if bigB l then (0, 7) else if prodI l > 65536 then (0, 7) else (prodI l, 0)
def checkR (l : List Int) : Int := if negB l then 6 else if l.length > 16 ∨ bigB l = true ∨ prodI l > 65536 then 7 else 0
def cellsR (l : List Int) : Int := if checkR l = 0 then prodI l else 0
theorem foldl_mul : ∀ (l : List Int) (x : Int), l.foldl (· * ·) x = x * l.foldl (· * ·) 1
  | [], x => by simp
  | d :: l, x => by rw [List.foldl_cons, foldl_mul l (x * d), List.foldl_cons, foldl_mul l (1 * d), Int.one_mul, Int.mul_assoc]
theorem prodI_cons (d : Int) (l : List Int) : prodI (d :: l) = d * prodI l := by rw [prodI, List.foldl_cons, foldl_mul, Int.one_mul]; rfl
theorem prodI_nil : prodI [] = 1 := rfl
theorem prodI_append (a b : List Int) : prodI (a ++ b) = prodI a * prodI b := by rw [prodI, prodI, prodI, List.foldl_append, foldl_mul]
theorem prodI_pos : ∀ {l : List Int}, (∀ d ∈ l, 1 ≤ d) → 1 ≤ prodI l
  | [], _ => by simp [prodI]
  | d :: l, h => by
    have h1 := prodI_pos (l := l) (fun x hx => h x (List.mem_cons_of_mem _ hx))
    have h2 := h d (List.mem_cons_self ..)
    rw [prodI_cons]
    have := Int.mul_le_mul h2 h1 (by omega) (by omega)
    omega
theorem prodI_zero {l : List Int} (h : (0 : Int) ∈ l) : prodI l = 0 := by
  obtain ⟨s, t, rfl⟩ := List.append_of_mem h
  rw [prodI_append, prodI_cons]; simp
theorem negB_cons (d : Int) (l : List Int) : negB (d :: l) = (decide (d < 0) || negB l) := rfl
theorem bigB_cons (d : Int) (l : List Int) : bigB (d :: l) = (decide (d > 65536) || bigB l) := rfl

theorem Prod_L1 : ∀ (s p : List Int) (z : Bool), Sm (p ++ s).length → m_ref01_Product_L1 (p ++ s, z, (p.length : Int)) = some (if negB s then .inl () else .inr (z || s.any (· == 0)))
  | [], p, z, hs => by
    rw [m_ref01_Product_L1]; simp only [end_lt, if_false]; simp [negB]
  | x :: s, p, z, hs => by
    rw [m_ref01_Product_L1]
    have ih := fun z => Prod_L1 s (p ++ [x]) z (by rw [← mid_app]; exact hs)
    rw [← mid_app] at ih
    simp only [mid_lt, if_true, mid_idx, bind_ok, mid_W hs, ih, negB_cons]
    by_cases hn : x < 0
    · simp [hn]
    · cases z <;> by_cases hz : x = 0 <;> simp [hn, hz]
theorem Prod_L2 : ∀ (s p : List Int) (z : Bool), Sm (p ++ s).length → m_ref01_Product_L2 (p ++ s, z, (p.length : Int)) = some (if bigB s then .inl () else .inr ())
  | [], p, z, hs => by
    rw [m_ref01_Product_L2]; simp only [end_lt, if_false]; simp [bigB]
  | x :: s, p, z, hs => by
    rw [m_ref01_Product_L2]
    have ih := Prod_L2 s (p ++ [x]) z (by rw [← mid_app]; exact hs)
    rw [← mid_app] at ih
    simp only [mid_lt, if_true, mid_idx, bind_ok, mid_W hs, ih, bigB_cons]
    by_cases hn : x > 65536 <;> simp [hn]
theorem Prod_L3 : ∀ (s p : List Int) (m : Int), Sm (p ++ s).length → (∀ d ∈ s, 1 ≤ d ∧ d ≤ 65536) → 1 ≤ m → m ≤ 65536 → m_ref01_Product_L3 (p ++ s, m, (p.length : Int)) = some (if m * prodI s > 65536 then .inl () else .inr (m * prodI s))
  | [], p, m, hs, hd, h1, h2 => by
    rw [m_ref01_Product_L3]; simp only [end_lt, if_false, prodI_nil, Int.mul_one]
    rw [if_neg (by omega)]
  | x :: s, p, m, hs, hd, h1, h2 => by
    rw [m_ref01_Product_L3]
    have hx := hd x (List.mem_cons_self ..)
    have b1 := Int.mul_le_mul h2 hx.2 (by omega) (by omega)
    have b2 := Int.mul_le_mul h1 hx.1 (by omega) (by omega)
    have hw : W (m * x) = m * x := W_ok (by omega) (by omega)
    have hds : ∀ d ∈ s, 1 ≤ d ∧ d ≤ 65536 := fun d h => hd d (List.mem_cons_of_mem _ h)
    simp only [mid_lt, if_true, mid_idx, bind_ok, mid_W hs, hw, prodI_cons]
    rw [← Int.mul_assoc]
    by_cases hn : m * x > 65536
    · have hp := prodI_pos (l := s) (fun d h => (hds d h).1)
      have : m * x * 1 ≤ m * x * prodI s := Int.mul_le_mul_of_nonneg_left hp (by omega)
      rw [if_pos hn, if_pos (by omega)]
    · have ih := Prod_L3 s (p ++ [x]) (m * x) (by rw [← mid_app]; exact hs) hds (by omega) (by omega)
      rw [← mid_app] at ih
      rw [if_neg hn, ih]
theorem neg_all {l : List Int} (h : negB l = false) : ∀ d ∈ l, 0 ≤ d := fun d hd => by
  have := List.any_eq_false.1 h d hd
  simp at this; omega
theorem big_all {l : List Int} (h : bigB l = false) : ∀ d ∈ l, d ≤ 65536 := fun d hd => by
  have := List.any_eq_false.1 h d hd
  simp at this; omega
theorem Product_ok (l : List Int) (hs : Sm l.length) : m_ref01_Product l = some (prodR l) := by
  have e1 : m_ref01_Product_L1 (l, false, 0) = _ := Prod_L1 l [] false hs
  have e2 : ∀ z, m_ref01_Product_L2 (l, z, 0) = _ := fun z => Prod_L2 l [] z hs
  simp only [m_ref01_Product, e1, bind_ok, prodR]
  by_cases hn : negB l = true
  · simp [hn]
  · have hn' : negB l = false := by simpa using hn
    simp only [hn', Bool.false_eq_true, if_false, Bool.false_or, e2, bind_ok]
    by_cases hb : bigB l = true
    · simp [hb]
    · have hb' : bigB l = false := by simpa using hb
      simp only [hb', Bool.false_eq_true, if_false]
      by_cases hz : (l.any (· == 0)) = true
      · have : prodI l = 0 := prodI_zero (by simpa using hz)
        simp [hz, this]
      · have hz' : l.any (· == 0) = false := (Bool.not_eq_true _).mp hz
        have e3 : m_ref01_Product_L3 (l, 1, 0) = _ := Prod_L3 l [] 1 hs (fun d hd => by
          have h1 := neg_all hn' d hd
          have h2 := big_all hb' d hd
          have h3 : d ≠ 0 := fun e => by have := List.any_eq_false.1 hz' d hd; simp [e] at this
          omega) (by omega) (by omega)
        simp only [hz', Bool.false_eq_true, if_false, e3, bind_ok, Int.one_mul]
        by_cases hp : prodI l > 65536 <;> simp [hp]
theorem Check_L1 : ∀ (s p : List Int), Sm (p ++ s).length → m_ref02_Check_L1 (p ++ s, (p.length : Int)) = some (if negB s then .inl () else .inr ())
  | [], p, hs => by
    rw [m_ref02_Check_L1]; simp only [end_lt, if_false]; simp [negB]
  | x :: s, p, hs => by
    rw [m_ref02_Check_L1]
    have ih := Check_L1 s (p ++ [x]) (by rw [← mid_app]; exact hs)
    rw [← mid_app] at ih
    simp only [mid_lt, if_true, mid_idx, bind_ok, mid_W hs, ih, negB_cons]
    by_cases hn : x < 0 <;> simp [hn]
theorem Check_ok (l : List Int) (hs : Sm l.length) : m_ref02_Check l = some (checkR l) := by
  have e1 : m_ref02_Check_L1 (l, 0) = _ := Check_L1 l [] hs
  simp only [m_ref02_Check, e1, bind_ok, checkR, Product_ok l hs]
  by_cases hn : negB l = true
  · simp [hn]
  · simp only [hn, if_false, prodR, Bool.false_eq_true]
    by_cases hl : l.length > 16
    · have : (l.length : Int) > 16 := by omega
      simp [hl, this, bind_ok]
    · have : ¬ (l.length : Int) > 16 := by omega
      by_cases hb : bigB l = true
      · simp [hl, this, hb, bind_ok]
      · by_cases hp : prodI l > 65536 <;> simp [hl, this, hb, hp, bind_ok]

theorem Cont1_L1 : ∀ (s p : List Int), Sm (p ++ s).length → ∃ r, m_slices_IndexFunc_int_int_size_check_1_L1 (p ++ s, (p.length : Int)) = some r ∧ (negB s = true → ∃ j : Nat, r = .inl (j : Int)) ∧ (negB s = false → r = .inr ())
  | [], p, hs => by
    rw [m_slices_IndexFunc_int_int_size_check_1_L1]; simp only [end_lt, if_false]; exact ⟨_, rfl, fun h => (by cases h), fun _ => rfl⟩
  | x :: s, p, hs => by
    rw [m_slices_IndexFunc_int_int_size_check_1_L1]
    obtain ⟨r, h1, h2, h3⟩ := Cont1_L1 s (p ++ [x]) (by rw [← mid_app]; exact hs)
    rw [← mid_app] at h1
    simp only [mid_lt, if_true, mid_idx, bind_ok, mid_W hs, m_size_check_1, negB_cons]
    by_cases hn : x < 0
    · simp only [hn, decide_true, if_true]; exact ⟨_, rfl, fun _ => ⟨_, rfl⟩, fun h => by simp at h⟩
    · simp only [hn, decide_false, Bool.false_eq_true, if_false, Bool.false_or]; exact ⟨r, h1, h2, h3⟩
theorem Cont1_ok (l : List Int) (hs : Sm l.length) : m_slices_ContainsFunc_int_int_size_check_1 l = some (negB l) := by
  obtain ⟨r, h1, h2, h3⟩ := Cont1_L1 l [] hs
  have e : m_slices_IndexFunc_int_int_size_check_1_L1 (l, 0) = some r := h1
  simp only [m_slices_ContainsFunc_int_int_size_check_1, m_slices_IndexFunc_int_int_size_check_1, e, bind_ok]
  cases hn : negB l
  · rw [h3 hn]; rfl
  · obtain ⟨j, rfl⟩ := h2 hn; simp [bind_ok]
theorem Cont2_L1 : ∀ (s p : List Int), Sm (p ++ s).length → ∃ r, m_slices_IndexFunc_int_int_size_check_2_L1 (p ++ s, (p.length : Int)) = some r ∧ (bigB s = true → ∃ j : Nat, r = .inl (j : Int)) ∧ (bigB s = false → r = .inr ())
  | [], p, hs => by
    rw [m_slices_IndexFunc_int_int_size_check_2_L1]; simp only [end_lt, if_false]; exact ⟨_, rfl, fun h => (by cases h), fun _ => rfl⟩
  | x :: s, p, hs => by
    rw [m_slices_IndexFunc_int_int_size_check_2_L1]
    obtain ⟨r, h1, h2, h3⟩ := Cont2_L1 s (p ++ [x]) (by rw [← mid_app]; exact hs)
    rw [← mid_app] at h1
    simp only [mid_lt, if_true, mid_idx, bind_ok, mid_W hs, m_size_check_2, bigB_cons]
    by_cases hn : x > 65536
    · simp only [hn, decide_true, if_true]; exact ⟨_, rfl, fun _ => ⟨_, rfl⟩, fun h => by simp at h⟩
    · simp only [hn, decide_false, Bool.false_eq_true, if_false, Bool.false_or]; exact ⟨r, h1, h2, h3⟩
theorem Cont2_ok (l : List Int) (hs : Sm l.length) : m_slices_ContainsFunc_int_int_size_check_2 l = some (bigB l) := by
  obtain ⟨r, h1, h2, h3⟩ := Cont2_L1 l [] hs
  have e : m_slices_IndexFunc_int_int_size_check_2_L1 (l, 0) = some r := h1
  simp only [m_slices_ContainsFunc_int_int_size_check_2, m_slices_IndexFunc_int_int_size_check_2, e, bind_ok]
  cases hn : bigB l
  · rw [h3 hn]; rfl
  · obtain ⟨j, rfl⟩ := h2 hn; simp [bind_ok]
def errR (l : List Int) : Int := if negB l then 6 else if bigB l then 7 else 0
theorem sizecheck_ok (l : List Int) (hs : Sm l.length) : m_size_check l = some (errR l) := by
  simp only [m_size_check, Cont1_ok l hs, Cont2_ok l hs, bind_ok, errR]
  by_cases h1 : negB l = true
  · simp [h1]
  · by_cases h2 : bigB l = true <;> simp [h1, h2]
theorem Index_L1 (v : Int) : ∀ (s p : List Int), Sm (p ++ s).length → ∃ r, m_slices_Index_int_int_L1 (p ++ s, v, (p.length : Int)) = some r ∧ (s.any (v == ·) = true → ∃ j : Nat, r = .inl (j : Int)) ∧ (s.any (v == ·) = false → r = .inr ())
  | [], p, hs => by
    rw [m_slices_Index_int_int_L1]; simp only [end_lt, if_false]; exact ⟨_, rfl, fun h => (by cases h), fun _ => rfl⟩
  | x :: s, p, hs => by
    rw [m_slices_Index_int_int_L1]
    obtain ⟨r, h1, h2, h3⟩ := Index_L1 v s (p ++ [x]) (by rw [← mid_app]; exact hs)
    rw [← mid_app] at h1
    simp only [mid_lt, if_true, mid_idx, bind_ok, mid_W hs]
    by_cases hn : v = x
    · rw [if_pos hn]; exact ⟨_, rfl, fun _ => ⟨_, rfl⟩, fun h => by simp [hn] at h⟩
    · rw [if_neg hn]; exact ⟨r, h1, fun h => h2 (by simpa [hn] using h), fun h => h3 (by simpa [hn] using h)⟩
theorem Contains_ok (l : List Int) (v : Int) (hs : Sm l.length) : m_slices_Contains_int_int (l, v) = some (l.any (v == ·)) := by
  obtain ⟨r, h1, h2, h3⟩ := Index_L1 v l [] hs
  have e : m_slices_Index_int_int_L1 (l, v, 0) = some r := h1
  simp only [m_slices_Contains_int_int, m_slices_Index_int_int, e, bind_ok]
  cases hn : l.any (v == ·)
  · rw [h3 hn]; rfl
  · obtain ⟨j, rfl⟩ := h2 hn; simp [bind_ok]
theorem Mul_ok {a b : Int} (ha : 1 ≤ a ∧ a ≤ 65536) (hb : 1 ≤ b ∧ b ≤ 65536) : m_size_Mul (a, b, 65536) = some (if a * b > 65536 then (0, false) else (a * b, true)) := by
  have m1 := Int.mul_le_mul ha.2 hb.2 (by omega) (by omega)
  have m2 := Int.mul_le_mul ha.1 hb.1 (by omega) (by omega)
  have hq0 : (65536 : Int).tdiv b = 65536 / b := Int.tdiv_eq_ediv_of_nonneg (by omega)
  have hq1 : (65536 : Int) / b ≤ 65536 := Int.ediv_le_self _ (by omega)
  have hq2 : 0 ≤ (65536 : Int) / b := Int.ediv_nonneg (by omega) (by omega)
  have hq : quoM 65536 b = some (65536 / b) := by
    rw [quoM, if_neg (by omega), hq0, W_ok (by omega) (by omega)]
  have hlt : (a > 65536 / b) = (a * b > 65536) := by
    have := Int.ediv_lt_iff_lt_mul (a := 65536) (b := a) (c := b) (by omega)
    simp only [gt_iff_lt, eq_iff_iff]
    exact this
  simp only [m_size_Mul, show ¬ a < 0 by omega, show ¬ b < 0 by omega, show ¬ a > 65536 by omega, show ¬ b > 65536 by omega, show b > 0 by omega, if_false, if_true, hq, bind_ok, hlt, decide_false, Bool.false_eq_true]
  by_cases h : a * b > 65536
  · simp [h]
  · simp only [h, decide_false, bind_ok, Bool.false_eq_true, if_false]; rw [W_ok (by omega) (by omega)]
theorem foldP_L1 : ∀ (s p : List Int) (m : Int), Sm (p ++ s).length → (∀ d ∈ s, 1 ≤ d ∧ d ≤ 65536) → 1 ≤ m → m ≤ 65536 →
    ∃ r, m_size_fold_int_size_Product_1_L1 (p ++ s, m, (p.length : Int)) = some r ∧ (m * prodI s > 65536 → ∃ v, r = .inl v) ∧ (¬ m * prodI s > 65536 → r = .inr (m * prodI s))
  | [], p, m, hs, hd, h1, h2 => by
    rw [m_size_fold_int_size_Product_1_L1]; simp only [end_lt, if_false, prodI_nil, Int.mul_one]
    exact ⟨_, rfl, fun h => (by omega), fun _ => rfl⟩
  | x :: s, p, m, hs, hd, h1, h2 => by
    rw [m_size_fold_int_size_Product_1_L1]
    have hx := hd x (List.mem_cons_self ..)
    have hds : ∀ d ∈ s, 1 ≤ d ∧ d ≤ 65536 := fun d h => hd d (List.mem_cons_of_mem _ h)
    have b2 := Int.mul_le_mul h1 hx.1 (by omega) (by omega)
    simp only [mid_lt, if_true, mid_idx, bind_ok, mid_W hs, m_size_Product_1, Mul_ok ⟨h1, h2⟩ hx, prodI_cons]
    rw [← Int.mul_assoc]
    by_cases hn : m * x > 65536
    · have hp := prodI_pos (l := s) (fun d h => (hds d h).1)
      have : m * x * 1 ≤ m * x * prodI s := Int.mul_le_mul_of_nonneg_left hp (by omega)
      simp only [hn, if_true, bind_ok]
      exact ⟨_, rfl, fun _ => ⟨_, rfl⟩, fun h => absurd h (by omega)⟩
    · obtain ⟨r, e1, e2, e3⟩ := foldP_L1 s (p ++ [x]) (m * x) (by rw [← mid_app]; exact hs) hds (by omega) (by omega)
      rw [← mid_app] at e1
      simp only [hn, if_false, bind_ok, Bool.true_eq_false]
      exact ⟨r, e1, e2, e3⟩
theorem sProduct_ok (l : List Int) (hs : Sm l.length) : m_size_Product l = some (prodR l) := by
  simp only [m_size_Product, sizecheck_ok l hs, bind_ok, m_size_combined_size_Product_1, prodR, errR]
  by_cases hn : negB l = true
  · simp [hn, bind_ok]
  · have hn' : negB l = false := (Bool.not_eq_true _).mp hn
    by_cases hb : bigB l = true
    · simp [hn, hb, bind_ok]
    · have hb' : bigB l = false := (Bool.not_eq_true _).mp hb
      simp only [hn', hb', Bool.false_eq_true, if_false, if_true, Contains_ok l 0 hs, bind_ok]
      by_cases hz : l.any ((0 : Int) == ·) = true
      · have h0 : (0 : Int) ∈ l := by
          obtain ⟨x, hx, he⟩ := List.any_eq_true.1 hz
          have : (0 : Int) = x := by simpa using he
          rw [this]; exact hx
        have := prodI_zero h0
        simp [hz, this, bind_ok]
      · have hall : ∀ d ∈ l, 1 ≤ d ∧ d ≤ 65536 := fun d hd => by
          have h1 := neg_all hn' d hd
          have h2 := big_all hb' d hd
          have h3 : d ≠ 0 := fun e => hz (List.any_eq_true.2 ⟨d, hd, by simp [e]⟩)
          omega
        obtain ⟨r, e1, e2, e3⟩ := foldP_L1 l [] 1 hs hall (by omega) (by omega)
        have e4 : m_size_fold_int_size_Product_1_L1 (l, 1, 0) = some r := e1
        rw [Int.one_mul] at e2 e3
        simp only [hz, if_false, bind_ok, m_size_fold_int_size_Product_1, e4, ne_eq, not_true]
        by_cases hp : prodI l > 65536
        · obtain ⟨v, rfl⟩ := e2 hp; simp [hp, bind_ok]
        · rw [e3 hp]; simp [hp, bind_ok]
theorem shapeCheck_ok (l : List Int) (hs : Sm l.length) : m_shape_Check l = some (checkR l) := by
  simp only [m_shape_Check, sProduct_ok l hs, bind_ok, prodR, checkR]
  by_cases hn : negB l = true
  · simp [hn, bind_ok]
  · by_cases hl : l.length > 16
    · have h16 : (l.length : Int) > 16 := by omega
      by_cases hb : bigB l = true
      · simp [hn, hb, hl, h16, bind_ok]
      · by_cases hp : prodI l > 65536 <;> simp [hn, hb, hp, hl, h16, bind_ok]
    · have h16 : ¬ (l.length : Int) > 16 := by omega
      by_cases hb : bigB l = true
      · simp [hn, hb, hl, h16, bind_ok]
      · by_cases hp : prodI l > 65536 <;> simp [hn, hb, hp, hl, h16, bind_ok]
/-! sums of two dimensions -/

theorem Cells_ok (l : List Int) (hs : Sm l.length) : m_ref02_Cells l = some (cellsR l) := by
  simp only [m_ref02_Cells, Check_ok l hs, bind_ok, Product_ok l hs, cellsR]
  by_cases hc : checkR l = 0
  · have : (prodR l).1 = prodI l := by
      unfold checkR at hc
      unfold prodR
      by_cases hn : negB l = true
      · simp [hn] at hc
      · by_cases hb : bigB l = true
        · simp [hn, hb] at hc
        · by_cases hp : prodI l > 65536
          · simp [hn, hb, hp] at hc
          · simp [hn, hb, hp]
    simp [hc, this]
  · simp [hc]
end Go.Proofs.Try
namespace Go.Proofs.Try
open Go Go.Pm
set_option linter.unusedVariables false
set_option linter.unusedSimpArgs false
set_option maxRecDepth 2000
theorem setM_ok {l : List Int} {j : Nat} {v : Int} (h : j < l.length) : setM l (j : Int) v = some (l.set j v) := by simp [setM, h]
theorem guardM_ok {p : Prop} [Decidable p] (h : p) : guardM p = some () := if_pos h
theorem mid_set {α : Type} {p s : List α} {x y : α} : (p ++ x :: s).set p.length y = (p ++ [y]) ++ s := by simp
def strd : List Int → List Int
  | [] => []
  | _ :: s => prodI s :: strd s
theorem strd_len : ∀ s : List Int, (strd s).length = s.length
  | [] => rfl
  | _ :: s => by simp [strd, strd_len s]
theorem prod_le {a b : List Int} (ha : ∀ n ∈ a, 1 ≤ n) (hb : ∀ n ∈ b, 1 ≤ n) : prodI b ≤ prodI (a ++ b) := by
  rw [prodI_append]
  have h1 := prodI_pos ha
  have h2 := prodI_pos hb
  have := Int.mul_le_mul_of_nonneg_right h1 (show 0 ≤ prodI b by omega)
  omega
theorem str_L1 (s v2 : List Int) (hv2 : v2.length = s.length) (hs : s.length ≤ 1000) (hpos : ∀ n ∈ s, 1 ≤ n) (hP : prodI s ≤ 65536) : ∀ (m : Nat) (a b : List Int), a.length = m → s = a ++ b →
    m_shape_Strides_L1 (s, v2, List.replicate a.length 0 ++ strd b, prodI b, (b.length : Int)) = some (strd s)
  | 0, a, b, ha, e => by
    obtain rfl := List.eq_nil_of_length_eq_zero ha
    rw [m_shape_Strides_L1]
    have : ¬ ((b.length : Int) < (s.length : Int)) := by rw [e]; simp
    simp only [this, if_false]; rw [e]; rfl
  | m + 1, a, b, ha, e => by
    rcases List.eq_nil_or_concat a with rfl | ⟨a', n, rfl⟩
    · simp at ha
    · simp only [List.concat_eq_append] at ha e ⊢
      have ha' : a'.length = m := by simpa using ha
      rw [m_shape_Strides_L1]
      have hl : s.length = a'.length + 1 + b.length := by rw [e]; simp; omega
      have ht : ((b.length : Int) < (s.length : Int)) := by omega
      have w : W (W ((s.length : Int) - 1) - (b.length : Int)) = (a'.length : Int) := by
        rw [show W ((s.length : Int) - 1) = (s.length : Int) - 1 from W_ok (by omega) (by omega), W_ok (by omega) (by omega)]; omega
      have e' : s = a' ++ (n :: b) := by rw [e]; simp
      have hg : (List.replicate (a' ++ [n]).length (0 : Int) ++ strd b).length = v2.length := by simp [strd_len, hv2, hl]
      have er : List.replicate (a' ++ [n]).length (0 : Int) ++ strd b = List.replicate a'.length 0 ++ 0 :: strd b := by
        rw [List.length_append, List.length_singleton, List.replicate_succ', List.append_assoc]; rfl
      have hj : a'.length < (List.replicate (a' ++ [n]).length (0 : Int) ++ strd b).length := by simp; omega
      have hset : (List.replicate (a' ++ [n]).length (0 : Int) ++ strd b).set a'.length (prodI b) = List.replicate a'.length 0 ++ strd (n :: b) := by
        rw [er]
        have := mid_set (p := List.replicate a'.length (0 : Int)) (s := strd b) (x := 0) (y := prodI b)
        simp only [List.length_replicate] at this
        rw [this, ← mid_app]; rfl
      have hidx : idx s (a'.length : Int) = some n := by rw [e']; exact mid_idx
      have hposb : ∀ k ∈ n :: b, 1 ≤ k := fun k hk => hpos k (by rw [e']; exact List.mem_append_right _ hk)
      have hposa : ∀ k ∈ a', 1 ≤ k := fun k hk => hpos k (by rw [e']; exact List.mem_append_left _ hk)
      have hle : prodI (n :: b) ≤ 65536 := by
        have := prod_le hposa hposb
        rw [← e'] at this; omega
      have hge := prodI_pos hposb
      have w2 : W (prodI b * n) = prodI (n :: b) := by rw [prodI_cons, Int.mul_comm, W_ok (by rw [← prodI_cons]; omega) (by rw [← prodI_cons]; omega)]
      have w3 : W ((b.length : Int) + 1) = ((n :: b).length : Int) := by rw [W_ok (by omega) (by omega)]; simp
      have ih := str_L1 s v2 hv2 hs hpos hP m a' (n :: b) ha' e'
      simp only [ht, if_true, w, guardM_ok hg, bind_ok, idx_ok hj, setM_ok hj, hset, hidx, w2, w3]
      exact ih
theorem checkR_ok {s : List Int} (h : checkR s = 0) : s.length ≤ 16 ∧ prodI s ≤ 65536 ∧ ∀ n ∈ s, 0 ≤ n ∧ n ≤ 65536 := by
  unfold checkR at h
  by_cases hn : negB s = true
  · rw [if_pos hn] at h; cases h
  · rw [if_neg hn] at h
    by_cases h2 : s.length > 16 ∨ bigB s = true ∨ prodI s > 65536
    · rw [if_pos h2] at h; cases h
    · have hn' : negB s = false := by simpa using hn
      have hb : bigB s = false := by
        cases hb : bigB s with
        | false => rfl
        | true => exact absurd (Or.inr (Or.inl hb)) h2
      refine ⟨by omega, by omega, fun n hm => ⟨neg_all hn' n hm, big_all hb n hm⟩⟩
theorem gCells_ok (s : List Int) (hs : Sm s.length) : m_shape_Cells s = some (cellsR s) := by
  simp only [m_shape_Cells, shapeCheck_ok s hs, bind_ok, cellsR, sProduct_ok s hs]
  by_cases h : checkR s = 0
  · obtain ⟨h1, h2, h3⟩ := checkR_ok h
    have hn : negB s = false := by
      cases hn : negB s with
      | false => rfl
      | true => unfold checkR at h; rw [if_pos hn] at h; cases h
    have hb : bigB s = false := by
      cases hb : bigB s with
      | false => rfl
      | true => unfold checkR at h; rw [if_neg (by simp [hn]), if_pos (Or.inr (Or.inl hb))] at h; cases h
    simp [h, prodR, hn, hb, show ¬ prodI s > 65536 by omega]
  · simp [h]
theorem strides_ok {s : List Int} (hc : checkR s = 0) (hpos : ∀ n ∈ s, 1 ≤ n) : m_shape_Strides s = some (strd s) := by
  obtain ⟨h1, h2, h3⟩ := checkR_ok hc
  have hp := prodI_pos hpos
  have hm : makeM 8 (s.length : Int) (0 : Int) = some (List.replicate s.length 0) := by
    have : ((s.length : Int) * 8 ≤ (room : Int)) := by
      have : (1000 : Nat) * 8 ≤ room := by decide +kernel
      omega
    simp [makeM, this]; omega
  have e := str_L1 s (List.replicate s.length 0) (by simp) (by omega) hpos h2 s.length s [] rfl (by simp)
  simp only [strd, List.append_nil, prodI_nil, List.length_nil, Int.natCast_zero] at e
  simp only [m_shape_Strides, shapeCheck_ok s (Sm_of (show s.length ≤ 1000 by omega)), bind_ok, hc, hm, gCells_ok s (Sm_of (show s.length ≤ 1000 by omega)), cellsR, if_true, ne_eq, not_true, if_false, show ¬ prodI s = 0 by omega, e]
  rw [guardM_ok (by simp [strd_len])]; rfl
theorem ite_some {α : Type} {p : Prop} [Decidable p] {a b : α} : (if p then some a else some b) = some (if p then a else b) := by split <;> rfl
theorem w_step {α : Type} {p s : List α} {x : α} (h : p.length + (x :: s).length ≤ 600) : W ((p.length : Int) + 1) = ((p ++ [x]).length : Int) := by
  simp at h
  rw [W_ok (by omega) (by omega)]; simp
/-- the product of the dimensions, where none counts less than one -/
def pmI : List Int → Int
  | [] => 1
  | n :: s => (if n < 1 then 1 else n) * pmI s
theorem pmI_pos : ∀ s : List Int, 1 ≤ pmI s
  | [] => Int.le_refl _
  | n :: s => by
    have h1 := pmI_pos s
    have h2 : 1 ≤ (if n < 1 then 1 else n) := by split <;> omega
    rw [pmI]
    have := Int.mul_le_mul h2 h1 (by omega) (by omega)
    omega
theorem small_L1 (most : Int) (hm : 0 ≤ most ∧ most ≤ 1000000) : ∀ (s p : List Int) (v : Int), p.length + s.length ≤ 600 → (∀ n ∈ s, n ≤ 65536) → 1 ≤ v → v ≤ 100000000 → ∃ o, m_ref02_Small_L1 (p ++ s, most, v, (p.length : Int)) = some o ∧ (o = .inr () → s = [] ∨ v * pmI s ≤ 100 * most)
  | [], p, v, h, hd, h1, h2 => by
    refine ⟨.inr (), ?_, fun _ => Or.inl rfl⟩; rw [m_ref02_Small_L1]; simp only [end_lt, if_false]
  | x :: s, p, v, h, hd, h1, h2 => by
    rw [m_ref02_Small_L1]
    have w1 : W (100 * most) = 100 * most := W_ok (by omega) (by omega)
    have hx := hd x (List.mem_cons_self ..)
    have hx2 : 1 ≤ (if x < 1 then 1 else x) ∧ (if x < 1 then 1 else x) ≤ 65536 := by split <;> omega
    have b1 := Int.mul_le_mul h2 hx2.2 (by omega) (by omega)
    have b2 := Int.mul_le_mul h1 hx2.1 (by omega) (by omega)
    have w2 : W (v * (if x < 1 then 1 else x)) = v * (if x < 1 then 1 else x) := W_ok (by omega) (by omega)
    simp only [mid_lt, if_true, mid_idx, bind_ok, w_step h, w1, w2]
    by_cases hg : v * (if x < 1 then 1 else x) > 100 * most
    · exact ⟨_, if_pos hg, fun h => by cases h⟩
    · obtain ⟨o, e, ho⟩ := small_L1 most hm s (p ++ [x]) (v * (if x < 1 then 1 else x)) (by simp at h ⊢; omega) (fun n hn => hd n (List.mem_cons_of_mem _ hn)) (by omega) (by omega)
      rw [← mid_app] at e
      rw [if_neg hg]
      refine ⟨o, e, fun h => Or.inr ?_⟩
      rw [pmI, ← Int.mul_assoc]
      rcases ho h with rfl | h
      · rw [pmI, Int.mul_one]; omega
      · exact h
/-- a small shape -/
def smallS (m : Int) (l : List Int) : Prop := l.length ≤ 6 ∧ checkR l = 0 ∧ prodI l ≤ m ∧ (l = [] ∨ pmI l ≤ 100 * m)
end Go.Proofs.Try
namespace Go.Proofs.Try
open Go Go.Pm
set_option linter.unusedVariables false
set_option linter.unusedSimpArgs false
set_option maxRecDepth 2000
theorem small_ok2 (l : List Int) (most : Int) (hm : 0 ≤ most ∧ most ≤ 1000000) (hS : Sm l.length) : ∃ b, m_ref02_Small (l, most) = some b ∧ (b = true → smallS most l) := by
  simp only [m_ref02_Small, Check_ok _ hS, Cells_ok _ hS, bind_ok, ite_some]
  by_cases g1 : (l.length : Int) > 6
  · exact ⟨false, by simp [g1], fun h => by cases h⟩
  by_cases g2 : checkR l = 0
  · have hc : cellsR l = prodI l := by rw [cellsR, if_pos g2]
    by_cases g3 : cellsR l > most
    · exact ⟨false, by simp [g1, g2, g3], fun h => by cases h⟩
    · obtain ⟨o, e, ho⟩ := small_L1 most hm l [] 1 (by simp; omega) (fun n hn => ((checkR_ok g2).2.2 n hn).2) (by omega) (by omega)
      have e' : m_ref02_Small_L1 (l, most, 1, 0) = some o := e
      simp only [g1, g2, g3, e', if_false, bne_self_eq_false, Bool.false_eq_true, decide_false, bind_ok]
      cases o with
      | inl _ => exact ⟨_, rfl, fun h => by cases h⟩
      | inr _ => exact ⟨_, rfl, fun _ => ⟨by omega, g2, by omega, by rcases ho rfl with h | h; exact Or.inl h; exact Or.inr (by omega)⟩⟩
  · exact ⟨false, by simp [g1, g2], fun h => by cases h⟩
theorem app_le {α : Type} {b : Nat} {l es : List α} (h : l.length + es.length ≤ 100000000) (hb : b ≤ 1000) : app b l es = some (l ++ es) := app_ok (by
  have h1 : (l.length + es.length) * b ≤ 100000000 * 1000 := Nat.mul_le_mul h hb
  have h2 : 100000000 * 1000 ≤ room := by decide +kernel
  omega)
/-- numbers as a chapter permits, small -/
def cellR (c : T_ref16_Cell) : Prop := 0 ≤ c.buffer ∧ c.buffer ≤ 100000 ∧ 0 ≤ c.offset ∧ c.offset ≤ 100000
theorem right_L1 : ∀ (s p : List T_ref16_Cell), p.length + s.length ≤ 600 → ∃ o, m_law19_right_L1 (p ++ s, (p.length : Int)) = some o
  | [], p, h => by rw [m_law19_right_L1]; simp only [end_lt, if_false]; exact ⟨_, rfl⟩
  | x :: s, p, h => by
    rw [m_law19_right_L1]
    obtain ⟨o, e⟩ := right_L1 s (p ++ [x]) (by simp at h ⊢; omega)
    rw [← mid_app] at e
    have hd : ∀ (c : Bool) (a b : Bool), (if c = true then some a else some b) = some (if c = true then a else b) := fun c a b => by cases c <;> rfl
    simp only [mid_lt, if_true, mid_idx, bind_ok, ite_some, w_step h, e]
    split
    · exact ⟨_, rfl⟩
    · exact ⟨_, rfl⟩
theorem right_ok (l : List T_ref16_Cell) (most : Int) (hm : 0 ≤ most ∧ most ≤ 600) : ∃ b, m_law19_right (l, most) = some b ∧ (b = true → (l.length : Int) ≤ most) := by
  unfold m_law19_right
  by_cases h : (l.length : Int) > most
  · simp only [h, if_true]; exact ⟨_, rfl, fun h => by cases h⟩
  · obtain ⟨o, e⟩ := right_L1 l [] (by simp; omega)
    have e' : m_law19_right_L1 (l, 0) = some o := e
    simp only [h, if_false, e', bind_ok]
    cases o with
    | inl _ => exact ⟨_, rfl, fun _ => by omega⟩
    | inr _ => exact ⟨_, rfl, fun _ => by omega⟩
def toP (c : T_ref16_Cell) : T_psi_Cell := ⟨c.fill, c.buffer, c.offset⟩
theorem cells_L1 : ∀ (s p : List T_ref16_Cell), p.length + s.length ≤ 600 → m_law19_cells_L1 (p ++ s, p.map toP, (p.length : Int)) = some ((p ++ s).map toP)
  | [], p, h => by rw [m_law19_cells_L1]; simp only [end_lt, if_false]; simp only [List.append_nil]
  | x :: s, p, h => by
    rw [m_law19_cells_L1]
    have e := cells_L1 s (p ++ [x]) (by simp at h ⊢; omega)
    rw [← mid_app, List.map_append] at e
    simp only [mid_lt, if_true, mid_idx, bind_ok, w_step h, app_le (b := 24) (l := p.map toP) (es := [(⟨x.fill, x.buffer, x.offset⟩ : T_psi_Cell)]) (by simp at h ⊢; omega) (by omega)]
    exact e
theorem cells_ok (l : List T_ref16_Cell) (h : l.length ≤ 600) : m_law19_cells l = some (l.map toP) := by
  unfold m_law19_cells
  have e : m_law19_cells_L1 (l, [], 0) = some (l.map toP) := cells_L1 l [] (by simp; omega)
  simp only [e, bind_ok]
/-! ### runs in general -/
theorem W_at {l : List T_psi_Cell} {a : Nat} (h : a < l.length) (hl : l.length ≤ 600) : W ((a : Int) + 1) = ((a + 1 : Nat) : Int) := by rw [W_ok (by omega) (by omega)]; omega
theorem Of_L2 (l : List T_psi_Cell) (hl : l.length ≤ 600) (r : T_runs_Run) (out : List T_runs_Run) (ho : out.length ≤ 600) : ∀ (k a : Nat) (n : Int), a + 1 + k = l.length → ∃ n' r' a', m_runs_Of_L2 (l, r, out, n, (a : Int)) = some (n', out ++ [r'], ((a' : Nat) : Int)) ∧ a < a' ∧ a' ≤ l.length
  | 0, a, n, h => by
    rw [m_runs_Of_L2]
    have hW := W_at (l := l) (a := a) (by omega) hl
    have h1 : (((a + 1 : Nat) : Int) = (l.length : Int)) := by omega
    simp only [hW, h1, if_true, bind_ok]
    rw [app_le (by simp; omega) (by omega), bind_ok]
    exact ⟨_, _, a + 1, by rw [h1], by omega, by omega⟩
  | k + 1, a, n, h => by
    rw [m_runs_Of_L2]
    have hW := W_at (l := l) (a := a) (by omega) hl
    have h1 : ¬ (((a + 1 : Nat) : Int) = (l.length : Int)) := by omega
    have hi : idx l ((a + 1 : Nat) : Int) = some l[a + 1] := idx_ok (by omega)
    have hc : ∀ q, ∃ c, m_runs_Run_cell q = some c := fun q => by unfold m_runs_Run_cell; dsimp only; split <;> exact ⟨_, rfl⟩
    obtain ⟨c, ec⟩ := hc ((⟨r.at0_, n, r.fill, r.buffer, r.offset, r.step⟩ : T_runs_Run), n)
    simp only [hW, h1, if_false, bind_ok, hi, ec]
    split
    · rw [app_le (by simp; omega) (by omega), bind_ok]
      exact ⟨_, _, a + 1, rfl, by omega, by omega⟩
    · obtain ⟨n', r', a', e, g1, g2⟩ := Of_L2 l hl r out ho k (a + 1) (W (n + 1)) (by omega)
      exact ⟨n', r', a', e, by omega, g2⟩
theorem begun_ok (l : List T_psi_Cell) (hl : 1 ≤ l.length) (a : Int) : ∃ r, m_runs_begun (l, a) = some r := by
  unfold m_runs_begun
  have h0 : idx l 0 = some l[0] := idx_ok (l := l) (j := 0) (by omega)
  simp only [h0, bind_ok]
  by_cases h : (l.length : Int) > 1
  · have h1 : idx l 1 = some l[1] := idx_ok (l := l) (j := 1) (by omega)
    simp only [h, if_true, bind_ok, h1]
    by_cases g : (!l[0].fill) = true
    · simp only [g, if_true, bind_ok]
      by_cases g2 : (!l[1].fill) = true
      · simp only [g2, if_true, bind_ok]
        split <;> exact ⟨_, rfl⟩
      · simp only [g2, if_false, bind_ok]
        exact ⟨_, rfl⟩
    · simp only [g, if_false, bind_ok]
      exact ⟨_, rfl⟩
  · simp only [h, if_false, bind_ok]
    exact ⟨_, rfl⟩
theorem Of_L1 (l : List T_psi_Cell) (hl : l.length ≤ 600) : ∀ (k a : Nat) (out : List T_runs_Run), a ≤ l.length → l.length - a ≤ k → out.length ≤ a → ∃ o, m_runs_Of_L1 (l, out, (a : Int)) = some o ∧ o.length ≤ l.length
  | 0, a, out, h1, h2, h3 => by
    rw [m_runs_Of_L1]
    have : ¬ ((a : Int) < (l.length : Int)) := by omega
    simp only [this, if_false]
    exact ⟨_, rfl, by omega⟩
  | k + 1, a, out, h1, h2, h3 => by
    rw [m_runs_Of_L1]
    by_cases h : (a : Int) < (l.length : Int)
    · have hs : sub l (a : Int) (l.length : Int) = some (l.drop a) := by
        unfold sub; rw [if_pos ⟨by omega, by omega, Int.le_refl _⟩]; simp
      obtain ⟨r, er⟩ := begun_ok (l.drop a) (by simp; omega) a
      obtain ⟨n', r', a', e, g1, g2⟩ := Of_L2 l hl r out (by omega) (l.length - (a + 1)) a r.len (by omega)
      simp only [h, if_true, hs, bind_ok, er, e]
      exact Of_L1 l hl k a' (out ++ [r']) g2 (by omega) (by simp; omega)
    · simp only [h, if_false]
      exact ⟨_, rfl, by omega⟩
theorem Of_ok (l : List T_psi_Cell) (hl : l.length ≤ 600) : ∃ o, m_runs_Of l = some o ∧ o.length ≤ l.length := by
  obtain ⟨o, e, h⟩ := Of_L1 l hl l.length 0 [] (by omega) (by omega) (by simp)
  have e' : m_runs_Of_L1 (l, [], 0) = some o := e
  exact ⟨o, by simp only [m_runs_Of, e', bind_ok], h⟩
/-! ### a row of offsets -/
def rowF (n : Nat) : List T_psi_Cell := (List.range n).map fun (k : Nat) => ⟨false, 3, (k : Int)⟩
theorem row_L2 (n : Nat) (hn : n ≤ 600) (hn2 : 2 ≤ n) : ∀ (k a : Nat), a + 1 + k = n → m_runs_Of_L2 (rowF n, ⟨0, 1, false, 3, 0, 1⟩, [], ((a + 1 : Nat) : Int), (a : Int)) = some ((n : Int), [⟨0, (n : Int), false, 3, 0, 1⟩], (n : Int))
  | 0, a, h => by
    rw [m_runs_Of_L2]
    have hlen : (rowF n).length = n := by simp [rowF]
    have hW := W_at (l := rowF n) (a := a) (by omega) (by omega)
    have h1 : (((a + 1 : Nat) : Int) = ((rowF n).length : Int)) := by omega
    simp only [hW, h1, if_true, bind_ok]
    rw [app_le (by simp) (by omega), bind_ok, hlen]
    rfl
  | k + 1, a, h => by
    rw [m_runs_Of_L2]
    have hlen : (rowF n).length = n := by simp [rowF]
    have hW := W_at (l := rowF n) (a := a) (by omega) (by omega)
    have h1 : ¬ (((a + 1 : Nat) : Int) = ((rowF n).length : Int)) := by omega
    have hi : idx (rowF n) ((a + 1 : Nat) : Int) = some ⟨false, 3, ((a + 1 : Nat) : Int)⟩ := by
      rw [idx_ok (by omega)]; simp [rowF]
    have w1 : W (((a + 1 : Nat) : Int) * 1) = ((a + 1 : Nat) : Int) := by rw [Int.mul_one]; exact W_ok (by omega) (by omega)
    have w2 : W (0 + ((a + 1 : Nat) : Int)) = ((a + 1 : Nat) : Int) := by rw [Int.zero_add]; exact W_ok (by omega) (by omega)
    have w3 : W (((a + 1 : Nat) : Int) + 1) = ((a + 1 + 1 : Nat) : Int) := by rw [W_ok (by omega) (by omega)]; omega
    simp only [hW, h1, if_false, bind_ok, hi, m_runs_Run_cell, Bool.false_eq_true, w1, w2, beq_self_eq_true, Bool.and_self, Bool.not_true, w3]
    exact row_L2 n hn hn2 k (a + 1) (by omega)
theorem row_Of (n : Nat) (hn : n ≤ 600) : ∃ o, m_runs_Of (rowF n) = some o ∧ o.length = min n 1 := by
  have hlen : (rowF n).length = n := by simp [rowF]
  unfold m_runs_Of
  dsimp only
  rw [m_runs_Of_L1]
  rcases Nat.eq_zero_or_pos n with rfl | h0
  · have : ¬ ((0 : Int) < ((rowF 0).length : Int)) := by simp [rowF]
    simp only [this, if_false, bind_ok]
    exact ⟨_, rfl, rfl⟩
  · have h1 : ((0 : Int) < ((rowF n).length : Int)) := by omega
    have hs : sub (rowF n) 0 ((rowF n).length : Int) = some (rowF n) := by
      unfold sub; rw [if_pos ⟨by omega, by omega, Int.le_refl _⟩]; simp
    have h0' : idx (rowF n) 0 = some ⟨false, 3, 0⟩ := by
      rw [show (0 : Int) = ((0 : Nat) : Int) from rfl, idx_ok (by omega)]; simp [rowF]
    rcases Nat.lt_or_ge n 2 with h2 | h2
    · obtain rfl : n = 1 := by omega
      have e1 : m_runs_begun (rowF 1, 0) = some ⟨0, 1, false, 3, 0, 0⟩ := by
        unfold m_runs_begun
        have : ¬ (((rowF 1).length : Int) > 1) := by omega
        simp only [h0', bind_ok, this, if_false, Bool.false_eq_true]
      have e2 : m_runs_Of_L2 (rowF 1, ⟨0, 1, false, 3, 0, 0⟩, [], 1, 0) = some (1, [⟨0, 1, false, 3, 0, 0⟩], 1) := by
        rw [m_runs_Of_L2]
        have : W (0 + 1) = 1 := by decide
        have h3 : ((1 : Int) = ((rowF 1).length : Int)) := by omega
        simp only [this, ← h3, if_true, bind_ok]
        rw [app_le (by simp) (by omega), bind_ok]; rfl
      have e3 : m_runs_Of_L1 (rowF 1, [⟨0, 1, false, 3, 0, 0⟩], 1) = some [⟨0, 1, false, 3, 0, 0⟩] := by
        rw [m_runs_Of_L1]
        have : ¬ ((1 : Int) < ((rowF 1).length : Int)) := by omega
        simp only [this, if_false]
      simp only [h1, if_true, hs, bind_ok, e1, e2, e3]
      exact ⟨_, rfl, rfl⟩
    · have h1' : idx (rowF n) 1 = some ⟨false, 3, 1⟩ := by
        rw [show (1 : Int) = ((1 : Nat) : Int) from rfl, idx_ok (by omega)]; simp [rowF]
      have e1 : m_runs_begun (rowF n, 0) = some ⟨0, 1, false, 3, 0, 1⟩ := by
        unfold m_runs_begun
        have : (((rowF n).length : Int) > 1) := by omega
        have w : W (1 - 0) = 1 := by decide
        simp only [h0', h1', bind_ok, this, if_true, Bool.not_false, beq_self_eq_true, w]
      have e2 := row_L2 n hn h2 (n - 1) 0 (by omega)
      have e2' : m_runs_Of_L2 (rowF n, ⟨0, 1, false, 3, 0, 1⟩, [], 1, 0) = _ := e2
      have e3 : m_runs_Of_L1 (rowF n, [⟨0, (n : Int), false, 3, 0, 1⟩], (n : Int)) = some [⟨0, (n : Int), false, 3, 0, 1⟩] := by
        rw [m_runs_Of_L1]
        have : ¬ ((n : Int) < ((rowF n).length : Int)) := by omega
        simp only [this, if_false]
      simp only [h1, if_true, hs, bind_ok, e1, e2', e3]
      exact ⟨_, rfl, by simp; omega⟩
/-! ### one piece -/
theorem times_L1 (n : Int) : ∀ (s p out : List Int), p.length + s.length ≤ 600 → out.length = p.length → ∃ o, m_runs_times_L1 (p ++ s, n, out, (p.length : Int)) = some o
  | [], p, out, h, ho => by rw [m_runs_times_L1]; simp only [end_lt, if_false]; exact ⟨_, rfl⟩
  | x :: s, p, out, h, ho => by
    rw [m_runs_times_L1]
    obtain ⟨o, e⟩ := times_L1 n s (p ++ [x]) (out ++ [W (x * n)]) (by simp at h ⊢; omega) (by simp [ho])
    rw [← mid_app] at e
    simp only [mid_lt, if_true, mid_idx, bind_ok, w_step h]
    rw [app_le (by simp at h ⊢; omega) (by omega), bind_ok]
    exact ⟨o, e⟩
theorem times_ok (l : List Int) (n : Int) (h : l.length ≤ 600) : ∃ o, m_runs_times (l, n) = some o := by
  obtain ⟨o, e⟩ := times_L1 n l [] [] (by simp; omega) rfl
  have e' : m_runs_times_L1 (l, n, [], 0) = some o := e
  exact ⟨o, by simp only [m_runs_times, e', bind_ok]⟩
theorem prodI_zero_iff {s : List Int} (h : ∀ n ∈ s, 0 ≤ n) (hz : prodI s ≠ 0) : ∀ n ∈ s, 1 ≤ n := fun n hn => by
  have h0 := h n hn
  rcases Int.lt_or_eq_of_le h0 with g | g
  · omega
  · subst g; exact absurd (prodI_zero hn) hz
theorem single_ok (r : T_runs_Run) {s : List Int} (hc : checkR s = 0) (hp : ∀ n ∈ s, 1 ≤ n) : ∃ a, m_runs_single (r, s) = some a := by
  have hS : Sm s.length := Sm_of (show s.length ≤ 1000 by have := (checkR_ok hc).1; omega)
  unfold m_runs_single
  simp only [strides_ok hc hp, bind_ok, gCells_ok s hS, ite_some]
  obtain ⟨o, e⟩ := times_ok (strd s) r.step (by rw [strd_len]; have := (checkR_ok hc).1; omega)
  split
  · exact ⟨_, rfl⟩
  · split
    · simp only [bind_ok, e]; split <;> exact ⟨_, rfl⟩
    · simp only [bind_ok, e]; split <;> exact ⟨_, rfl⟩
theorem whole_ok (s : List Int) (h : s.length ≤ 600) : m_box_Whole s = some ⟨List.replicate s.length 0, s⟩ := by
  have hm : makeM 8 (s.length : Int) (0 : Int) = some (List.replicate s.length 0) := by
    have : ((s.length : Int) * 8 ≤ (room : Int)) := by
      have : (1000 : Nat) * 8 ≤ room := by decide +kernel
      omega
    simp [makeM, this]; omega
  simp only [m_box_Whole, hm, bind_ok, m_slices_Clone_int_int, app_le (b := 8) (l := ([] : List Int)) (es := s) (by simp; omega) (by omega), List.nil_append]
theorem Count_L1 : ∀ (s p : List Int), p.length + s.length ≤ 600 → m_odometer_Count_L1 (List.replicate (p.length + s.length) 0, p ++ s, (p.length : Int)) = some (if s.any (fun n => decide (n ≤ 0)) then .inl () else .inr ())
  | [], p, h => by
    rw [m_odometer_Count_L1]
    have : ¬ ((p.length : Int) < ((List.replicate (p.length + ([] : List Int).length) (0 : Int)).length : Int)) := by simp
    simp only [this, if_false]; rfl
  | x :: s, p, h => by
    rw [m_odometer_Count_L1]
    have h1 : ((p.length : Int) < ((List.replicate (p.length + (x :: s).length) (0 : Int)).length : Int)) := by simp; omega
    have h2 : idx (List.replicate (p.length + (x :: s).length) (0 : Int)) (p.length : Int) = some 0 := by rw [idx_ok (by simp)]; simp
    have e := Count_L1 s (p ++ [x]) (by simp at h ⊢; omega)
    rw [← mid_app, show (p ++ [x]).length + s.length = p.length + (x :: s).length by simp; omega] at e
    simp only [h1, if_true, h2, mid_idx, bind_ok, w_step h, e, List.any_cons]
    by_cases g : x ≤ 0
    · have g' : (0 : Int) ≥ x := g
      simp only [g', if_true, g, decide_true, Bool.true_or]
    · have g' : ¬ (0 : Int) ≥ x := g
      simp only [g', if_false, g, decide_false, Bool.false_or]
theorem Count_L2 : ∀ (s p : List Int) (v : Int), p.length + s.length ≤ 600 → (∀ n ∈ s, 1 ≤ n) → 1 ≤ v → v * prodI s ≤ 65536 → m_odometer_Count_L2 (List.replicate (p.length + s.length) 0, p ++ s, v, (p.length : Int)) = some (v * prodI s)
  | [], p, v, h, h1, h2, h3 => by
    rw [m_odometer_Count_L2]
    have : ¬ ((p.length : Int) < ((List.replicate (p.length + ([] : List Int).length) (0 : Int)).length : Int)) := by simp
    simp only [this, if_false, prodI_nil, Int.mul_one]
  | x :: s, p, v, h, h1, h2, h3 => by
    rw [m_odometer_Count_L2]
    have g1 : ((p.length : Int) < ((List.replicate (p.length + (x :: s).length) (0 : Int)).length : Int)) := by simp; omega
    have g2 : idx (List.replicate (p.length + (x :: s).length) (0 : Int)) (p.length : Int) = some 0 := by rw [idx_ok (by simp)]; simp
    have hx := h1 x (List.mem_cons_self ..)
    have hs := prodI_pos (fun n hn => h1 n (List.mem_cons_of_mem _ hn))
    rw [prodI_cons, ← Int.mul_assoc] at h3
    have b1 : 1 ≤ v * x := by have := Int.mul_le_mul h2 hx (by omega) (by omega); omega
    have b2 : (v * x) * 1 ≤ v * x * prodI s := Int.mul_le_mul_of_nonneg_left hs (by omega)
    have b3 : 1 * x ≤ v * x := Int.mul_le_mul_of_nonneg_right h2 (by omega)
    have w1 : W (x - 0) = x := by rw [Int.sub_zero]; exact W_ok (by omega) (by omega)
    have w2 : W (v * x) = v * x := W_ok (by omega) (by omega)
    have e := Count_L2 s (p ++ [x]) (v * x) (by simp at h ⊢; omega) (fun n hn => h1 n (List.mem_cons_of_mem _ hn)) b1 h3
    rw [← mid_app, show (p ++ [x]).length + s.length = p.length + (x :: s).length by simp; omega] at e
    simp only [g1, if_true, g2, mid_idx, bind_ok, w_step h, w1, w2, e, prodI_cons, Int.mul_assoc]
theorem filled_ok {s : List Int} (hc : checkR s = 0) : ∃ o, m_piece_Filled s = some o ∧ (o.length : Int) = min (prodI s) 1 := by
  obtain ⟨h1, h2, h3⟩ := checkR_ok hc
  have hcount : m_odometer_Count (List.replicate s.length 0, s) = some (prodI s) := by
    unfold m_odometer_Count
    have e1 := Count_L1 s [] (by simp; omega)
    simp only [List.nil_append, List.length_nil, Nat.zero_add, Int.natCast_zero] at e1
    by_cases g : s.any (fun n => decide (n ≤ 0)) = true
    · obtain ⟨n, hn, h0⟩ := List.any_eq_true.1 g
      have : n = 0 := by have := h3 n hn; have := of_decide_eq_true h0; omega
      subst this
      simp only [e1, g, if_true, bind_ok, prodI_zero hn]
    · have hp : ∀ n ∈ s, 1 ≤ n := fun n hn => by
        rcases Int.lt_or_le 0 n with h | h
        · omega
        · exact absurd (List.any_eq_true.2 ⟨n, hn, decide_eq_true h⟩) g
      have e2 := Count_L2 s [] 1 (by simp; omega) hp (by omega) (by omega)
      simp only [List.nil_append, List.length_nil, Nat.zero_add, Int.natCast_zero, Int.one_mul] at e2
      simp only [e1, g, if_false, bind_ok, e2]
      rfl
  have hprod : 0 ≤ prodI s := by
    by_cases g : prodI s = 0
    · omega
    · have := prodI_pos (prodI_zero_iff (fun n hn => (h3 n hn).1) g); omega
  unfold m_piece_Filled
  simp only [whole_ok s (by omega), bind_ok, m_piece_listed, m_piece_kept_piece_Piece_piece_listed_1]
  rw [m_piece_kept_piece_Piece_piece_listed_1_L1]
  have i0 : ∀ x : T_piece_Piece, idx [x] 0 = some x := fun x => rfl
  have l0 : ∀ x : T_piece_Piece, ((0 : Int) < (([x] : List T_piece_Piece).length : Int)) := fun x => by simp
  simp only [l0, if_true, i0, bind_ok, m_piece_listed_1, m_box_Size, hcount]
  have w : W (0 + 1) = 1 := by decide
  by_cases g : prodI s > 0
  · simp only [g, decide_true, if_true]
    rw [app_le (by simp) (by omega), bind_ok, w, m_piece_kept_piece_Piece_piece_listed_1_L1]
    have l1 : ∀ x : T_piece_Piece, ¬ ((1 : Int) < (([x] : List T_piece_Piece).length : Int)) := fun x => by simp
    simp only [l1, if_false, bind_ok, m_slices_SortFunc_piece_Piece_piece_Piece__piece_before]
    refine ⟨_, rfl, ?_⟩
    simp; omega
  · simp only [g, decide_false, Bool.false_eq_true, if_false, w]
    rw [m_piece_kept_piece_Piece_piece_listed_1_L1]
    have l1 : ∀ x : T_piece_Piece, ¬ ((1 : Int) < (([x] : List T_piece_Piece).length : Int)) := fun x => by simp
    simp only [l1, if_false, bind_ok, m_slices_SortFunc_piece_Piece_piece_Piece__piece_before]
    refine ⟨_, rfl, ?_⟩
    simp; omega
theorem Pieces_ok (r : List T_runs_Run) (hr : r.length ≤ 1) {s : List Int} (hc : checkR s = 0) : ∃ o, m_runs_Pieces (r, s) = some o ∧ (o.length : Int) = min (prodI s) 1 := by
  obtain ⟨h1, h2, h3⟩ := checkR_ok hc
  have hS : Sm s.length := Sm_of (show s.length ≤ 1000 by omega)
  obtain ⟨f, ef, hf⟩ := filled_ok hc
  unfold m_runs_Pieces
  simp only [gCells_ok s hS, bind_ok, cellsR, hc, if_true, ite_some]
  by_cases g : prodI s = 0
  · simp only [g, if_true, ef, bind_ok]; exact ⟨_, rfl, by rw [hf, g]⟩
  · have hp := prodI_zero_iff (fun n hn => (h3 n hn).1) g
    have hp1 := prodI_pos hp
    match r, hr with
    | [], _ =>
      have : (((([] : List T_runs_Run).length : Int) == 0) = true) := rfl
      simp only [g, if_false, this, if_true, ef, bind_ok]; exact ⟨_, rfl, hf⟩
    | [x], _ =>
      have e0 : (((([x] : List T_runs_Run).length : Int) == 0) = false) := rfl
      have e1 : ((([x] : List T_runs_Run).length : Int) = 1) := rfl
      have i0 : idx [x] 0 = some x := rfl
      obtain ⟨a, ea⟩ := single_ok x hc hp
      simp only [g, if_false, e0, Bool.false_eq_true, e1, if_true, whole_ok s (by omega), bind_ok, i0, ea]
      exact ⟨_, rfl, by simp; omega⟩
    | _ :: _ :: _, h => exact absurd h (by simp)
theorem mkrow (n : Nat) (hn : n ≤ 255) (s : List Int) (l : List T_ref16_Cell) : ∀ (k a : Nat), a + k = n → m_law19_RunsFew_L1 ((n : Int), s, l, (List.range a).map (fun (k : Nat) => ⟨false, 3, (k : Int)⟩), (a : Int)) = some ((List.range n).map (fun (k : Nat) => ⟨false, 3, (k : Int)⟩))
  | 0, a, h => by
    rw [m_law19_RunsFew_L1]
    have w : W (n : Int) = n := W_ok (by omega) (by omega)
    have : ¬ ((a : Int) < (n : Int)) := by omega
    simp only [w, this, if_false]; rw [show a = n by omega]
  | k + 1, a, h => by
    rw [m_law19_RunsFew_L1]
    have w : W (n : Int) = n := W_ok (by omega) (by omega)
    have w1 : W ((a : Int) + 1) = ((a + 1 : Nat) : Int) := by rw [W_ok (by omega) (by omega)]; omega
    have : ((a : Int) < (n : Int)) := by omega
    have e := mkrow n hn s l k (a + 1) (by omega)
    rw [List.range_succ, List.map_append] at e
    simp only [w, this, if_true, w1]
    rw [app_le (by simp; omega) (by omega), bind_ok]
    exact e
theorem RunsFew_ok (n : Int) (hn : 0 ≤ n ∧ n ≤ 255) (s : List Int) (hs : Sm s.length) (l : List T_ref16_Cell) : m_law19_RunsFew (n, s, l) = some true := by
  obtain ⟨k, rfl⟩ : ∃ k : Nat, n = (k : Int) := ⟨n.toNat, by omega⟩
  unfold m_law19_RunsFew
  obtain ⟨b, eb, hb⟩ := small_ok2 s 300 (by omega) hs
  obtain ⟨c, ec, hc⟩ := right_ok l 200 (by omega)
  simp only [m_law19_awake, bind_ok, Bool.true_eq_false, if_false, eb, ec]
  cases b with
  | false => rfl
  | true =>
    cases c with
    | false => rfl
    | true =>
      obtain ⟨g1, g2, g3, g4⟩ := hb rfl
      have hl := hc rfl
      simp only [Bool.not_true, Bool.false_eq_true, if_false, bind_ok]
      have e1 := mkrow k (by omega) s l k 0 (by omega)
      have e1' : m_law19_RunsFew_L1 ((k : Int), s, l, [], 0) = _ := e1
      have w : W (k : Int) = k := W_ok (by omega) (by omega)
      have e2 : m_law19_cells ((List.range k).map (fun (k : Nat) => ⟨false, 3, (k : Int)⟩)) = some (rowF k) := by
        rw [cells_ok _ (by simp; omega)]; simp [rowF, toP]
      obtain ⟨r, er, hr⟩ := row_Of k (by omega)
      obtain ⟨o, eo, ho⟩ := Pieces_ok r (by omega) g2
      have ecl := cells_ok l (by omega)
      obtain ⟨q, eq, hq⟩ := Of_ok (l.map toP) (by simp; omega)
      have hrl : ((r.length : Int) = (if 1 < (k : Int) then 1 else (k : Int))) := by rw [hr]; split <;> omega
      have hol : (((o.length : Int) == (if 1 < prodI s then 1 else prodI s)) = true) := by rw [ho, beq_iff_eq]; split <;> omega
      have hcc : cellsR s = prodI s := by rw [cellsR, if_pos g2]
      simp only [e1', e2, er, eo, bind_ok, w, hrl, if_true, Cells_ok s hs, hcc, hol, ecl, eq]
      rw [decide_eq_true (by simp at hq; omega)]
end Go.Proofs.Try
namespace Go.Proofs.Try
open Go Go.Pm
set_option linter.unusedVariables false
set_option linter.unusedSimpArgs false
set_option maxHeartbeats 2000000
set_option maxRecDepth 2000
theorem ua5 : prog.underlying 5 = some (TypeDesc.int IntKind.u8) := by kernel_rfl
theorem ua3 : prog.underlying 3 = some (TypeDesc.int IntKind.i64) := by kernel_rfl
theorem ua22 : prog.underlying 22 = some (TypeDesc.slice 3) := by kernel_rfl
theorem ua4 : prog.underlying 4 = some TypeDesc.bool := by kernel_rfl
theorem ua28 : prog.underlying 28 = some (TypeDesc.struct { toList := [{ name := "Fill", type := 4, offset := 0, embedded := false, tag := "", pkgPath := "", byteOffset := 0 }, { name := "Buffer", type := 3, offset := 1, embedded := false, tag := "", pkgPath := "", byteOffset := 8 }, { name := "Offset", type := 3, offset := 2, embedded := false, tag := "", pkgPath := "", byteOffset := 16 }] }) := by kernel_rfl
theorem ua23 : prog.underlying 23 = some (TypeDesc.slice 28) := by kernel_rfl
theorem exists_map {α β : Type} {f : β → α} {p : β → Prop} : ∀ {L : List α}, (∀ x ∈ L, ∃ y, x = f y ∧ p y) → ∃ l : List β, L = l.map f ∧ ∀ y ∈ l, p y
  | [], _ => ⟨[], rfl, fun y h => by cases h⟩
  | x :: L, h => by
    obtain ⟨y, rfl, hy⟩ := h x (List.mem_cons_self ..)
    obtain ⟨l, rfl, hl⟩ := exists_map (fun x hx => h x (List.mem_cons_of_mem _ hx))
    exact ⟨y :: l, rfl, fun z hz => by
      rcases List.mem_cons.1 hz with rfl | hz
      · exact hy
      · exact hl z hz⟩
variable {B : Nat} {n : Nat} {cs : List Dat}
theorem tc5 (h : TyC prog B n 5 cs) : ∃ m : Int, cs = [(numD .u8 m)] ∧ (0 ≤ m ∧ m ≤ 255) := by
  cases n with
  | zero => exact h.elim
  | succ n =>
    simp only [TyC, ua5] at h
    obtain ⟨m, rfl, hm⟩ := h
    refine ⟨m, rfl, ?_⟩
    simpa [Lit.wf, IntKind.min, IntKind.max, IntKind.signed, IntKind.bits] using hm
theorem tc3 (h : TyC prog B n 3 cs) : ∃ m : Int, cs = [(intD m)] ∧ ((-9223372036854775808) ≤ m ∧ m ≤ 9223372036854775807) := by
  cases n with
  | zero => exact h.elim
  | succ n =>
    simp only [TyC, ua3] at h
    obtain ⟨m, rfl, hm⟩ := h
    refine ⟨m, rfl, ?_⟩
    simpa [Lit.wf, IntKind.min, IntKind.max, IntKind.signed, IntKind.bits] using hm
def ok22 (B : Nat) (x : (List Int)) : Prop := x.length ≤ B ∧ ∀ m ∈ x, ((-9223372036854775808) ≤ m ∧ m ≤ 9223372036854775807)
theorem tc22 (h : TyC prog B n 22 cs) : ∃ l : (List Int), cs = [.lst ((List.map intD) l)] ∧ ok22 B l := by
  cases n with
  | zero => exact h.elim
  | succ n =>
    simp only [TyC, ua22] at h
    obtain ⟨L, rfl, hl, hx⟩ := h
    obtain ⟨l, rfl, hm⟩ := exists_map (f := fun m => [(intD m)]) (p := fun m => ((-9223372036854775808) ≤ m ∧ m ≤ 9223372036854775807)) (fun x hx' => tc3 (hx x hx'))
    refine ⟨l, ?_, by simpa using hl, hm⟩
    have e : (l.map (fun m => [(intD m)])).map (elemD prog 3) = l.map intD := by
      rw [List.map_map]; exact List.map_congr_left (fun m _ => by simp only [Function.comp_apply]; simp [elemD, aggB, ua3])
    rw [e]
def ok4 (B : Nat) (x : Bool) : Prop := True
theorem tc4 (h : TyC prog B n 4 cs) : ∃ m : Bool, cs = [boolD m] ∧ ok4 B m := by
  cases n with
  | zero => exact h.elim
  | succ n =>
    simp only [TyC, ua4] at h
    obtain ⟨m, rfl⟩ := h
    exact ⟨m, rfl, trivial⟩
structure ok28 (B : Nat) (x : T_ref16_Cell) : Prop where
  fill : (ok4 B x.fill)
  buffer : ((-9223372036854775808) ≤ x.buffer ∧ x.buffer ≤ 9223372036854775807)
  offset : ((-9223372036854775808) ≤ x.offset ∧ x.offset ≤ 9223372036854775807)
theorem tc28 (h : TyC prog B n 28 cs) : ∃ x : T_ref16_Cell, cs = [(boolD x.fill), (intD x.buffer), (intD x.offset)] ∧ ok28 B x := by
  cases n with
  | zero => exact h.elim
  | succ n =>
    simp only [TyC, ua28, List.foldr] at h
    obtain ⟨_, _, rfl, h0, _, _, rfl, h1, _, _, rfl, h2, rfl⟩ := h
    obtain ⟨m0, rfl, i0⟩ := tc4 h0
    obtain ⟨m1, rfl, i1⟩ := tc3 h1
    obtain ⟨m2, rfl, i2⟩ := tc3 h2
    exact ⟨⟨m0, m1, m2⟩, rfl, i0, i1, i2⟩
def ok23 (B : Nat) (x : (List T_ref16_Cell)) : Prop := x.length ≤ B ∧ ∀ m ∈ x, (ok28 B m)
theorem tc23 (h : TyC prog B n 23 cs) : ∃ l : (List T_ref16_Cell), cs = [.lst ((List.map T_ref16_Cell.toD) l)] ∧ ok23 B l := by
  cases n with
  | zero => exact h.elim
  | succ n =>
    simp only [TyC, ua23] at h
    obtain ⟨L, rfl, hl, hx⟩ := h
    obtain ⟨l, rfl, hm⟩ := exists_map (f := fun m => [(boolD m.fill), (intD m.buffer), (intD m.offset)]) (p := fun m => (ok28 B m)) (fun x hx' => tc28 (hx x hx'))
    refine ⟨l, ?_, by simpa using hl, hm⟩
    have e : (l.map (fun m => [(boolD m.fill), (intD m.buffer), (intD m.offset)])).map (elemD prog 28) = l.map T_ref16_Cell.toD := by
      rw [List.map_map]; exact List.map_congr_left (fun m _ => by simp only [Function.comp_apply]; simp [elemD, aggB, ua28]; rfl)
    rw [e]
theorem ty5 {d : Dat} (h : TyA prog B 5 d) : ∃ m : Int, d = (numD .u8 m) ∧ (0 ≤ m ∧ m ≤ 255) := by
  obtain ⟨n, cs, h, hd⟩ := h
  obtain ⟨m, rfl, hm⟩ := tc5 h
  exact ⟨m, by rw [hd]; simp [elemD, aggB, ua5], hm⟩
theorem ty22 {d : Dat} (h : TyA prog B 22 d) : ∃ m : (List Int), d = (.lst ((List.map intD) m)) ∧ (ok22 B m) := by
  obtain ⟨n, cs, h, hd⟩ := h
  obtain ⟨m, rfl, hm⟩ := tc22 h
  exact ⟨m, by rw [hd]; simp [elemD, aggB, ua22], hm⟩
theorem ty23 {d : Dat} (h : TyA prog B 23 d) : ∃ m : (List T_ref16_Cell), d = (.lst ((List.map T_ref16_Cell.toD) m)) ∧ (ok23 B m) := by
  obtain ⟨n, cs, h, hd⟩ := h
  obtain ⟨m, rfl, hm⟩ := tc23 h
  exact ⟨m, by rw [hd]; simp [elemD, aggB, ua23], hm⟩
def argTs : List TypeId := [5, 3, 22, 4, 28, 23]
theorem argTs_closed : closedTs prog argTs = true := by kernel_rfl
theorem laidOut : laidOutB prog = true := by kernel_rfl
theorem summ : SummOK prog env := fun f s h => by cases h
theorem mixed : prog.follows .mixedOrders = true := by kernel_rfl
/-- a call that comes to a value keeps it in the model -/
theorem pure_of {f : FuncId} {dss : List Dat} {p : PV} (ho : p.out = true) (h : PC prog env f (dss.map .dat) [] p []) : PureCall prog f dss p := by
  obtain ⟨N, hN⟩ := h
  exact pure_sound summ mixed (hN N (Nat.le_refl _)) ho
end Go.Proofs.Try
