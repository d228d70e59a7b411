/-
  Models of functions, their walks, and plain laws.
-/
import Derived.Test.YtckoalmibacemaaGreatDoorPmSx
import Derived.Test.YtckoalmibacemaaGreatDoorProg
namespace Go.Proofs.Tryz
open Go Go.Pm
set_option linter.unusedVariables false
set_option linter.unusedSimpArgs false
set_option maxRecDepth 2000
/-- lists that a machine can hold -/
def Sm (n : Nat) : Prop := n ≤ 9223372036854775807
theorem Sm_of {n m : Nat} (h : n ≤ m) (hm : m ≤ 9223372036854775807 := by decide) : Sm n := Nat.le_trans h hm
theorem idx_ok {α : Type} {l : List α} {j : Nat} (h : j < l.length) : idx l (j : Int) = some l[j] := by simp [idx, h]
theorem app_ok {α : Type} {b : Nat} {l es : List α} (h : (l.length + es.length) * b ≤ room) : app b l es = some (l ++ es) := if_pos h
theorem W_ok {n : Int} (h1 : -9223372036854775808 ≤ n) (h2 : n < 9223372036854775808) : W n = n := by
  simp only [W, IntKind.wrap, IntKind.bits, IntKind.signed]; simp; split <;> omega
theorem W_succ {j : Nat} (h : j < 9223372036854775807) : W ((j : Int) + 1) = ((j + 1 : Nat) : Int) := by rw [W_ok (by omega) (by omega)]; omega
/-! a loop over a list: what lies behind, what lies ahead -/
section
variable {α : Type} {p s : List α} {x : α}
theorem mid_lt : ((p.length : Int) < ((p ++ x :: s).length : Int)) := by simp; omega
theorem end_lt : ¬ ((p.length : Int) < ((p ++ ([] : List α)).length : Int)) := by simp
theorem mid_idx : idx (p ++ x :: s) (p.length : Int) = some x := by simp [idx]
theorem mid_app : p ++ x :: s = (p ++ [x]) ++ s := by simp
theorem mid_W (hs : Sm (p ++ x :: s).length) : W ((p.length : Int) + 1) = ((p ++ [x]).length : Int) := by
  unfold Sm at hs
  rw [W_ok (by omega) (by simp at hs; omega)]; simp
end
theorem bind_ok {α β : Type} (a : α) (f : α → Option β) : (some a >>= f) = f a := rfl
end Go.Proofs.Tryz
namespace Go.Proofs.Tryz
open Go Go.Pm
set_option linter.unusedVariables false
set_option maxRecDepth 2000
def hintOf : FuncId → Hint
  | 4 => { own := [], keep := [(8, [1, 5, 6, 7])] }
  | 9 => { own := [((1, 3), [(8, 90)]), ((1, 4), [(8, 90)])], keep := [(3, [1, 2, 3, 4])] }
  | 10 => { own := [((3, 0), [(0, 45)])], keep := [(5, [2, 3, 4, 5, 6])] }
  | 13 => { own := [], keep := [(4, [2, 3, 5])] }
  | 15 => { own := [((1, 3), [(1, 2)]), ((1, 4), [(1, 2)])], keep := [(4, [1, 2, 3, 4, 5])] }
  | 17 => { own := [((1, 0), [(0, 63)])], keep := [(3, [1, 3, 11, 12])] }
  | 18 => { own := [((1, 14), [(7, 39)]), ((1, 15), [(7, 39)])], keep := [(3, [1, 2, 3, 4])] }
  | 19 => { own := [((1, 0), [(0, 62)])], keep := [(4, [1, 3, 4, 5])] }
  | 21 => { own := [], keep := [(4, [1, 2, 4, 6])] }
  | 22 => { own := [], keep := [(4, [0, 1, 5])] }
  | 24 => { own := [], keep := [(4, [0, 1, 5])] }
  | 31 => { own := [((1, 3), [(8, 91)]), ((1, 4), [(8, 91)])], keep := [(3, [1, 2, 3, 4])] }
  | 33 => { own := [], keep := [(4, [0, 1, 5])] }
  | 35 => { own := [((1, 2), [(1, 2)]), ((1, 3), [(1, 2)]), ((6, 0), [(0, 3)]), ((19, 0), [(0, 3)])], keep := [(4, [1, 2, 4, 5, 6, 7]), (11, [1, 2, 4, 5, 6, 7, 8, 9, 10]), (21, [1, 2, 4, 5, 6, 7, 8, 9, 11])] }
  | 37 => { own := [], keep := [(5, [0, 1, 5, 6])] }
  | 43 => { own := [], keep := [(4, [1, 2, 5])] }
  | 46 => { own := [((5, 0), [(0, 27)]), ((12, 1), [(0, 3)])], keep := [(3, [0, 3, 4]), (7, [0, 3, 4, 5, 6]), (10, [0, 3, 4, 5, 6, 7])] }
  | 48 => { own := [], keep := [(4, [0, 12, 13, 14])] }
  | 50 => { own := [((3, 7), [(0, 3)])], keep := [] }
  | 51 => { own := [((3, 0), [(1000, 3)]), ((18, 0), [(0, 3)])], keep := [(8, [2, 7, 8, 9]), (20, [1, 2, 7, 8, 10])] }
  | 52 => { own := [], keep := [(4, [0, 1, 5])] }
  | 53 => { own := [], keep := [(2, [0, 3]), (7, [0, 3, 4])] }
  | 57 => { own := [((1, 1), [(0, 89)]), ((1, 2), [(0, 89)])], keep := [(3, [4, 11, 12, 13])] }
  | 61 => { own := [], keep := [(4, [2, 3, 5])] }
  | 62 => { own := [], keep := [(4, [0, 1, 5])] }
  | 63 => { own := [((1, 14), [(7, 30)]), ((1, 15), [(7, 30)])], keep := [(3, [1, 2, 3, 4])] }
  | 64 => { own := [((3, 0), [(0, 177)])], keep := [(5, [0, 4, 5]), (26, [0, 4, 5, 12, 13, 14])] }
  | 69 => { own := [], keep := [(2, [1, 2, 9, 10])] }
  | 70 => { own := [((0, 5), [(6000, 3)])], keep := [] }
  | 71 => { own := [], keep := [(5, [1, 2, 5])] }
  | 72 => { own := [], keep := [(3, [1, 3, 4])] }
  | 73 => { own := [], keep := [(4, [1, 2, 5])] }
  | 74 => { own := [], keep := [(5, [0, 1, 5, 6])] }
  | 77 => { own := [], keep := [(3, [1, 5, 13, 14, 15])] }
  | 78 => { own := [], keep := [(2, [0, 3])] }
  | 79 => { own := [], keep := [(3, [0, 4, 5]), (9, [0, 4, 6]), (17, [0, 7, 8])] }
  | 81 => { own := [((2, 0), [(1000, 3)]), ((3, 0), [(1000, 3)])], keep := [] }
  | 82 => { own := [], keep := [(3, [0, 1, 5, 6])] }
  | 86 => { own := [], keep := [(3, [1, 2, 5])] }
  | 87 => { own := [], keep := [(3, [1, 3, 4])] }
  | 88 => { own := [], keep := [(3, [1, 3, 4])] }
  | 89 => { own := [], keep := [(4, [1, 3])] }
  | 98 => { own := [], keep := [(19, [0, 6, 8, 10, 11, 12])] }
  | 100 => { own := [((1, 0), [(0, 27)])], keep := [(3, [1, 3, 4])] }
  | 102 => { own := [], keep := [(1, [0, 1])] }
  | 104 => { own := [], keep := [(5, [0, 1, 6, 7])] }
  | 106 => { own := [], keep := [(2, [0, 2, 4, 5, 6])] }
  | 107 => { own := [], keep := [(15, [2, 6])] }
  | 113 => { own := [], keep := [(8, [0, 3, 4, 18, 19])] }
  | 114 => { own := [], keep := [(3, [0, 1, 5, 11, 12])] }
  | 121 => { own := [((5, 3), [(0, 3)])], keep := [] }
  | 123 => { own := [((4, 4), [(0, 234)])], keep := [] }
  | 125 => { own := [((1, 0), [(0, 3)])], keep := [(3, [0, 2, 4, 7, 8])] }
  | 131 => { own := [], keep := [(2, [0, 1, 4, 6])] }
  | 132 => { own := [((8, 0), [(0, 91)])], keep := [(3, [0, 3, 4, 6, 7])] }
  | 134 => { own := [((3, 4), [(2, 3), (3, 3)]), ((3, 5), [(2, 3), (3, 3)])], keep := [(7, [0, 4, 6, 7])] }
  | 135 => { own := [((3, 4), [(2, 3), (3, 3)]), ((3, 5), [(2, 3), (3, 3)])], keep := [(7, [0, 4, 6, 7])] }
  | 138 => { own := [((1, 0), [(0, 3)])], keep := [(3, [0, 2, 3, 4])] }
  | 143 => { own := [((1, 0), [(0, 3)])], keep := [(3, [0, 1, 2, 7, 8])] }
  | 146 => { own := [((10, 5), [(0, 2)])], keep := [(9, [0, 1, 4, 7])] }
  | 150 => { own := [], keep := [(5, [1, 3, 4]), (10, [1, 3, 5]), (14, [1, 3, 5, 6, 7])] }
  | 151 => { own := [], keep := [(6, [1, 3, 4, 5])] }
  | 155 => { own := [], keep := [(2, [0, 1, 7, 8])] }
  | 156 => { own := [], keep := [(3, [2, 8, 13, 14, 15])] }
  | 157 => { own := [], keep := [(2, [0, 2, 8])] }
  | 159 => { own := [], keep := [(2, [0, 1, 7, 8])] }
  | 164 => { own := [((4, 1), [(0, 3)]), ((4, 3), [(0, 3)])], keep := [(6, [6, 9, 23, 24, 25])] }
  | 166 => { own := [((1, 0), [(1000, 3)]), ((9, 3), [(0, 234)])], keep := [(3, [1, 2, 4, 6, 9, 10, 11]), (5, [1, 2, 4, 6, 7, 8, 9, 10, 11])] }
  | 167 => { own := [((13, 5), [(0, 234)])], keep := [] }
  | 169 => { own := [((2, 2), [(0, 2)])], keep := [] }
  | 170 => { own := [((6, 0), [(0, 3)]), ((6, 1), [(0, 3)]), ((18, 4), [(0, 234)])], keep := [(8, [4, 6, 8, 9, 38, 39, 40])] }
  | 172 => { own := [((6, 1), [(0, 3)]), ((12, 4), [(0, 234)])], keep := [(8, [4, 6, 8, 9, 41, 42, 43])] }
  | 173 => { own := [((9, 10), [(0, 234)])], keep := [] }
  | 176 => { own := [((3, 0), [(0, 3)])], keep := [(5, [1, 5, 6])] }
  | 178 => { own := [((1, 2), [(2, 3)]), ((1, 3), [(2, 3)])], keep := [(3, [0, 1, 4, 5, 6]), (7, [0, 1, 4, 5, 6, 7, 8])] }
  | 179 => { own := [((3, 0), [(0, 3)])], keep := [(6, [1, 2, 6, 7, 8]), (13, [1, 6, 7, 9]), (17, [1, 6, 7, 9, 10, 11])] }
  | 180 => { own := [((6, 0), [(0, 3)])], keep := [(2, [1, 4]), (8, [1, 5, 6])] }
  | 181 => { own := [((1, 0), [(0, 3)])], keep := [(3, [0, 1, 5, 6])] }
  | 182 => { own := [], keep := [(3, [0, 5, 6])] }
  | 183 => { own := [], keep := [(3, [1, 3, 4])] }
  | 184 => { own := [], keep := [(2, [0, 1, 7, 8])] }
  | 186 => { own := [], keep := [(2, [0, 1, 8])] }
  | 190 => { own := [((3, 1), [(0, 3)])], keep := [] }
  | 194 => { own := [((2, 0), [(1000, 2)]), ((3, 0), [(1000, 2)])], keep := [] }
  | 208 => { own := [], keep := [(4, [0, 1, 12, 13])] }
  | 211 => { own := [((3, 2), [(0, 2)])], keep := [] }
  | 212 => { own := [((1, 2), [(0, 3)])], keep := [(3, [1, 6, 14, 15, 16])] }
  | 214 => { own := [], keep := [(5, [0, 3, 4])] }
  | 222 => { own := [], keep := [(8, [7, 8])] }
  | 223 => { own := [], keep := [(2, [0, 1, 7, 8])] }
  | 224 => { own := [((9, 1), [(2000, 3)])], keep := [(3, [0, 3, 9, 10, 11]), (11, [6, 25, 26, 27])] }
  | 249 => { own := [], keep := [(2, [1, 2, 10, 11, 12])] }
  | 254 => { own := [], keep := [(5, [1, 3, 23, 24, 25])] }
  | 255 => { own := [((1, 0), [(0, 3)])], keep := [(3, [1, 7, 11, 12, 13])] }
  | _ => {}
def env : Env where
  summ := fun _ => none
  hint := hintOf
  pure := fun f => f != 38 && f != 39 && f != 69 && f != 70 && f != 81 && f != 164 && f != 188 && f != 189 && f != 192 && f != 194 && f != 197 && f != 210 && f != 212 && f != 213 && f != 218 && f != 222 && f != 225 && f != 227 && f != 247 && f != 249 && f != 251 && f != 253 && f != 255 && f != 256 && f != 258
  split := fun f => f == 81 || f == 194

end Go.Proofs.Tryz
namespace Go.Proofs.Tryz
open Go Go.Pm
set_option linter.unusedVariables false
set_option maxRecDepth 2000
structure T_ref14_Core where
  kind : Int
  shape : (List Int)
  buffer : Int
  starts : (List Int)
  axis : Int
  amount : Int
  perm : (List Int)
  kids : (List T_ref14_Core)
mutual
def T_ref14_Core.toD : T_ref14_Core → Dat
  | ⟨kind, shape, buffer, starts, axis, amount, perm, kids⟩ => .agg [(intD kind), (.lst ((List.map intD) shape)), (intD buffer), (.lst ((List.map intD) starts)), (intD axis), (intD amount), (.lst ((List.map intD) perm)), (.lst (T_ref14_Core.toDs kids))]
def T_ref14_Core.toDs : List T_ref14_Core → List Dat
  | [] => []
  | k :: ks => T_ref14_Core.toD k :: T_ref14_Core.toDs ks
end
theorem T_ref14_Core.toDs_eq : ∀ l : List T_ref14_Core, T_ref14_Core.toDs l = l.map T_ref14_Core.toD
  | [] => rfl
  | k :: ks => by rw [T_ref14_Core.toDs, T_ref14_Core.toDs_eq ks]; rfl
def T_ref14_Core.ex (x : T_ref14_Core) : Dat := .agg [(intD x.kind), (.lst ((List.map intD) x.shape)), (intD x.buffer), (.lst ((List.map intD) x.starts)), (intD x.axis), (intD x.amount), (.lst ((List.map intD) x.perm)), (.lst (T_ref14_Core.toDs x.kids))]
theorem T_ref14_Core.toD_eq (x : T_ref14_Core) : x.toD = x.ex := by cases x; rfl
theorem T_ref14_Core.fit (x : T_ref14_Core) : Dat.fits 8 x.toD = true := by cases x; rfl
structure T_core_Core where
  kind : Int
  shape : (List Int)
  buffer : Int
  starts : (List Int)
  axis : Int
  amount : Int
  perm : (List Int)
  kids : (List T_core_Core)
mutual
def T_core_Core.toD : T_core_Core → Dat
  | ⟨kind, shape, buffer, starts, axis, amount, perm, kids⟩ => .agg [(intD kind), (.lst ((List.map intD) shape)), (intD buffer), (.lst ((List.map intD) starts)), (intD axis), (intD amount), (.lst ((List.map intD) perm)), (.lst (T_core_Core.toDs kids))]
def T_core_Core.toDs : List T_core_Core → List Dat
  | [] => []
  | k :: ks => T_core_Core.toD k :: T_core_Core.toDs ks
end
theorem T_core_Core.toDs_eq : ∀ l : List T_core_Core, T_core_Core.toDs l = l.map T_core_Core.toD
  | [] => rfl
  | k :: ks => by rw [T_core_Core.toDs, T_core_Core.toDs_eq ks]; rfl
def T_core_Core.ex (x : T_core_Core) : Dat := .agg [(intD x.kind), (.lst ((List.map intD) x.shape)), (intD x.buffer), (.lst ((List.map intD) x.starts)), (intD x.axis), (intD x.amount), (.lst ((List.map intD) x.perm)), (.lst (T_core_Core.toDs x.kids))]
theorem T_core_Core.toD_eq (x : T_core_Core) : x.toD = x.ex := by cases x; rfl
theorem T_core_Core.fit (x : T_core_Core) : Dat.fits 8 x.toD = true := by cases x; rfl
structure T_psi_Cell where
  fill : Bool
  buffer : Int
  offset : Int
def T_psi_Cell.toD (x : T_psi_Cell) : Dat := .agg [(boolD x.fill), (intD x.buffer), (intD x.offset)]
theorem T_psi_Cell.fit (x : T_psi_Cell) : Dat.fits 3 x.toD = true := rfl
structure T_gamma_layout where
  strides : (List Int)
  dims : (List Int)
def T_gamma_layout.toD (x : T_gamma_layout) : Dat := .agg [(.lst ((List.map intD) x.strides)), (.lst ((List.map intD) x.dims))]
theorem T_gamma_layout.fit (x : T_gamma_layout) : Dat.fits 2 x.toD = true := rfl
structure T_ref16_Cell where
  fill : Bool
  buffer : Int
  offset : Int
def T_ref16_Cell.toD (x : T_ref16_Cell) : Dat := .agg [(boolD x.fill), (intD x.buffer), (intD x.offset)]
theorem T_ref16_Cell.fit (x : T_ref16_Cell) : Dat.fits 3 x.toD = true := rfl
end Go.Proofs.Tryz
namespace Go.Proofs.Tryz
open Go Go.Pm
set_option linter.unusedVariables false
set_option maxRecDepth 2000
def m_law16_awake (x : Unit) : Option Bool := some true
def P_law16_awake : Unit → Bool → Prop := fun x r => ∀ H, PC prog env 8 ([].map .dat) H (boolPV r) H
theorem w_law16_awake : ∀ x r, m_law16_awake x = some r → P_law16_awake x r := by
  intro x r hm
  cases hm
  intro H
  exact PC_of (n := 200) (by kernel_rfl)
end Go.Proofs.Tryz
namespace Go.Proofs.Tryz
open Go Go.Pm
set_option linter.unusedVariables false
set_option maxRecDepth 2000
mutual
def m_ref14_left_L1 (x : (T_ref14_Core × Int × Int)) : Option (Int) :=
  match x with
  | (p0, v203, v204) =>
  (if v204 < (p0.kids.length : Int) then
    some (decide (v203 ≥ 0))
  else
  some false
  ) >>= fun (v604 : Bool) =>
  if v604 = true then
    idx p0.kids v204 >>= fun v605 =>
    m_ref14_left (v605, v203) >>= fun (v606 : Int) =>
    m_ref14_left_L1 (p0, v606, (W (v204 + 1)))
  else
  some v203
  partial_fixpoint
def m_ref14_left (x : (T_ref14_Core × Int)) : Option Int :=
  match x with
  | (p0, p1) =>
  ((if (p0.shape.length : Int) > 40 then
    some true
  else
  some (decide ((p0.starts.length : Int) > 40))
  ) >>= fun (v2 : Bool) =>
  if v2 = true then
    some true
  else
  some (decide ((p0.perm.length : Int) > 40))
  ) >>= fun (v1 : Bool) =>
  if v1 = true then
    some (-1)
  else
  m_ref14_left_L1 (p0, (W (p1 - 1)), 0) >>= fun (v603 : Int) =>
  some v603
  partial_fixpoint
end
def P_ref14_left_L1 : (T_ref14_Core × Int × Int) → Int → Prop := fun x r => match x with
  | (p0, v203, v204) => ∀ st, prune 1 ((firstRegion (codeAt [1, 1, 1, 0, 1, 0, 0] (bodyOf f71))).bind (env.hint 71).keepAt) st = ⟨kp 43 [(1, (intPV v203)), (2, (.ptr 0 0)), (5, (intPV v204))], [(.box [(intPV p0.kind), (.dat (.lst ((List.map intD) p0.shape))), (intPV p0.buffer), (.dat (.lst ((List.map intD) p0.starts))), (intPV p0.axis), (intPV p0.amount), (.dat (.lst ((List.map intD) p0.perm))), (.dat (.lst (T_ref14_Core.toDs p0.kids)))])]⟩ →
    RL prog env (env.hint 71) true (codeAt [1, 1, 1, 0, 1, 0, 0] (bodyOf f71)) 1 st (fun e s => match r with | v603 => e = .exit 0 ∧ ∃ d, s = ⟨sl d 43 [(1, (intPV v603))], [(.box [(intPV p0.kind), (.dat (.lst ((List.map intD) p0.shape))), (intPV p0.buffer), (.dat (.lst ((List.map intD) p0.starts))), (intPV p0.axis), (intPV p0.amount), (.dat (.lst ((List.map intD) p0.perm))), (.dat (.lst (T_ref14_Core.toDs p0.kids)))])]⟩)
def P_ref14_left : (T_ref14_Core × Int) → Int → Prop := fun x r => match x, r with
  | (p0, p1), r0 => ∀ H, PC prog env 71 ([(T_ref14_Core.ex p0), (intD p1)].map .dat) H (intPV r0) H
theorem g_ref14_left_L1 : (∀ x r, m_ref14_left_L1 x = some r → P_ref14_left_L1 x r) ∧ (∀ x r, m_ref14_left x = some r → P_ref14_left x r) := by
  refine m_ref14_left_L1.mutual_partial_correctness P_ref14_left_L1 P_ref14_left ?_ ?_
  · intro m_ref14_left_L1 m_ref14_left w_ref14_left_L1 w_ref14_left x r hm
    unfold P_ref14_left_L1
    obtain ⟨p0, v203, v204⟩ := x
    intro st hst
    refine RL_at hst ?_
    clear hst
    refine R_seq ?_
    refine R_seq ?_
    obtain ⟨v604, hs, hm⟩ := bind_inv hm
    refine R_cut (fun d => ⟨sl d 43 [(1, (intPV v203)), (2, (.ptr 0 0)), (5, (intPV v204)), (32, (boolPV v604))], [(.box [(intPV p0.kind), (.dat (.lst ((List.map intD) p0.shape))), (intPV p0.buffer), (.dat (.lst ((List.map intD) p0.starts))), (intPV p0.axis), (intPV p0.amount), (.dat (.lst ((List.map intD) p0.perm))), (.dat (.lst (T_ref14_Core.toDs p0.kids)))])]⟩) ?_ (fun d => ?_)
    · replace hm := hs
      clear hs
      refine R_G ?_
      refine G_run 3 ?_
      refine I_len T_ref14_Core.toD p0.kids (es := T_ref14_Core.toDs p0.kids) (T_ref14_Core.toDs_eq _) ?_
      refine G_run 2 ?_
      refine G_split (p := v204 < (p0.kids.length : Int)) 29 (rfl) (fun hc => ?_) (fun hc => ?_)
      · replace hm := pos_inv hc hm
        refine G_run 3 ?_
        refine G_end ?_
        obtain rfl := inj1 hm
        exact cut_leaf (by kernel_rfl)
      replace hm := neg_inv hc hm
      refine G_run 3 ?_
      refine G_end ?_
      obtain rfl := inj1 hm
      exact cut_leaf (by kernel_rfl)
    clear hs
    refine R_ifp (p := v604 = true) (bool_dec _) (fun hc => ?_) (fun hc => ?_)
    · replace hm := pos_inv hc hm
      refine R_skip ?_
      refine R_seq ?_
      refine R_block ?_
      refine R_G ?_
      refine G_run 3 ?_
      obtain ⟨v605, hx, hm⟩ := bind_inv hm
      refine I_idx 8 T_ref14_Core.toD p0.kids v204 v605 (es := T_ref14_Core.toDs p0.kids) (d := (T_ref14_Core.ex v605)) (T_ref14_Core.toDs_eq _) hx (T_ref14_Core.toD_eq v605) rfl ?_
      refine G_run 2 ?_
      obtain ⟨v606, hx, hm⟩ := bind_inv hm
      have hq := w_ref14_left _ _ hx []
      refine G_callP hq ?_
      refine G_run 1 ?_
      refine G_end ?_
      refine R_G ?_
      refine G_run 3 ?_
      refine G_end ?_
      exact w_ref14_left_L1 _ _ hm _ (by kernel_rfl)
    replace hm := neg_inv hc hm
    refine R_exit ?_
    obtain rfl := inj1 hm
    exact ⟨rfl, cut_leaf (by kernel_rfl)⟩
  · intro m_ref14_left_L1 w_ref14_left_L1 x r0 hm
    unfold P_ref14_left
    obtain ⟨p0, p1⟩ := x
    intro H
    refine PC_sx (ds := [(T_ref14_Core.ex p0), (intD p1)]) (fn := f71) (by kernel_rfl) (by kernel_rfl) rfl ?_ (by kernel_rfl)
    refine R_seq ?_
    refine R_G ?_
    refine G_run 2 ?_
    refine G_end ?_
    refine R_seq ?_
    refine R_G ?_
    refine G_run 3 ?_
    refine G_end ?_
    refine R_seq ?_
    refine R_seq ?_
    obtain ⟨v1, hs, hm⟩ := bind_inv hm
    refine R_cut (fun d => ⟨sl d 43 [(1, (intPV (W (p1 - 1)))), (2, (.ptr 0 0)), (23, (boolPV v1))], [(.box [(intPV p0.kind), (.dat (.lst ((List.map intD) p0.shape))), (intPV p0.buffer), (.dat (.lst ((List.map intD) p0.starts))), (intPV p0.axis), (intPV p0.amount), (.dat (.lst ((List.map intD) p0.perm))), (.dat (.lst (T_ref14_Core.toDs p0.kids)))])]⟩) ?_ (fun d => ?_)
    · replace hm := hs
      clear hs
      refine R_GN ?_
      refine G_run 2 ?_
      refine I_len intD p0.shape (es := (List.map intD) p0.shape) rfl ?_
      refine G_run 2 ?_
      obtain ⟨v2, hs, hm⟩ := bind_inv hm
      refine G_cut (j := 10) (fun d => ⟨sl d 43 [(0, (.dat (.agg [(intD p0.kind), (.lst ((List.map intD) p0.shape)), (intD p0.buffer), (.lst ((List.map intD) p0.starts)), (intD p0.axis), (intD p0.amount), (.lst ((List.map intD) p0.perm)), (.lst (T_ref14_Core.toDs p0.kids))]))), (1, (intPV (W (p1 - 1)))), (2, (.ptr 0 0)), (4, (intPV 0)), (6, (intPV p1)), (7, (intPV (W (p1 - 1)))), (8, (.ptr 0 1)), (9, (.dat (.lst ((List.map intD) p0.shape)))), (10, (intPV (p0.shape.length : Int))), (11, (boolPV (decide ((p0.shape.length : Int) > 40)))), (17, (boolPV v2))], [(.box [(intPV p0.kind), (.dat (.lst ((List.map intD) p0.shape))), (intPV p0.buffer), (.dat (.lst ((List.map intD) p0.starts))), (intPV p0.axis), (intPV p0.amount), (.dat (.lst ((List.map intD) p0.perm))), (.dat (.lst (T_ref14_Core.toDs p0.kids)))])]⟩) (fun d => ?_) (fun hJ => ?_)
      · clear hs
        refine G_run 1 ?_
        refine G_split (p := v2 = true) 18 (bool_dec _) (fun hc => ?_) (fun hc => ?_)
        · replace hm := pos_inv hc hm
          refine G_run 5 ?_
          refine G_end ⟨by kernel_rfl, ?_⟩
          obtain rfl := inj1 hm
          exact cut_leaf (by kernel_rfl)
        replace hm := neg_inv hc hm
        refine G_run 2 ?_
        refine I_len intD p0.perm (es := (List.map intD) p0.perm) rfl ?_
        refine G_run 2 ?_
        refine G_end ⟨by kernel_rfl, ?_⟩
        obtain rfl := inj1 hm
        exact cut_leaf (by kernel_rfl)
      replace hm := hs
      clear hs
      refine G_split (p := (p0.shape.length : Int) > 40) 12 (rfl) (fun hc => ?_) (fun hc => ?_)
      · replace hm := pos_inv hc hm
        refine G_run 5 ?_
        obtain rfl := inj1 hm
        exact hJ _ _ (by kernel_rfl) (by kernel_rfl)
      replace hm := neg_inv hc hm
      refine G_run 2 ?_
      refine I_len intD p0.starts (es := (List.map intD) p0.starts) rfl ?_
      refine G_run 2 ?_
      obtain rfl := inj1 hm
      exact hJ _ _ (by kernel_rfl) (by kernel_rfl)
    clear hs
    refine R_ifp (p := v1 = true) (bool_dec _) (fun hc => ?_) (fun hc => ?_)
    · replace hm := pos_inv hc hm
      refine R_seq ?_
      refine R_G ?_
      refine G_run 1 ?_
      refine G_end ?_
      refine R_ret ?_
      obtain rfl := inj1 hm
      exact ⟨trivial, fin_pure (by kernel_rfl)⟩
    replace hm := neg_inv hc hm
    refine R_skip ?_
    refine R_seq ?_
    refine R_seq ?_
    refine R_G ?_
    refine G_run 1 ?_
    refine G_end ?_
    refine R_block ?_
    obtain ⟨v603, hs, hm⟩ := bind_inv hm
    refine R_loop ?_
    refine RL_use (w_ref14_left_L1 _ _ hs) (by kernel_rfl) ?_
    clear hs
    intro e s hp
    obtain ⟨rfl, d, rfl⟩ := hp
    refine R_seq ?_
    refine R_G ?_
    refine G_run 2 ?_
    refine G_end ?_
    refine R_ret ?_
    obtain rfl := inj1 hm
    exact ⟨trivial, fin_pure (by kernel_rfl)⟩
theorem w_ref14_left_L1 : ∀ x r, m_ref14_left_L1 x = some r → P_ref14_left_L1 x r := g_ref14_left_L1.1
theorem w_ref14_left : ∀ x r, m_ref14_left x = some r → P_ref14_left x r := g_ref14_left_L1.2
end Go.Proofs.Tryz
namespace Go.Proofs.Tryz
open Go Go.Pm
set_option linter.unusedVariables false
set_option maxRecDepth 2000
def m_ref14_Few (x : (T_ref14_Core × Int)) : Option Bool :=
  match x with
  | (p0, p1) =>
  m_ref14_left (p0, p1) >>= fun (v1 : Int) =>
  some (decide (v1 ≥ 0))
def P_ref14_Few : (T_ref14_Core × Int) → Bool → Prop := fun x r => match x, r with
  | (p0, p1), r0 => ∀ H, PC prog env 41 ([(T_ref14_Core.ex p0), (intD p1)].map .dat) H (boolPV r0) H
theorem w_ref14_Few : ∀ x r, m_ref14_Few x = some r → P_ref14_Few x r := by
  intro x r0 hm
  unfold m_ref14_Few at hm
  unfold P_ref14_Few
  obtain ⟨p0, p1⟩ := x
  intro H
  refine PC_sx (ds := [(T_ref14_Core.ex p0), (intD p1)]) (fn := f41) (by kernel_rfl) (by kernel_rfl) rfl ?_ (by kernel_rfl)
  refine R_seq ?_
  refine R_G ?_
  refine G_run 2 ?_
  refine G_end ?_
  refine R_seq ?_
  refine R_G ?_
  refine G_run 2 ?_
  obtain ⟨v1, hx, hm⟩ := bind_inv hm
  have hq := w_ref14_left _ _ hx []
  refine G_callP hq ?_
  refine G_run 2 ?_
  refine G_end ?_
  refine R_ret ?_
  obtain rfl := inj1 hm
  exact ⟨trivial, fin_pure (by kernel_rfl)⟩
end Go.Proofs.Tryz
namespace Go.Proofs.Tryz
open Go Go.Pm
set_option linter.unusedVariables false
set_option maxRecDepth 2000
mutual
def m_ref14_Depth_L1 (x : (T_ref14_Core × Int × Int)) : Option (Int) :=
  match x with
  | (p0, v201, v202) =>
  if v202 < (p0.kids.length : Int) then
    idx p0.kids v202 >>= fun v602 =>
    m_ref14_Depth v602 >>= fun (v603 : Int) =>
    m_ref14_Depth_L1 (p0, (if v201 < v603 then v603 else v201), (W (v202 + 1)))
  else
  some v201
  partial_fixpoint
def m_ref14_Depth (x : T_ref14_Core) : Option Int :=
  match x with
  | p0 =>
  m_ref14_Depth_L1 (p0, 0, 0) >>= fun (v601 : Int) =>
  some (W (v601 + 1))
  partial_fixpoint
end
def P_ref14_Depth_L1 : (T_ref14_Core × Int × Int) → Int → Prop := fun x r => match x with
  | (p0, v201, v202) => ∀ st, prune 1 ((firstRegion (codeAt [1, 1, 0, 1, 0, 0] (bodyOf f72))).bind (env.hint 72).keepAt) st = ⟨kp 22 [(1, (.ptr 0 0)), (3, (intPV v201)), (4, (intPV v202))], [(.box [(intPV p0.kind), (.dat (.lst ((List.map intD) p0.shape))), (intPV p0.buffer), (.dat (.lst ((List.map intD) p0.starts))), (intPV p0.axis), (intPV p0.amount), (.dat (.lst ((List.map intD) p0.perm))), (.dat (.lst (T_ref14_Core.toDs p0.kids)))])]⟩ →
    RL prog env (env.hint 72) true (codeAt [1, 1, 0, 1, 0, 0] (bodyOf f72)) 1 st (fun e s => match r with | v601 => e = .exit 0 ∧ ∃ d, s = ⟨sl d 22 [(3, (intPV v601))], [(.box [(intPV p0.kind), (.dat (.lst ((List.map intD) p0.shape))), (intPV p0.buffer), (.dat (.lst ((List.map intD) p0.starts))), (intPV p0.axis), (intPV p0.amount), (.dat (.lst ((List.map intD) p0.perm))), (.dat (.lst (T_ref14_Core.toDs p0.kids)))])]⟩)
def P_ref14_Depth : T_ref14_Core → Int → Prop := fun x r => match x, r with
  | p0, r0 => ∀ H, PC prog env 72 ([(T_ref14_Core.ex p0)].map .dat) H (intPV r0) H
theorem g_ref14_Depth_L1 : (∀ x r, m_ref14_Depth_L1 x = some r → P_ref14_Depth_L1 x r) ∧ (∀ x r, m_ref14_Depth x = some r → P_ref14_Depth x r) := by
  refine m_ref14_Depth_L1.mutual_partial_correctness P_ref14_Depth_L1 P_ref14_Depth ?_ ?_
  · intro m_ref14_Depth_L1 m_ref14_Depth w_ref14_Depth_L1 w_ref14_Depth x r hm
    unfold P_ref14_Depth_L1
    obtain ⟨p0, v201, v202⟩ := x
    intro st hst
    refine RL_at hst ?_
    clear hst
    refine R_seq ?_
    refine R_seq ?_
    refine R_G ?_
    refine G_run 3 ?_
    refine I_len T_ref14_Core.toD p0.kids (es := T_ref14_Core.toDs p0.kids) (T_ref14_Core.toDs_eq _) ?_
    refine G_run 1 ?_
    refine G_end ?_
    refine R_ifp (p := v202 < (p0.kids.length : Int)) (rfl) (fun hc => ?_) (fun hc => ?_)
    · replace hm := pos_inv hc hm
      refine R_skip ?_
      refine R_seq ?_
      refine R_block ?_
      refine R_G ?_
      refine G_run 4 ?_
      obtain ⟨v602, hx, hm⟩ := bind_inv hm
      refine I_idx 8 T_ref14_Core.toD p0.kids v202 v602 (es := T_ref14_Core.toDs p0.kids) (d := (T_ref14_Core.ex v602)) (T_ref14_Core.toDs_eq _) hx (T_ref14_Core.toD_eq v602) rfl ?_
      refine G_run 1 ?_
      obtain ⟨v603, hx, hm⟩ := bind_inv hm
      have hq := w_ref14_Depth _ _ hx []
      refine G_callP hq ?_
      refine G_semN rfl (by kernel_rfl) (fun _ => E_max (k := .i64) (m := v201) (n := v603) rfl (by kernel_rfl) (by kernel_rfl)) ?_
      refine G_run 1 ?_
      refine G_end ?_
      refine R_G ?_
      refine G_run 3 ?_
      refine G_end ?_
      exact w_ref14_Depth_L1 _ _ hm _ (by kernel_rfl)
    replace hm := neg_inv hc hm
    refine R_exit ?_
    obtain rfl := inj1 hm
    exact ⟨rfl, cut_leaf (by kernel_rfl)⟩
  · intro m_ref14_Depth_L1 w_ref14_Depth_L1 p0 r0 hm
    unfold P_ref14_Depth
    intro H
    refine PC_sx (ds := [(T_ref14_Core.ex p0)]) (fn := f72) (by kernel_rfl) (by kernel_rfl) rfl ?_ (by kernel_rfl)
    refine R_seq ?_
    refine R_G ?_
    refine G_run 2 ?_
    refine G_end ?_
    refine R_seq ?_
    refine R_G ?_
    refine G_run 1 ?_
    refine G_end ?_
    refine R_seq ?_
    refine R_seq ?_
    refine R_G ?_
    refine G_run 1 ?_
    refine G_end ?_
    refine R_block ?_
    obtain ⟨v601, hs, hm⟩ := bind_inv hm
    refine R_loop ?_
    refine RL_use (w_ref14_Depth_L1 _ _ hs) (by kernel_rfl) ?_
    clear hs
    intro e s hp
    obtain ⟨rfl, d, rfl⟩ := hp
    refine R_seq ?_
    refine R_G ?_
    refine G_run 3 ?_
    refine G_end ?_
    refine R_ret ?_
    obtain rfl := inj1 hm
    exact ⟨trivial, fin_pure (by kernel_rfl)⟩
theorem w_ref14_Depth_L1 : ∀ x r, m_ref14_Depth_L1 x = some r → P_ref14_Depth_L1 x r := g_ref14_Depth_L1.1
theorem w_ref14_Depth : ∀ x r, m_ref14_Depth x = some r → P_ref14_Depth x r := g_ref14_Depth_L1.2
end Go.Proofs.Tryz
namespace Go.Proofs.Tryz
open Go Go.Pm
set_option linter.unusedVariables false
set_option maxRecDepth 2000
def m_ref01_Product_L1 (x : ((List Int) × Bool × Int)) : Option (Unit ⊕ Bool) :=
  match x with
  | (p0, v201, v202) =>
  if v202 < (p0.length : Int) then
    idx p0 v202 >>= fun v602 =>
    if v602 < 0 then
      some (Sum.inl ())
    else
    if v201 = true then
      m_ref01_Product_L1 (p0, true, (W (v202 + 1)))
    else
    idx p0 v202 >>= fun v603 =>
    m_ref01_Product_L1 (p0, (v603 == 0), (W (v202 + 1)))
  else
  some (Sum.inr v201)
  partial_fixpoint
def P_ref01_Product_L1 : ((List Int) × Bool × Int) → (Unit ⊕ Bool) → Prop := fun x r => match x with
  | (p0, v201, v202) => ∀ st, prune 0 ((firstRegion (codeAt [1, 1, 0, 1, 0, 0] (bodyOf f79))).bind (env.hint 79).keepAt) st = ⟨kp 55 [(0, (.dat (.lst ((List.map intD) p0)))), (4, (boolPV v201)), (5, (intPV v202))], []⟩ →
    RL prog env (env.hint 79) true (codeAt [1, 1, 0, 1, 0, 0] (bodyOf f79)) 0 st (fun e s => match r with | .inl _ => e = .ret ∧ ∃ d, s = ⟨sl d 55 [(2, (intPV 0)), (3, (intPV 6))], []⟩ | .inr (v601) => e = .exit 0 ∧ ∃ d, s = ⟨sl d 55 [(0, (.dat (.lst ((List.map intD) p0)))), (4, (boolPV v601))], []⟩)
theorem w_ref01_Product_L1 : ∀ x r, m_ref01_Product_L1 x = some r → P_ref01_Product_L1 x r := by
  refine m_ref01_Product_L1.partial_correctness _ (fun m_ref01_Product_L1 w_ref01_Product_L1 x r hm => ?_)
  unfold P_ref01_Product_L1
  obtain ⟨p0, v201, v202⟩ := x
  intro st hst
  refine RL_at hst ?_
  clear hst
  refine R_seq ?_
  refine R_seq ?_
  refine R_G ?_
  refine G_run 2 ?_
  refine I_len intD p0 (es := (List.map intD) p0) rfl ?_
  refine G_run 1 ?_
  refine G_end ?_
  refine R_ifp (p := v202 < (p0.length : Int)) (rfl) (fun hc => ?_) (fun hc => ?_)
  · replace hm := pos_inv hc hm
    refine R_skip ?_
    refine R_seq ?_
    refine R_block ?_
    refine R_seq ?_
    refine R_seq ?_
    refine R_G ?_
    refine G_run 2 ?_
    obtain ⟨v602, hx, hm⟩ := bind_inv hm
    refine I_idx 1 intD p0 v202 v602 (es := (List.map intD) p0) (d := (intD v602)) rfl hx rfl rfl ?_
    refine G_run 2 ?_
    refine G_end ?_
    refine R_ifp (p := v602 < 0) (rfl) (fun hc => ?_) (fun hc => ?_)
    · replace hm := pos_inv hc hm
      refine R_seq ?_
      refine R_G ?_
      refine G_run 2 ?_
      refine G_end ?_
      refine R_ret ?_
      obtain rfl := inj1 hm
      exact ⟨rfl, cut_leaf (by kernel_rfl)⟩
    replace hm := neg_inv hc hm
    refine R_skip ?_
    refine R_G ?_
    refine G_run 2 ?_
    refine G_split (p := v201 = true) 21 (bool_dec _) (fun hc => ?_) (fun hc => ?_)
    · replace hm := pos_inv hc hm
      refine G_run 7 ?_
      refine G_end ?_
      refine R_G ?_
      refine G_run 3 ?_
      refine G_end ?_
      exact w_ref01_Product_L1 _ _ hm _ (by kernel_rfl)
    replace hm := neg_inv hc hm
    refine G_run 2 ?_
    obtain ⟨v603, hx, hm⟩ := bind_inv hm
    refine I_idx 1 intD p0 v202 v603 (es := (List.map intD) p0) (d := (intD v603)) rfl hx rfl rfl ?_
    refine G_run 4 ?_
    refine G_end ?_
    refine R_G ?_
    refine G_run 3 ?_
    refine G_end ?_
    exact w_ref01_Product_L1 _ _ hm _ (by kernel_rfl)
  replace hm := neg_inv hc hm
  refine R_exit ?_
  obtain rfl := inj1 hm
  exact ⟨rfl, cut_leaf (by kernel_rfl)⟩
def m_ref01_Product_L2 (x : ((List Int) × Bool × Int)) : Option (Unit ⊕ Unit) :=
  match x with
  | (p0, v601, v804) =>
  if v804 < (p0.length : Int) then
    idx p0 v804 >>= fun v1204 =>
    if v1204 > 65536 then
      some (Sum.inl ())
    else
    m_ref01_Product_L2 (p0, v601, (W (v804 + 1)))
  else
  some (Sum.inr ())
  partial_fixpoint
def P_ref01_Product_L2 : ((List Int) × Bool × Int) → (Unit ⊕ Unit) → Prop := fun x r => match x with
  | (p0, v601, v804) => ∀ st, prune 0 ((firstRegion (codeAt [1, 1, 1, 0, 1, 0, 0] (bodyOf f79))).bind (env.hint 79).keepAt) st = ⟨kp 55 [(0, (.dat (.lst ((List.map intD) p0)))), (4, (boolPV v601)), (6, (intPV v804))], []⟩ →
    RL prog env (env.hint 79) true (codeAt [1, 1, 1, 0, 1, 0, 0] (bodyOf f79)) 0 st (fun e s => match r with | .inl _ => e = .ret ∧ ∃ d, s = ⟨sl d 55 [(2, (intPV 0)), (3, (intPV 7))], []⟩ | .inr (_) => e = .exit 2 ∧ ∃ d, s = ⟨sl d 55 [(0, (.dat (.lst ((List.map intD) p0)))), (4, (boolPV v601))], []⟩)
theorem w_ref01_Product_L2 : ∀ x r, m_ref01_Product_L2 x = some r → P_ref01_Product_L2 x r := by
  refine m_ref01_Product_L2.partial_correctness _ (fun m_ref01_Product_L2 w_ref01_Product_L2 x r hm => ?_)
  unfold P_ref01_Product_L2
  obtain ⟨p0, v601, v804⟩ := x
  intro st hst
  refine RL_at hst ?_
  clear hst
  refine R_seq ?_
  refine R_seq ?_
  refine R_G ?_
  refine G_run 2 ?_
  refine I_len intD p0 (es := (List.map intD) p0) rfl ?_
  refine G_run 1 ?_
  refine G_end ?_
  refine R_ifp (p := v804 < (p0.length : Int)) (rfl) (fun hc => ?_) (fun hc => ?_)
  · replace hm := pos_inv hc hm
    refine R_skip ?_
    refine R_seq ?_
    refine R_block ?_
    refine R_seq ?_
    refine R_G ?_
    refine G_run 2 ?_
    obtain ⟨v1204, hx, hm⟩ := bind_inv hm
    refine I_idx 1 intD p0 v804 v1204 (es := (List.map intD) p0) (d := (intD v1204)) rfl hx rfl rfl ?_
    refine G_run 2 ?_
    refine G_end ?_
    refine R_ifp (p := v1204 > 65536) (rfl) (fun hc => ?_) (fun hc => ?_)
    · replace hm := pos_inv hc hm
      refine R_seq ?_
      refine R_G ?_
      refine G_run 2 ?_
      refine G_end ?_
      refine R_ret ?_
      obtain rfl := inj1 hm
      exact ⟨rfl, cut_leaf (by kernel_rfl)⟩
    replace hm := neg_inv hc hm
    refine R_skip ?_
    refine R_G ?_
    refine G_run 3 ?_
    refine G_end ?_
    exact w_ref01_Product_L2 _ _ hm _ (by kernel_rfl)
  replace hm := neg_inv hc hm
  refine R_exit ?_
  obtain rfl := inj1 hm
  exact ⟨rfl, cut_leaf (by kernel_rfl)⟩
def m_ref01_Product_L3 (x : ((List Int) × Int × Int)) : Option (Unit ⊕ Int) :=
  match x with
  | (p0, v1405, v1406) =>
  if v1406 < (p0.length : Int) then
    idx p0 v1406 >>= fun v1806 =>
    if (W (v1405 * v1806)) > 65536 then
      some (Sum.inl ())
    else
    m_ref01_Product_L3 (p0, (W (v1405 * v1806)), (W (v1406 + 1)))
  else
  some (Sum.inr v1405)
  partial_fixpoint
def P_ref01_Product_L3 : ((List Int) × Int × Int) → (Unit ⊕ Int) → Prop := fun x r => match x with
  | (p0, v1405, v1406) => ∀ st, prune 0 ((firstRegion (codeAt [1, 1, 1, 1, 1, 1, 0, 1, 0, 0] (bodyOf f79))).bind (env.hint 79).keepAt) st = ⟨kp 55 [(0, (.dat (.lst ((List.map intD) p0)))), (7, (intPV v1405)), (8, (intPV v1406))], []⟩ →
    RL prog env (env.hint 79) true (codeAt [1, 1, 1, 1, 1, 1, 0, 1, 0, 0] (bodyOf f79)) 0 st (fun e s => match r with | .inl _ => e = .ret ∧ ∃ d, s = ⟨sl d 55 [(2, (intPV 0)), (3, (intPV 7))], []⟩ | .inr (v1805) => e = .exit 4 ∧ ∃ d, s = ⟨sl d 55 [(7, (intPV v1805))], []⟩)
theorem w_ref01_Product_L3 : ∀ x r, m_ref01_Product_L3 x = some r → P_ref01_Product_L3 x r := by
  refine m_ref01_Product_L3.partial_correctness _ (fun m_ref01_Product_L3 w_ref01_Product_L3 x r hm => ?_)
  unfold P_ref01_Product_L3
  obtain ⟨p0, v1405, v1406⟩ := x
  intro st hst
  refine RL_at hst ?_
  clear hst
  refine R_seq ?_
  refine R_seq ?_
  refine R_G ?_
  refine G_run 2 ?_
  refine I_len intD p0 (es := (List.map intD) p0) rfl ?_
  refine G_run 1 ?_
  refine G_end ?_
  refine R_ifp (p := v1406 < (p0.length : Int)) (rfl) (fun hc => ?_) (fun hc => ?_)
  · replace hm := pos_inv hc hm
    refine R_skip ?_
    refine R_seq ?_
    refine R_block ?_
    refine R_seq ?_
    refine R_G ?_
    refine G_run 3 ?_
    obtain ⟨v1806, hx, hm⟩ := bind_inv hm
    refine I_idx 1 intD p0 v1406 v1806 (es := (List.map intD) p0) (d := (intD v1806)) rfl hx rfl rfl ?_
    refine G_run 3 ?_
    refine G_end ?_
    refine R_seq ?_
    refine R_G ?_
    refine G_run 2 ?_
    refine G_end ?_
    refine R_ifp (p := (W (v1405 * v1806)) > 65536) (rfl) (fun hc => ?_) (fun hc => ?_)
    · replace hm := pos_inv hc hm
      refine R_seq ?_
      refine R_G ?_
      refine G_run 2 ?_
      refine G_end ?_
      refine R_ret ?_
      obtain rfl := inj1 hm
      exact ⟨rfl, cut_leaf (by kernel_rfl)⟩
    replace hm := neg_inv hc hm
    refine R_skip ?_
    refine R_G ?_
    refine G_run 3 ?_
    refine G_end ?_
    exact w_ref01_Product_L3 _ _ hm _ (by kernel_rfl)
  replace hm := neg_inv hc hm
  refine R_exit ?_
  obtain rfl := inj1 hm
  exact ⟨rfl, cut_leaf (by kernel_rfl)⟩
def m_ref01_Product (x : (List Int)) : Option (Int × Int) :=
  match x with
  | p0 =>
  (
  m_ref01_Product_L1 (p0, false, 0) >>= fun (out : Unit ⊕ Bool) =>
  match out with
  | .inl _ =>
    some (0, 6)
  | .inr (v601) =>
    (
    m_ref01_Product_L2 (p0, v601, 0) >>= fun (out : Unit ⊕ Unit) =>
    match out with
    | .inl _ =>
      some (0, 7)
    | .inr (_) =>
      if v601 = true then
        some (0, 0)
      else
      (
      m_ref01_Product_L3 (p0, 1, 0) >>= fun (out : Unit ⊕ Int) =>
      match out with
      | .inl _ =>
        some (0, 7)
      | .inr (v1805) =>
        some (v1805, 0)
      )
    )
  )
def P_ref01_Product : (List Int) → (Int × Int) → Prop := fun x r => match x, r with
  | p0, (r0, r1) => ∀ H, PC prog env 79 ([(.lst ((List.map intD) p0))].map .dat) H (.tup [(intPV r0), (intPV r1)]) H
theorem w_ref01_Product : ∀ x r, m_ref01_Product x = some r → P_ref01_Product x r := by
  intro p0 r hm
  unfold m_ref01_Product at hm
  unfold P_ref01_Product
  obtain ⟨r0, r1⟩ := r
  intro H
  refine PC_sx (ds := [(.lst ((List.map intD) p0))]) (fn := f79) (by kernel_rfl) (by kernel_rfl) rfl ?_ (by kernel_rfl)
  refine R_seq ?_
  refine R_G ?_
  refine G_run 2 ?_
  refine G_end ?_
  refine R_seq ?_
  refine R_G ?_
  refine G_run 1 ?_
  refine G_end ?_
  refine R_seq ?_
  refine R_seq ?_
  refine R_G ?_
  refine G_run 1 ?_
  refine G_end ?_
  refine R_block ?_
  obtain ⟨out, hs, hm⟩ := bind_inv hm
  refine R_loop ?_
  rcases out with _ | v601
  · refine RL_use (w_ref01_Product_L1 _ _ hs) (by kernel_rfl) ?_
    clear hs
    intro e s hp
    obtain ⟨rfl, d, rfl⟩ := hp
    obtain ⟨rfl, rfl⟩ := inj2 hm
    exact ⟨trivial, fin_pure (by kernel_rfl)⟩
  · refine RL_use (w_ref01_Product_L1 _ _ hs) (by kernel_rfl) ?_
    clear hs
    intro e s hp
    obtain ⟨rfl, d, rfl⟩ := hp
    refine R_seq ?_
    refine R_seq ?_
    refine R_G ?_
    refine G_run 1 ?_
    refine G_end ?_
    refine R_block ?_
    obtain ⟨out, hs, hm⟩ := bind_inv hm
    refine R_loop ?_
    rcases out with _ | _
    · refine RL_use (w_ref01_Product_L2 _ _ hs) (by kernel_rfl) ?_
      clear hs
      intro e s hp
      obtain ⟨rfl, d, rfl⟩ := hp
      obtain ⟨rfl, rfl⟩ := inj2 hm
      exact ⟨trivial, fin_pure (by kernel_rfl)⟩
    · refine RL_use (w_ref01_Product_L2 _ _ hs) (by kernel_rfl) ?_
      clear hs
      intro e s hp
      obtain ⟨rfl, d, rfl⟩ := hp
      refine R_seq ?_
      refine R_seq ?_
      refine R_G ?_
      refine G_run 1 ?_
      refine G_end ?_
      refine R_ifp (p := v601 = true) (bool_dec _) (fun hc => ?_) (fun hc => ?_)
      · replace hm := pos_inv hc hm
        refine R_seq ?_
        refine R_G ?_
        refine G_run 2 ?_
        refine G_end ?_
        refine R_ret ?_
        obtain ⟨rfl, rfl⟩ := inj2 hm
        exact ⟨trivial, fin_pure (by kernel_rfl)⟩
      replace hm := neg_inv hc hm
      refine R_skip ?_
      refine R_seq ?_
      refine R_G ?_
      refine G_run 1 ?_
      refine G_end ?_
      refine R_seq ?_
      refine R_seq ?_
      refine R_G ?_
      refine G_run 1 ?_
      refine G_end ?_
      refine R_block ?_
      obtain ⟨out, hs, hm⟩ := bind_inv hm
      refine R_loop ?_
      rcases out with _ | v1805
      · refine RL_use (w_ref01_Product_L3 _ _ hs) (by kernel_rfl) ?_
        clear hs
        intro e s hp
        obtain ⟨rfl, d, rfl⟩ := hp
        obtain ⟨rfl, rfl⟩ := inj2 hm
        exact ⟨trivial, fin_pure (by kernel_rfl)⟩
      · refine RL_use (w_ref01_Product_L3 _ _ hs) (by kernel_rfl) ?_
        clear hs
        intro e s hp
        obtain ⟨rfl, d, rfl⟩ := hp
        refine R_seq ?_
        refine R_G ?_
        refine G_run 3 ?_
        refine G_end ?_
        refine R_ret ?_
        obtain ⟨rfl, rfl⟩ := inj2 hm
        exact ⟨trivial, fin_pure (by kernel_rfl)⟩
end Go.Proofs.Tryz
namespace Go.Proofs.Tryz
open Go Go.Pm
set_option linter.unusedVariables false
set_option maxRecDepth 2000
def m_ref02_Check_L1 (x : ((List Int) × Int)) : Option (Unit ⊕ Unit) :=
  match x with
  | (p0, v201) =>
  if v201 < (p0.length : Int) then
    idx p0 v201 >>= fun v601 =>
    if v601 < 0 then
      some (Sum.inl ())
    else
    m_ref02_Check_L1 (p0, (W (v201 + 1)))
  else
  some (Sum.inr ())
  partial_fixpoint
def P_ref02_Check_L1 : ((List Int) × Int) → (Unit ⊕ Unit) → Prop := fun x r => match x with
  | (p0, v201) => ∀ st, prune 0 ((firstRegion (codeAt [1, 0, 1, 0, 0] (bodyOf f78))).bind (env.hint 78).keepAt) st = ⟨kp 29 [(0, (.dat (.lst ((List.map intD) p0)))), (3, (intPV v201))], []⟩ →
    RL prog env (env.hint 78) true (codeAt [1, 0, 1, 0, 0] (bodyOf f78)) 0 st (fun e s => match r with | .inl _ => e = .ret ∧ ∃ d, s = ⟨sl d 29 [(2, (intPV 6))], []⟩ | .inr (_) => e = .exit 0 ∧ ∃ d, s = ⟨sl d 29 [(0, (.dat (.lst ((List.map intD) p0))))], []⟩)
theorem w_ref02_Check_L1 : ∀ x r, m_ref02_Check_L1 x = some r → P_ref02_Check_L1 x r := by
  refine m_ref02_Check_L1.partial_correctness _ (fun m_ref02_Check_L1 w_ref02_Check_L1 x r hm => ?_)
  unfold P_ref02_Check_L1
  obtain ⟨p0, v201⟩ := x
  intro st hst
  refine RL_at hst ?_
  clear hst
  refine R_seq ?_
  refine R_seq ?_
  refine R_G ?_
  refine G_run 2 ?_
  refine I_len intD p0 (es := (List.map intD) p0) rfl ?_
  refine G_run 1 ?_
  refine G_end ?_
  refine R_ifp (p := v201 < (p0.length : Int)) (rfl) (fun hc => ?_) (fun hc => ?_)
  · replace hm := pos_inv hc hm
    refine R_skip ?_
    refine R_seq ?_
    refine R_block ?_
    refine R_seq ?_
    refine R_G ?_
    refine G_run 2 ?_
    obtain ⟨v601, hx, hm⟩ := bind_inv hm
    refine I_idx 1 intD p0 v201 v601 (es := (List.map intD) p0) (d := (intD v601)) rfl hx rfl rfl ?_
    refine G_run 2 ?_
    refine G_end ?_
    refine R_ifp (p := v601 < 0) (rfl) (fun hc => ?_) (fun hc => ?_)
    · replace hm := pos_inv hc hm
      refine R_seq ?_
      refine R_G ?_
      refine G_run 1 ?_
      refine G_end ?_
      refine R_ret ?_
      obtain rfl := inj1 hm
      exact ⟨rfl, cut_leaf (by kernel_rfl)⟩
    replace hm := neg_inv hc hm
    refine R_skip ?_
    refine R_G ?_
    refine G_run 3 ?_
    refine G_end ?_
    exact w_ref02_Check_L1 _ _ hm _ (by kernel_rfl)
  replace hm := neg_inv hc hm
  refine R_exit ?_
  obtain rfl := inj1 hm
  exact ⟨rfl, cut_leaf (by kernel_rfl)⟩
def m_ref02_Check (x : (List Int)) : Option Int :=
  match x with
  | p0 =>
  (
  m_ref02_Check_L1 (p0, 0) >>= fun (out : Unit ⊕ Unit) =>
  match out with
  | .inl _ =>
    some 6
  | .inr (_) =>
    m_ref01_Product p0 >>= fun ((v602, v603) : (Int × Int)) =>
    (if (p0.length : Int) > 16 then
      some true
    else
    some (v603 != 0)
    ) >>= fun (v604 : Bool) =>
    if v604 = true then
      some 7
    else
    some 0
  )
def P_ref02_Check : (List Int) → Int → Prop := fun x r => match x, r with
  | p0, r0 => ∀ H, PC prog env 78 ([(.lst ((List.map intD) p0))].map .dat) H (intPV r0) H
theorem w_ref02_Check : ∀ x r, m_ref02_Check x = some r → P_ref02_Check x r := by
  intro p0 r0 hm
  unfold m_ref02_Check at hm
  unfold P_ref02_Check
  intro H
  refine PC_sx (ds := [(.lst ((List.map intD) p0))]) (fn := f78) (by kernel_rfl) (by kernel_rfl) rfl ?_ (by kernel_rfl)
  refine R_seq ?_
  refine R_G ?_
  refine G_run 1 ?_
  refine G_end ?_
  refine R_seq ?_
  refine R_seq ?_
  refine R_G ?_
  refine G_run 1 ?_
  refine G_end ?_
  refine R_block ?_
  obtain ⟨out, hs, hm⟩ := bind_inv hm
  refine R_loop ?_
  rcases out with _ | _
  · refine RL_use (w_ref02_Check_L1 _ _ hs) (by kernel_rfl) ?_
    clear hs
    intro e s hp
    obtain ⟨rfl, d, rfl⟩ := hp
    obtain rfl := inj1 hm
    exact ⟨trivial, fin_pure (by kernel_rfl)⟩
  · refine RL_use (w_ref02_Check_L1 _ _ hs) (by kernel_rfl) ?_
    clear hs
    intro e s hp
    obtain ⟨rfl, d, rfl⟩ := hp
    refine R_seq ?_
    refine R_G ?_
    refine G_run 1 ?_
    obtain ⟨⟨v602, v603⟩, hx, hm⟩ := bind_inv hm
    have hq := w_ref01_Product _ _ hx []
    refine G_callP hq ?_
    refine G_run 5 ?_
    refine G_end ?_
    refine R_seq ?_
    refine R_seq ?_
    obtain ⟨v604, hs, hm⟩ := bind_inv hm
    refine R_cut (fun d => ⟨sl d 29 [(28, (boolPV v604))], []⟩) ?_ (fun d => ?_)
    · replace hm := hs
      clear hs
      refine R_G ?_
      refine G_run 1 ?_
      refine I_len intD p0 (es := (List.map intD) p0) rfl ?_
      refine G_run 2 ?_
      refine G_split (p := (p0.length : Int) > 16) 25 (rfl) (fun hc => ?_) (fun hc => ?_)
      · replace hm := pos_inv hc hm
        refine G_run 3 ?_
        refine G_end ?_
        obtain rfl := inj1 hm
        exact cut_leaf (by kernel_rfl)
      replace hm := neg_inv hc hm
      refine G_run 3 ?_
      refine G_end ?_
      obtain rfl := inj1 hm
      exact cut_leaf (by kernel_rfl)
    clear hs
    refine R_ifp (p := v604 = true) (bool_dec _) (fun hc => ?_) (fun hc => ?_)
    · replace hm := pos_inv hc hm
      refine R_seq ?_
      refine R_G ?_
      refine G_run 1 ?_
      refine G_end ?_
      refine R_ret ?_
      obtain rfl := inj1 hm
      exact ⟨trivial, fin_pure (by kernel_rfl)⟩
    replace hm := neg_inv hc hm
    refine R_skip ?_
    refine R_seq ?_
    refine R_G ?_
    refine G_run 1 ?_
    refine G_end ?_
    refine R_ret ?_
    obtain rfl := inj1 hm
    exact ⟨trivial, fin_pure (by kernel_rfl)⟩
end Go.Proofs.Tryz
namespace Go.Proofs.Tryz
open Go Go.Pm
set_option linter.unusedVariables false
set_option maxRecDepth 2000
def m_ref02_Equal_L1 (x : ((List Int) × (List Int) × Int)) : Option (Unit ⊕ Unit) :=
  match x with
  | (p0, p1, v201) =>
  if v201 < (p0.length : Int) then
    idx p0 v201 >>= fun v601 =>
    idx p1 v201 >>= fun v602 =>
    if v601 ≠ v602 then
      some (Sum.inl ())
    else
    m_ref02_Equal_L1 (p0, p1, (W (v201 + 1)))
  else
  some (Sum.inr ())
  partial_fixpoint
def P_ref02_Equal_L1 : ((List Int) × (List Int) × Int) → (Unit ⊕ Unit) → Prop := fun x r => match x with
  | (p0, p1, v201) => ∀ st, prune 0 ((firstRegion (codeAt [1, 1, 0, 1, 0, 0] (bodyOf f33))).bind (env.hint 33).keepAt) st = ⟨kp 26 [(0, (.dat (.lst ((List.map intD) p0)))), (1, (.dat (.lst ((List.map intD) p1)))), (5, (intPV v201))], []⟩ →
    RL prog env (env.hint 33) true (codeAt [1, 1, 0, 1, 0, 0] (bodyOf f33)) 0 st (fun e s => match r with | .inl _ => e = .ret ∧ ∃ d, s = ⟨sl d 26 [(4, (boolPV false))], []⟩ | .inr (_) => e = .exit 0 ∧ ∃ d, s = ⟨sl d 26 [], []⟩)
theorem w_ref02_Equal_L1 : ∀ x r, m_ref02_Equal_L1 x = some r → P_ref02_Equal_L1 x r := by
  refine m_ref02_Equal_L1.partial_correctness _ (fun m_ref02_Equal_L1 w_ref02_Equal_L1 x r hm => ?_)
  unfold P_ref02_Equal_L1
  obtain ⟨p0, p1, v201⟩ := x
  intro st hst
  refine RL_at hst ?_
  clear hst
  refine R_seq ?_
  refine R_seq ?_
  refine R_G ?_
  refine G_run 2 ?_
  refine I_len intD p0 (es := (List.map intD) p0) rfl ?_
  refine G_run 1 ?_
  refine G_end ?_
  refine R_ifp (p := v201 < (p0.length : Int)) (rfl) (fun hc => ?_) (fun hc => ?_)
  · replace hm := pos_inv hc hm
    refine R_skip ?_
    refine R_seq ?_
    refine R_block ?_
    refine R_seq ?_
    refine R_GD ?_
    refine G_run 2 ?_
    obtain ⟨v601, hx, hm⟩ := bind_inv hm
    refine I_idx 1 intD p0 v201 v601 (es := (List.map intD) p0) (d := (intD v601)) rfl hx rfl rfl ?_
    refine G_run 3 ?_
    obtain ⟨v602, hx, hm⟩ := bind_inv hm
    refine I_idx 1 intD p1 v201 v602 (es := (List.map intD) p1) (d := (intD v602)) rfl hx rfl rfl ?_
    refine G_run 2 ?_
    refine G_end ⟨by kernel_rfl, ?_⟩
    refine R_ifp (p := v601 ≠ v602) (ne_dec _ _) (fun hc => ?_) (fun hc => ?_)
    · replace hm := pos_inv hc hm
      refine R_seq ?_
      refine R_G ?_
      refine G_run 1 ?_
      refine G_end ?_
      refine R_ret ?_
      obtain rfl := inj1 hm
      exact ⟨rfl, cut_leaf (by kernel_rfl)⟩
    replace hm := neg_inv hc hm
    refine R_skip ?_
    refine R_G ?_
    refine G_run 3 ?_
    refine G_end ?_
    exact w_ref02_Equal_L1 _ _ hm _ (by kernel_rfl)
  replace hm := neg_inv hc hm
  refine R_exit ?_
  obtain rfl := inj1 hm
  exact ⟨rfl, cut_leaf (by kernel_rfl)⟩
def m_ref02_Equal (x : ((List Int) × (List Int))) : Option Bool :=
  match x with
  | (p0, p1) =>
  if (p0.length : Int) ≠ (p1.length : Int) then
    some false
  else
  (
  m_ref02_Equal_L1 (p0, p1, 0) >>= fun (out : Unit ⊕ Unit) =>
  match out with
  | .inl _ =>
    some false
  | .inr (_) =>
    some true
  )
def P_ref02_Equal : ((List Int) × (List Int)) → Bool → Prop := fun x r => match x, r with
  | (p0, p1), r0 => ∀ H, PC prog env 33 ([(.lst ((List.map intD) p0)), (.lst ((List.map intD) p1))].map .dat) H (boolPV r0) H
theorem w_ref02_Equal : ∀ x r, m_ref02_Equal x = some r → P_ref02_Equal x r := by
  intro x r0 hm
  unfold m_ref02_Equal at hm
  unfold P_ref02_Equal
  obtain ⟨p0, p1⟩ := x
  intro H
  refine PC_sx (ds := [(.lst ((List.map intD) p0)), (.lst ((List.map intD) p1))]) (fn := f33) (by kernel_rfl) (by kernel_rfl) rfl ?_ (by kernel_rfl)
  refine R_seq ?_
  refine R_G ?_
  refine G_run 1 ?_
  refine G_end ?_
  refine R_seq ?_
  refine R_seq ?_
  refine R_G ?_
  refine G_run 1 ?_
  refine I_len intD p0 (es := (List.map intD) p0) rfl ?_
  refine G_run 1 ?_
  refine I_len intD p1 (es := (List.map intD) p1) rfl ?_
  refine G_run 1 ?_
  refine G_end ?_
  refine R_ifp (p := (p0.length : Int) ≠ (p1.length : Int)) (ne_dec _ _) (fun hc => ?_) (fun hc => ?_)
  · replace hm := pos_inv hc hm
    refine R_seq ?_
    refine R_G ?_
    refine G_run 1 ?_
    refine G_end ?_
    refine R_ret ?_
    obtain rfl := inj1 hm
    exact ⟨trivial, fin_pure (by kernel_rfl)⟩
  replace hm := neg_inv hc hm
  refine R_skip ?_
  refine R_seq ?_
  refine R_seq ?_
  refine R_G ?_
  refine G_run 1 ?_
  refine G_end ?_
  refine R_block ?_
  obtain ⟨out, hs, hm⟩ := bind_inv hm
  refine R_loop ?_
  rcases out with _ | _
  · refine RL_use (w_ref02_Equal_L1 _ _ hs) (by kernel_rfl) ?_
    clear hs
    intro e s hp
    obtain ⟨rfl, d, rfl⟩ := hp
    obtain rfl := inj1 hm
    exact ⟨trivial, fin_pure (by kernel_rfl)⟩
  · refine RL_use (w_ref02_Equal_L1 _ _ hs) (by kernel_rfl) ?_
    clear hs
    intro e s hp
    obtain ⟨rfl, d, rfl⟩ := hp
    refine R_seq ?_
    refine R_G ?_
    refine G_run 1 ?_
    refine G_end ?_
    refine R_ret ?_
    obtain rfl := inj1 hm
    exact ⟨trivial, fin_pure (by kernel_rfl)⟩
end Go.Proofs.Tryz
namespace Go.Proofs.Tryz
open Go Go.Pm
set_option linter.unusedVariables false
set_option maxRecDepth 2000
def m_ref14_alike (x : T_ref14_Core) : Option Bool :=
  match x with
  | p0 =>
  idx p0.kids 0 >>= fun v1 =>
  m_ref02_Equal (v1.shape, p0.shape) >>= fun (v2 : Bool) =>
  (if v2 = true then
    some (decide (p0.axis ≥ 0))
  else
  some false
  ) >>= fun (v3 : Bool) =>
  if v3 = true then
    some (decide (p0.axis < (p0.shape.length : Int)))
  else
  some false
def P_ref14_alike : T_ref14_Core → Bool → Prop := fun x r => match x, r with
  | p0, r0 => ∀ H, PC prog env 149 ([(T_ref14_Core.ex p0)].map .dat) H (boolPV r0) H
theorem w_ref14_alike : ∀ x r, m_ref14_alike x = some r → P_ref14_alike x r := by
  intro p0 r0 hm
  unfold m_ref14_alike at hm
  unfold P_ref14_alike
  intro H
  refine PC_sx (ds := [(T_ref14_Core.ex p0)]) (fn := f149) (by kernel_rfl) (by kernel_rfl) rfl ?_ (by kernel_rfl)
  refine R_seq ?_
  refine R_G ?_
  refine G_run 2 ?_
  refine G_end ?_
  refine R_seq ?_
  refine R_GW ?_
  refine G_run 2 ?_
  obtain ⟨v1, hx, hm⟩ := bind_inv hm
  refine I_idx 8 T_ref14_Core.toD p0.kids 0 v1 (es := T_ref14_Core.toDs p0.kids) (d := (T_ref14_Core.ex v1)) (T_ref14_Core.toDs_eq _) hx (T_ref14_Core.toD_eq v1) rfl ?_
  refine G_run 4 ?_
  obtain ⟨v2, hx, hm⟩ := bind_inv hm
  have hq := w_ref02_Equal _ _ hx []
  refine G_callP hq ?_
  refine G_run 1 ?_
  obtain ⟨v3, hs, hm⟩ := bind_inv hm
  refine G_cut (j := 13) (fun d => ⟨sl d 24 [(0, (.dat (.agg [(intD p0.kind), (.lst ((List.map intD) p0.shape)), (intD p0.buffer), (.lst ((List.map intD) p0.starts)), (intD p0.axis), (intD p0.amount), (.lst ((List.map intD) p0.perm)), (.lst (T_ref14_Core.toDs p0.kids))]))), (1, (.ptr 0 0)), (2, (boolPV false)), (3, (.ptr 0 7)), (4, (.dat (.lst (T_ref14_Core.toDs p0.kids)))), (5, (.iptr [(intD v1.kind), (.lst ((List.map intD) v1.shape)), (intD v1.buffer), (.lst ((List.map intD) v1.starts)), (intD v1.axis), (intD v1.amount), (.lst ((List.map intD) v1.perm)), (.lst (T_ref14_Core.toDs v1.kids))])), (6, (.iptr [(.lst ((List.map intD) v1.shape)), (intD v1.buffer), (.lst ((List.map intD) v1.starts)), (intD v1.axis), (intD v1.amount), (.lst ((List.map intD) v1.perm)), (.lst (T_ref14_Core.toDs v1.kids))])), (7, (.dat (.lst ((List.map intD) v1.shape)))), (8, (.ptr 0 1)), (9, (.dat (.lst ((List.map intD) p0.shape)))), (10, (boolPV v2)), (15, (boolPV v3))], [(.box [(intPV p0.kind), (.dat (.lst ((List.map intD) p0.shape))), (intPV p0.buffer), (.dat (.lst ((List.map intD) p0.starts))), (intPV p0.axis), (intPV p0.amount), (.dat (.lst ((List.map intD) p0.perm))), (.dat (.lst (T_ref14_Core.toDs p0.kids)))])]⟩) (fun d => ?_) (fun hJ => ?_)
  · clear hs
    refine G_run 1 ?_
    refine G_split (p := v3 = true) 16 (bool_dec _) (fun hc => ?_) (fun hc => ?_)
    · replace hm := pos_inv hc hm
      refine G_run 4 ?_
      refine I_len intD p0.shape (es := (List.map intD) p0.shape) rfl ?_
      refine G_run 3 ?_
      refine G_end ⟨by kernel_rfl, ?_⟩
      refine R_ret ?_
      obtain rfl := inj1 hm
      exact ⟨trivial, fin_pure (by kernel_rfl)⟩
    replace hm := neg_inv hc hm
    refine G_run 8 ?_
    refine G_end ⟨by kernel_rfl, ?_⟩
    refine R_ret ?_
    obtain rfl := inj1 hm
    exact ⟨trivial, fin_pure (by kernel_rfl)⟩
  replace hm := hs
  clear hs
  refine G_split (p := v2 = true) 11 (bool_dec _) (fun hc => ?_) (fun hc => ?_)
  · replace hm := pos_inv hc hm
    refine G_run 4 ?_
    obtain rfl := inj1 hm
    exact hJ _ _ (by kernel_rfl) (by kernel_rfl)
  replace hm := neg_inv hc hm
  refine G_run 4 ?_
  obtain rfl := inj1 hm
  exact hJ _ _ (by kernel_rfl) (by kernel_rfl)
end Go.Proofs.Tryz
namespace Go.Proofs.Tryz
open Go Go.Pm
set_option linter.unusedVariables false
set_option maxRecDepth 2000
def m_ref14_transposed_L1 (x : (T_ref14_Core × T_ref14_Core × Int)) : Option (Unit ⊕ Unit) :=
  match x with
  | (v1, p0, v202) =>
  if v202 < (v1.shape.length : Int) then
    (idx p0.perm v202 >>= fun v603 =>
    if v603 < 0 then
      some true
    else
    idx p0.perm v202 >>= fun v604 =>
    some (decide (v604 ≥ (p0.shape.length : Int)))
    ) >>= fun (v602 : Bool) =>
    if v602 = true then
      some (Sum.inl ())
    else
    m_ref14_transposed_L1 (v1, p0, (W (v202 + 1)))
  else
  some (Sum.inr ())
  partial_fixpoint
def P_ref14_transposed_L1 : (T_ref14_Core × T_ref14_Core × Int) → (Unit ⊕ Unit) → Prop := fun x r => match x with
  | (v1, p0, v202) => ∀ st, prune 1 ((firstRegion (codeAt [1, 1, 1, 0, 1, 0, 0] (bodyOf f150))).bind (env.hint 150).keepAt) st = ⟨kp 85 [(1, (.ptr 0 0)), (3, (.dat (.lst ((List.map intD) v1.shape)))), (4, (intPV v202))], [(.box [(intPV p0.kind), (.dat (.lst ((List.map intD) p0.shape))), (intPV p0.buffer), (.dat (.lst ((List.map intD) p0.starts))), (intPV p0.axis), (intPV p0.amount), (.dat (.lst ((List.map intD) p0.perm))), (.dat (.lst (T_ref14_Core.toDs p0.kids)))])]⟩ →
    RL prog env (env.hint 150) true (codeAt [1, 1, 1, 0, 1, 0, 0] (bodyOf f150)) 1 st (fun e s => match r with | .inl _ => e = .ret ∧ ∃ d, s = ⟨sl d 85 [(2, (boolPV false))], [(.box [(intPV p0.kind), (.dat (.lst ((List.map intD) p0.shape))), (intPV p0.buffer), (.dat (.lst ((List.map intD) p0.starts))), (intPV p0.axis), (intPV p0.amount), (.dat (.lst ((List.map intD) p0.perm))), (.dat (.lst (T_ref14_Core.toDs p0.kids)))])]⟩ | .inr (_) => e = .exit 0 ∧ ∃ d, s = ⟨sl d 85 [(1, (.ptr 0 0)), (3, (.dat (.lst ((List.map intD) v1.shape))))], [(.box [(intPV p0.kind), (.dat (.lst ((List.map intD) p0.shape))), (intPV p0.buffer), (.dat (.lst ((List.map intD) p0.starts))), (intPV p0.axis), (intPV p0.amount), (.dat (.lst ((List.map intD) p0.perm))), (.dat (.lst (T_ref14_Core.toDs p0.kids)))])]⟩)
theorem w_ref14_transposed_L1 : ∀ x r, m_ref14_transposed_L1 x = some r → P_ref14_transposed_L1 x r := by
  refine m_ref14_transposed_L1.partial_correctness _ (fun m_ref14_transposed_L1 w_ref14_transposed_L1 x r hm => ?_)
  unfold P_ref14_transposed_L1
  obtain ⟨v1, p0, v202⟩ := x
  intro st hst
  refine RL_at hst ?_
  clear hst
  refine R_seq ?_
  refine R_seq ?_
  refine R_G ?_
  refine G_run 2 ?_
  refine I_len intD v1.shape (es := (List.map intD) v1.shape) rfl ?_
  refine G_run 1 ?_
  refine G_end ?_
  refine R_ifp (p := v202 < (v1.shape.length : Int)) (rfl) (fun hc => ?_) (fun hc => ?_)
  · replace hm := pos_inv hc hm
    refine R_skip ?_
    refine R_seq ?_
    refine R_block ?_
    refine R_seq ?_
    obtain ⟨v602, hs, hm⟩ := bind_inv hm
    refine R_cut (fun d => ⟨sl d 85 [(1, (.ptr 0 0)), (3, (.dat (.lst ((List.map intD) v1.shape)))), (4, (intPV v202)), (41, (boolPV v602))], [(.box [(intPV p0.kind), (.dat (.lst ((List.map intD) p0.shape))), (intPV p0.buffer), (.dat (.lst ((List.map intD) p0.starts))), (intPV p0.axis), (intPV p0.amount), (.dat (.lst ((List.map intD) p0.perm))), (.dat (.lst (T_ref14_Core.toDs p0.kids)))])]⟩) ?_ (fun d => ?_)
    · replace hm := hs
      clear hs
      refine R_GD ?_
      refine G_run 3 ?_
      obtain ⟨v603, hx, hm⟩ := bind_inv hm
      refine I_idx 1 intD p0.perm v202 v603 (es := (List.map intD) p0.perm) (d := (intD v603)) rfl hx rfl rfl ?_
      refine G_run 3 ?_
      refine G_split (p := v603 < 0) 31 (rfl) (fun hc => ?_) (fun hc => ?_)
      · replace hm := pos_inv hc hm
        refine G_run 10 ?_
        refine G_end ⟨by kernel_rfl, ?_⟩
        obtain rfl := inj1 hm
        exact cut_leaf (by kernel_rfl)
      replace hm := neg_inv hc hm
      refine G_run 3 ?_
      obtain ⟨v604, hx, hm⟩ := bind_inv hm
      refine I_idx 1 intD p0.perm v202 v604 (es := (List.map intD) p0.perm) (d := (intD v604)) rfl hx rfl rfl ?_
      refine G_run 3 ?_
      refine I_len intD p0.shape (es := (List.map intD) p0.shape) rfl ?_
      refine G_run 2 ?_
      refine G_end ⟨by kernel_rfl, ?_⟩
      obtain rfl := inj1 hm
      exact cut_leaf (by kernel_rfl)
    clear hs
    refine R_ifp (p := v602 = true) (bool_dec _) (fun hc => ?_) (fun hc => ?_)
    · replace hm := pos_inv hc hm
      refine R_seq ?_
      refine R_G ?_
      refine G_run 1 ?_
      refine G_end ?_
      refine R_ret ?_
      obtain rfl := inj1 hm
      exact ⟨rfl, cut_leaf (by kernel_rfl)⟩
    replace hm := neg_inv hc hm
    refine R_skip ?_
    refine R_G ?_
    refine G_run 3 ?_
    refine G_end ?_
    exact w_ref14_transposed_L1 _ _ hm _ (by kernel_rfl)
  replace hm := neg_inv hc hm
  refine R_exit ?_
  obtain rfl := inj1 hm
  exact ⟨rfl, cut_leaf (by kernel_rfl)⟩
def m_ref14_transposed_L3 (x : (T_ref14_Core × T_ref14_Core × Int × Int × Int)) : Option (Int) :=
  match x with
  | (v1, p0, v805, v1405, v1406) =>
  if v1406 < (v1.shape.length : Int) then
    (idx p0.perm v1406 >>= fun v1807 =>
    if v1807 = v805 then
      if v1405 < 0 then
        some true
      else
      idx v1.shape v1406 >>= fun v1808 =>
      some (decide (v1808 < v1405))
    else
    some false
    ) >>= fun (v1806 : Bool) =>
    if v1806 = true then
      idx v1.shape v1406 >>= fun v1809 =>
      m_ref14_transposed_L3 (v1, p0, v805, v1809, (W (v1406 + 1)))
    else
    m_ref14_transposed_L3 (v1, p0, v805, v1405, (W (v1406 + 1)))
  else
  some v1405
  partial_fixpoint
def P_ref14_transposed_L3 : (T_ref14_Core × T_ref14_Core × Int × Int × Int) → Int → Prop := fun x r => match x with
  | (v1, p0, v805, v1405, v1406) => ∀ st, prune 1 ((firstRegion (codeAt [1, 1, 1, 1, 0, 1, 0, 0, 1, 0, 0, 1, 0, 1, 0, 0] (bodyOf f150))).bind (env.hint 150).keepAt) st = ⟨kp 85 [(1, (.ptr 0 0)), (3, (.dat (.lst ((List.map intD) v1.shape)))), (5, (intPV v805)), (6, (intPV v1405)), (7, (intPV v1406))], [(.box [(intPV p0.kind), (.dat (.lst ((List.map intD) p0.shape))), (intPV p0.buffer), (.dat (.lst ((List.map intD) p0.starts))), (intPV p0.axis), (intPV p0.amount), (.dat (.lst ((List.map intD) p0.perm))), (.dat (.lst (T_ref14_Core.toDs p0.kids)))])]⟩ →
    RL prog env (env.hint 150) true (codeAt [1, 1, 1, 1, 0, 1, 0, 0, 1, 0, 0, 1, 0, 1, 0, 0] (bodyOf f150)) 1 st (fun e s => match r with | v1805 => e = .exit 4 ∧ ∃ d, s = ⟨sl d 85 [(1, (.ptr 0 0)), (3, (.dat (.lst ((List.map intD) v1.shape)))), (5, (intPV v805)), (6, (intPV v1805))], [(.box [(intPV p0.kind), (.dat (.lst ((List.map intD) p0.shape))), (intPV p0.buffer), (.dat (.lst ((List.map intD) p0.starts))), (intPV p0.axis), (intPV p0.amount), (.dat (.lst ((List.map intD) p0.perm))), (.dat (.lst (T_ref14_Core.toDs p0.kids)))])]⟩)
theorem w_ref14_transposed_L3 : ∀ x r, m_ref14_transposed_L3 x = some r → P_ref14_transposed_L3 x r := by
  refine m_ref14_transposed_L3.partial_correctness _ (fun m_ref14_transposed_L3 w_ref14_transposed_L3 x r hm => ?_)
  unfold P_ref14_transposed_L3
  obtain ⟨v1, p0, v805, v1405, v1406⟩ := x
  intro st hst
  refine RL_at hst ?_
  clear hst
  refine R_seq ?_
  refine R_seq ?_
  refine R_G ?_
  refine G_run 2 ?_
  refine I_len intD v1.shape (es := (List.map intD) v1.shape) rfl ?_
  refine G_run 1 ?_
  refine G_end ?_
  refine R_ifp (p := v1406 < (v1.shape.length : Int)) (rfl) (fun hc => ?_) (fun hc => ?_)
  · replace hm := pos_inv hc hm
    refine R_skip ?_
    refine R_seq ?_
    refine R_block ?_
    refine R_seq ?_
    obtain ⟨v1806, hs, hm⟩ := bind_inv hm
    refine R_cut (fun d => ⟨sl d 85 [(1, (.ptr 0 0)), (3, (.dat (.lst ((List.map intD) v1.shape)))), (5, (intPV v805)), (6, (intPV v1405)), (7, (intPV v1406)), (73, (boolPV v1806))], [(.box [(intPV p0.kind), (.dat (.lst ((List.map intD) p0.shape))), (intPV p0.buffer), (.dat (.lst ((List.map intD) p0.starts))), (intPV p0.axis), (intPV p0.amount), (.dat (.lst ((List.map intD) p0.perm))), (.dat (.lst (T_ref14_Core.toDs p0.kids)))])]⟩) ?_ (fun d => ?_)
    · replace hm := hs
      clear hs
      refine R_G ?_
      refine G_run 3 ?_
      obtain ⟨v1807, hx, hm⟩ := bind_inv hm
      refine I_idx 1 intD p0.perm v1406 v1807 (es := (List.map intD) p0.perm) (d := (intD v1807)) rfl hx rfl rfl ?_
      refine G_run 4 ?_
      refine G_split (p := v1807 = v805) 62 (eq_dec _ _) (fun hc => ?_) (fun hc => ?_)
      · replace hm := pos_inv hc hm
        refine G_run 3 ?_
        refine G_split (p := v1405 < 0) 65 (rfl) (fun hc => ?_) (fun hc => ?_)
        · replace hm := pos_inv hc hm
          refine G_run 8 ?_
          refine G_end ?_
          obtain rfl := inj1 hm
          exact cut_leaf (by kernel_rfl)
        replace hm := neg_inv hc hm
        refine G_run 2 ?_
        obtain ⟨v1808, hx, hm⟩ := bind_inv hm
        refine I_idx 1 intD v1.shape v1406 v1808 (es := (List.map intD) v1.shape) (d := (intD v1808)) rfl hx rfl rfl ?_
        refine G_run 5 ?_
        refine G_end ?_
        obtain rfl := inj1 hm
        exact cut_leaf (by kernel_rfl)
      replace hm := neg_inv hc hm
      refine G_run 11 ?_
      refine G_end ?_
      obtain rfl := inj1 hm
      exact cut_leaf (by kernel_rfl)
    clear hs
    refine R_ifp (p := v1806 = true) (bool_dec _) (fun hc => ?_) (fun hc => ?_)
    · replace hm := pos_inv hc hm
      refine R_G ?_
      refine G_run 2 ?_
      obtain ⟨v1809, hx, hm⟩ := bind_inv hm
      refine I_idx 1 intD v1.shape v1406 v1809 (es := (List.map intD) v1.shape) (d := (intD v1809)) rfl hx rfl rfl ?_
      refine G_run 2 ?_
      refine G_end ?_
      refine R_G ?_
      refine G_run 3 ?_
      refine G_end ?_
      exact w_ref14_transposed_L3 _ _ hm _ (by kernel_rfl)
    replace hm := neg_inv hc hm
    refine R_skip ?_
    refine R_G ?_
    refine G_run 3 ?_
    refine G_end ?_
    exact w_ref14_transposed_L3 _ _ hm _ (by kernel_rfl)
  replace hm := neg_inv hc hm
  refine R_exit ?_
  obtain rfl := inj1 hm
  exact ⟨rfl, cut_leaf (by kernel_rfl)⟩
def m_ref14_transposed_L2 (x : (T_ref14_Core × T_ref14_Core × Int)) : Option (Unit ⊕ Unit) :=
  match x with
  | (p0, v1, v805) =>
  if v805 < (p0.shape.length : Int) then
    m_ref14_transposed_L3 (v1, p0, v805, (-1), 0) >>= fun (v1805 : Int) =>
    idx p0.shape v805 >>= fun v1810 =>
    if v1805 ≠ v1810 then
      some (Sum.inl ())
    else
    m_ref14_transposed_L2 (p0, v1, (W (v805 + 1)))
  else
  some (Sum.inr ())
  partial_fixpoint
def P_ref14_transposed_L2 : (T_ref14_Core × T_ref14_Core × Int) → (Unit ⊕ Unit) → Prop := fun x r => match x with
  | (p0, v1, v805) => ∀ st, prune 1 ((firstRegion (codeAt [1, 1, 1, 1, 0, 1, 0, 0] (bodyOf f150))).bind (env.hint 150).keepAt) st = ⟨kp 85 [(1, (.ptr 0 0)), (3, (.dat (.lst ((List.map intD) v1.shape)))), (5, (intPV v805))], [(.box [(intPV p0.kind), (.dat (.lst ((List.map intD) p0.shape))), (intPV p0.buffer), (.dat (.lst ((List.map intD) p0.starts))), (intPV p0.axis), (intPV p0.amount), (.dat (.lst ((List.map intD) p0.perm))), (.dat (.lst (T_ref14_Core.toDs p0.kids)))])]⟩ →
    RL prog env (env.hint 150) true (codeAt [1, 1, 1, 1, 0, 1, 0, 0] (bodyOf f150)) 1 st (fun e s => match r with | .inl _ => e = .ret ∧ ∃ d, s = ⟨sl d 85 [(2, (boolPV false))], [(.box [(intPV p0.kind), (.dat (.lst ((List.map intD) p0.shape))), (intPV p0.buffer), (.dat (.lst ((List.map intD) p0.starts))), (intPV p0.axis), (intPV p0.amount), (.dat (.lst ((List.map intD) p0.perm))), (.dat (.lst (T_ref14_Core.toDs p0.kids)))])]⟩ | .inr (_) => e = .exit 2 ∧ ∃ d, s = ⟨sl d 85 [], [(.box [(intPV p0.kind), (.dat (.lst ((List.map intD) p0.shape))), (intPV p0.buffer), (.dat (.lst ((List.map intD) p0.starts))), (intPV p0.axis), (intPV p0.amount), (.dat (.lst ((List.map intD) p0.perm))), (.dat (.lst (T_ref14_Core.toDs p0.kids)))])]⟩)
theorem w_ref14_transposed_L2 : ∀ x r, m_ref14_transposed_L2 x = some r → P_ref14_transposed_L2 x r := by
  refine m_ref14_transposed_L2.partial_correctness _ (fun m_ref14_transposed_L2 w_ref14_transposed_L2 x r hm => ?_)
  unfold P_ref14_transposed_L2
  obtain ⟨p0, v1, v805⟩ := x
  intro st hst
  refine RL_at hst ?_
  clear hst
  refine R_seq ?_
  refine R_seq ?_
  refine R_G ?_
  refine G_run 3 ?_
  refine I_len intD p0.shape (es := (List.map intD) p0.shape) rfl ?_
  refine G_run 1 ?_
  refine G_end ?_
  refine R_ifp (p := v805 < (p0.shape.length : Int)) (rfl) (fun hc => ?_) (fun hc => ?_)
  · replace hm := pos_inv hc hm
    refine R_skip ?_
    refine R_seq ?_
    refine R_block ?_
    refine R_seq ?_
    refine R_G ?_
    refine G_run 1 ?_
    refine G_end ?_
    refine R_seq ?_
    refine R_seq ?_
    refine R_G ?_
    refine G_run 1 ?_
    refine G_end ?_
    refine R_block ?_
    obtain ⟨v1805, hs, hm⟩ := bind_inv hm
    refine R_loop ?_
    refine RL_use (w_ref14_transposed_L3 _ _ hs) (by kernel_rfl) ?_
    clear hs
    intro e s hp
    obtain ⟨rfl, d, rfl⟩ := hp
    refine R_seq ?_
    refine R_G ?_
    refine G_run 4 ?_
    obtain ⟨v1810, hx, hm⟩ := bind_inv hm
    refine I_idx 1 intD p0.shape v805 v1810 (es := (List.map intD) p0.shape) (d := (intD v1810)) rfl hx rfl rfl ?_
    refine G_run 2 ?_
    refine G_end ?_
    refine R_ifp (p := v1805 ≠ v1810) (ne_dec _ _) (fun hc => ?_) (fun hc => ?_)
    · replace hm := pos_inv hc hm
      refine R_seq ?_
      refine R_G ?_
      refine G_run 1 ?_
      refine G_end ?_
      refine R_ret ?_
      obtain rfl := inj1 hm
      exact ⟨rfl, cut_leaf (by kernel_rfl)⟩
    replace hm := neg_inv hc hm
    refine R_skip ?_
    refine R_G ?_
    refine G_run 3 ?_
    refine G_end ?_
    exact w_ref14_transposed_L2 _ _ hm _ (by kernel_rfl)
  replace hm := neg_inv hc hm
  refine R_exit ?_
  obtain rfl := inj1 hm
  exact ⟨rfl, cut_leaf (by kernel_rfl)⟩
def m_ref14_transposed (x : T_ref14_Core) : Option Bool :=
  match x with
  | p0 =>
  idx p0.kids 0 >>= fun v1 =>
  if (p0.perm.length : Int) ≠ (v1.shape.length : Int) then
    some false
  else
  (
  m_ref14_transposed_L1 (v1, p0, 0) >>= fun (out : Unit ⊕ Unit) =>
  match out with
  | .inl _ =>
    some false
  | .inr (_) =>
    (
    m_ref14_transposed_L2 (p0, v1, 0) >>= fun (out : Unit ⊕ Unit) =>
    match out with
    | .inl _ =>
      some false
    | .inr (_) =>
      some true
    )
  )
def P_ref14_transposed : T_ref14_Core → Bool → Prop := fun x r => match x, r with
  | p0, r0 => ∀ H, PC prog env 150 ([(T_ref14_Core.ex p0)].map .dat) H (boolPV r0) H
theorem w_ref14_transposed : ∀ x r, m_ref14_transposed x = some r → P_ref14_transposed x r := by
  intro p0 r0 hm
  unfold m_ref14_transposed at hm
  unfold P_ref14_transposed
  intro H
  refine PC_sx (ds := [(T_ref14_Core.ex p0)]) (fn := f150) (by kernel_rfl) (by kernel_rfl) rfl ?_ (by kernel_rfl)
  refine R_seq ?_
  refine R_G ?_
  refine G_run 2 ?_
  refine G_end ?_
  refine R_seq ?_
  refine R_G ?_
  refine G_run 2 ?_
  obtain ⟨v1, hx, hm⟩ := bind_inv hm
  refine I_idx 8 T_ref14_Core.toD p0.kids 0 v1 (es := T_ref14_Core.toDs p0.kids) (d := (T_ref14_Core.ex v1)) (T_ref14_Core.toDs_eq _) hx (T_ref14_Core.toD_eq v1) rfl ?_
  refine G_run 3 ?_
  refine G_end ?_
  refine R_seq ?_
  refine R_seq ?_
  refine R_G ?_
  refine G_run 2 ?_
  refine I_len intD p0.perm (es := (List.map intD) p0.perm) rfl ?_
  refine G_run 1 ?_
  refine I_len intD v1.shape (es := (List.map intD) v1.shape) rfl ?_
  refine G_run 1 ?_
  refine G_end ?_
  refine R_ifp (p := (p0.perm.length : Int) ≠ (v1.shape.length : Int)) (ne_dec _ _) (fun hc => ?_) (fun hc => ?_)
  · replace hm := pos_inv hc hm
    refine R_seq ?_
    refine R_G ?_
    refine G_run 1 ?_
    refine G_end ?_
    refine R_ret ?_
    obtain rfl := inj1 hm
    exact ⟨trivial, fin_pure (by kernel_rfl)⟩
  replace hm := neg_inv hc hm
  refine R_skip ?_
  refine R_seq ?_
  refine R_seq ?_
  refine R_G ?_
  refine G_run 1 ?_
  refine G_end ?_
  refine R_block ?_
  obtain ⟨out, hs, hm⟩ := bind_inv hm
  refine R_loop ?_
  rcases out with _ | _
  · refine RL_use (w_ref14_transposed_L1 _ _ hs) (by kernel_rfl) ?_
    clear hs
    intro e s hp
    obtain ⟨rfl, d, rfl⟩ := hp
    obtain rfl := inj1 hm
    exact ⟨trivial, fin_pure (by kernel_rfl)⟩
  · refine RL_use (w_ref14_transposed_L1 _ _ hs) (by kernel_rfl) ?_
    clear hs
    intro e s hp
    obtain ⟨rfl, d, rfl⟩ := hp
    refine R_seq ?_
    refine R_seq ?_
    refine R_G ?_
    refine G_run 1 ?_
    refine G_end ?_
    refine R_block ?_
    obtain ⟨out, hs, hm⟩ := bind_inv hm
    refine R_loop ?_
    rcases out with _ | _
    · refine RL_use (w_ref14_transposed_L2 _ _ hs) (by kernel_rfl) ?_
      clear hs
      intro e s hp
      obtain ⟨rfl, d, rfl⟩ := hp
      obtain rfl := inj1 hm
      exact ⟨trivial, fin_pure (by kernel_rfl)⟩
    · refine RL_use (w_ref14_transposed_L2 _ _ hs) (by kernel_rfl) ?_
      clear hs
      intro e s hp
      obtain ⟨rfl, d, rfl⟩ := hp
      refine R_seq ?_
      refine R_G ?_
      refine G_run 1 ?_
      refine G_end ?_
      refine R_ret ?_
      obtain rfl := inj1 hm
      exact ⟨trivial, fin_pure (by kernel_rfl)⟩
end Go.Proofs.Tryz
namespace Go.Proofs.Tryz
open Go Go.Pm
set_option linter.unusedVariables false
set_option maxRecDepth 2000
def m_ref14_joined_L1 (x : (T_ref14_Core × T_ref14_Core × T_ref14_Core × Int)) : Option (Unit ⊕ Unit) :=
  match x with
  | (v1, p0, v2, v206) =>
  if v206 < (v1.shape.length : Int) then
    ((if v206 = p0.axis then
      idx p0.shape v206 >>= fun v608 =>
      idx v1.shape v206 >>= fun v609 =>
      idx v2.shape v206 >>= fun v610 =>
      some (v608 != (W (v609 + v610)))
    else
    some false
    ) >>= fun (v607 : Bool) =>
    if v607 = true then
      some true
    else
    if v206 ≠ p0.axis then
      idx v1.shape v206 >>= fun v611 =>
      idx v2.shape v206 >>= fun v612 =>
      (if v611 ≠ v612 then
        some true
      else
      idx v1.shape v206 >>= fun v614 =>
      idx p0.shape v206 >>= fun v615 =>
      some (v614 != v615)
      ) >>= fun (v613 : Bool) =>
      some v613
    else
    some false
    ) >>= fun (v606 : Bool) =>
    if v606 = true then
      some (Sum.inl ())
    else
    m_ref14_joined_L1 (v1, p0, v2, (W (v206 + 1)))
  else
  some (Sum.inr ())
  partial_fixpoint
def P_ref14_joined_L1 : (T_ref14_Core × T_ref14_Core × T_ref14_Core × Int) → (Unit ⊕ Unit) → Prop := fun x r => match x with
  | (v1, p0, v2, v206) => ∀ st, prune 1 ((firstRegion (codeAt [1, 1, 1, 1, 0, 1, 0, 0] (bodyOf f151))).bind (env.hint 151).keepAt) st = ⟨kp 97 [(1, (.ptr 0 0)), (3, (.dat (.lst ((List.map intD) v1.shape)))), (4, (.dat (.lst ((List.map intD) v2.shape)))), (5, (intPV v206))], [(.box [(intPV p0.kind), (.dat (.lst ((List.map intD) p0.shape))), (intPV p0.buffer), (.dat (.lst ((List.map intD) p0.starts))), (intPV p0.axis), (intPV p0.amount), (.dat (.lst ((List.map intD) p0.perm))), (.dat (.lst (T_ref14_Core.toDs p0.kids)))])]⟩ →
    RL prog env (env.hint 151) true (codeAt [1, 1, 1, 1, 0, 1, 0, 0] (bodyOf f151)) 1 st (fun e s => match r with | .inl _ => e = .ret ∧ ∃ d, s = ⟨sl d 97 [(2, (boolPV false))], [(.box [(intPV p0.kind), (.dat (.lst ((List.map intD) p0.shape))), (intPV p0.buffer), (.dat (.lst ((List.map intD) p0.starts))), (intPV p0.axis), (intPV p0.amount), (.dat (.lst ((List.map intD) p0.perm))), (.dat (.lst (T_ref14_Core.toDs p0.kids)))])]⟩ | .inr (_) => e = .exit 0 ∧ ∃ d, s = ⟨sl d 97 [], [(.box [(intPV p0.kind), (.dat (.lst ((List.map intD) p0.shape))), (intPV p0.buffer), (.dat (.lst ((List.map intD) p0.starts))), (intPV p0.axis), (intPV p0.amount), (.dat (.lst ((List.map intD) p0.perm))), (.dat (.lst (T_ref14_Core.toDs p0.kids)))])]⟩)
theorem w_ref14_joined_L1 : ∀ x r, m_ref14_joined_L1 x = some r → P_ref14_joined_L1 x r := by
  refine m_ref14_joined_L1.partial_correctness _ (fun m_ref14_joined_L1 w_ref14_joined_L1 x r hm => ?_)
  unfold P_ref14_joined_L1
  obtain ⟨v1, p0, v2, v206⟩ := x
  intro st hst
  refine RL_at hst ?_
  clear hst
  refine R_seq ?_
  refine R_seq ?_
  refine R_G ?_
  refine G_run 2 ?_
  refine I_len intD v1.shape (es := (List.map intD) v1.shape) rfl ?_
  refine G_run 1 ?_
  refine G_end ?_
  refine R_ifp (p := v206 < (v1.shape.length : Int)) (rfl) (fun hc => ?_) (fun hc => ?_)
  · replace hm := pos_inv hc hm
    refine R_skip ?_
    refine R_seq ?_
    refine R_block ?_
    refine R_seq ?_
    obtain ⟨v606, hs, hm⟩ := bind_inv hm
    refine R_cut (fun d => ⟨sl d 97 [(1, (.ptr 0 0)), (3, (.dat (.lst ((List.map intD) v1.shape)))), (4, (.dat (.lst ((List.map intD) v2.shape)))), (5, (intPV v206)), (96, (boolPV v606))], [(.box [(intPV p0.kind), (.dat (.lst ((List.map intD) p0.shape))), (intPV p0.buffer), (.dat (.lst ((List.map intD) p0.starts))), (intPV p0.axis), (intPV p0.amount), (.dat (.lst ((List.map intD) p0.perm))), (.dat (.lst (T_ref14_Core.toDs p0.kids)))])]⟩) ?_ (fun d => ?_)
    · replace hm := hs
      clear hs
      refine R_GW ?_
      refine G_run 5 ?_
      obtain ⟨v607, hs, hm⟩ := bind_inv hm
      refine G_cut (j := 21) (fun d => ⟨sl d 97 [(1, (.ptr 0 0)), (3, (.dat (.lst ((List.map intD) v1.shape)))), (4, (.dat (.lst ((List.map intD) v2.shape)))), (5, (intPV v206)), (41, (intPV v206)), (42, (.dat (.lst ((List.map intD) v1.shape)))), (43, (intPV (v1.shape.length : Int))), (44, (boolPV (decide (v206 < (v1.shape.length : Int))))), (47, (intPV v206)), (48, (.ptr 0 4)), (49, (intPV p0.axis)), (50, (boolPV (v206 == p0.axis))), (67, (boolPV v607))], [(.box [(intPV p0.kind), (.dat (.lst ((List.map intD) p0.shape))), (intPV p0.buffer), (.dat (.lst ((List.map intD) p0.starts))), (intPV p0.axis), (intPV p0.amount), (.dat (.lst ((List.map intD) p0.perm))), (.dat (.lst (T_ref14_Core.toDs p0.kids)))])]⟩) (fun d => ?_) (fun hJ => ?_)
      · clear hs
        refine G_run 1 ?_
        refine G_split (p := v607 = true) 68 (bool_dec _) (fun hc => ?_) (fun hc => ?_)
        · replace hm := pos_inv hc hm
          refine G_run 28 ?_
          refine G_end ⟨by kernel_rfl, ?_⟩
          obtain rfl := inj1 hm
          exact cut_leaf (by kernel_rfl)
        replace hm := neg_inv hc hm
        refine G_run 5 ?_
        refine G_split (p := v206 ≠ p0.axis) 73 (ne_dec _ _) (fun hc => ?_) (fun hc => ?_)
        · replace hm := pos_inv hc hm
          refine G_run 2 ?_
          obtain ⟨v611, hx, hm⟩ := bind_inv hm
          refine I_idx 1 intD v1.shape v206 v611 (es := (List.map intD) v1.shape) (d := (intD v611)) rfl hx rfl rfl ?_
          refine G_run 3 ?_
          obtain ⟨v612, hx, hm⟩ := bind_inv hm
          refine I_idx 1 intD v2.shape v206 v612 (es := (List.map intD) v2.shape) (d := (intD v612)) rfl hx rfl rfl ?_
          refine G_run 3 ?_
          obtain ⟨v613, hs, hm⟩ := bind_inv hm
          refine G_cut (j := 48) (fun d => ⟨sl d 97 [(1, (.ptr 0 0)), (3, (.dat (.lst ((List.map intD) v1.shape)))), (4, (.dat (.lst ((List.map intD) v2.shape)))), (5, (intPV v206)), (41, (intPV v206)), (42, (.dat (.lst ((List.map intD) v1.shape)))), (43, (intPV (v1.shape.length : Int))), (44, (boolPV (decide (v206 < (v1.shape.length : Int))))), (47, (intPV v206)), (48, (.ptr 0 4)), (49, (intPV p0.axis)), (50, (boolPV (v206 == p0.axis))), (67, (boolPV v607)), (68, (boolPV false)), (69, (intPV v206)), (70, (.ptr 0 4)), (71, (intPV p0.axis)), (72, (boolPV (v206 != p0.axis))), (73, (boolPV true)), (74, (.dat (.lst ((List.map intD) v1.shape)))), (75, (intPV v206)), (76, (.iptr [(intD v611)])), (77, (intPV v611)), (78, (.dat (.lst ((List.map intD) v2.shape)))), (79, (intPV v206)), (80, (.iptr [(intD v612)])), (81, (intPV v612)), (82, (boolPV (v611 != v612))), (94, (boolPV v613))], [(.box [(intPV p0.kind), (.dat (.lst ((List.map intD) p0.shape))), (intPV p0.buffer), (.dat (.lst ((List.map intD) p0.starts))), (intPV p0.axis), (intPV p0.amount), (.dat (.lst ((List.map intD) p0.perm))), (.dat (.lst (T_ref14_Core.toDs p0.kids)))])]⟩) (fun d => ?_) (fun hJ => ?_)
          · clear hs
            refine G_run 2 ?_
            refine G_end ⟨by kernel_rfl, ?_⟩
            obtain rfl := inj1 hm
            exact cut_leaf (by kernel_rfl)
          replace hm := hs
          clear hs
          refine G_split (p := v611 ≠ v612) 83 (ne_dec _ _) (fun hc => ?_) (fun hc => ?_)
          · replace hm := pos_inv hc hm
            refine G_run 11 ?_
            obtain rfl := inj1 hm
            exact hJ _ _ (by kernel_rfl) (by kernel_rfl)
          replace hm := neg_inv hc hm
          refine G_run 2 ?_
          obtain ⟨v614, hx, hm⟩ := bind_inv hm
          refine I_idx 1 intD v1.shape v206 v614 (es := (List.map intD) v1.shape) (d := (intD v614)) rfl hx rfl rfl ?_
          refine G_run 4 ?_
          obtain ⟨v615, hx, hm⟩ := bind_inv hm
          refine I_idx 1 intD p0.shape v206 v615 (es := (List.map intD) p0.shape) (d := (intD v615)) rfl hx rfl rfl ?_
          refine G_run 3 ?_
          obtain rfl := inj1 hm
          exact hJ _ _ (by kernel_rfl) (by kernel_rfl)
        replace hm := neg_inv hc hm
        refine G_run 23 ?_
        refine G_end ⟨by kernel_rfl, ?_⟩
        obtain rfl := inj1 hm
        exact cut_leaf (by kernel_rfl)
      replace hm := hs
      clear hs
      refine G_split (p := v206 = p0.axis) 51 (eq_dec _ _) (fun hc => ?_) (fun hc => ?_)
      · replace hm := pos_inv hc hm
        refine G_run 3 ?_
        obtain ⟨v608, hx, hm⟩ := bind_inv hm
        refine I_idx 1 intD p0.shape v206 v608 (es := (List.map intD) p0.shape) (d := (intD v608)) rfl hx rfl rfl ?_
        refine G_run 3 ?_
        obtain ⟨v609, hx, hm⟩ := bind_inv hm
        refine I_idx 1 intD v1.shape v206 v609 (es := (List.map intD) v1.shape) (d := (intD v609)) rfl hx rfl rfl ?_
        refine G_run 3 ?_
        obtain ⟨v610, hx, hm⟩ := bind_inv hm
        refine I_idx 1 intD v2.shape v206 v610 (es := (List.map intD) v2.shape) (d := (intD v610)) rfl hx rfl rfl ?_
        refine G_run 4 ?_
        obtain rfl := inj1 hm
        exact hJ _ _ (by kernel_rfl) (by kernel_rfl)
      replace hm := neg_inv hc hm
      refine G_run 16 ?_
      obtain rfl := inj1 hm
      exact hJ _ _ (by kernel_rfl) (by kernel_rfl)
    clear hs
    refine R_ifp (p := v606 = true) (bool_dec _) (fun hc => ?_) (fun hc => ?_)
    · replace hm := pos_inv hc hm
      refine R_seq ?_
      refine R_G ?_
      refine G_run 1 ?_
      refine G_end ?_
      refine R_ret ?_
      obtain rfl := inj1 hm
      exact ⟨rfl, cut_leaf (by kernel_rfl)⟩
    replace hm := neg_inv hc hm
    refine R_skip ?_
    refine R_G ?_
    refine G_run 3 ?_
    refine G_end ?_
    exact w_ref14_joined_L1 _ _ hm _ (by kernel_rfl)
  replace hm := neg_inv hc hm
  refine R_exit ?_
  obtain rfl := inj1 hm
  exact ⟨rfl, cut_leaf (by kernel_rfl)⟩
def m_ref14_joined (x : T_ref14_Core) : Option Bool :=
  match x with
  | p0 =>
  idx p0.kids 0 >>= fun v1 =>
  idx p0.kids 1 >>= fun v2 =>
  ((if (v1.shape.length : Int) ≠ (v2.shape.length : Int) then
    some true
  else
  some ((v1.shape.length : Int) != (p0.shape.length : Int))
  ) >>= fun (v4 : Bool) =>
  (if v4 = true then
    some true
  else
  some (decide (p0.axis < 0))
  ) >>= fun (v5 : Bool) =>
  if v5 = true then
    some true
  else
  some (decide (p0.axis ≥ (v1.shape.length : Int)))
  ) >>= fun (v3 : Bool) =>
  if v3 = true then
    some false
  else
  (
  m_ref14_joined_L1 (v1, p0, v2, 0) >>= fun (out : Unit ⊕ Unit) =>
  match out with
  | .inl _ =>
    some false
  | .inr (_) =>
    some true
  )
def P_ref14_joined : T_ref14_Core → Bool → Prop := fun x r => match x, r with
  | p0, r0 => ∀ H, PC prog env 151 ([(T_ref14_Core.ex p0)].map .dat) H (boolPV r0) H
theorem w_ref14_joined : ∀ x r, m_ref14_joined x = some r → P_ref14_joined x r := by
  intro p0 r0 hm
  unfold m_ref14_joined at hm
  unfold P_ref14_joined
  intro H
  refine PC_sx (ds := [(T_ref14_Core.ex p0)]) (fn := f151) (by kernel_rfl) (by kernel_rfl) rfl ?_ (by kernel_rfl)
  refine R_seq ?_
  refine R_G ?_
  refine G_run 2 ?_
  refine G_end ?_
  refine R_seq ?_
  refine R_G ?_
  refine G_run 2 ?_
  obtain ⟨v1, hx, hm⟩ := bind_inv hm
  refine I_idx 8 T_ref14_Core.toD p0.kids 0 v1 (es := T_ref14_Core.toDs p0.kids) (d := (T_ref14_Core.ex v1)) (T_ref14_Core.toDs_eq _) hx (T_ref14_Core.toD_eq v1) rfl ?_
  refine G_run 3 ?_
  refine G_end ?_
  refine R_seq ?_
  refine R_G ?_
  refine G_run 2 ?_
  obtain ⟨v2, hx, hm⟩ := bind_inv hm
  refine I_idx 8 T_ref14_Core.toD p0.kids 1 v2 (es := T_ref14_Core.toDs p0.kids) (d := (T_ref14_Core.ex v2)) (T_ref14_Core.toDs_eq _) hx (T_ref14_Core.toD_eq v2) rfl ?_
  refine G_run 3 ?_
  refine G_end ?_
  refine R_seq ?_
  refine R_seq ?_
  obtain ⟨v3, hs, hm⟩ := bind_inv hm
  refine R_cut (fun d => ⟨sl d 97 [(1, (.ptr 0 0)), (3, (.dat (.lst ((List.map intD) v1.shape)))), (4, (.dat (.lst ((List.map intD) v2.shape)))), (40, (boolPV v3))], [(.box [(intPV p0.kind), (.dat (.lst ((List.map intD) p0.shape))), (intPV p0.buffer), (.dat (.lst ((List.map intD) p0.starts))), (intPV p0.axis), (intPV p0.amount), (.dat (.lst ((List.map intD) p0.perm))), (.dat (.lst (T_ref14_Core.toDs p0.kids)))])]⟩) ?_ (fun d => ?_)
  · replace hm := hs
    clear hs
    refine R_GN ?_
    refine G_run 1 ?_
    refine I_len intD v1.shape (es := (List.map intD) v1.shape) rfl ?_
    refine G_run 1 ?_
    refine I_len intD v2.shape (es := (List.map intD) v2.shape) rfl ?_
    refine G_run 2 ?_
    obtain ⟨v4, hs, hm⟩ := bind_inv hm
    refine G_cut (j := 13) (fun d => ⟨sl d 97 [(0, (.dat (.agg [(intD p0.kind), (.lst ((List.map intD) p0.shape)), (intD p0.buffer), (.lst ((List.map intD) p0.starts)), (intD p0.axis), (intD p0.amount), (.lst ((List.map intD) p0.perm)), (.lst (T_ref14_Core.toDs p0.kids))]))), (1, (.ptr 0 0)), (2, (boolPV false)), (3, (.dat (.lst ((List.map intD) v1.shape)))), (4, (.dat (.lst ((List.map intD) v2.shape)))), (6, (.ptr 0 7)), (7, (.dat (.lst (T_ref14_Core.toDs p0.kids)))), (8, (.iptr [(intD v1.kind), (.lst ((List.map intD) v1.shape)), (intD v1.buffer), (.lst ((List.map intD) v1.starts)), (intD v1.axis), (intD v1.amount), (.lst ((List.map intD) v1.perm)), (.lst (T_ref14_Core.toDs v1.kids))])), (9, (.iptr [(.lst ((List.map intD) v1.shape)), (intD v1.buffer), (.lst ((List.map intD) v1.starts)), (intD v1.axis), (intD v1.amount), (.lst ((List.map intD) v1.perm)), (.lst (T_ref14_Core.toDs v1.kids))])), (10, (.dat (.lst ((List.map intD) v1.shape)))), (11, (.ptr 0 7)), (12, (.dat (.lst (T_ref14_Core.toDs p0.kids)))), (13, (.iptr [(intD v2.kind), (.lst ((List.map intD) v2.shape)), (intD v2.buffer), (.lst ((List.map intD) v2.starts)), (intD v2.axis), (intD v2.amount), (.lst ((List.map intD) v2.perm)), (.lst (T_ref14_Core.toDs v2.kids))])), (14, (.iptr [(.lst ((List.map intD) v2.shape)), (intD v2.buffer), (.lst ((List.map intD) v2.starts)), (intD v2.axis), (intD v2.amount), (.lst ((List.map intD) v2.perm)), (.lst (T_ref14_Core.toDs v2.kids))])), (15, (.dat (.lst ((List.map intD) v2.shape)))), (16, (.dat (.lst ((List.map intD) v1.shape)))), (17, (intPV (v1.shape.length : Int))), (18, (.dat (.lst ((List.map intD) v2.shape)))), (19, (intPV (v2.shape.length : Int))), (20, (boolPV ((v1.shape.length : Int) != (v2.shape.length : Int)))), (28, (boolPV v4))], [(.box [(intPV p0.kind), (.dat (.lst ((List.map intD) p0.shape))), (intPV p0.buffer), (.dat (.lst ((List.map intD) p0.starts))), (intPV p0.axis), (intPV p0.amount), (.dat (.lst ((List.map intD) p0.perm))), (.dat (.lst (T_ref14_Core.toDs p0.kids)))])]⟩) (fun d => ?_) (fun hJ => ?_)
    · clear hs
      refine G_run 1 ?_
      obtain ⟨v5, hs, hm⟩ := bind_inv hm
      refine G_cut (j := 18) (fun d => ⟨sl d 97 [(0, (.dat (.agg [(intD p0.kind), (.lst ((List.map intD) p0.shape)), (intD p0.buffer), (.lst ((List.map intD) p0.starts)), (intD p0.axis), (intD p0.amount), (.lst ((List.map intD) p0.perm)), (.lst (T_ref14_Core.toDs p0.kids))]))), (1, (.ptr 0 0)), (2, (boolPV false)), (3, (.dat (.lst ((List.map intD) v1.shape)))), (4, (.dat (.lst ((List.map intD) v2.shape)))), (6, (.ptr 0 7)), (7, (.dat (.lst (T_ref14_Core.toDs p0.kids)))), (8, (.iptr [(intD v1.kind), (.lst ((List.map intD) v1.shape)), (intD v1.buffer), (.lst ((List.map intD) v1.starts)), (intD v1.axis), (intD v1.amount), (.lst ((List.map intD) v1.perm)), (.lst (T_ref14_Core.toDs v1.kids))])), (9, (.iptr [(.lst ((List.map intD) v1.shape)), (intD v1.buffer), (.lst ((List.map intD) v1.starts)), (intD v1.axis), (intD v1.amount), (.lst ((List.map intD) v1.perm)), (.lst (T_ref14_Core.toDs v1.kids))])), (10, (.dat (.lst ((List.map intD) v1.shape)))), (11, (.ptr 0 7)), (12, (.dat (.lst (T_ref14_Core.toDs p0.kids)))), (13, (.iptr [(intD v2.kind), (.lst ((List.map intD) v2.shape)), (intD v2.buffer), (.lst ((List.map intD) v2.starts)), (intD v2.axis), (intD v2.amount), (.lst ((List.map intD) v2.perm)), (.lst (T_ref14_Core.toDs v2.kids))])), (14, (.iptr [(.lst ((List.map intD) v2.shape)), (intD v2.buffer), (.lst ((List.map intD) v2.starts)), (intD v2.axis), (intD v2.amount), (.lst ((List.map intD) v2.perm)), (.lst (T_ref14_Core.toDs v2.kids))])), (15, (.dat (.lst ((List.map intD) v2.shape)))), (16, (.dat (.lst ((List.map intD) v1.shape)))), (17, (intPV (v1.shape.length : Int))), (18, (.dat (.lst ((List.map intD) v2.shape)))), (19, (intPV (v2.shape.length : Int))), (20, (boolPV ((v1.shape.length : Int) != (v2.shape.length : Int)))), (28, (boolPV v4)), (33, (boolPV v5))], [(.box [(intPV p0.kind), (.dat (.lst ((List.map intD) p0.shape))), (intPV p0.buffer), (.dat (.lst ((List.map intD) p0.starts))), (intPV p0.axis), (intPV p0.amount), (.dat (.lst ((List.map intD) p0.perm))), (.dat (.lst (T_ref14_Core.toDs p0.kids)))])]⟩) (fun d => ?_) (fun hJ => ?_)
      · clear hs
        refine G_run 1 ?_
        refine G_split (p := v5 = true) 34 (bool_dec _) (fun hc => ?_) (fun hc => ?_)
        · replace hm := pos_inv hc hm
          refine G_run 6 ?_
          refine G_end ⟨by kernel_rfl, ?_⟩
          obtain rfl := inj1 hm
          exact cut_leaf (by kernel_rfl)
        replace hm := neg_inv hc hm
        refine G_run 3 ?_
        refine I_len intD v1.shape (es := (List.map intD) v1.shape) rfl ?_
        refine G_run 2 ?_
        refine G_end ⟨by kernel_rfl, ?_⟩
        obtain rfl := inj1 hm
        exact cut_leaf (by kernel_rfl)
      replace hm := hs
      clear hs
      refine G_split (p := v4 = true) 29 (bool_dec _) (fun hc => ?_) (fun hc => ?_)
      · replace hm := pos_inv hc hm
        refine G_run 4 ?_
        obtain rfl := inj1 hm
        exact hJ _ _ (by kernel_rfl) (by kernel_rfl)
      replace hm := neg_inv hc hm
      refine G_run 4 ?_
      obtain rfl := inj1 hm
      exact hJ _ _ (by kernel_rfl) (by kernel_rfl)
    replace hm := hs
    clear hs
    refine G_split (p := (v1.shape.length : Int) ≠ (v2.shape.length : Int)) 21 (ne_dec _ _) (fun hc => ?_) (fun hc => ?_)
    · replace hm := pos_inv hc hm
      refine G_run 7 ?_
      obtain rfl := inj1 hm
      exact hJ _ _ (by kernel_rfl) (by kernel_rfl)
    replace hm := neg_inv hc hm
    refine G_run 1 ?_
    refine I_len intD v1.shape (es := (List.map intD) v1.shape) rfl ?_
    refine G_run 2 ?_
    refine I_len intD p0.shape (es := (List.map intD) p0.shape) rfl ?_
    refine G_run 2 ?_
    obtain rfl := inj1 hm
    exact hJ _ _ (by kernel_rfl) (by kernel_rfl)
  clear hs
  refine R_ifp (p := v3 = true) (bool_dec _) (fun hc => ?_) (fun hc => ?_)
  · replace hm := pos_inv hc hm
    refine R_seq ?_
    refine R_G ?_
    refine G_run 1 ?_
    refine G_end ?_
    refine R_ret ?_
    obtain rfl := inj1 hm
    exact ⟨trivial, fin_pure (by kernel_rfl)⟩
  replace hm := neg_inv hc hm
  refine R_skip ?_
  refine R_seq ?_
  refine R_seq ?_
  refine R_G ?_
  refine G_run 1 ?_
  refine G_end ?_
  refine R_block ?_
  obtain ⟨out, hs, hm⟩ := bind_inv hm
  refine R_loop ?_
  rcases out with _ | _
  · refine RL_use (w_ref14_joined_L1 _ _ hs) (by kernel_rfl) ?_
    clear hs
    intro e s hp
    obtain ⟨rfl, d, rfl⟩ := hp
    obtain rfl := inj1 hm
    exact ⟨trivial, fin_pure (by kernel_rfl)⟩
  · refine RL_use (w_ref14_joined_L1 _ _ hs) (by kernel_rfl) ?_
    clear hs
    intro e s hp
    obtain ⟨rfl, d, rfl⟩ := hp
    refine R_seq ?_
    refine R_G ?_
    refine G_run 1 ?_
    refine G_end ?_
    refine R_ret ?_
    obtain rfl := inj1 hm
    exact ⟨trivial, fin_pure (by kernel_rfl)⟩
end Go.Proofs.Tryz
namespace Go.Proofs.Tryz
open Go Go.Pm
set_option linter.unusedVariables false
set_option maxRecDepth 2000
def m_ref14_node_L1 (x : (T_ref14_Core × Int)) : Option (Unit ⊕ Unit) :=
  match x with
  | (p0, v217) =>
  if v217 < (p0.starts.length : Int) then
    (idx p0.starts v217 >>= fun v618 =>
    if v618 < (-65536) then
      some true
    else
    idx p0.starts v217 >>= fun v619 =>
    some (decide (v619 > 65536))
    ) >>= fun (v617 : Bool) =>
    if v617 = true then
      some (Sum.inl ())
    else
    m_ref14_node_L1 (p0, (W (v217 + 1)))
  else
  some (Sum.inr ())
  partial_fixpoint
def P_ref14_node_L1 : (T_ref14_Core × Int) → (Unit ⊕ Unit) → Prop := fun x r => match x with
  | (p0, v217) => ∀ st, prune 1 ((firstRegion (codeAt [1, 1, 1, 1, 1, 1, 0, 1, 0, 1, 1, 1, 0, 0, 1, 0, 0] (bodyOf f107))).bind (env.hint 107).keepAt) st = ⟨kp 197 [(2, (.ptr 0 0)), (6, (intPV v217))], [(.box [(intPV p0.kind), (.dat (.lst ((List.map intD) p0.shape))), (intPV p0.buffer), (.dat (.lst ((List.map intD) p0.starts))), (intPV p0.axis), (intPV p0.amount), (.dat (.lst ((List.map intD) p0.perm))), (.dat (.lst (T_ref14_Core.toDs p0.kids)))])]⟩ →
    RL prog env (env.hint 107) true (codeAt [1, 1, 1, 1, 1, 1, 0, 1, 0, 1, 1, 1, 0, 0, 1, 0, 0] (bodyOf f107)) 1 st (fun e s => match r with | .inl _ => e = .ret ∧ ∃ d, s = ⟨sl d 197 [(4, (boolPV false))], [(.box [(intPV p0.kind), (.dat (.lst ((List.map intD) p0.shape))), (intPV p0.buffer), (.dat (.lst ((List.map intD) p0.starts))), (intPV p0.axis), (intPV p0.amount), (.dat (.lst ((List.map intD) p0.perm))), (.dat (.lst (T_ref14_Core.toDs p0.kids)))])]⟩ | .inr (_) => e = .exit 1 ∧ ∃ d, s = ⟨sl d 197 [(2, (.ptr 0 0))], [(.box [(intPV p0.kind), (.dat (.lst ((List.map intD) p0.shape))), (intPV p0.buffer), (.dat (.lst ((List.map intD) p0.starts))), (intPV p0.axis), (intPV p0.amount), (.dat (.lst ((List.map intD) p0.perm))), (.dat (.lst (T_ref14_Core.toDs p0.kids)))])]⟩)
theorem w_ref14_node_L1 : ∀ x r, m_ref14_node_L1 x = some r → P_ref14_node_L1 x r := by
  refine m_ref14_node_L1.partial_correctness _ (fun m_ref14_node_L1 w_ref14_node_L1 x r hm => ?_)
  unfold P_ref14_node_L1
  obtain ⟨p0, v217⟩ := x
  intro st hst
  refine RL_at hst ?_
  clear hst
  refine R_seq ?_
  refine R_seq ?_
  refine R_G ?_
  refine G_run 3 ?_
  refine I_len intD p0.starts (es := (List.map intD) p0.starts) rfl ?_
  refine G_run 1 ?_
  refine G_end ?_
  refine R_ifp (p := v217 < (p0.starts.length : Int)) (rfl) (fun hc => ?_) (fun hc => ?_)
  · replace hm := pos_inv hc hm
    refine R_skip ?_
    refine R_seq ?_
    refine R_block ?_
    refine R_seq ?_
    obtain ⟨v617, hs, hm⟩ := bind_inv hm
    refine R_cut (fun d => ⟨sl d 197 [(2, (.ptr 0 0)), (6, (intPV v217)), (140, (boolPV v617))], [(.box [(intPV p0.kind), (.dat (.lst ((List.map intD) p0.shape))), (intPV p0.buffer), (.dat (.lst ((List.map intD) p0.starts))), (intPV p0.axis), (intPV p0.amount), (.dat (.lst ((List.map intD) p0.perm))), (.dat (.lst (T_ref14_Core.toDs p0.kids)))])]⟩) ?_ (fun d => ?_)
    · replace hm := hs
      clear hs
      refine R_G ?_
      refine G_run 3 ?_
      obtain ⟨v618, hx, hm⟩ := bind_inv hm
      refine I_idx 1 intD p0.starts v217 v618 (es := (List.map intD) p0.starts) (d := (intD v618)) rfl hx rfl rfl ?_
      refine G_run 3 ?_
      refine G_split (p := v618 < (-65536)) 133 (rfl) (fun hc => ?_) (fun hc => ?_)
      · replace hm := pos_inv hc hm
        refine G_run 7 ?_
        refine G_end ?_
        obtain rfl := inj1 hm
        exact cut_leaf (by kernel_rfl)
      replace hm := neg_inv hc hm
      refine G_run 3 ?_
      obtain ⟨v619, hx, hm⟩ := bind_inv hm
      refine I_idx 1 intD p0.starts v217 v619 (es := (List.map intD) p0.starts) (d := (intD v619)) rfl hx rfl rfl ?_
      refine G_run 3 ?_
      refine G_end ?_
      obtain rfl := inj1 hm
      exact cut_leaf (by kernel_rfl)
    clear hs
    refine R_ifp (p := v617 = true) (bool_dec _) (fun hc => ?_) (fun hc => ?_)
    · replace hm := pos_inv hc hm
      refine R_seq ?_
      refine R_G ?_
      refine G_run 1 ?_
      refine G_end ?_
      refine R_ret ?_
      obtain rfl := inj1 hm
      exact ⟨rfl, cut_leaf (by kernel_rfl)⟩
    replace hm := neg_inv hc hm
    refine R_skip ?_
    refine R_G ?_
    refine G_run 3 ?_
    refine G_end ?_
    exact w_ref14_node_L1 _ _ hm _ (by kernel_rfl)
  replace hm := neg_inv hc hm
  refine R_exit ?_
  obtain rfl := inj1 hm
  exact ⟨rfl, cut_leaf (by kernel_rfl)⟩
def m_ref14_node (x : (T_ref14_Core × (List (List Int)))) : Option Bool :=
  match x with
  | (p0, p1) =>
  (if p0.kind = 1 then
    some 0
  else
  some 1
  ) >>= fun (v1 : Int) =>
  (if p0.kind = 7 then
    some 2
  else
  some v1
  ) >>= fun (v2 : Int) =>
  ((if p0.kind < 1 then
    some true
  else
  some (decide (p0.kind > 7))
  ) >>= fun (v4 : Bool) =>
  (if v4 = true then
    some true
  else
  some ((p0.kids.length : Int) != v2)
  ) >>= fun (v5 : Bool) =>
  if v5 = true then
    some true
  else
  m_ref02_Check p0.shape >>= fun (v6 : Int) =>
  some (v6 != 0)
  ) >>= fun (v3 : Bool) =>
  if v3 = true then
    some false
  else
  ((if p0.kind ≠ 1 then
    some (p0.buffer != 0)
  else
  some false
  ) >>= fun (v8 : Bool) =>
  (if v8 = true then
    some true
  else
  if p0.kind ≠ 2 then
    some (decide ((p0.starts.length : Int) > 0))
  else
  some false
  ) >>= fun (v9 : Bool) =>
  (if v9 = true then
    some true
  else
  (if p0.kind ≠ 3 then
    some (p0.kind != 4)
  else
  some false
  ) >>= fun (v11 : Bool) =>
  (if v11 = true then
    some (p0.kind != 7)
  else
  some false
  ) >>= fun (v12 : Bool) =>
  if v12 = true then
    some (p0.axis != 0)
  else
  some false
  ) >>= fun (v10 : Bool) =>
  (if v10 = true then
    some true
  else
  if p0.kind ≠ 4 then
    some (p0.amount != 0)
  else
  some false
  ) >>= fun (v13 : Bool) =>
  if v13 = true then
    some true
  else
  if p0.kind ≠ 5 then
    some (decide ((p0.perm.length : Int) > 0))
  else
  some false
  ) >>= fun (v7 : Bool) =>
  if v7 = true then
    some false
  else
  if p0.kind = 1 then
    (if p0.buffer ≥ 0 then
      some (decide (p0.buffer < (p1.length : Int)))
    else
    some false
    ) >>= fun (v14 : Bool) =>
    if v14 = true then
      idx p1 p0.buffer >>= fun v15 =>
      m_ref02_Equal (v15, p0.shape) >>= fun (v16 : Bool) =>
      some v16
    else
    some false
  else
  if p0.kind = 2 then
    (
    m_ref14_node_L1 (p0, 0) >>= fun (out : Unit ⊕ Unit) =>
    match out with
    | .inl _ =>
      some false
    | .inr (_) =>
      if (p0.starts.length : Int) = (p0.shape.length : Int) then
        idx p0.kids 0 >>= fun v620 =>
        some ((v620.shape.length : Int) == (p0.shape.length : Int))
      else
      some false
    )
  else
  if p0.kind = 3 then
    m_ref14_alike p0 >>= fun (v621 : Bool) =>
    some v621
  else
  if p0.kind = 4 then
    m_ref14_alike p0 >>= fun (v622 : Bool) =>
    (if v622 = true then
      some (decide (p0.amount ≥ 0))
    else
    some false
    ) >>= fun (v623 : Bool) =>
    if v623 = true then
      if p0.amount = 0 then
        some true
      else
      idx p0.shape p0.axis >>= fun v624 =>
      some (decide (p0.amount < v624))
    else
    some false
  else
  if p0.kind = 5 then
    m_ref14_transposed p0 >>= fun (v625 : Bool) =>
    some v625
  else
  if p0.kind = 7 then
    m_ref14_joined p0 >>= fun (v626 : Bool) =>
    some v626
  else
  some true
def P_ref14_node : (T_ref14_Core × (List (List Int))) → Bool → Prop := fun x r => match x, r with
  | (p0, p1), r0 => ∀ H, PC prog env 107 ([(T_ref14_Core.ex p0), (.lst ((List.map (fun l => Dat.lst ((List.map intD) l))) p1))].map .dat) H (boolPV r0) H
theorem w_ref14_node : ∀ x r, m_ref14_node x = some r → P_ref14_node x r := by
  intro x r0 hm
  unfold m_ref14_node at hm
  unfold P_ref14_node
  obtain ⟨p0, p1⟩ := x
  intro H
  refine PC_sx (ds := [(T_ref14_Core.ex p0), (.lst ((List.map (fun l => Dat.lst ((List.map intD) l))) p1))]) (fn := f107) (by kernel_rfl) (by kernel_rfl) rfl ?_ (by kernel_rfl)
  refine R_seq ?_
  refine R_G ?_
  refine G_run 2 ?_
  refine G_end ?_
  refine R_seq ?_
  refine R_G ?_
  refine G_run 1 ?_
  refine G_end ?_
  refine R_seq ?_
  refine R_seq ?_
  refine R_G ?_
  refine G_run 3 ?_
  refine G_end ?_
  obtain ⟨v1, hs, hm⟩ := bind_inv hm
  refine R_cut (fun d => ⟨sl d 197 [(1, (.dat (.lst ((List.map (fun l => Dat.lst ((List.map intD) l))) p1)))), (2, (.ptr 0 0)), (5, (intPV v1))], [(.box [(intPV p0.kind), (.dat (.lst ((List.map intD) p0.shape))), (intPV p0.buffer), (.dat (.lst ((List.map intD) p0.starts))), (intPV p0.axis), (intPV p0.amount), (.dat (.lst ((List.map intD) p0.perm))), (.dat (.lst (T_ref14_Core.toDs p0.kids)))])]⟩) ?_ (fun d => ?_)
  · replace hm := hs
    clear hs
    refine R_ifp (p := p0.kind = 1) (eq_dec _ _) (fun hc => ?_) (fun hc => ?_)
    · replace hm := pos_inv hc hm
      refine R_G ?_
      refine G_run 1 ?_
      refine G_end ?_
      obtain rfl := inj1 hm
      exact cut_leaf (by kernel_rfl)
    replace hm := neg_inv hc hm
    refine R_skip ?_
    obtain rfl := inj1 hm
    exact cut_leaf (by kernel_rfl)
  clear hs
  refine R_seq ?_
  refine R_seq ?_
  refine R_G ?_
  refine G_run 3 ?_
  refine G_end ?_
  obtain ⟨v2, hs, hm⟩ := bind_inv hm
  refine R_cut (fun d => ⟨sl d 197 [(1, (.dat (.lst ((List.map (fun l => Dat.lst ((List.map intD) l))) p1)))), (2, (.ptr 0 0)), (5, (intPV v2))], [(.box [(intPV p0.kind), (.dat (.lst ((List.map intD) p0.shape))), (intPV p0.buffer), (.dat (.lst ((List.map intD) p0.starts))), (intPV p0.axis), (intPV p0.amount), (.dat (.lst ((List.map intD) p0.perm))), (.dat (.lst (T_ref14_Core.toDs p0.kids)))])]⟩) ?_ (fun d => ?_)
  · replace hm := hs
    clear hs
    refine R_ifp (p := p0.kind = 7) (eq_dec _ _) (fun hc => ?_) (fun hc => ?_)
    · replace hm := pos_inv hc hm
      refine R_G ?_
      refine G_run 1 ?_
      refine G_end ?_
      obtain rfl := inj1 hm
      exact cut_leaf (by kernel_rfl)
    replace hm := neg_inv hc hm
    refine R_skip ?_
    obtain rfl := inj1 hm
    exact cut_leaf (by kernel_rfl)
  clear hs
  refine R_seq ?_
  refine R_seq ?_
  obtain ⟨v3, hs, hm⟩ := bind_inv hm
  refine R_cut (fun d => ⟨sl d 197 [(1, (.dat (.lst ((List.map (fun l => Dat.lst ((List.map intD) l))) p1)))), (2, (.ptr 0 0)), (33, (boolPV v3))], [(.box [(intPV p0.kind), (.dat (.lst ((List.map intD) p0.shape))), (intPV p0.buffer), (.dat (.lst ((List.map intD) p0.starts))), (intPV p0.axis), (intPV p0.amount), (.dat (.lst ((List.map intD) p0.perm))), (.dat (.lst (T_ref14_Core.toDs p0.kids)))])]⟩) ?_ (fun d => ?_)
  · replace hm := hs
    clear hs
    refine R_GN ?_
    refine G_run 4 ?_
    obtain ⟨v4, hs, hm⟩ := bind_inv hm
    refine G_cut (j := 8) (fun d => ⟨sl d 197 [(1, (.dat (.lst ((List.map (fun l => Dat.lst ((List.map intD) l))) p1)))), (2, (.ptr 0 0)), (5, (intPV v2)), (13, (.ptr 0 0)), (14, (intPV p0.kind)), (15, (boolPV (decide (p0.kind < 1)))), (20, (boolPV v4))], [(.box [(intPV p0.kind), (.dat (.lst ((List.map intD) p0.shape))), (intPV p0.buffer), (.dat (.lst ((List.map intD) p0.starts))), (intPV p0.axis), (intPV p0.amount), (.dat (.lst ((List.map intD) p0.perm))), (.dat (.lst (T_ref14_Core.toDs p0.kids)))])]⟩) (fun d => ?_) (fun hJ => ?_)
    · clear hs
      refine G_run 1 ?_
      obtain ⟨v5, hs, hm⟩ := bind_inv hm
      refine G_cut (j := 15) (fun d => ⟨sl d 197 [(1, (.dat (.lst ((List.map (fun l => Dat.lst ((List.map intD) l))) p1)))), (2, (.ptr 0 0)), (5, (intPV v2)), (13, (.ptr 0 0)), (14, (intPV p0.kind)), (15, (boolPV (decide (p0.kind < 1)))), (20, (boolPV v4)), (27, (boolPV v5))], [(.box [(intPV p0.kind), (.dat (.lst ((List.map intD) p0.shape))), (intPV p0.buffer), (.dat (.lst ((List.map intD) p0.starts))), (intPV p0.axis), (intPV p0.amount), (.dat (.lst ((List.map intD) p0.perm))), (.dat (.lst (T_ref14_Core.toDs p0.kids)))])]⟩) (fun d => ?_) (fun hJ => ?_)
      · clear hs
        refine G_run 1 ?_
        refine G_split (p := v5 = true) 28 (bool_dec _) (fun hc => ?_) (fun hc => ?_)
        · replace hm := pos_inv hc hm
          refine G_run 5 ?_
          refine G_end ⟨by kernel_rfl, ?_⟩
          obtain rfl := inj1 hm
          exact cut_leaf (by kernel_rfl)
        replace hm := neg_inv hc hm
        refine G_run 2 ?_
        obtain ⟨v6, hx, hm⟩ := bind_inv hm
        have hq := w_ref02_Check _ _ hx []
        refine G_callP hq ?_
        refine G_run 2 ?_
        refine G_end ⟨by kernel_rfl, ?_⟩
        obtain rfl := inj1 hm
        exact cut_leaf (by kernel_rfl)
      replace hm := hs
      clear hs
      refine G_split (p := v4 = true) 21 (bool_dec _) (fun hc => ?_) (fun hc => ?_)
      · replace hm := pos_inv hc hm
        refine G_run 6 ?_
        obtain rfl := inj1 hm
        exact hJ _ _ (by kernel_rfl) (by kernel_rfl)
      replace hm := neg_inv hc hm
      refine G_run 2 ?_
      refine I_len T_ref14_Core.toD p0.kids (es := T_ref14_Core.toDs p0.kids) (T_ref14_Core.toDs_eq _) ?_
      refine G_run 3 ?_
      obtain rfl := inj1 hm
      exact hJ _ _ (by kernel_rfl) (by kernel_rfl)
    replace hm := hs
    clear hs
    refine G_split (p := p0.kind < 1) 16 (rfl) (fun hc => ?_) (fun hc => ?_)
    · replace hm := pos_inv hc hm
      refine G_run 4 ?_
      obtain rfl := inj1 hm
      exact hJ _ _ (by kernel_rfl) (by kernel_rfl)
    replace hm := neg_inv hc hm
    refine G_run 4 ?_
    obtain rfl := inj1 hm
    exact hJ _ _ (by kernel_rfl) (by kernel_rfl)
  clear hs
  refine R_ifp (p := v3 = true) (bool_dec _) (fun hc => ?_) (fun hc => ?_)
  · replace hm := pos_inv hc hm
    refine R_seq ?_
    refine R_G ?_
    refine G_run 1 ?_
    refine G_end ?_
    refine R_ret ?_
    obtain rfl := inj1 hm
    exact ⟨trivial, fin_pure (by kernel_rfl)⟩
  replace hm := neg_inv hc hm
  refine R_skip ?_
  refine R_seq ?_
  refine R_seq ?_
  obtain ⟨v7, hs, hm⟩ := bind_inv hm
  refine R_cut (fun d => ⟨sl d 197 [(1, (.dat (.lst ((List.map (fun l => Dat.lst ((List.map intD) l))) p1)))), (2, (.ptr 0 0)), (93, (boolPV v7))], [(.box [(intPV p0.kind), (.dat (.lst ((List.map intD) p0.shape))), (intPV p0.buffer), (.dat (.lst ((List.map intD) p0.starts))), (intPV p0.axis), (intPV p0.amount), (.dat (.lst ((List.map intD) p0.perm))), (.dat (.lst (T_ref14_Core.toDs p0.kids)))])]⟩) ?_ (fun d => ?_)
  · replace hm := hs
    clear hs
    refine R_GN ?_
    refine G_run 4 ?_
    obtain ⟨v8, hs, hm⟩ := bind_inv hm
    refine G_cut (j := 8) (fun d => ⟨sl d 197 [(1, (.dat (.lst ((List.map (fun l => Dat.lst ((List.map intD) l))) p1)))), (2, (.ptr 0 0)), (33, (boolPV v3)), (34, (.ptr 0 0)), (35, (intPV p0.kind)), (36, (boolPV (p0.kind != 1))), (41, (boolPV v8))], [(.box [(intPV p0.kind), (.dat (.lst ((List.map intD) p0.shape))), (intPV p0.buffer), (.dat (.lst ((List.map intD) p0.starts))), (intPV p0.axis), (intPV p0.amount), (.dat (.lst ((List.map intD) p0.perm))), (.dat (.lst (T_ref14_Core.toDs p0.kids)))])]⟩) (fun d => ?_) (fun hJ => ?_)
    · clear hs
      refine G_run 1 ?_
      obtain ⟨v9, hs, hm⟩ := bind_inv hm
      refine G_cut (j := 19) (fun d => ⟨sl d 197 [(1, (.dat (.lst ((List.map (fun l => Dat.lst ((List.map intD) l))) p1)))), (2, (.ptr 0 0)), (33, (boolPV v3)), (34, (.ptr 0 0)), (35, (intPV p0.kind)), (36, (boolPV (p0.kind != 1))), (41, (boolPV v8)), (52, (boolPV v9))], [(.box [(intPV p0.kind), (.dat (.lst ((List.map intD) p0.shape))), (intPV p0.buffer), (.dat (.lst ((List.map intD) p0.starts))), (intPV p0.axis), (intPV p0.amount), (.dat (.lst ((List.map intD) p0.perm))), (.dat (.lst (T_ref14_Core.toDs p0.kids)))])]⟩) (fun d => ?_) (fun hJ => ?_)
      · clear hs
        refine G_run 1 ?_
        obtain ⟨v10, hs, hm⟩ := bind_inv hm
        refine G_cut (j := 39) (fun d => ⟨sl d 197 [(1, (.dat (.lst ((List.map (fun l => Dat.lst ((List.map intD) l))) p1)))), (2, (.ptr 0 0)), (33, (boolPV v3)), (34, (.ptr 0 0)), (35, (intPV p0.kind)), (36, (boolPV (p0.kind != 1))), (41, (boolPV v8)), (52, (boolPV v9)), (72, (boolPV v10))], [(.box [(intPV p0.kind), (.dat (.lst ((List.map intD) p0.shape))), (intPV p0.buffer), (.dat (.lst ((List.map intD) p0.starts))), (intPV p0.axis), (intPV p0.amount), (.dat (.lst ((List.map intD) p0.perm))), (.dat (.lst (T_ref14_Core.toDs p0.kids)))])]⟩) (fun d => ?_) (fun hJ => ?_)
        · clear hs
          refine G_run 1 ?_
          obtain ⟨v13, hs, hm⟩ := bind_inv hm
          refine G_cut (j := 49) (fun d => ⟨sl d 197 [(1, (.dat (.lst ((List.map (fun l => Dat.lst ((List.map intD) l))) p1)))), (2, (.ptr 0 0)), (33, (boolPV v3)), (34, (.ptr 0 0)), (35, (intPV p0.kind)), (36, (boolPV (p0.kind != 1))), (41, (boolPV v8)), (52, (boolPV v9)), (72, (boolPV v10)), (82, (boolPV v13))], [(.box [(intPV p0.kind), (.dat (.lst ((List.map intD) p0.shape))), (intPV p0.buffer), (.dat (.lst ((List.map intD) p0.starts))), (intPV p0.axis), (intPV p0.amount), (.dat (.lst ((List.map intD) p0.perm))), (.dat (.lst (T_ref14_Core.toDs p0.kids)))])]⟩) (fun d => ?_) (fun hJ => ?_)
          · clear hs
            refine G_run 1 ?_
            refine G_split (p := v13 = true) 83 (bool_dec _) (fun hc => ?_) (fun hc => ?_)
            · replace hm := pos_inv hc hm
              refine G_run 10 ?_
              refine G_end ⟨by kernel_rfl, ?_⟩
              obtain rfl := inj1 hm
              exact cut_leaf (by kernel_rfl)
            replace hm := neg_inv hc hm
            refine G_run 4 ?_
            refine G_split (p := p0.kind ≠ 5) 87 (ne_dec _ _) (fun hc => ?_) (fun hc => ?_)
            · replace hm := pos_inv hc hm
              refine G_run 2 ?_
              refine I_len intD p0.perm (es := (List.map intD) p0.perm) rfl ?_
              refine G_run 3 ?_
              refine G_end ⟨by kernel_rfl, ?_⟩
              obtain rfl := inj1 hm
              exact cut_leaf (by kernel_rfl)
            replace hm := neg_inv hc hm
            refine G_run 6 ?_
            refine G_end ⟨by kernel_rfl, ?_⟩
            obtain rfl := inj1 hm
            exact cut_leaf (by kernel_rfl)
          replace hm := hs
          clear hs
          refine G_split (p := v10 = true) 73 (bool_dec _) (fun hc => ?_) (fun hc => ?_)
          · replace hm := pos_inv hc hm
            refine G_run 9 ?_
            obtain rfl := inj1 hm
            exact hJ _ _ (by kernel_rfl) (by kernel_rfl)
          replace hm := neg_inv hc hm
          refine G_run 4 ?_
          refine G_split (p := p0.kind ≠ 4) 77 (ne_dec _ _) (fun hc => ?_) (fun hc => ?_)
          · replace hm := pos_inv hc hm
            refine G_run 5 ?_
            obtain rfl := inj1 hm
            exact hJ _ _ (by kernel_rfl) (by kernel_rfl)
          replace hm := neg_inv hc hm
          refine G_run 5 ?_
          obtain rfl := inj1 hm
          exact hJ _ _ (by kernel_rfl) (by kernel_rfl)
        replace hm := hs
        clear hs
        refine G_split (p := v9 = true) 53 (bool_dec _) (fun hc => ?_) (fun hc => ?_)
        · replace hm := pos_inv hc hm
          refine G_run 19 ?_
          obtain rfl := inj1 hm
          exact hJ _ _ (by kernel_rfl) (by kernel_rfl)
        replace hm := neg_inv hc hm
        refine G_run 4 ?_
        obtain ⟨v11, hs, hm⟩ := bind_inv hm
        refine G_cut (j := 28) (fun d => ⟨sl d 197 [(1, (.dat (.lst ((List.map (fun l => Dat.lst ((List.map intD) l))) p1)))), (2, (.ptr 0 0)), (33, (boolPV v3)), (34, (.ptr 0 0)), (35, (intPV p0.kind)), (36, (boolPV (p0.kind != 1))), (41, (boolPV v8)), (52, (boolPV v9)), (53, (boolPV false)), (54, (.ptr 0 0)), (55, (intPV p0.kind)), (56, (boolPV (p0.kind != 3))), (61, (boolPV v11))], [(.box [(intPV p0.kind), (.dat (.lst ((List.map intD) p0.shape))), (intPV p0.buffer), (.dat (.lst ((List.map intD) p0.starts))), (intPV p0.axis), (intPV p0.amount), (.dat (.lst ((List.map intD) p0.perm))), (.dat (.lst (T_ref14_Core.toDs p0.kids)))])]⟩) (fun d => ?_) (fun hJ => ?_)
        · clear hs
          refine G_run 1 ?_
          obtain ⟨v12, hs, hm⟩ := bind_inv hm
          refine G_cut (j := 33) (fun d => ⟨sl d 197 [(1, (.dat (.lst ((List.map (fun l => Dat.lst ((List.map intD) l))) p1)))), (2, (.ptr 0 0)), (33, (boolPV v3)), (34, (.ptr 0 0)), (35, (intPV p0.kind)), (36, (boolPV (p0.kind != 1))), (41, (boolPV v8)), (52, (boolPV v9)), (53, (boolPV false)), (54, (.ptr 0 0)), (55, (intPV p0.kind)), (56, (boolPV (p0.kind != 3))), (61, (boolPV v11)), (66, (boolPV v12))], [(.box [(intPV p0.kind), (.dat (.lst ((List.map intD) p0.shape))), (intPV p0.buffer), (.dat (.lst ((List.map intD) p0.starts))), (intPV p0.axis), (intPV p0.amount), (.dat (.lst ((List.map intD) p0.perm))), (.dat (.lst (T_ref14_Core.toDs p0.kids)))])]⟩) (fun d => ?_) (fun hJ => ?_)
          · clear hs
            refine G_run 1 ?_
            refine G_split (p := v12 = true) 67 (bool_dec _) (fun hc => ?_) (fun hc => ?_)
            · replace hm := pos_inv hc hm
              refine G_run 5 ?_
              obtain rfl := inj1 hm
              exact hJ _ _ (by kernel_rfl) (by kernel_rfl)
            replace hm := neg_inv hc hm
            refine G_run 5 ?_
            obtain rfl := inj1 hm
            exact hJ _ _ (by kernel_rfl) (by kernel_rfl)
          replace hm := hs
          clear hs
          refine G_split (p := v11 = true) 62 (bool_dec _) (fun hc => ?_) (fun hc => ?_)
          · replace hm := pos_inv hc hm
            refine G_run 4 ?_
            obtain rfl := inj1 hm
            exact hJ _ _ (by kernel_rfl) (by kernel_rfl)
          replace hm := neg_inv hc hm
          refine G_run 4 ?_
          obtain rfl := inj1 hm
          exact hJ _ _ (by kernel_rfl) (by kernel_rfl)
        replace hm := hs
        clear hs
        refine G_split (p := p0.kind ≠ 3) 57 (ne_dec _ _) (fun hc => ?_) (fun hc => ?_)
        · replace hm := pos_inv hc hm
          refine G_run 4 ?_
          obtain rfl := inj1 hm
          exact hJ _ _ (by kernel_rfl) (by kernel_rfl)
        replace hm := neg_inv hc hm
        refine G_run 4 ?_
        obtain rfl := inj1 hm
        exact hJ _ _ (by kernel_rfl) (by kernel_rfl)
      replace hm := hs
      clear hs
      refine G_split (p := v8 = true) 42 (bool_dec _) (fun hc => ?_) (fun hc => ?_)
      · replace hm := pos_inv hc hm
        refine G_run 10 ?_
        obtain rfl := inj1 hm
        exact hJ _ _ (by kernel_rfl) (by kernel_rfl)
      replace hm := neg_inv hc hm
      refine G_run 4 ?_
      refine G_split (p := p0.kind ≠ 2) 46 (ne_dec _ _) (fun hc => ?_) (fun hc => ?_)
      · replace hm := pos_inv hc hm
        refine G_run 2 ?_
        refine I_len intD p0.starts (es := (List.map intD) p0.starts) rfl ?_
        refine G_run 3 ?_
        obtain rfl := inj1 hm
        exact hJ _ _ (by kernel_rfl) (by kernel_rfl)
      replace hm := neg_inv hc hm
      refine G_run 6 ?_
      obtain rfl := inj1 hm
      exact hJ _ _ (by kernel_rfl) (by kernel_rfl)
    replace hm := hs
    clear hs
    refine G_split (p := p0.kind ≠ 1) 37 (ne_dec _ _) (fun hc => ?_) (fun hc => ?_)
    · replace hm := pos_inv hc hm
      refine G_run 4 ?_
      obtain rfl := inj1 hm
      exact hJ _ _ (by kernel_rfl) (by kernel_rfl)
    replace hm := neg_inv hc hm
    refine G_run 4 ?_
    obtain rfl := inj1 hm
    exact hJ _ _ (by kernel_rfl) (by kernel_rfl)
  clear hs
  refine R_ifp (p := v7 = true) (bool_dec _) (fun hc => ?_) (fun hc => ?_)
  · replace hm := pos_inv hc hm
    refine R_seq ?_
    refine R_G ?_
    refine G_run 1 ?_
    refine G_end ?_
    refine R_ret ?_
    obtain rfl := inj1 hm
    exact ⟨trivial, fin_pure (by kernel_rfl)⟩
  replace hm := neg_inv hc hm
  refine R_skip ?_
  refine R_seq ?_
  refine R_seq ?_
  refine R_G ?_
  refine G_run 2 ?_
  refine G_end ?_
  refine R_block ?_
  refine R_seq ?_
  refine R_G ?_
  refine G_run 2 ?_
  refine G_end ?_
  refine R_ifp (p := p0.kind = 1) (eq_dec _ _) (fun hc => ?_) (fun hc => ?_)
  · replace hm := pos_inv hc hm
    refine R_seq ?_
    refine R_GW ?_
    refine G_run 4 ?_
    obtain ⟨v14, hs, hm⟩ := bind_inv hm
    refine G_cut (j := 10) (fun d => ⟨sl d 197 [(1, (.dat (.lst ((List.map (fun l => Dat.lst ((List.map intD) l))) p1)))), (2, (.ptr 0 0)), (93, (boolPV v7)), (94, (.ptr 0 0)), (95, (intPV p0.kind)), (96, (boolPV (p0.kind == 1))), (97, (boolPV (p0.kind == 1))), (98, (.ptr 0 2)), (99, (intPV p0.buffer)), (100, (boolPV (decide (p0.buffer ≥ 0)))), (107, (boolPV v14))], [(.box [(intPV p0.kind), (.dat (.lst ((List.map intD) p0.shape))), (intPV p0.buffer), (.dat (.lst ((List.map intD) p0.starts))), (intPV p0.axis), (intPV p0.amount), (.dat (.lst ((List.map intD) p0.perm))), (.dat (.lst (T_ref14_Core.toDs p0.kids)))])]⟩) (fun d => ?_) (fun hJ => ?_)
    · clear hs
      refine G_run 1 ?_
      refine G_split (p := v14 = true) 108 (bool_dec _) (fun hc => ?_) (fun hc => ?_)
      · replace hm := pos_inv hc hm
        refine G_run 3 ?_
        obtain ⟨v15, hx, hm⟩ := bind_inv hm
        refine I_idx 1 (fun l => Dat.lst ((List.map intD) l)) p1 p0.buffer v15 (es := (List.map (fun l => Dat.lst ((List.map intD) l))) p1) (d := (.lst ((List.map intD) v15))) rfl hx rfl rfl ?_
        refine G_run 3 ?_
        obtain ⟨v16, hx, hm⟩ := bind_inv hm
        have hq := w_ref02_Equal _ _ hx []
        refine G_callP hq ?_
        refine G_run 2 ?_
        refine G_end ⟨by kernel_rfl, ?_⟩
        refine R_ret ?_
        obtain rfl := inj1 hm
        exact ⟨trivial, fin_pure (by kernel_rfl)⟩
      replace hm := neg_inv hc hm
      refine G_run 10 ?_
      refine G_end ⟨by kernel_rfl, ?_⟩
      refine R_ret ?_
      obtain rfl := inj1 hm
      exact ⟨trivial, fin_pure (by kernel_rfl)⟩
    replace hm := hs
    clear hs
    refine G_split (p := p0.buffer ≥ 0) 101 (rfl) (fun hc => ?_) (fun hc => ?_)
    · replace hm := pos_inv hc hm
      refine G_run 3 ?_
      refine I_len (fun l => Dat.lst ((List.map intD) l)) p1 (es := (List.map (fun l => Dat.lst ((List.map intD) l))) p1) rfl ?_
      refine G_run 2 ?_
      obtain rfl := inj1 hm
      exact hJ _ _ (by kernel_rfl) (by kernel_rfl)
    replace hm := neg_inv hc hm
    refine G_run 6 ?_
    obtain rfl := inj1 hm
    exact hJ _ _ (by kernel_rfl) (by kernel_rfl)
  replace hm := neg_inv hc hm
  refine R_seq ?_
  refine R_G ?_
  refine G_run 2 ?_
  refine G_end ?_
  refine R_ifp (p := p0.kind = 2) (eq_dec _ _) (fun hc => ?_) (fun hc => ?_)
  · replace hm := pos_inv hc hm
    refine R_seq ?_
    refine R_seq ?_
    refine R_G ?_
    refine G_run 1 ?_
    refine G_end ?_
    refine R_block ?_
    obtain ⟨out, hs, hm⟩ := bind_inv hm
    refine R_loop ?_
    rcases out with _ | _
    · refine RL_use (w_ref14_node_L1 _ _ hs) (by kernel_rfl) ?_
      clear hs
      intro e s hp
      obtain ⟨rfl, d, rfl⟩ := hp
      obtain rfl := inj1 hm
      exact ⟨trivial, fin_pure (by kernel_rfl)⟩
    · refine RL_use (w_ref14_node_L1 _ _ hs) (by kernel_rfl) ?_
      clear hs
      intro e s hp
      obtain ⟨rfl, d, rfl⟩ := hp
      refine R_seq ?_
      refine R_GD ?_
      refine G_run 2 ?_
      refine I_len intD p0.starts (es := (List.map intD) p0.starts) rfl ?_
      refine G_run 2 ?_
      refine I_len intD p0.shape (es := (List.map intD) p0.shape) rfl ?_
      refine G_run 2 ?_
      refine G_split (p := (p0.starts.length : Int) = (p0.shape.length : Int)) 148 (eq_dec _ _) (fun hc => ?_) (fun hc => ?_)
      · replace hm := pos_inv hc hm
        refine G_run 2 ?_
        obtain ⟨v620, hx, hm⟩ := bind_inv hm
        refine I_idx 8 T_ref14_Core.toD p0.kids 0 v620 (es := T_ref14_Core.toDs p0.kids) (d := (T_ref14_Core.ex v620)) (T_ref14_Core.toDs_eq _) hx (T_ref14_Core.toD_eq v620) rfl ?_
        refine G_run 2 ?_
        refine I_len intD v620.shape (es := (List.map intD) v620.shape) rfl ?_
        refine G_run 2 ?_
        refine I_len intD p0.shape (es := (List.map intD) p0.shape) rfl ?_
        refine G_run 3 ?_
        refine G_end ⟨by kernel_rfl, ?_⟩
        refine R_ret ?_
        obtain rfl := inj1 hm
        exact ⟨trivial, fin_pure (by kernel_rfl)⟩
      replace hm := neg_inv hc hm
      refine G_run 12 ?_
      refine G_end ⟨by kernel_rfl, ?_⟩
      refine R_ret ?_
      obtain rfl := inj1 hm
      exact ⟨trivial, fin_pure (by kernel_rfl)⟩
  replace hm := neg_inv hc hm
  refine R_seq ?_
  refine R_G ?_
  refine G_run 2 ?_
  refine G_end ?_
  refine R_ifp (p := p0.kind = 3) (eq_dec _ _) (fun hc => ?_) (fun hc => ?_)
  · replace hm := pos_inv hc hm
    refine R_seq ?_
    refine R_G ?_
    refine G_run 1 ?_
    obtain ⟨v621, hx, hm⟩ := bind_inv hm
    have hq := w_ref14_alike _ _ hx []
    refine G_callP hq ?_
    refine G_run 1 ?_
    refine G_end ?_
    refine R_ret ?_
    obtain rfl := inj1 hm
    exact ⟨trivial, fin_pure (by kernel_rfl)⟩
  replace hm := neg_inv hc hm
  refine R_seq ?_
  refine R_G ?_
  refine G_run 2 ?_
  refine G_end ?_
  refine R_ifp (p := p0.kind = 4) (eq_dec _ _) (fun hc => ?_) (fun hc => ?_)
  · replace hm := pos_inv hc hm
    refine R_seq ?_
    refine R_GW ?_
    refine G_run 1 ?_
    obtain ⟨v622, hx, hm⟩ := bind_inv hm
    have hq := w_ref14_alike _ _ hx []
    refine G_callP hq ?_
    refine G_run 1 ?_
    obtain ⟨v623, hs, hm⟩ := bind_inv hm
    refine G_cut (j := 7) (fun d => ⟨sl d 197 [(1, (.dat (.lst ((List.map (fun l => Dat.lst ((List.map intD) l))) p1)))), (2, (.ptr 0 0)), (93, (boolPV v7)), (94, (.ptr 0 0)), (95, (intPV p0.kind)), (96, (boolPV (p0.kind == 1))), (97, (boolPV (p0.kind == 1))), (118, (boolPV (p0.kind == 2))), (119, (boolPV (p0.kind == 2))), (160, (boolPV (p0.kind == 3))), (161, (boolPV (p0.kind == 3))), (164, (boolPV (p0.kind == 4))), (165, (boolPV (p0.kind == 4))), (166, (.dat (.agg [(intD p0.kind), (.lst ((List.map intD) p0.shape)), (intD p0.buffer), (.lst ((List.map intD) p0.starts)), (intD p0.axis), (intD p0.amount), (.lst ((List.map intD) p0.perm)), (.lst (T_ref14_Core.toDs p0.kids))]))), (167, (boolPV v622)), (172, (boolPV v623))], [(.box [(intPV p0.kind), (.dat (.lst ((List.map intD) p0.shape))), (intPV p0.buffer), (.dat (.lst ((List.map intD) p0.starts))), (intPV p0.axis), (intPV p0.amount), (.dat (.lst ((List.map intD) p0.perm))), (.dat (.lst (T_ref14_Core.toDs p0.kids)))])]⟩) (fun d => ?_) (fun hJ => ?_)
    · clear hs
      refine G_run 1 ?_
      refine G_split (p := v623 = true) 173 (bool_dec _) (fun hc => ?_) (fun hc => ?_)
      · replace hm := pos_inv hc hm
        refine G_run 4 ?_
        refine G_split (p := p0.amount = 0) 177 (eq_dec _ _) (fun hc => ?_) (fun hc => ?_)
        · replace hm := pos_inv hc hm
          refine G_run 12 ?_
          refine G_end ⟨by kernel_rfl, ?_⟩
          refine R_ret ?_
          obtain rfl := inj1 hm
          exact ⟨trivial, fin_pure (by kernel_rfl)⟩
        replace hm := neg_inv hc hm
        refine G_run 6 ?_
        obtain ⟨v624, hx, hm⟩ := bind_inv hm
        refine I_idx 1 intD p0.shape p0.axis v624 (es := (List.map intD) p0.shape) (d := (intD v624)) rfl hx rfl rfl ?_
        refine G_run 5 ?_
        refine G_end ⟨by kernel_rfl, ?_⟩
        refine R_ret ?_
        obtain rfl := inj1 hm
        exact ⟨trivial, fin_pure (by kernel_rfl)⟩
      replace hm := neg_inv hc hm
      refine G_run 16 ?_
      refine G_end ⟨by kernel_rfl, ?_⟩
      refine R_ret ?_
      obtain rfl := inj1 hm
      exact ⟨trivial, fin_pure (by kernel_rfl)⟩
    replace hm := hs
    clear hs
    refine G_split (p := v622 = true) 168 (bool_dec _) (fun hc => ?_) (fun hc => ?_)
    · replace hm := pos_inv hc hm
      refine G_run 4 ?_
      obtain rfl := inj1 hm
      exact hJ _ _ (by kernel_rfl) (by kernel_rfl)
    replace hm := neg_inv hc hm
    refine G_run 4 ?_
    obtain rfl := inj1 hm
    exact hJ _ _ (by kernel_rfl) (by kernel_rfl)
  replace hm := neg_inv hc hm
  refine R_seq ?_
  refine R_G ?_
  refine G_run 2 ?_
  refine G_end ?_
  refine R_ifp (p := p0.kind = 5) (eq_dec _ _) (fun hc => ?_) (fun hc => ?_)
  · replace hm := pos_inv hc hm
    refine R_seq ?_
    refine R_G ?_
    refine G_run 1 ?_
    obtain ⟨v625, hx, hm⟩ := bind_inv hm
    have hq := w_ref14_transposed _ _ hx []
    refine G_callP hq ?_
    refine G_run 1 ?_
    refine G_end ?_
    refine R_ret ?_
    obtain rfl := inj1 hm
    exact ⟨trivial, fin_pure (by kernel_rfl)⟩
  replace hm := neg_inv hc hm
  refine R_seq ?_
  refine R_G ?_
  refine G_run 2 ?_
  refine G_end ?_
  refine R_ifp (p := p0.kind = 7) (eq_dec _ _) (fun hc => ?_) (fun hc => ?_)
  · replace hm := pos_inv hc hm
    refine R_seq ?_
    refine R_G ?_
    refine G_run 1 ?_
    obtain ⟨v626, hx, hm⟩ := bind_inv hm
    have hq := w_ref14_joined _ _ hx []
    refine G_callP hq ?_
    refine G_run 1 ?_
    refine G_end ?_
    refine R_ret ?_
    obtain rfl := inj1 hm
    exact ⟨trivial, fin_pure (by kernel_rfl)⟩
  replace hm := neg_inv hc hm
  refine R_skip ?_
  refine R_seq ?_
  refine R_G ?_
  refine G_run 1 ?_
  refine G_end ?_
  refine R_ret ?_
  obtain rfl := inj1 hm
  exact ⟨trivial, fin_pure (by kernel_rfl)⟩
end Go.Proofs.Tryz
namespace Go.Proofs.Tryz
open Go Go.Pm
set_option linter.unusedVariables false
set_option maxRecDepth 2000
mutual
def m_ref14_nodes_L1 (x : (T_ref14_Core × (List (List Int)) × Int)) : Option (Unit ⊕ Unit) :=
  match x with
  | (p0, p1, v202) =>
  if v202 < (p0.kids.length : Int) then
    idx p0.kids v202 >>= fun v602 =>
    m_ref14_nodes (v602, p1) >>= fun (v603 : Bool) =>
    if v603 = false then
      some (Sum.inl ())
    else
    m_ref14_nodes_L1 (p0, p1, (W (v202 + 1)))
  else
  some (Sum.inr ())
  partial_fixpoint
def m_ref14_nodes (x : (T_ref14_Core × (List (List Int)))) : Option Bool :=
  match x with
  | (p0, p1) =>
  m_ref14_node (p0, p1) >>= fun (v1 : Bool) =>
  if v1 = false then
    some false
  else
  (
  m_ref14_nodes_L1 (p0, p1, 0) >>= fun (out : Unit ⊕ Unit) =>
  match out with
  | .inl _ =>
    some false
  | .inr (_) =>
    some true
  )
  partial_fixpoint
end
def P_ref14_nodes_L1 : (T_ref14_Core × (List (List Int)) × Int) → (Unit ⊕ Unit) → Prop := fun x r => match x with
  | (p0, p1, v202) => ∀ st, prune 1 ((firstRegion (codeAt [1, 1, 0, 1, 0, 0] (bodyOf f73))).bind (env.hint 73).keepAt) st = ⟨kp 25 [(1, (.dat (.lst ((List.map (fun l => Dat.lst ((List.map intD) l))) p1)))), (2, (.ptr 0 0)), (5, (intPV v202))], [(.box [(intPV p0.kind), (.dat (.lst ((List.map intD) p0.shape))), (intPV p0.buffer), (.dat (.lst ((List.map intD) p0.starts))), (intPV p0.axis), (intPV p0.amount), (.dat (.lst ((List.map intD) p0.perm))), (.dat (.lst (T_ref14_Core.toDs p0.kids)))])]⟩ →
    RL prog env (env.hint 73) true (codeAt [1, 1, 0, 1, 0, 0] (bodyOf f73)) 1 st (fun e s => match r with | .inl _ => e = .ret ∧ ∃ d, s = ⟨sl d 25 [(4, (boolPV false))], [(.box [(intPV p0.kind), (.dat (.lst ((List.map intD) p0.shape))), (intPV p0.buffer), (.dat (.lst ((List.map intD) p0.starts))), (intPV p0.axis), (intPV p0.amount), (.dat (.lst ((List.map intD) p0.perm))), (.dat (.lst (T_ref14_Core.toDs p0.kids)))])]⟩ | .inr (_) => e = .exit 0 ∧ ∃ d, s = ⟨sl d 25 [], [(.box [(intPV p0.kind), (.dat (.lst ((List.map intD) p0.shape))), (intPV p0.buffer), (.dat (.lst ((List.map intD) p0.starts))), (intPV p0.axis), (intPV p0.amount), (.dat (.lst ((List.map intD) p0.perm))), (.dat (.lst (T_ref14_Core.toDs p0.kids)))])]⟩)
def P_ref14_nodes : (T_ref14_Core × (List (List Int))) → Bool → Prop := fun x r => match x, r with
  | (p0, p1), r0 => ∀ H, PC prog env 73 ([(T_ref14_Core.ex p0), (.lst ((List.map (fun l => Dat.lst ((List.map intD) l))) p1))].map .dat) H (boolPV r0) H
theorem g_ref14_nodes_L1 : (∀ x r, m_ref14_nodes_L1 x = some r → P_ref14_nodes_L1 x r) ∧ (∀ x r, m_ref14_nodes x = some r → P_ref14_nodes x r) := by
  refine m_ref14_nodes_L1.mutual_partial_correctness P_ref14_nodes_L1 P_ref14_nodes ?_ ?_
  · intro m_ref14_nodes_L1 m_ref14_nodes w_ref14_nodes_L1 w_ref14_nodes x r hm
    unfold P_ref14_nodes_L1
    obtain ⟨p0, p1, v202⟩ := x
    intro st hst
    refine RL_at hst ?_
    clear hst
    refine R_seq ?_
    refine R_seq ?_
    refine R_G ?_
    refine G_run 3 ?_
    refine I_len T_ref14_Core.toD p0.kids (es := T_ref14_Core.toDs p0.kids) (T_ref14_Core.toDs_eq _) ?_
    refine G_run 1 ?_
    refine G_end ?_
    refine R_ifp (p := v202 < (p0.kids.length : Int)) (rfl) (fun hc => ?_) (fun hc => ?_)
    · replace hm := pos_inv hc hm
      refine R_skip ?_
      refine R_seq ?_
      refine R_block ?_
      refine R_seq ?_
      refine R_G ?_
      refine G_run 3 ?_
      obtain ⟨v602, hx, hm⟩ := bind_inv hm
      refine I_idx 8 T_ref14_Core.toD p0.kids v202 v602 (es := T_ref14_Core.toDs p0.kids) (d := (T_ref14_Core.ex v602)) (T_ref14_Core.toDs_eq _) hx (T_ref14_Core.toD_eq v602) rfl ?_
      refine G_run 2 ?_
      obtain ⟨v603, hx, hm⟩ := bind_inv hm
      have hq := w_ref14_nodes _ _ hx []
      refine G_callP hq ?_
      refine G_run 1 ?_
      refine G_end ?_
      refine R_ifp (p := v603 = false) (not_dec _) (fun hc => ?_) (fun hc => ?_)
      · replace hm := pos_inv hc hm
        refine R_seq ?_
        refine R_G ?_
        refine G_run 1 ?_
        refine G_end ?_
        refine R_ret ?_
        obtain rfl := inj1 hm
        exact ⟨rfl, cut_leaf (by kernel_rfl)⟩
      replace hm := neg_inv hc hm
      refine R_skip ?_
      refine R_G ?_
      refine G_run 3 ?_
      refine G_end ?_
      exact w_ref14_nodes_L1 _ _ hm _ (by kernel_rfl)
    replace hm := neg_inv hc hm
    refine R_exit ?_
    obtain rfl := inj1 hm
    exact ⟨rfl, cut_leaf (by kernel_rfl)⟩
  · intro m_ref14_nodes_L1 w_ref14_nodes_L1 x r0 hm
    unfold P_ref14_nodes
    obtain ⟨p0, p1⟩ := x
    intro H
    refine PC_sx (ds := [(T_ref14_Core.ex p0), (.lst ((List.map (fun l => Dat.lst ((List.map intD) l))) p1))]) (fn := f73) (by kernel_rfl) (by kernel_rfl) rfl ?_ (by kernel_rfl)
    refine R_seq ?_
    refine R_G ?_
    refine G_run 2 ?_
    refine G_end ?_
    refine R_seq ?_
    refine R_seq ?_
    refine R_G ?_
    refine G_run 2 ?_
    obtain ⟨v1, hx, hm⟩ := bind_inv hm
    have hq := w_ref14_node _ _ hx []
    refine G_callP hq ?_
    refine G_run 1 ?_
    refine G_end ?_
    refine R_ifp (p := v1 = false) (not_dec _) (fun hc => ?_) (fun hc => ?_)
    · replace hm := pos_inv hc hm
      refine R_seq ?_
      refine R_G ?_
      refine G_run 1 ?_
      refine G_end ?_
      refine R_ret ?_
      obtain rfl := inj1 hm
      exact ⟨trivial, fin_pure (by kernel_rfl)⟩
    replace hm := neg_inv hc hm
    refine R_skip ?_
    refine R_seq ?_
    refine R_seq ?_
    refine R_G ?_
    refine G_run 1 ?_
    refine G_end ?_
    refine R_block ?_
    obtain ⟨out, hs, hm⟩ := bind_inv hm
    refine R_loop ?_
    rcases out with _ | _
    · refine RL_use (w_ref14_nodes_L1 _ _ hs) (by kernel_rfl) ?_
      clear hs
      intro e s hp
      obtain ⟨rfl, d, rfl⟩ := hp
      obtain rfl := inj1 hm
      exact ⟨trivial, fin_pure (by kernel_rfl)⟩
    · refine RL_use (w_ref14_nodes_L1 _ _ hs) (by kernel_rfl) ?_
      clear hs
      intro e s hp
      obtain ⟨rfl, d, rfl⟩ := hp
      refine R_seq ?_
      refine R_G ?_
      refine G_run 1 ?_
      refine G_end ?_
      refine R_ret ?_
      obtain rfl := inj1 hm
      exact ⟨trivial, fin_pure (by kernel_rfl)⟩
theorem w_ref14_nodes_L1 : ∀ x r, m_ref14_nodes_L1 x = some r → P_ref14_nodes_L1 x r := g_ref14_nodes_L1.1
theorem w_ref14_nodes : ∀ x r, m_ref14_nodes x = some r → P_ref14_nodes x r := g_ref14_nodes_L1.2
end Go.Proofs.Tryz
namespace Go.Proofs.Tryz
open Go Go.Pm
set_option linter.unusedVariables false
set_option maxRecDepth 2000
def m_ref14_Right (x : (T_ref14_Core × (List (List Int)))) : Option Bool :=
  match x with
  | (p0, p1) =>
  m_ref14_Depth p0 >>= fun (v1 : Int) =>
  if v1 ≤ 300 then
    m_ref14_nodes (p0, p1) >>= fun (v2 : Bool) =>
    some v2
  else
  some false
def P_ref14_Right : (T_ref14_Core × (List (List Int))) → Bool → Prop := fun x r => match x, r with
  | (p0, p1), r0 => ∀ H, PC prog env 42 ([(T_ref14_Core.ex p0), (.lst ((List.map (fun l => Dat.lst ((List.map intD) l))) p1))].map .dat) H (boolPV r0) H
theorem w_ref14_Right : ∀ x r, m_ref14_Right x = some r → P_ref14_Right x r := by
  intro x r0 hm
  unfold m_ref14_Right at hm
  unfold P_ref14_Right
  obtain ⟨p0, p1⟩ := x
  intro H
  refine PC_sx (ds := [(T_ref14_Core.ex p0), (.lst ((List.map (fun l => Dat.lst ((List.map intD) l))) p1))]) (fn := f42) (by kernel_rfl) (by kernel_rfl) rfl ?_ (by kernel_rfl)
  refine R_seq ?_
  refine R_G ?_
  refine G_run 2 ?_
  refine G_end ?_
  refine R_seq ?_
  refine R_G ?_
  refine G_run 1 ?_
  obtain ⟨v1, hx, hm⟩ := bind_inv hm
  have hq := w_ref14_Depth _ _ hx []
  refine G_callP hq ?_
  refine G_run 2 ?_
  refine G_split (p := v1 ≤ 300) 8 (rfl) (fun hc => ?_) (fun hc => ?_)
  · replace hm := pos_inv hc hm
    refine G_run 2 ?_
    obtain ⟨v2, hx, hm⟩ := bind_inv hm
    have hq := w_ref14_nodes _ _ hx []
    refine G_callP hq ?_
    refine G_run 2 ?_
    refine G_end ?_
    refine R_ret ?_
    obtain rfl := inj1 hm
    exact ⟨trivial, fin_pure (by kernel_rfl)⟩
  replace hm := neg_inv hc hm
  refine G_run 5 ?_
  refine G_end ?_
  refine R_ret ?_
  obtain rfl := inj1 hm
  exact ⟨trivial, fin_pure (by kernel_rfl)⟩
end Go.Proofs.Tryz
namespace Go.Proofs.Tryz
open Go Go.Pm
set_option linter.unusedVariables false
set_option maxRecDepth 2000
def m_ref02_Cells (x : (List Int)) : Option Int :=
  match x with
  | p0 =>
  m_ref02_Check p0 >>= fun (v1 : Int) =>
  if v1 ≠ 0 then
    some 0
  else
  m_ref01_Product p0 >>= fun ((v2, v3) : (Int × Int)) =>
  some v2
def P_ref02_Cells : (List Int) → Int → Prop := fun x r => match x, r with
  | p0, r0 => ∀ H, PC prog env 47 ([(.lst ((List.map intD) p0))].map .dat) H (intPV r0) H
theorem w_ref02_Cells : ∀ x r, m_ref02_Cells x = some r → P_ref02_Cells x r := by
  intro p0 r0 hm
  unfold m_ref02_Cells at hm
  unfold P_ref02_Cells
  intro H
  refine PC_sx (ds := [(.lst ((List.map intD) p0))]) (fn := f47) (by kernel_rfl) (by kernel_rfl) rfl ?_ (by kernel_rfl)
  refine R_seq ?_
  refine R_G ?_
  refine G_run 1 ?_
  refine G_end ?_
  refine R_seq ?_
  refine R_seq ?_
  refine R_G ?_
  refine G_run 1 ?_
  obtain ⟨v1, hx, hm⟩ := bind_inv hm
  have hq := w_ref02_Check _ _ hx []
  refine G_callP hq ?_
  refine G_run 1 ?_
  refine G_end ?_
  refine R_ifp (p := v1 ≠ 0) (ne_dec _ _) (fun hc => ?_) (fun hc => ?_)
  · replace hm := pos_inv hc hm
    refine R_seq ?_
    refine R_G ?_
    refine G_run 1 ?_
    refine G_end ?_
    refine R_ret ?_
    obtain rfl := inj1 hm
    exact ⟨trivial, fin_pure (by kernel_rfl)⟩
  replace hm := neg_inv hc hm
  refine R_skip ?_
  refine R_seq ?_
  refine R_G ?_
  refine G_run 1 ?_
  obtain ⟨⟨v2, v3⟩, hx, hm⟩ := bind_inv hm
  have hq := w_ref01_Product _ _ hx []
  refine G_callP hq ?_
  refine G_run 5 ?_
  refine G_end ?_
  refine R_seq ?_
  refine R_G ?_
  refine G_run 2 ?_
  refine G_end ?_
  refine R_ret ?_
  obtain rfl := inj1 hm
  exact ⟨trivial, fin_pure (by kernel_rfl)⟩
end Go.Proofs.Tryz
namespace Go.Proofs.Tryz
open Go Go.Pm
set_option linter.unusedVariables false
set_option maxRecDepth 2000
def m_ref02_Small_L1 (x : ((List Int) × Int × Int × Int)) : Option (Unit ⊕ Unit) :=
  match x with
  | (p0, p1, v205, v206) =>
  if v206 < (p0.length : Int) then
    idx p0 v206 >>= fun v605 =>
    if (W (v205 * (if v605 < 1 then 1 else v605))) > (W (100 * p1)) then
      some (Sum.inl ())
    else
    m_ref02_Small_L1 (p0, p1, (W (v205 * (if v605 < 1 then 1 else v605))), (W (v206 + 1)))
  else
  some (Sum.inr ())
  partial_fixpoint
def P_ref02_Small_L1 : ((List Int) × Int × Int × Int) → (Unit ⊕ Unit) → Prop := fun x r => match x with
  | (p0, p1, v205, v206) => ∀ st, prune 0 ((firstRegion (codeAt [1, 1, 1, 0, 1, 0, 0] (bodyOf f74))).bind (env.hint 74).keepAt) st = ⟨kp 38 [(0, (.dat (.lst ((List.map intD) p0)))), (1, (intPV p1)), (5, (intPV v205)), (6, (intPV v206))], []⟩ →
    RL prog env (env.hint 74) true (codeAt [1, 1, 1, 0, 1, 0, 0] (bodyOf f74)) 0 st (fun e s => match r with | .inl _ => e = .ret ∧ ∃ d, s = ⟨sl d 38 [(4, (boolPV false))], []⟩ | .inr (_) => e = .exit 0 ∧ ∃ d, s = ⟨sl d 38 [], []⟩)
theorem w_ref02_Small_L1 : ∀ x r, m_ref02_Small_L1 x = some r → P_ref02_Small_L1 x r := by
  refine m_ref02_Small_L1.partial_correctness _ (fun m_ref02_Small_L1 w_ref02_Small_L1 x r hm => ?_)
  unfold P_ref02_Small_L1
  obtain ⟨p0, p1, v205, v206⟩ := x
  intro st hst
  refine RL_at hst ?_
  clear hst
  refine R_seq ?_
  refine R_seq ?_
  refine R_G ?_
  refine G_run 2 ?_
  refine I_len intD p0 (es := (List.map intD) p0) rfl ?_
  refine G_run 1 ?_
  refine G_end ?_
  refine R_ifp (p := v206 < (p0.length : Int)) (rfl) (fun hc => ?_) (fun hc => ?_)
  · replace hm := pos_inv hc hm
    refine R_skip ?_
    refine R_seq ?_
    refine R_block ?_
    refine R_seq ?_
    refine R_G ?_
    refine G_run 3 ?_
    obtain ⟨v605, hx, hm⟩ := bind_inv hm
    refine I_idx 1 intD p0 v206 v605 (es := (List.map intD) p0) (d := (intD v605)) rfl hx rfl rfl ?_
    refine G_run 1 ?_
    refine G_semN rfl (by kernel_rfl) (fun _ => E_max (k := .i64) (m := v605) (n := 1) rfl (by kernel_rfl) (by kernel_rfl)) ?_
    refine G_run 2 ?_
    refine G_end ?_
    refine R_seq ?_
    refine R_G ?_
    refine G_run 4 ?_
    refine G_end ?_
    refine R_ifp (p := (W (v205 * (if v605 < 1 then 1 else v605))) > (W (100 * p1))) (rfl) (fun hc => ?_) (fun hc => ?_)
    · replace hm := pos_inv hc hm
      refine R_seq ?_
      refine R_G ?_
      refine G_run 1 ?_
      refine G_end ?_
      refine R_ret ?_
      obtain rfl := inj1 hm
      exact ⟨rfl, cut_leaf (by kernel_rfl)⟩
    replace hm := neg_inv hc hm
    refine R_skip ?_
    refine R_G ?_
    refine G_run 3 ?_
    refine G_end ?_
    exact w_ref02_Small_L1 _ _ hm _ (by kernel_rfl)
  replace hm := neg_inv hc hm
  refine R_exit ?_
  obtain rfl := inj1 hm
  exact ⟨rfl, cut_leaf (by kernel_rfl)⟩
def m_ref02_Small (x : ((List Int) × Int)) : Option Bool :=
  match x with
  | (p0, p1) =>
  ((if (p0.length : Int) > 6 then
    some true
  else
  m_ref02_Check p0 >>= fun (v3 : Int) =>
  some (v3 != 0)
  ) >>= fun (v2 : Bool) =>
  if v2 = true then
    some true
  else
  m_ref02_Cells p0 >>= fun (v4 : Int) =>
  some (decide (v4 > p1))
  ) >>= fun (v1 : Bool) =>
  if v1 = true then
    some false
  else
  (
  m_ref02_Small_L1 (p0, p1, 1, 0) >>= fun (out : Unit ⊕ Unit) =>
  match out with
  | .inl _ =>
    some false
  | .inr (_) =>
    some true
  )
def P_ref02_Small : ((List Int) × Int) → Bool → Prop := fun x r => match x, r with
  | (p0, p1), r0 => ∀ H, PC prog env 74 ([(.lst ((List.map intD) p0)), (intD p1)].map .dat) H (boolPV r0) H
theorem w_ref02_Small : ∀ x r, m_ref02_Small x = some r → P_ref02_Small x r := by
  intro x r0 hm
  unfold m_ref02_Small at hm
  unfold P_ref02_Small
  obtain ⟨p0, p1⟩ := x
  intro H
  refine PC_sx (ds := [(.lst ((List.map intD) p0)), (intD p1)]) (fn := f74) (by kernel_rfl) (by kernel_rfl) rfl ?_ (by kernel_rfl)
  refine R_seq ?_
  refine R_G ?_
  refine G_run 1 ?_
  refine G_end ?_
  refine R_seq ?_
  refine R_seq ?_
  obtain ⟨v1, hs, hm⟩ := bind_inv hm
  refine R_cut (fun d => ⟨sl d 38 [(0, (.dat (.lst ((List.map intD) p0)))), (1, (intPV p1)), (20, (boolPV v1))], []⟩) ?_ (fun d => ?_)
  · replace hm := hs
    clear hs
    refine R_GN ?_
    refine G_run 1 ?_
    refine I_len intD p0 (es := (List.map intD) p0) rfl ?_
    refine G_run 2 ?_
    obtain ⟨v2, hs, hm⟩ := bind_inv hm
    refine G_cut (j := 8) (fun d => ⟨sl d 38 [(0, (.dat (.lst ((List.map intD) p0)))), (1, (intPV p1)), (4, (boolPV false)), (7, (.dat (.lst ((List.map intD) p0)))), (8, (intPV (p0.length : Int))), (9, (boolPV (decide ((p0.length : Int) > 6)))), (14, (boolPV v2))], []⟩) (fun d => ?_) (fun hJ => ?_)
    · clear hs
      refine G_run 1 ?_
      refine G_split (p := v2 = true) 15 (bool_dec _) (fun hc => ?_) (fun hc => ?_)
      · replace hm := pos_inv hc hm
        refine G_run 5 ?_
        refine G_end ⟨by kernel_rfl, ?_⟩
        obtain rfl := inj1 hm
        exact cut_leaf (by kernel_rfl)
      replace hm := neg_inv hc hm
      refine G_run 1 ?_
      obtain ⟨v4, hx, hm⟩ := bind_inv hm
      have hq := w_ref02_Cells _ _ hx []
      refine G_callP hq ?_
      refine G_run 3 ?_
      refine G_end ⟨by kernel_rfl, ?_⟩
      obtain rfl := inj1 hm
      exact cut_leaf (by kernel_rfl)
    replace hm := hs
    clear hs
    refine G_split (p := (p0.length : Int) > 6) 10 (rfl) (fun hc => ?_) (fun hc => ?_)
    · replace hm := pos_inv hc hm
      refine G_run 4 ?_
      obtain rfl := inj1 hm
      exact hJ _ _ (by kernel_rfl) (by kernel_rfl)
    replace hm := neg_inv hc hm
    refine G_run 1 ?_
    obtain ⟨v3, hx, hm⟩ := bind_inv hm
    have hq := w_ref02_Check _ _ hx []
    refine G_callP hq ?_
    refine G_run 2 ?_
    obtain rfl := inj1 hm
    exact hJ _ _ (by kernel_rfl) (by kernel_rfl)
  clear hs
  refine R_ifp (p := v1 = true) (bool_dec _) (fun hc => ?_) (fun hc => ?_)
  · replace hm := pos_inv hc hm
    refine R_seq ?_
    refine R_G ?_
    refine G_run 1 ?_
    refine G_end ?_
    refine R_ret ?_
    obtain rfl := inj1 hm
    exact ⟨trivial, fin_pure (by kernel_rfl)⟩
  replace hm := neg_inv hc hm
  refine R_skip ?_
  refine R_seq ?_
  refine R_G ?_
  refine G_run 1 ?_
  refine G_end ?_
  refine R_seq ?_
  refine R_seq ?_
  refine R_G ?_
  refine G_run 1 ?_
  refine G_end ?_
  refine R_block ?_
  obtain ⟨out, hs, hm⟩ := bind_inv hm
  refine R_loop ?_
  rcases out with _ | _
  · refine RL_use (w_ref02_Small_L1 _ _ hs) (by kernel_rfl) ?_
    clear hs
    intro e s hp
    obtain ⟨rfl, d, rfl⟩ := hp
    obtain rfl := inj1 hm
    exact ⟨trivial, fin_pure (by kernel_rfl)⟩
  · refine RL_use (w_ref02_Small_L1 _ _ hs) (by kernel_rfl) ?_
    clear hs
    intro e s hp
    obtain ⟨rfl, d, rfl⟩ := hp
    refine R_seq ?_
    refine R_G ?_
    refine G_run 1 ?_
    refine G_end ?_
    refine R_ret ?_
    obtain rfl := inj1 hm
    exact ⟨trivial, fin_pure (by kernel_rfl)⟩
end Go.Proofs.Tryz
namespace Go.Proofs.Tryz
open Go Go.Pm
set_option linter.unusedVariables false
set_option maxRecDepth 2000
mutual
def m_ref14_cells_L1 (x : (T_ref14_Core × Int × Int)) : Option (Unit ⊕ Unit) :=
  match x with
  | (p0, p1, v202) =>
  if v202 < (p0.kids.length : Int) then
    idx p0.kids v202 >>= fun v602 =>
    m_ref14_cells (v602, p1) >>= fun (v603 : Bool) =>
    if v603 = false then
      some (Sum.inl ())
    else
    m_ref14_cells_L1 (p0, p1, (W (v202 + 1)))
  else
  some (Sum.inr ())
  partial_fixpoint
def m_ref14_cells (x : (T_ref14_Core × Int)) : Option Bool :=
  match x with
  | (p0, p1) =>
  m_ref02_Small (p0.shape, p1) >>= fun (v1 : Bool) =>
  if v1 = false then
    some false
  else
  (
  m_ref14_cells_L1 (p0, p1, 0) >>= fun (out : Unit ⊕ Unit) =>
  match out with
  | .inl _ =>
    some false
  | .inr (_) =>
    some true
  )
  partial_fixpoint
end
def P_ref14_cells_L1 : (T_ref14_Core × Int × Int) → (Unit ⊕ Unit) → Prop := fun x r => match x with
  | (p0, p1, v202) => ∀ st, prune 1 ((firstRegion (codeAt [1, 1, 0, 1, 0, 0] (bodyOf f43))).bind (env.hint 43).keepAt) st = ⟨kp 26 [(1, (intPV p1)), (2, (.ptr 0 0)), (5, (intPV v202))], [(.box [(intPV p0.kind), (.dat (.lst ((List.map intD) p0.shape))), (intPV p0.buffer), (.dat (.lst ((List.map intD) p0.starts))), (intPV p0.axis), (intPV p0.amount), (.dat (.lst ((List.map intD) p0.perm))), (.dat (.lst (T_ref14_Core.toDs p0.kids)))])]⟩ →
    RL prog env (env.hint 43) true (codeAt [1, 1, 0, 1, 0, 0] (bodyOf f43)) 1 st (fun e s => match r with | .inl _ => e = .ret ∧ ∃ d, s = ⟨sl d 26 [(4, (boolPV false))], [(.box [(intPV p0.kind), (.dat (.lst ((List.map intD) p0.shape))), (intPV p0.buffer), (.dat (.lst ((List.map intD) p0.starts))), (intPV p0.axis), (intPV p0.amount), (.dat (.lst ((List.map intD) p0.perm))), (.dat (.lst (T_ref14_Core.toDs p0.kids)))])]⟩ | .inr (_) => e = .exit 0 ∧ ∃ d, s = ⟨sl d 26 [], [(.box [(intPV p0.kind), (.dat (.lst ((List.map intD) p0.shape))), (intPV p0.buffer), (.dat (.lst ((List.map intD) p0.starts))), (intPV p0.axis), (intPV p0.amount), (.dat (.lst ((List.map intD) p0.perm))), (.dat (.lst (T_ref14_Core.toDs p0.kids)))])]⟩)
def P_ref14_cells : (T_ref14_Core × Int) → Bool → Prop := fun x r => match x, r with
  | (p0, p1), r0 => ∀ H, PC prog env 43 ([(T_ref14_Core.ex p0), (intD p1)].map .dat) H (boolPV r0) H
theorem g_ref14_cells_L1 : (∀ x r, m_ref14_cells_L1 x = some r → P_ref14_cells_L1 x r) ∧ (∀ x r, m_ref14_cells x = some r → P_ref14_cells x r) := by
  refine m_ref14_cells_L1.mutual_partial_correctness P_ref14_cells_L1 P_ref14_cells ?_ ?_
  · intro m_ref14_cells_L1 m_ref14_cells w_ref14_cells_L1 w_ref14_cells x r hm
    unfold P_ref14_cells_L1
    obtain ⟨p0, p1, v202⟩ := x
    intro st hst
    refine RL_at hst ?_
    clear hst
    refine R_seq ?_
    refine R_seq ?_
    refine R_G ?_
    refine G_run 3 ?_
    refine I_len T_ref14_Core.toD p0.kids (es := T_ref14_Core.toDs p0.kids) (T_ref14_Core.toDs_eq _) ?_
    refine G_run 1 ?_
    refine G_end ?_
    refine R_ifp (p := v202 < (p0.kids.length : Int)) (rfl) (fun hc => ?_) (fun hc => ?_)
    · replace hm := pos_inv hc hm
      refine R_skip ?_
      refine R_seq ?_
      refine R_block ?_
      refine R_seq ?_
      refine R_G ?_
      refine G_run 3 ?_
      obtain ⟨v602, hx, hm⟩ := bind_inv hm
      refine I_idx 8 T_ref14_Core.toD p0.kids v202 v602 (es := T_ref14_Core.toDs p0.kids) (d := (T_ref14_Core.ex v602)) (T_ref14_Core.toDs_eq _) hx (T_ref14_Core.toD_eq v602) rfl ?_
      refine G_run 2 ?_
      obtain ⟨v603, hx, hm⟩ := bind_inv hm
      have hq := w_ref14_cells _ _ hx []
      refine G_callP hq ?_
      refine G_run 1 ?_
      refine G_end ?_
      refine R_ifp (p := v603 = false) (not_dec _) (fun hc => ?_) (fun hc => ?_)
      · replace hm := pos_inv hc hm
        refine R_seq ?_
        refine R_G ?_
        refine G_run 1 ?_
        refine G_end ?_
        refine R_ret ?_
        obtain rfl := inj1 hm
        exact ⟨rfl, cut_leaf (by kernel_rfl)⟩
      replace hm := neg_inv hc hm
      refine R_skip ?_
      refine R_G ?_
      refine G_run 3 ?_
      refine G_end ?_
      exact w_ref14_cells_L1 _ _ hm _ (by kernel_rfl)
    replace hm := neg_inv hc hm
    refine R_exit ?_
    obtain rfl := inj1 hm
    exact ⟨rfl, cut_leaf (by kernel_rfl)⟩
  · intro m_ref14_cells_L1 w_ref14_cells_L1 x r0 hm
    unfold P_ref14_cells
    obtain ⟨p0, p1⟩ := x
    intro H
    refine PC_sx (ds := [(T_ref14_Core.ex p0), (intD p1)]) (fn := f43) (by kernel_rfl) (by kernel_rfl) rfl ?_ (by kernel_rfl)
    refine R_seq ?_
    refine R_G ?_
    refine G_run 2 ?_
    refine G_end ?_
    refine R_seq ?_
    refine R_seq ?_
    refine R_G ?_
    refine G_run 3 ?_
    obtain ⟨v1, hx, hm⟩ := bind_inv hm
    have hq := w_ref02_Small _ _ hx []
    refine G_callP hq ?_
    refine G_run 1 ?_
    refine G_end ?_
    refine R_ifp (p := v1 = false) (not_dec _) (fun hc => ?_) (fun hc => ?_)
    · replace hm := pos_inv hc hm
      refine R_seq ?_
      refine R_G ?_
      refine G_run 1 ?_
      refine G_end ?_
      refine R_ret ?_
      obtain rfl := inj1 hm
      exact ⟨trivial, fin_pure (by kernel_rfl)⟩
    replace hm := neg_inv hc hm
    refine R_skip ?_
    refine R_seq ?_
    refine R_seq ?_
    refine R_G ?_
    refine G_run 1 ?_
    refine G_end ?_
    refine R_block ?_
    obtain ⟨out, hs, hm⟩ := bind_inv hm
    refine R_loop ?_
    rcases out with _ | _
    · refine RL_use (w_ref14_cells_L1 _ _ hs) (by kernel_rfl) ?_
      clear hs
      intro e s hp
      obtain ⟨rfl, d, rfl⟩ := hp
      obtain rfl := inj1 hm
      exact ⟨trivial, fin_pure (by kernel_rfl)⟩
    · refine RL_use (w_ref14_cells_L1 _ _ hs) (by kernel_rfl) ?_
      clear hs
      intro e s hp
      obtain ⟨rfl, d, rfl⟩ := hp
      refine R_seq ?_
      refine R_G ?_
      refine G_run 1 ?_
      refine G_end ?_
      refine R_ret ?_
      obtain rfl := inj1 hm
      exact ⟨trivial, fin_pure (by kernel_rfl)⟩
theorem w_ref14_cells_L1 : ∀ x r, m_ref14_cells_L1 x = some r → P_ref14_cells_L1 x r := g_ref14_cells_L1.1
theorem w_ref14_cells : ∀ x r, m_ref14_cells x = some r → P_ref14_cells x r := g_ref14_cells_L1.2
end Go.Proofs.Tryz
namespace Go.Proofs.Tryz
open Go Go.Pm
set_option linter.unusedVariables false
set_option maxRecDepth 2000
def m_ref14_Small (x : (T_ref14_Core × (List (List Int)) × Int)) : Option Bool :=
  match x with
  | (p0, p1, p2) =>
  (if (p1.length : Int) ≤ 20 then
    m_ref14_Few (p0, 60) >>= fun (v2 : Bool) =>
    some v2
  else
  some false
  ) >>= fun (v1 : Bool) =>
  (if v1 = true then
    m_ref14_Right (p0, p1) >>= fun (v4 : Bool) =>
    some v4
  else
  some false
  ) >>= fun (v3 : Bool) =>
  if v3 = true then
    m_ref14_cells ((⟨p0.kind, p0.shape, p0.buffer, p0.starts, p0.axis, p0.amount, p0.perm, p0.kids⟩ : T_ref14_Core), p2) >>= fun (v5 : Bool) =>
    some v5
  else
  some false
def P_ref14_Small : (T_ref14_Core × (List (List Int)) × Int) → Bool → Prop := fun x r => match x, r with
  | (p0, p1, p2), r0 => ∀ H, PC prog env 16 ([(T_ref14_Core.ex p0), (.lst ((List.map (fun l => Dat.lst ((List.map intD) l))) p1)), (intD p2)].map .dat) H (boolPV r0) H
theorem w_ref14_Small : ∀ x r, m_ref14_Small x = some r → P_ref14_Small x r := by
  intro x r0 hm
  unfold m_ref14_Small at hm
  unfold P_ref14_Small
  obtain ⟨p0, p1, p2⟩ := x
  intro H
  refine PC_sx (ds := [(T_ref14_Core.ex p0), (.lst ((List.map (fun l => Dat.lst ((List.map intD) l))) p1)), (intD p2)]) (fn := f16) (by kernel_rfl) (by kernel_rfl) rfl ?_ (by kernel_rfl)
  refine R_seq ?_
  refine R_G ?_
  refine G_run 2 ?_
  refine G_end ?_
  refine R_seq ?_
  refine R_GN ?_
  refine G_run 1 ?_
  refine I_len (fun l => Dat.lst ((List.map intD) l)) p1 (es := (List.map (fun l => Dat.lst ((List.map intD) l))) p1) rfl ?_
  refine G_run 2 ?_
  obtain ⟨v1, hs, hm⟩ := bind_inv hm
  refine G_cut (j := 7) (fun d => ⟨sl d 24 [(0, (.dat (.agg [(intD p0.kind), (.lst ((List.map intD) p0.shape)), (intD p0.buffer), (.lst ((List.map intD) p0.starts)), (intD p0.axis), (intD p0.amount), (.lst ((List.map intD) p0.perm)), (.lst (T_ref14_Core.toDs p0.kids))]))), (1, (.dat (.lst ((List.map (fun l => Dat.lst ((List.map intD) l))) p1)))), (2, (intPV p2)), (3, (.ptr 0 0)), (6, (boolPV false)), (7, (.dat (.lst ((List.map (fun l => Dat.lst ((List.map intD) l))) p1)))), (8, (intPV (p1.length : Int))), (9, (boolPV (decide ((p1.length : Int) ≤ 20)))), (13, (boolPV v1))], [(.box [(intPV p0.kind), (.dat (.lst ((List.map intD) p0.shape))), (intPV p0.buffer), (.dat (.lst ((List.map intD) p0.starts))), (intPV p0.axis), (intPV p0.amount), (.dat (.lst ((List.map intD) p0.perm))), (.dat (.lst (T_ref14_Core.toDs p0.kids)))])]⟩) (fun d => ?_) (fun hJ => ?_)
  · clear hs
    refine G_run 1 ?_
    obtain ⟨v3, hs, hm⟩ := bind_inv hm
    refine G_cut (j := 12) (fun d => ⟨sl d 24 [(0, (.dat (.agg [(intD p0.kind), (.lst ((List.map intD) p0.shape)), (intD p0.buffer), (.lst ((List.map intD) p0.starts)), (intD p0.axis), (intD p0.amount), (.lst ((List.map intD) p0.perm)), (.lst (T_ref14_Core.toDs p0.kids))]))), (1, (.dat (.lst ((List.map (fun l => Dat.lst ((List.map intD) l))) p1)))), (2, (intPV p2)), (3, (.ptr 0 0)), (6, (boolPV false)), (7, (.dat (.lst ((List.map (fun l => Dat.lst ((List.map intD) l))) p1)))), (8, (intPV (p1.length : Int))), (9, (boolPV (decide ((p1.length : Int) ≤ 20)))), (13, (boolPV v1)), (18, (boolPV v3))], [(.box [(intPV p0.kind), (.dat (.lst ((List.map intD) p0.shape))), (intPV p0.buffer), (.dat (.lst ((List.map intD) p0.starts))), (intPV p0.axis), (intPV p0.amount), (.dat (.lst ((List.map intD) p0.perm))), (.dat (.lst (T_ref14_Core.toDs p0.kids)))])]⟩) (fun d => ?_) (fun hJ => ?_)
    · clear hs
      refine G_run 1 ?_
      refine G_split (p := v3 = true) 19 (bool_dec _) (fun hc => ?_) (fun hc => ?_)
      · replace hm := pos_inv hc hm
        refine G_run 2 ?_
        obtain ⟨v5, hx, hm⟩ := bind_inv hm
        have hq := w_ref14_cells _ _ hx []
        refine G_callP hq ?_
        refine G_run 2 ?_
        refine G_end ⟨by kernel_rfl, ?_⟩
        refine R_ret ?_
        obtain rfl := inj1 hm
        exact ⟨trivial, fin_pure (by kernel_rfl)⟩
      replace hm := neg_inv hc hm
      refine G_run 5 ?_
      refine G_end ⟨by kernel_rfl, ?_⟩
      refine R_ret ?_
      obtain rfl := inj1 hm
      exact ⟨trivial, fin_pure (by kernel_rfl)⟩
    replace hm := hs
    clear hs
    refine G_split (p := v1 = true) 14 (bool_dec _) (fun hc => ?_) (fun hc => ?_)
    · replace hm := pos_inv hc hm
      refine G_run 2 ?_
      obtain ⟨v4, hx, hm⟩ := bind_inv hm
      have hq := w_ref14_Right _ _ hx []
      refine G_callP hq ?_
      refine G_run 1 ?_
      obtain rfl := inj1 hm
      exact hJ _ _ (by kernel_rfl) (by kernel_rfl)
    replace hm := neg_inv hc hm
    refine G_run 4 ?_
    obtain rfl := inj1 hm
    exact hJ _ _ (by kernel_rfl) (by kernel_rfl)
  replace hm := hs
  clear hs
  refine G_split (p := (p1.length : Int) ≤ 20) 10 (rfl) (fun hc => ?_) (fun hc => ?_)
  · replace hm := pos_inv hc hm
    refine G_run 1 ?_
    obtain ⟨v2, hx, hm⟩ := bind_inv hm
    have hq := w_ref14_Few _ _ hx []
    refine G_callP hq ?_
    refine G_run 1 ?_
    obtain rfl := inj1 hm
    exact hJ _ _ (by kernel_rfl) (by kernel_rfl)
  replace hm := neg_inv hc hm
  refine G_run 3 ?_
  obtain rfl := inj1 hm
  exact hJ _ _ (by kernel_rfl) (by kernel_rfl)
end Go.Proofs.Tryz
namespace Go.Proofs.Tryz
open Go Go.Pm
set_option linter.unusedVariables false
set_option maxRecDepth 2000
mutual
def m_law14_Core_L1 (x : (T_ref14_Core × (List T_core_Core) × Int)) : Option ((List T_core_Core)) :=
  match x with
  | (p0, v201, v202) =>
  if v202 < (p0.kids.length : Int) then
    idx p0.kids v202 >>= fun v602 =>
    m_law14_Core v602 >>= fun (v603 : T_core_Core) =>
    app 128 v201 ([v603] : List T_core_Core) >>= fun v604 =>
    m_law14_Core_L1 (p0, v604, (W (v202 + 1)))
  else
  some v201
  partial_fixpoint
def m_law14_Core (x : T_ref14_Core) : Option T_core_Core :=
  match x with
  | p0 =>
  m_law14_Core_L1 (p0, ([] : List T_core_Core), 0) >>= fun (v601 : (List T_core_Core)) =>
  some (⟨p0.kind, p0.shape, p0.buffer, p0.starts, p0.axis, p0.amount, p0.perm, v601⟩ : T_core_Core)
  partial_fixpoint
end
def P_law14_Core_L1 : (T_ref14_Core × (List T_core_Core) × Int) → (List T_core_Core) → Prop := fun x r => match x with
  | (p0, v201, v202) => ∀ st, prune 5 ((firstRegion (codeAt [1, 1, 0, 1, 0, 0] (bodyOf f18))).bind (env.hint 18).keepAt) st = ⟨kp 39 [(1, (.ptr 0 0)), (2, (.ptr 1 0)), (3, (.ptr 3 0)), (4, (intPV v202))], [(.box [(intPV p0.kind), (.dat (.lst ((List.map intD) p0.shape))), (intPV p0.buffer), (.dat (.lst ((List.map intD) p0.starts))), (intPV p0.axis), (intPV p0.amount), (.dat (.lst ((List.map intD) p0.perm))), (.dat (.lst (T_ref14_Core.toDs p0.kids)))]), (.box [(intPV 0), (.dat (.lst ((List.map intD) []))), (intPV 0), (.dat (.lst ((List.map intD) []))), (intPV 0), (intPV 0), (.dat (.lst ((List.map intD) []))), (.dat (.lst (T_core_Core.toDs [])))]), (.tok 39 v201.length), (.box [(intPV p0.kind), (.dat (.lst ((List.map intD) p0.shape))), (intPV p0.buffer), (.dat (.lst ((List.map intD) p0.starts))), (intPV p0.axis), (intPV p0.amount), (.dat (.lst ((List.map intD) p0.perm))), (.vec 2 (T_core_Core.toDs v201))]), (.tok 39 (([] : List T_core_Core).length))]⟩ →
    RL prog env (env.hint 18) true (codeAt [1, 1, 0, 1, 0, 0] (bodyOf f18)) 5 st (fun e s => match r with | v601 => e = .exit 0 ∧ ∃ d, s = ⟨sl d 39 [(2, (.ptr 1 0)), (3, (.ptr 3 0))], [(.box [(intPV p0.kind), (.dat (.lst ((List.map intD) p0.shape))), (intPV p0.buffer), (.dat (.lst ((List.map intD) p0.starts))), (intPV p0.axis), (intPV p0.amount), (.dat (.lst ((List.map intD) p0.perm))), (.dat (.lst (T_ref14_Core.toDs p0.kids)))]), (.box [(intPV 0), (.dat (.lst ((List.map intD) []))), (intPV 0), (.dat (.lst ((List.map intD) []))), (intPV 0), (intPV 0), (.dat (.lst ((List.map intD) []))), (.dat (.lst (T_core_Core.toDs [])))]), (.tok 39 v601.length), (.box [(intPV p0.kind), (.dat (.lst ((List.map intD) p0.shape))), (intPV p0.buffer), (.dat (.lst ((List.map intD) p0.starts))), (intPV p0.axis), (intPV p0.amount), (.dat (.lst ((List.map intD) p0.perm))), (.vec 2 (T_core_Core.toDs v601))]), (.tok 39 (([] : List T_core_Core).length))]⟩)
def P_law14_Core : T_ref14_Core → T_core_Core → Prop := fun x r => match x, r with
  | p0, r0 => ∀ H, PC prog env 18 ([(T_ref14_Core.ex p0)].map .dat) H (.dat (T_core_Core.ex r0)) H
theorem g_law14_Core_L1 : (∀ x r, m_law14_Core_L1 x = some r → P_law14_Core_L1 x r) ∧ (∀ x r, m_law14_Core x = some r → P_law14_Core x r) := by
  refine m_law14_Core_L1.mutual_partial_correctness P_law14_Core_L1 P_law14_Core ?_ ?_
  · intro m_law14_Core_L1 m_law14_Core w_law14_Core_L1 w_law14_Core x r hm
    unfold P_law14_Core_L1
    obtain ⟨p0, v201, v202⟩ := x
    intro st hst
    refine RL_at hst ?_
    clear hst
    refine R_seq ?_
    refine R_seq ?_
    refine R_G ?_
    refine G_run 3 ?_
    refine I_len T_ref14_Core.toD p0.kids (es := T_ref14_Core.toDs p0.kids) (T_ref14_Core.toDs_eq _) ?_
    refine G_run 1 ?_
    refine G_end ?_
    refine R_ifp (p := v202 < (p0.kids.length : Int)) (rfl) (fun hc => ?_) (fun hc => ?_)
    · replace hm := pos_inv hc hm
      refine R_skip ?_
      refine R_seq ?_
      refine R_block ?_
      refine R_GD ?_
      refine G_run 5 ?_
      obtain ⟨v602, hx, hm⟩ := bind_inv hm
      refine I_idx 8 T_ref14_Core.toD p0.kids v202 v602 (es := T_ref14_Core.toDs p0.kids) (d := (T_ref14_Core.ex v602)) (T_ref14_Core.toDs_eq _) hx (T_ref14_Core.toD_eq v602) rfl ?_
      refine G_run 1 ?_
      obtain ⟨v603, hx, hm⟩ := bind_inv hm
      have hq := w_law14_Core _ _ hx []
      refine G_callP hq ?_
      refine G_run 1 ?_
      obtain ⟨v604, hx, hm⟩ := bind_inv hm
      refine I_app 39 8 128 2 T_core_Core.toD v201 ([v603] : List T_core_Core) v604 (xs := T_core_Core.toDs v201) (es := [(T_core_Core.ex v603)]) (L := T_core_Core.toDs) T_core_Core.toDs_eq rfl (by simp only [T_core_Core.toDs, T_core_Core.toD_eq]) T_core_Core.fit hx ?_
      refine G_run 2 ?_
      refine G_end ⟨by kernel_rfl, ?_⟩
      refine R_G ?_
      refine G_run 3 ?_
      refine G_end ?_
      exact w_law14_Core_L1 _ _ hm _ (by kernel_rfl)
    replace hm := neg_inv hc hm
    refine R_exit ?_
    obtain rfl := inj1 hm
    exact ⟨rfl, cut_leaf (by kernel_rfl)⟩
  · intro m_law14_Core_L1 w_law14_Core_L1 p0 r0 hm
    unfold P_law14_Core
    intro H
    refine PC_sx (ds := [(T_ref14_Core.ex p0)]) (fn := f18) (by kernel_rfl) (by kernel_rfl) rfl ?_ (by kernel_rfl)
    refine R_seq ?_
    refine R_G ?_
    refine G_run 2 ?_
    refine G_end ?_
    refine R_seq ?_
    refine R_G ?_
    refine G_run 17 ?_
    refine G_end ?_
    refine R_seq ?_
    refine R_seq ?_
    refine R_G ?_
    refine G_run 1 ?_
    refine G_end ?_
    refine R_block ?_
    obtain ⟨v601, hs, hm⟩ := bind_inv hm
    refine R_loop ?_
    refine RL_use (w_law14_Core_L1 _ _ hs) (by kernel_rfl) ?_
    clear hs
    intro e s hp
    obtain ⟨rfl, d, rfl⟩ := hp
    refine R_seq ?_
    refine R_G ?_
    refine G_run 2 ?_
    refine G_end ?_
    refine R_ret ?_
    obtain rfl := inj1 hm
    exact ⟨trivial, fin_pure (by kernel_rfl)⟩
theorem w_law14_Core_L1 : ∀ x r, m_law14_Core_L1 x = some r → P_law14_Core_L1 x r := g_law14_Core_L1.1
theorem w_law14_Core : ∀ x r, m_law14_Core x = some r → P_law14_Core x r := g_law14_Core_L1.2
end Go.Proofs.Tryz
namespace Go.Proofs.Tryz
open Go Go.Pm
set_option linter.unusedVariables false
set_option maxRecDepth 2000
def m_gamma_Valid_L1 (x : ((List Int) × (List Int) × Int)) : Option (Unit ⊕ Unit) :=
  match x with
  | (p1, p0, v201) =>
  if v201 < (p1.length : Int) then
    idx p1 v201 >>= fun v601 =>
    (if v601 < 0 then
      some true
    else
    idx p0 v201 >>= fun v603 =>
    some (decide (v601 ≥ v603))
    ) >>= fun (v602 : Bool) =>
    if v602 = true then
      some (Sum.inl ())
    else
    m_gamma_Valid_L1 (p1, p0, (W (v201 + 1)))
  else
  some (Sum.inr ())
  partial_fixpoint
def P_gamma_Valid_L1 : ((List Int) × (List Int) × Int) → (Unit ⊕ Unit) → Prop := fun x r => match x with
  | (p1, p0, v201) => ∀ st, prune 0 ((firstRegion (codeAt [1, 1, 0, 1, 0, 0] (bodyOf f48))).bind (env.hint 48).keepAt) st = ⟨kp 30 [(0, (.dat (.lst ((List.map intD) p0)))), (12, (.dat (.lst ((List.map intD) p1)))), (13, (intPV (p1.length : Int))), (14, (intPV v201))], []⟩ →
    RL prog env (env.hint 48) true (codeAt [1, 1, 0, 1, 0, 0] (bodyOf f48)) 0 st (fun e s => match r with | .inl _ => e = .ret ∧ ∃ d, s = ⟨sl d 30 [(4, (boolPV false))], []⟩ | .inr (_) => e = .exit 0 ∧ ∃ d, s = ⟨sl d 30 [], []⟩)
theorem w_gamma_Valid_L1 : ∀ x r, m_gamma_Valid_L1 x = some r → P_gamma_Valid_L1 x r := by
  refine m_gamma_Valid_L1.partial_correctness _ (fun m_gamma_Valid_L1 w_gamma_Valid_L1 x r hm => ?_)
  unfold P_gamma_Valid_L1
  obtain ⟨p1, p0, v201⟩ := x
  intro st hst
  refine RL_at hst ?_
  clear hst
  refine R_seq ?_
  refine R_G ?_
  refine G_run 1 ?_
  refine G_end ?_
  refine R_seq ?_
  refine R_ifp (p := v201 < (p1.length : Int)) (rfl) (fun hc => ?_) (fun hc => ?_)
  · replace hm := pos_inv hc hm
    refine R_skip ?_
    refine R_seq ?_
    refine R_block ?_
    refine R_seq ?_
    refine R_G ?_
    refine G_run 1 ?_
    obtain ⟨v601, hx, hm⟩ := bind_inv hm
    refine I_idx 1 intD p1 v201 v601 (es := (List.map intD) p1) (d := (intD v601)) rfl hx rfl rfl ?_
    refine G_run 3 ?_
    refine G_end ?_
    refine R_seq ?_
    obtain ⟨v602, hs, hm⟩ := bind_inv hm
    refine R_cut (fun d => ⟨sl d 30 [(0, (.dat (.lst ((List.map intD) p0)))), (12, (.dat (.lst ((List.map intD) p1)))), (13, (intPV (p1.length : Int))), (14, (intPV v201)), (28, (boolPV v602))], []⟩) ?_ (fun d => ?_)
    · replace hm := hs
      clear hs
      refine R_G ?_
      refine G_run 3 ?_
      refine G_split (p := v601 < 0) 21 (rfl) (fun hc => ?_) (fun hc => ?_)
      · replace hm := pos_inv hc hm
        refine G_run 7 ?_
        refine G_end ?_
        obtain rfl := inj1 hm
        exact cut_leaf (by kernel_rfl)
      replace hm := neg_inv hc hm
      refine G_run 3 ?_
      obtain ⟨v603, hx, hm⟩ := bind_inv hm
      refine I_idx 1 intD p0 v201 v603 (es := (List.map intD) p0) (d := (intD v603)) rfl hx rfl rfl ?_
      refine G_run 3 ?_
      refine G_end ?_
      obtain rfl := inj1 hm
      exact cut_leaf (by kernel_rfl)
    clear hs
    refine R_ifp (p := v602 = true) (bool_dec _) (fun hc => ?_) (fun hc => ?_)
    · replace hm := pos_inv hc hm
      refine R_seq ?_
      refine R_G ?_
      refine G_run 1 ?_
      refine G_end ?_
      refine R_ret ?_
      obtain rfl := inj1 hm
      exact ⟨rfl, cut_leaf (by kernel_rfl)⟩
    replace hm := neg_inv hc hm
    refine R_skip ?_
    refine R_G ?_
    refine G_run 2 ?_
    refine G_end ?_
    exact w_gamma_Valid_L1 _ _ hm _ (by kernel_rfl)
  replace hm := neg_inv hc hm
  refine R_exit ?_
  obtain rfl := inj1 hm
  exact ⟨rfl, cut_leaf (by kernel_rfl)⟩
def m_gamma_Valid (x : ((List Int) × (List Int))) : Option Bool :=
  match x with
  | (p0, p1) =>
  if (p1.length : Int) ≠ (p0.length : Int) then
    some false
  else
  (
  m_gamma_Valid_L1 (p1, p0, 0) >>= fun (out : Unit ⊕ Unit) =>
  match out with
  | .inl _ =>
    some false
  | .inr (_) =>
    some true
  )
def P_gamma_Valid : ((List Int) × (List Int)) → Bool → Prop := fun x r => match x, r with
  | (p0, p1), r0 => ∀ H, PC prog env 48 ([(.lst ((List.map intD) p0)), (.lst ((List.map intD) p1))].map .dat) H (boolPV r0) H
theorem w_gamma_Valid : ∀ x r, m_gamma_Valid x = some r → P_gamma_Valid x r := by
  intro x r0 hm
  unfold m_gamma_Valid at hm
  unfold P_gamma_Valid
  obtain ⟨p0, p1⟩ := x
  intro H
  refine PC_sx (ds := [(.lst ((List.map intD) p0)), (.lst ((List.map intD) p1))]) (fn := f48) (by kernel_rfl) (by kernel_rfl) rfl ?_ (by kernel_rfl)
  refine R_seq ?_
  refine R_G ?_
  refine G_run 1 ?_
  refine G_end ?_
  refine R_seq ?_
  refine R_seq ?_
  refine R_G ?_
  refine G_run 1 ?_
  refine I_len intD p1 (es := (List.map intD) p1) rfl ?_
  refine G_run 1 ?_
  refine I_len intD p0 (es := (List.map intD) p0) rfl ?_
  refine G_run 1 ?_
  refine G_end ?_
  refine R_ifp (p := (p1.length : Int) ≠ (p0.length : Int)) (ne_dec _ _) (fun hc => ?_) (fun hc => ?_)
  · replace hm := pos_inv hc hm
    refine R_seq ?_
    refine R_G ?_
    refine G_run 1 ?_
    refine G_end ?_
    refine R_ret ?_
    obtain rfl := inj1 hm
    exact ⟨trivial, fin_pure (by kernel_rfl)⟩
  replace hm := neg_inv hc hm
  refine R_skip ?_
  refine R_seq ?_
  refine R_seq ?_
  refine R_G ?_
  refine G_run 1 ?_
  refine I_len intD p1 (es := (List.map intD) p1) rfl ?_
  refine G_run 1 ?_
  refine G_end ?_
  refine R_block ?_
  obtain ⟨out, hs, hm⟩ := bind_inv hm
  refine R_loop ?_
  rcases out with _ | _
  · refine RL_use (w_gamma_Valid_L1 _ _ hs) (by kernel_rfl) ?_
    clear hs
    intro e s hp
    obtain ⟨rfl, d, rfl⟩ := hp
    obtain rfl := inj1 hm
    exact ⟨trivial, fin_pure (by kernel_rfl)⟩
  · refine RL_use (w_gamma_Valid_L1 _ _ hs) (by kernel_rfl) ?_
    clear hs
    intro e s hp
    obtain ⟨rfl, d, rfl⟩ := hp
    refine R_seq ?_
    refine R_G ?_
    refine G_run 1 ?_
    refine G_end ?_
    refine R_ret ?_
    obtain rfl := inj1 hm
    exact ⟨trivial, fin_pure (by kernel_rfl)⟩
end Go.Proofs.Tryz
namespace Go.Proofs.Tryz
open Go Go.Pm
set_option linter.unusedVariables false
set_option maxRecDepth 2000
def m_size_check_1 (x : Int) : Option Bool :=
  match x with
  | p0 =>
  some (decide (p0 < 0))
def P_size_check_1 : Int → Bool → Prop := fun x r => match x, r with
  | p0, r0 => ∀ H, PC prog env 153 ([(intD p0)].map .dat) H (boolPV r0) H
theorem w_size_check_1 : ∀ x r, m_size_check_1 x = some r → P_size_check_1 x r := by
  intro p0 r0 hm
  unfold m_size_check_1 at hm
  unfold P_size_check_1
  intro H
  refine PC_sx (ds := [(intD p0)]) (fn := f153) (by kernel_rfl) (by kernel_rfl) rfl ?_ (by kernel_rfl)
  refine R_seq ?_
  refine R_G ?_
  refine G_run 1 ?_
  refine G_end ?_
  refine R_seq ?_
  refine R_G ?_
  refine G_run 3 ?_
  refine G_end ?_
  refine R_ret ?_
  obtain rfl := inj1 hm
  exact ⟨trivial, fin_pure (by kernel_rfl)⟩
end Go.Proofs.Tryz
namespace Go.Proofs.Tryz
open Go Go.Pm
set_option linter.unusedVariables false
set_option maxRecDepth 2000
def m_slices_IndexFunc_int_int_size_check_1_L1 (x : ((List Int) × Int)) : Option (Int ⊕ Unit) :=
  match x with
  | (p0, v201) =>
  if v201 < (p0.length : Int) then
    idx p0 v201 >>= fun v602 =>
    m_size_check_1 v602 >>= fun (v603 : Bool) =>
    if v603 = true then
      some (Sum.inl v201)
    else
    m_slices_IndexFunc_int_int_size_check_1_L1 (p0, (W (v201 + 1)))
  else
  some (Sum.inr ())
  partial_fixpoint
def P_slices_IndexFunc_int_int_size_check_1_L1 : ((List Int) × Int) → (Int ⊕ Unit) → Prop := fun x r => match x with
  | (p0, v201) => ∀ st, prune 0 ((firstRegion (codeAt [1, 0, 1, 0, 0] (bodyOf f184))).bind (env.hint 184).keepAt) st = ⟨kp 19 [(0, (.dat (.lst ((List.map intD) p0)))), (1, (.dat (.raw (.func (.func 153) #[] #[])))), (7, (intPV (p0.length : Int))), (8, (intPV v201))], []⟩ →
    RL prog env (env.hint 184) true (codeAt [1, 0, 1, 0, 0] (bodyOf f184)) 0 st (fun e s => match r with | .inl v601 => e = .ret ∧ ∃ d, s = ⟨sl d 19 [(4, (intPV v601))], []⟩ | .inr (_) => e = .exit 0 ∧ ∃ d, s = ⟨sl d 19 [], []⟩)
theorem w_slices_IndexFunc_int_int_size_check_1_L1 : ∀ x r, m_slices_IndexFunc_int_int_size_check_1_L1 x = some r → P_slices_IndexFunc_int_int_size_check_1_L1 x r := by
  refine m_slices_IndexFunc_int_int_size_check_1_L1.partial_correctness _ (fun m_slices_IndexFunc_int_int_size_check_1_L1 w_slices_IndexFunc_int_int_size_check_1_L1 x r hm => ?_)
  unfold P_slices_IndexFunc_int_int_size_check_1_L1
  obtain ⟨p0, v201⟩ := x
  intro st hst
  refine RL_at hst ?_
  clear hst
  refine R_seq ?_
  refine R_G ?_
  refine G_run 1 ?_
  refine G_end ?_
  refine R_seq ?_
  refine R_ifp (p := v201 < (p0.length : Int)) (rfl) (fun hc => ?_) (fun hc => ?_)
  · replace hm := pos_inv hc hm
    refine R_skip ?_
    refine R_seq ?_
    refine R_block ?_
    refine R_seq ?_
    refine R_G ?_
    refine G_run 2 ?_
    refine G_end ?_
    refine R_seq ?_
    refine R_G ?_
    refine G_run 3 ?_
    obtain ⟨v602, hx, hm⟩ := bind_inv hm
    refine I_idx 1 intD p0 v201 v602 (es := (List.map intD) p0) (d := (intD v602)) rfl hx rfl rfl ?_
    refine G_run 1 ?_
    obtain ⟨v603, hx, hm⟩ := bind_inv hm
    have hq := w_size_check_1 _ _ hx []
    refine G_callP hq ?_
    refine G_end ?_
    refine R_ifp (p := v603 = true) (bool_dec _) (fun hc => ?_) (fun hc => ?_)
    · replace hm := pos_inv hc hm
      refine R_seq ?_
      refine R_G ?_
      refine G_run 2 ?_
      refine G_end ?_
      refine R_ret ?_
      obtain rfl := inj1 hm
      exact ⟨rfl, cut_leaf (by kernel_rfl)⟩
    replace hm := neg_inv hc hm
    refine R_skip ?_
    refine R_G ?_
    refine G_run 2 ?_
    refine G_end ?_
    exact w_slices_IndexFunc_int_int_size_check_1_L1 _ _ hm _ (by kernel_rfl)
  replace hm := neg_inv hc hm
  refine R_exit ?_
  obtain rfl := inj1 hm
  exact ⟨rfl, cut_leaf (by kernel_rfl)⟩
def m_slices_IndexFunc_int_int_size_check_1 (x : (List Int)) : Option Int :=
  match x with
  | p0 =>
  (
  m_slices_IndexFunc_int_int_size_check_1_L1 (p0, 0) >>= fun (out : Int ⊕ Unit) =>
  match out with
  | .inl v601 =>
    some v601
  | .inr (_) =>
    some (-1)
  )
def P_slices_IndexFunc_int_int_size_check_1 : (List Int) → Int → Prop := fun x r => match x, r with
  | p0, r0 => ∀ H, PC prog env 184 ([(.lst ((List.map intD) p0)), (.raw (.func (.func 153) #[] #[]))].map .dat) H (intPV r0) H
theorem w_slices_IndexFunc_int_int_size_check_1 : ∀ x r, m_slices_IndexFunc_int_int_size_check_1 x = some r → P_slices_IndexFunc_int_int_size_check_1 x r := by
  intro p0 r0 hm
  unfold m_slices_IndexFunc_int_int_size_check_1 at hm
  unfold P_slices_IndexFunc_int_int_size_check_1
  intro H
  refine PC_sx (ds := [(.lst ((List.map intD) p0)), (.raw (.func (.func 153) #[] #[]))]) (fn := f184) (by kernel_rfl) (by kernel_rfl) rfl ?_ (by kernel_rfl)
  refine R_seq ?_
  refine R_G ?_
  refine G_run 1 ?_
  refine G_end ?_
  refine R_seq ?_
  refine R_seq ?_
  refine R_G ?_
  refine G_run 1 ?_
  refine I_len intD p0 (es := (List.map intD) p0) rfl ?_
  refine G_run 1 ?_
  refine G_end ?_
  refine R_block ?_
  obtain ⟨out, hs, hm⟩ := bind_inv hm
  refine R_loop ?_
  rcases out with v601 | _
  · refine RL_use (w_slices_IndexFunc_int_int_size_check_1_L1 _ _ hs) (by kernel_rfl) ?_
    clear hs
    intro e s hp
    obtain ⟨rfl, d, rfl⟩ := hp
    obtain rfl := inj1 hm
    exact ⟨trivial, fin_pure (by kernel_rfl)⟩
  · refine RL_use (w_slices_IndexFunc_int_int_size_check_1_L1 _ _ hs) (by kernel_rfl) ?_
    clear hs
    intro e s hp
    obtain ⟨rfl, d, rfl⟩ := hp
    refine R_seq ?_
    refine R_G ?_
    refine G_run 1 ?_
    refine G_end ?_
    refine R_ret ?_
    obtain rfl := inj1 hm
    exact ⟨trivial, fin_pure (by kernel_rfl)⟩
end Go.Proofs.Tryz
namespace Go.Proofs.Tryz
open Go Go.Pm
set_option linter.unusedVariables false
set_option maxRecDepth 2000
def m_slices_ContainsFunc_int_int_size_check_1 (x : (List Int)) : Option Bool :=
  match x with
  | p0 =>
  m_slices_IndexFunc_int_int_size_check_1 p0 >>= fun (v1 : Int) =>
  some (decide (v1 ≥ 0))
def P_slices_ContainsFunc_int_int_size_check_1 : (List Int) → Bool → Prop := fun x r => match x, r with
  | p0, r0 => ∀ H, PC prog env 152 ([(.lst ((List.map intD) p0)), (.raw (.func (.func 153) #[] #[]))].map .dat) H (boolPV r0) H
theorem w_slices_ContainsFunc_int_int_size_check_1 : ∀ x r, m_slices_ContainsFunc_int_int_size_check_1 x = some r → P_slices_ContainsFunc_int_int_size_check_1 x r := by
  intro p0 r0 hm
  unfold m_slices_ContainsFunc_int_int_size_check_1 at hm
  unfold P_slices_ContainsFunc_int_int_size_check_1
  intro H
  refine PC_sx (ds := [(.lst ((List.map intD) p0)), (.raw (.func (.func 153) #[] #[]))]) (fn := f152) (by kernel_rfl) (by kernel_rfl) rfl ?_ (by kernel_rfl)
  refine R_seq ?_
  refine R_G ?_
  refine G_run 1 ?_
  refine G_end ?_
  refine R_seq ?_
  refine R_G ?_
  refine G_run 2 ?_
  obtain ⟨v1, hx, hm⟩ := bind_inv hm
  have hq := w_slices_IndexFunc_int_int_size_check_1 _ _ hx []
  refine G_callP hq ?_
  refine G_run 2 ?_
  refine G_end ?_
  refine R_ret ?_
  obtain rfl := inj1 hm
  exact ⟨trivial, fin_pure (by kernel_rfl)⟩
end Go.Proofs.Tryz
namespace Go.Proofs.Tryz
open Go Go.Pm
set_option linter.unusedVariables false
set_option maxRecDepth 2000
def m_size_check_2 (x : Int) : Option Bool :=
  match x with
  | p0 =>
  some (decide (p0 > 65536))
def P_size_check_2 : Int → Bool → Prop := fun x r => match x, r with
  | p0, r0 => ∀ H, PC prog env 154 ([(intD p0)].map .dat) H (boolPV r0) H
theorem w_size_check_2 : ∀ x r, m_size_check_2 x = some r → P_size_check_2 x r := by
  intro p0 r0 hm
  unfold m_size_check_2 at hm
  unfold P_size_check_2
  intro H
  refine PC_sx (ds := [(intD p0)]) (fn := f154) (by kernel_rfl) (by kernel_rfl) rfl ?_ (by kernel_rfl)
  refine R_seq ?_
  refine R_G ?_
  refine G_run 1 ?_
  refine G_end ?_
  refine R_seq ?_
  refine R_G ?_
  refine G_run 3 ?_
  refine G_end ?_
  refine R_ret ?_
  obtain rfl := inj1 hm
  exact ⟨trivial, fin_pure (by kernel_rfl)⟩
end Go.Proofs.Tryz
namespace Go.Proofs.Tryz
open Go Go.Pm
set_option linter.unusedVariables false
set_option maxRecDepth 2000
def m_slices_IndexFunc_int_int_size_check_2_L1 (x : ((List Int) × Int)) : Option (Int ⊕ Unit) :=
  match x with
  | (p0, v201) =>
  if v201 < (p0.length : Int) then
    idx p0 v201 >>= fun v602 =>
    m_size_check_2 v602 >>= fun (v603 : Bool) =>
    if v603 = true then
      some (Sum.inl v201)
    else
    m_slices_IndexFunc_int_int_size_check_2_L1 (p0, (W (v201 + 1)))
  else
  some (Sum.inr ())
  partial_fixpoint
def P_slices_IndexFunc_int_int_size_check_2_L1 : ((List Int) × Int) → (Int ⊕ Unit) → Prop := fun x r => match x with
  | (p0, v201) => ∀ st, prune 0 ((firstRegion (codeAt [1, 0, 1, 0, 0] (bodyOf f184))).bind (env.hint 184).keepAt) st = ⟨kp 19 [(0, (.dat (.lst ((List.map intD) p0)))), (1, (.dat (.raw (.func (.func 154) #[] #[])))), (7, (intPV (p0.length : Int))), (8, (intPV v201))], []⟩ →
    RL prog env (env.hint 184) true (codeAt [1, 0, 1, 0, 0] (bodyOf f184)) 0 st (fun e s => match r with | .inl v601 => e = .ret ∧ ∃ d, s = ⟨sl d 19 [(4, (intPV v601))], []⟩ | .inr (_) => e = .exit 0 ∧ ∃ d, s = ⟨sl d 19 [], []⟩)
theorem w_slices_IndexFunc_int_int_size_check_2_L1 : ∀ x r, m_slices_IndexFunc_int_int_size_check_2_L1 x = some r → P_slices_IndexFunc_int_int_size_check_2_L1 x r := by
  refine m_slices_IndexFunc_int_int_size_check_2_L1.partial_correctness _ (fun m_slices_IndexFunc_int_int_size_check_2_L1 w_slices_IndexFunc_int_int_size_check_2_L1 x r hm => ?_)
  unfold P_slices_IndexFunc_int_int_size_check_2_L1
  obtain ⟨p0, v201⟩ := x
  intro st hst
  refine RL_at hst ?_
  clear hst
  refine R_seq ?_
  refine R_G ?_
  refine G_run 1 ?_
  refine G_end ?_
  refine R_seq ?_
  refine R_ifp (p := v201 < (p0.length : Int)) (rfl) (fun hc => ?_) (fun hc => ?_)
  · replace hm := pos_inv hc hm
    refine R_skip ?_
    refine R_seq ?_
    refine R_block ?_
    refine R_seq ?_
    refine R_G ?_
    refine G_run 2 ?_
    refine G_end ?_
    refine R_seq ?_
    refine R_G ?_
    refine G_run 3 ?_
    obtain ⟨v602, hx, hm⟩ := bind_inv hm
    refine I_idx 1 intD p0 v201 v602 (es := (List.map intD) p0) (d := (intD v602)) rfl hx rfl rfl ?_
    refine G_run 1 ?_
    obtain ⟨v603, hx, hm⟩ := bind_inv hm
    have hq := w_size_check_2 _ _ hx []
    refine G_callP hq ?_
    refine G_end ?_
    refine R_ifp (p := v603 = true) (bool_dec _) (fun hc => ?_) (fun hc => ?_)
    · replace hm := pos_inv hc hm
      refine R_seq ?_
      refine R_G ?_
      refine G_run 2 ?_
      refine G_end ?_
      refine R_ret ?_
      obtain rfl := inj1 hm
      exact ⟨rfl, cut_leaf (by kernel_rfl)⟩
    replace hm := neg_inv hc hm
    refine R_skip ?_
    refine R_G ?_
    refine G_run 2 ?_
    refine G_end ?_
    exact w_slices_IndexFunc_int_int_size_check_2_L1 _ _ hm _ (by kernel_rfl)
  replace hm := neg_inv hc hm
  refine R_exit ?_
  obtain rfl := inj1 hm
  exact ⟨rfl, cut_leaf (by kernel_rfl)⟩
def m_slices_IndexFunc_int_int_size_check_2 (x : (List Int)) : Option Int :=
  match x with
  | p0 =>
  (
  m_slices_IndexFunc_int_int_size_check_2_L1 (p0, 0) >>= fun (out : Int ⊕ Unit) =>
  match out with
  | .inl v601 =>
    some v601
  | .inr (_) =>
    some (-1)
  )
def P_slices_IndexFunc_int_int_size_check_2 : (List Int) → Int → Prop := fun x r => match x, r with
  | p0, r0 => ∀ H, PC prog env 184 ([(.lst ((List.map intD) p0)), (.raw (.func (.func 154) #[] #[]))].map .dat) H (intPV r0) H
theorem w_slices_IndexFunc_int_int_size_check_2 : ∀ x r, m_slices_IndexFunc_int_int_size_check_2 x = some r → P_slices_IndexFunc_int_int_size_check_2 x r := by
  intro p0 r0 hm
  unfold m_slices_IndexFunc_int_int_size_check_2 at hm
  unfold P_slices_IndexFunc_int_int_size_check_2
  intro H
  refine PC_sx (ds := [(.lst ((List.map intD) p0)), (.raw (.func (.func 154) #[] #[]))]) (fn := f184) (by kernel_rfl) (by kernel_rfl) rfl ?_ (by kernel_rfl)
  refine R_seq ?_
  refine R_G ?_
  refine G_run 1 ?_
  refine G_end ?_
  refine R_seq ?_
  refine R_seq ?_
  refine R_G ?_
  refine G_run 1 ?_
  refine I_len intD p0 (es := (List.map intD) p0) rfl ?_
  refine G_run 1 ?_
  refine G_end ?_
  refine R_block ?_
  obtain ⟨out, hs, hm⟩ := bind_inv hm
  refine R_loop ?_
  rcases out with v601 | _
  · refine RL_use (w_slices_IndexFunc_int_int_size_check_2_L1 _ _ hs) (by kernel_rfl) ?_
    clear hs
    intro e s hp
    obtain ⟨rfl, d, rfl⟩ := hp
    obtain rfl := inj1 hm
    exact ⟨trivial, fin_pure (by kernel_rfl)⟩
  · refine RL_use (w_slices_IndexFunc_int_int_size_check_2_L1 _ _ hs) (by kernel_rfl) ?_
    clear hs
    intro e s hp
    obtain ⟨rfl, d, rfl⟩ := hp
    refine R_seq ?_
    refine R_G ?_
    refine G_run 1 ?_
    refine G_end ?_
    refine R_ret ?_
    obtain rfl := inj1 hm
    exact ⟨trivial, fin_pure (by kernel_rfl)⟩
end Go.Proofs.Tryz
namespace Go.Proofs.Tryz
open Go Go.Pm
set_option linter.unusedVariables false
set_option maxRecDepth 2000
def m_slices_ContainsFunc_int_int_size_check_2 (x : (List Int)) : Option Bool :=
  match x with
  | p0 =>
  m_slices_IndexFunc_int_int_size_check_2 p0 >>= fun (v1 : Int) =>
  some (decide (v1 ≥ 0))
def P_slices_ContainsFunc_int_int_size_check_2 : (List Int) → Bool → Prop := fun x r => match x, r with
  | p0, r0 => ∀ H, PC prog env 152 ([(.lst ((List.map intD) p0)), (.raw (.func (.func 154) #[] #[]))].map .dat) H (boolPV r0) H
theorem w_slices_ContainsFunc_int_int_size_check_2 : ∀ x r, m_slices_ContainsFunc_int_int_size_check_2 x = some r → P_slices_ContainsFunc_int_int_size_check_2 x r := by
  intro p0 r0 hm
  unfold m_slices_ContainsFunc_int_int_size_check_2 at hm
  unfold P_slices_ContainsFunc_int_int_size_check_2
  intro H
  refine PC_sx (ds := [(.lst ((List.map intD) p0)), (.raw (.func (.func 154) #[] #[]))]) (fn := f152) (by kernel_rfl) (by kernel_rfl) rfl ?_ (by kernel_rfl)
  refine R_seq ?_
  refine R_G ?_
  refine G_run 1 ?_
  refine G_end ?_
  refine R_seq ?_
  refine R_G ?_
  refine G_run 2 ?_
  obtain ⟨v1, hx, hm⟩ := bind_inv hm
  have hq := w_slices_IndexFunc_int_int_size_check_2 _ _ hx []
  refine G_callP hq ?_
  refine G_run 2 ?_
  refine G_end ?_
  refine R_ret ?_
  obtain rfl := inj1 hm
  exact ⟨trivial, fin_pure (by kernel_rfl)⟩
end Go.Proofs.Tryz
namespace Go.Proofs.Tryz
open Go Go.Pm
set_option linter.unusedVariables false
set_option maxRecDepth 2000
def m_size_check (x : (List Int)) : Option Int :=
  match x with
  | p0 =>
  m_slices_ContainsFunc_int_int_size_check_1 p0 >>= fun (v1 : Bool) =>
  if v1 = true then
    some 6
  else
  m_slices_ContainsFunc_int_int_size_check_2 p0 >>= fun (v2 : Bool) =>
  if v2 = true then
    some 7
  else
  some 0
def P_size_check : (List Int) → Int → Prop := fun x r => match x, r with
  | p0, r0 => ∀ H, PC prog env 108 ([(.lst ((List.map intD) p0))].map .dat) H (intPV r0) H
theorem w_size_check : ∀ x r, m_size_check x = some r → P_size_check x r := by
  intro p0 r0 hm
  unfold m_size_check at hm
  unfold P_size_check
  intro H
  refine PC_sx (ds := [(.lst ((List.map intD) p0))]) (fn := f108) (by kernel_rfl) (by kernel_rfl) rfl ?_ (by kernel_rfl)
  refine R_seq ?_
  refine R_G ?_
  refine G_run 1 ?_
  refine G_end ?_
  refine R_seq ?_
  refine R_block ?_
  refine R_seq ?_
  refine R_G ?_
  refine G_run 1 ?_
  obtain ⟨v1, hx, hm⟩ := bind_inv hm
  have hq := w_slices_ContainsFunc_int_int_size_check_1 _ _ hx []
  refine G_callP hq ?_
  refine G_run 1 ?_
  refine G_end ?_
  refine R_ifp (p := v1 = true) (bool_dec _) (fun hc => ?_) (fun hc => ?_)
  · replace hm := pos_inv hc hm
    refine R_seq ?_
    refine R_G ?_
    refine G_run 1 ?_
    refine G_end ?_
    refine R_ret ?_
    obtain rfl := inj1 hm
    exact ⟨trivial, fin_pure (by kernel_rfl)⟩
  replace hm := neg_inv hc hm
  refine R_seq ?_
  refine R_G ?_
  refine G_run 1 ?_
  obtain ⟨v2, hx, hm⟩ := bind_inv hm
  have hq := w_slices_ContainsFunc_int_int_size_check_2 _ _ hx []
  refine G_callP hq ?_
  refine G_run 1 ?_
  refine G_end ?_
  refine R_ifp (p := v2 = true) (bool_dec _) (fun hc => ?_) (fun hc => ?_)
  · replace hm := pos_inv hc hm
    refine R_seq ?_
    refine R_G ?_
    refine G_run 1 ?_
    refine G_end ?_
    refine R_ret ?_
    obtain rfl := inj1 hm
    exact ⟨trivial, fin_pure (by kernel_rfl)⟩
  replace hm := neg_inv hc hm
  refine R_skip ?_
  refine R_seq ?_
  refine R_G ?_
  refine G_run 1 ?_
  refine G_end ?_
  refine R_ret ?_
  obtain rfl := inj1 hm
  exact ⟨trivial, fin_pure (by kernel_rfl)⟩
end Go.Proofs.Tryz
namespace Go.Proofs.Tryz
open Go Go.Pm
set_option linter.unusedVariables false
set_option maxRecDepth 2000
def m_slices_Index_int_int_L1 (x : ((List Int) × Int × Int)) : Option (Int ⊕ Unit) :=
  match x with
  | (p0, p1, v201) =>
  if v201 < (p0.length : Int) then
    idx p0 v201 >>= fun v602 =>
    if p1 = v602 then
      some (Sum.inl v201)
    else
    m_slices_Index_int_int_L1 (p0, p1, (W (v201 + 1)))
  else
  some (Sum.inr ())
  partial_fixpoint
def P_slices_Index_int_int_L1 : ((List Int) × Int × Int) → (Int ⊕ Unit) → Prop := fun x r => match x with
  | (p0, p1, v201) => ∀ st, prune 0 ((firstRegion (codeAt [1, 0, 1, 0, 0] (bodyOf f155))).bind (env.hint 155).keepAt) st = ⟨kp 19 [(0, (.dat (.lst ((List.map intD) p0)))), (1, (intPV p1)), (7, (intPV (p0.length : Int))), (8, (intPV v201))], []⟩ →
    RL prog env (env.hint 155) true (codeAt [1, 0, 1, 0, 0] (bodyOf f155)) 0 st (fun e s => match r with | .inl v601 => e = .ret ∧ ∃ d, s = ⟨sl d 19 [(4, (intPV v601))], []⟩ | .inr (_) => e = .exit 0 ∧ ∃ d, s = ⟨sl d 19 [], []⟩)
theorem w_slices_Index_int_int_L1 : ∀ x r, m_slices_Index_int_int_L1 x = some r → P_slices_Index_int_int_L1 x r := by
  refine m_slices_Index_int_int_L1.partial_correctness _ (fun m_slices_Index_int_int_L1 w_slices_Index_int_int_L1 x r hm => ?_)
  unfold P_slices_Index_int_int_L1
  obtain ⟨p0, p1, v201⟩ := x
  intro st hst
  refine RL_at hst ?_
  clear hst
  refine R_seq ?_
  refine R_G ?_
  refine G_run 1 ?_
  refine G_end ?_
  refine R_seq ?_
  refine R_ifp (p := v201 < (p0.length : Int)) (rfl) (fun hc => ?_) (fun hc => ?_)
  · replace hm := pos_inv hc hm
    refine R_skip ?_
    refine R_seq ?_
    refine R_block ?_
    refine R_seq ?_
    refine R_G ?_
    refine G_run 2 ?_
    refine G_end ?_
    refine R_seq ?_
    refine R_G ?_
    refine G_run 3 ?_
    obtain ⟨v602, hx, hm⟩ := bind_inv hm
    refine I_idx 1 intD p0 v201 v602 (es := (List.map intD) p0) (d := (intD v602)) rfl hx rfl rfl ?_
    refine G_run 2 ?_
    refine G_end ?_
    refine R_ifp (p := p1 = v602) (eq_dec _ _) (fun hc => ?_) (fun hc => ?_)
    · replace hm := pos_inv hc hm
      refine R_seq ?_
      refine R_G ?_
      refine G_run 2 ?_
      refine G_end ?_
      refine R_ret ?_
      obtain rfl := inj1 hm
      exact ⟨rfl, cut_leaf (by kernel_rfl)⟩
    replace hm := neg_inv hc hm
    refine R_skip ?_
    refine R_G ?_
    refine G_run 2 ?_
    refine G_end ?_
    exact w_slices_Index_int_int_L1 _ _ hm _ (by kernel_rfl)
  replace hm := neg_inv hc hm
  refine R_exit ?_
  obtain rfl := inj1 hm
  exact ⟨rfl, cut_leaf (by kernel_rfl)⟩
def m_slices_Index_int_int (x : ((List Int) × Int)) : Option Int :=
  match x with
  | (p0, p1) =>
  (
  m_slices_Index_int_int_L1 (p0, p1, 0) >>= fun (out : Int ⊕ Unit) =>
  match out with
  | .inl v601 =>
    some v601
  | .inr (_) =>
    some (-1)
  )
def P_slices_Index_int_int : ((List Int) × Int) → Int → Prop := fun x r => match x, r with
  | (p0, p1), r0 => ∀ H, PC prog env 155 ([(.lst ((List.map intD) p0)), (intD p1)].map .dat) H (intPV r0) H
theorem w_slices_Index_int_int : ∀ x r, m_slices_Index_int_int x = some r → P_slices_Index_int_int x r := by
  intro x r0 hm
  unfold m_slices_Index_int_int at hm
  unfold P_slices_Index_int_int
  obtain ⟨p0, p1⟩ := x
  intro H
  refine PC_sx (ds := [(.lst ((List.map intD) p0)), (intD p1)]) (fn := f155) (by kernel_rfl) (by kernel_rfl) rfl ?_ (by kernel_rfl)
  refine R_seq ?_
  refine R_G ?_
  refine G_run 1 ?_
  refine G_end ?_
  refine R_seq ?_
  refine R_seq ?_
  refine R_G ?_
  refine G_run 1 ?_
  refine I_len intD p0 (es := (List.map intD) p0) rfl ?_
  refine G_run 1 ?_
  refine G_end ?_
  refine R_block ?_
  obtain ⟨out, hs, hm⟩ := bind_inv hm
  refine R_loop ?_
  rcases out with v601 | _
  · refine RL_use (w_slices_Index_int_int_L1 _ _ hs) (by kernel_rfl) ?_
    clear hs
    intro e s hp
    obtain ⟨rfl, d, rfl⟩ := hp
    obtain rfl := inj1 hm
    exact ⟨trivial, fin_pure (by kernel_rfl)⟩
  · refine RL_use (w_slices_Index_int_int_L1 _ _ hs) (by kernel_rfl) ?_
    clear hs
    intro e s hp
    obtain ⟨rfl, d, rfl⟩ := hp
    refine R_seq ?_
    refine R_G ?_
    refine G_run 1 ?_
    refine G_end ?_
    refine R_ret ?_
    obtain rfl := inj1 hm
    exact ⟨trivial, fin_pure (by kernel_rfl)⟩
end Go.Proofs.Tryz
namespace Go.Proofs.Tryz
open Go Go.Pm
set_option linter.unusedVariables false
set_option maxRecDepth 2000
def m_slices_Contains_int_int (x : ((List Int) × Int)) : Option Bool :=
  match x with
  | (p0, p1) =>
  m_slices_Index_int_int (p0, p1) >>= fun (v1 : Int) =>
  some (decide (v1 ≥ 0))
def P_slices_Contains_int_int : ((List Int) × Int) → Bool → Prop := fun x r => match x, r with
  | (p0, p1), r0 => ∀ H, PC prog env 109 ([(.lst ((List.map intD) p0)), (intD p1)].map .dat) H (boolPV r0) H
theorem w_slices_Contains_int_int : ∀ x r, m_slices_Contains_int_int x = some r → P_slices_Contains_int_int x r := by
  intro x r0 hm
  unfold m_slices_Contains_int_int at hm
  unfold P_slices_Contains_int_int
  obtain ⟨p0, p1⟩ := x
  intro H
  refine PC_sx (ds := [(.lst ((List.map intD) p0)), (intD p1)]) (fn := f109) (by kernel_rfl) (by kernel_rfl) rfl ?_ (by kernel_rfl)
  refine R_seq ?_
  refine R_G ?_
  refine G_run 1 ?_
  refine G_end ?_
  refine R_seq ?_
  refine R_G ?_
  refine G_run 2 ?_
  obtain ⟨v1, hx, hm⟩ := bind_inv hm
  have hq := w_slices_Index_int_int _ _ hx []
  refine G_callP hq ?_
  refine G_run 2 ?_
  refine G_end ?_
  refine R_ret ?_
  obtain rfl := inj1 hm
  exact ⟨trivial, fin_pure (by kernel_rfl)⟩
end Go.Proofs.Tryz
namespace Go.Proofs.Tryz
open Go Go.Pm
set_option linter.unusedVariables false
set_option maxRecDepth 2000
def m_size_Mul (x : (Int × Int × Int)) : Option (Int × Bool) :=
  match x with
  | (p0, p1, p2) =>
  ((if p0 < 0 then
    some true
  else
  some (decide (p1 < 0))
  ) >>= fun (v2 : Bool) =>
  (if v2 = true then
    some true
  else
  some (decide (p0 > p2))
  ) >>= fun (v3 : Bool) =>
  (if v3 = true then
    some true
  else
  some (decide (p1 > p2))
  ) >>= fun (v4 : Bool) =>
  if v4 = true then
    some true
  else
  if p1 > 0 then
    quoM p2 p1 >>= fun v5 =>
    some (decide (p0 > v5))
  else
  some false
  ) >>= fun (v1 : Bool) =>
  if v1 = true then
    some (0, false)
  else
  some ((W (p0 * p1)), true)
def P_size_Mul : (Int × Int × Int) → (Int × Bool) → Prop := fun x r => match x, r with
  | (p0, p1, p2), (r0, r1) => ∀ H, PC prog env 112 ([(intD p0), (intD p1), (intD p2)].map .dat) H (.tup [(intPV r0), (boolPV r1)]) H
theorem w_size_Mul : ∀ x r, m_size_Mul x = some r → P_size_Mul x r := by
  intro x r hm
  unfold m_size_Mul at hm
  unfold P_size_Mul
  obtain ⟨p0, p1, p2⟩ := x
  obtain ⟨r0, r1⟩ := r
  intro H
  refine PC_sx (ds := [(intD p0), (intD p1), (intD p2)]) (fn := f112) (by kernel_rfl) (by kernel_rfl) rfl ?_ (by kernel_rfl)
  refine R_seq ?_
  refine R_G ?_
  refine G_run 2 ?_
  refine G_end ?_
  refine R_seq ?_
  refine R_seq ?_
  obtain ⟨v1, hs, hm⟩ := bind_inv hm
  refine R_cut (fun d => ⟨sl d 38 [(0, (intPV p0)), (1, (intPV p1)), (34, (boolPV v1))], []⟩) ?_ (fun d => ?_)
  · replace hm := hs
    clear hs
    refine R_GN ?_
    refine G_run 3 ?_
    obtain ⟨v2, hs, hm⟩ := bind_inv hm
    refine G_cut (j := 6) (fun d => ⟨sl d 38 [(0, (intPV p0)), (1, (intPV p1)), (2, (intPV p2)), (6, (intPV 0)), (7, (boolPV false)), (8, (intPV p0)), (9, (boolPV (decide (p0 < 0)))), (13, (boolPV v2))], []⟩) (fun d => ?_) (fun hJ => ?_)
    · clear hs
      refine G_run 1 ?_
      obtain ⟨v3, hs, hm⟩ := bind_inv hm
      refine G_cut (j := 11) (fun d => ⟨sl d 38 [(0, (intPV p0)), (1, (intPV p1)), (2, (intPV p2)), (6, (intPV 0)), (7, (boolPV false)), (8, (intPV p0)), (9, (boolPV (decide (p0 < 0)))), (13, (boolPV v2)), (18, (boolPV v3))], []⟩) (fun d => ?_) (fun hJ => ?_)
      · clear hs
        refine G_run 1 ?_
        obtain ⟨v4, hs, hm⟩ := bind_inv hm
        refine G_cut (j := 16) (fun d => ⟨sl d 38 [(0, (intPV p0)), (1, (intPV p1)), (2, (intPV p2)), (6, (intPV 0)), (7, (boolPV false)), (8, (intPV p0)), (9, (boolPV (decide (p0 < 0)))), (13, (boolPV v2)), (18, (boolPV v3)), (23, (boolPV v4))], []⟩) (fun d => ?_) (fun hJ => ?_)
        · clear hs
          refine G_run 1 ?_
          refine G_split (p := v4 = true) 24 (bool_dec _) (fun hc => ?_) (fun hc => ?_)
          · replace hm := pos_inv hc hm
            refine G_run 10 ?_
            refine G_end ⟨by kernel_rfl, ?_⟩
            obtain rfl := inj1 hm
            exact cut_leaf (by kernel_rfl)
          replace hm := neg_inv hc hm
          refine G_run 3 ?_
          refine G_split (p := p1 > 0) 27 (rfl) (fun hc => ?_) (fun hc => ?_)
          · replace hm := pos_inv hc hm
            refine G_run 3 ?_
            obtain ⟨v5, hx, hm⟩ := bind_inv hm
            refine G_semN rfl (by kernel_rfl) (fun _ => E_quo (a := p2) (b := p1) hx rfl (by kernel_rfl) (by kernel_rfl)) ?_
            refine G_run 3 ?_
            refine G_end ⟨by kernel_rfl, ?_⟩
            obtain rfl := inj1 hm
            exact cut_leaf (by kernel_rfl)
          replace hm := neg_inv hc hm
          refine G_run 7 ?_
          refine G_end ⟨by kernel_rfl, ?_⟩
          obtain rfl := inj1 hm
          exact cut_leaf (by kernel_rfl)
        replace hm := hs
        clear hs
        refine G_split (p := v3 = true) 19 (bool_dec _) (fun hc => ?_) (fun hc => ?_)
        · replace hm := pos_inv hc hm
          refine G_run 4 ?_
          obtain rfl := inj1 hm
          exact hJ _ _ (by kernel_rfl) (by kernel_rfl)
        replace hm := neg_inv hc hm
        refine G_run 4 ?_
        obtain rfl := inj1 hm
        exact hJ _ _ (by kernel_rfl) (by kernel_rfl)
      replace hm := hs
      clear hs
      refine G_split (p := v2 = true) 14 (bool_dec _) (fun hc => ?_) (fun hc => ?_)
      · replace hm := pos_inv hc hm
        refine G_run 4 ?_
        obtain rfl := inj1 hm
        exact hJ _ _ (by kernel_rfl) (by kernel_rfl)
      replace hm := neg_inv hc hm
      refine G_run 4 ?_
      obtain rfl := inj1 hm
      exact hJ _ _ (by kernel_rfl) (by kernel_rfl)
    replace hm := hs
    clear hs
    refine G_split (p := p0 < 0) 10 (rfl) (fun hc => ?_) (fun hc => ?_)
    · replace hm := pos_inv hc hm
      refine G_run 3 ?_
      obtain rfl := inj1 hm
      exact hJ _ _ (by kernel_rfl) (by kernel_rfl)
    replace hm := neg_inv hc hm
    refine G_run 3 ?_
    obtain rfl := inj1 hm
    exact hJ _ _ (by kernel_rfl) (by kernel_rfl)
  clear hs
  refine R_ifp (p := v1 = true) (bool_dec _) (fun hc => ?_) (fun hc => ?_)
  · replace hm := pos_inv hc hm
    refine R_seq ?_
    refine R_G ?_
    refine G_run 2 ?_
    refine G_end ?_
    refine R_ret ?_
    obtain ⟨rfl, rfl⟩ := inj2 hm
    exact ⟨trivial, fin_pure (by kernel_rfl)⟩
  replace hm := neg_inv hc hm
  refine R_skip ?_
  refine R_seq ?_
  refine R_G ?_
  refine G_run 5 ?_
  refine G_end ?_
  refine R_ret ?_
  obtain ⟨rfl, rfl⟩ := inj2 hm
  exact ⟨trivial, fin_pure (by kernel_rfl)⟩
end Go.Proofs.Tryz
namespace Go.Proofs.Tryz
open Go Go.Pm
set_option linter.unusedVariables false
set_option maxRecDepth 2000
def m_size_Product_1 (x : (Int × Int)) : Option (Int × Bool) :=
  match x with
  | (p0, p1) =>
  m_size_Mul (p0, p1, 65536) >>= fun ((v1, v2) : (Int × Bool)) =>
  some (v1, v2)
def P_size_Product_1 : (Int × Int) → (Int × Bool) → Prop := fun x r => match x, r with
  | (p0, p1), (r0, r1) => ∀ H, PC prog env 111 ([(intD p0), (intD p1)].map .dat) H (.tup [(intPV r0), (boolPV r1)]) H
theorem w_size_Product_1 : ∀ x r, m_size_Product_1 x = some r → P_size_Product_1 x r := by
  intro x r hm
  unfold m_size_Product_1 at hm
  unfold P_size_Product_1
  obtain ⟨p0, p1⟩ := x
  obtain ⟨r0, r1⟩ := r
  intro H
  refine PC_sx (ds := [(intD p0), (intD p1)]) (fn := f111) (by kernel_rfl) (by kernel_rfl) rfl ?_ (by kernel_rfl)
  refine R_seq ?_
  refine R_G ?_
  refine G_run 2 ?_
  refine G_end ?_
  refine R_seq ?_
  refine R_G ?_
  refine G_run 2 ?_
  obtain ⟨⟨v1, v2⟩, hx, hm⟩ := bind_inv hm
  have hq := w_size_Mul _ _ hx []
  refine G_callP hq ?_
  refine G_run 4 ?_
  refine G_end ?_
  refine R_ret ?_
  obtain ⟨rfl, rfl⟩ := inj2 hm
  exact ⟨trivial, fin_pure (by kernel_rfl)⟩
end Go.Proofs.Tryz
namespace Go.Proofs.Tryz
open Go Go.Pm
set_option linter.unusedVariables false
set_option maxRecDepth 2000
def m_size_fold_int_size_Product_1_L1 (x : ((List Int) × Int × Int)) : Option (Int ⊕ Int) :=
  match x with
  | (p0, v201, v202) =>
  if v202 < (p0.length : Int) then
    idx p0 v202 >>= fun v603 =>
    m_size_Product_1 (v201, v603) >>= fun ((v604, v605) : (Int × Bool)) =>
    if v605 = false then
      some (Sum.inl v604)
    else
    m_size_fold_int_size_Product_1_L1 (p0, v604, (W (v202 + 1)))
  else
  some (Sum.inr v201)
  partial_fixpoint
def P_size_fold_int_size_Product_1_L1 : ((List Int) × Int × Int) → (Int ⊕ Int) → Prop := fun x r => match x with
  | (p0, v201, v202) => ∀ st, prune 0 ((firstRegion (codeAt [1, 1, 0, 1, 0, 0] (bodyOf f156))).bind (env.hint 156).keepAt) st = ⟨kp 31 [(2, (.dat (.raw (.func (.func 111) #[] #[])))), (8, (intPV v201)), (13, (.dat (.lst ((List.map intD) p0)))), (14, (intPV (p0.length : Int))), (15, (intPV v202))], []⟩ →
    RL prog env (env.hint 156) true (codeAt [1, 1, 0, 1, 0, 0] (bodyOf f156)) 0 st (fun e s => match r with | .inl v601 => e = .ret ∧ ∃ d, s = ⟨sl d 31 [(6, (intPV v601)), (7, (boolPV false))], []⟩ | .inr (v602) => e = .exit 0 ∧ ∃ d, s = ⟨sl d 31 [(8, (intPV v602))], []⟩)
theorem w_size_fold_int_size_Product_1_L1 : ∀ x r, m_size_fold_int_size_Product_1_L1 x = some r → P_size_fold_int_size_Product_1_L1 x r := by
  refine m_size_fold_int_size_Product_1_L1.partial_correctness _ (fun m_size_fold_int_size_Product_1_L1 w_size_fold_int_size_Product_1_L1 x r hm => ?_)
  unfold P_size_fold_int_size_Product_1_L1
  obtain ⟨p0, v201, v202⟩ := x
  intro st hst
  refine RL_at hst ?_
  clear hst
  refine R_seq ?_
  refine R_G ?_
  refine G_run 1 ?_
  refine G_end ?_
  refine R_seq ?_
  refine R_ifp (p := v202 < (p0.length : Int)) (rfl) (fun hc => ?_) (fun hc => ?_)
  · replace hm := pos_inv hc hm
    refine R_skip ?_
    refine R_seq ?_
    refine R_block ?_
    refine R_seq ?_
    refine R_G ?_
    obtain ⟨v603, hx, hm⟩ := bind_inv hm
    refine I_idx 1 intD p0 v202 v603 (es := (List.map intD) p0) (d := (intD v603)) rfl hx rfl rfl ?_
    refine G_run 2 ?_
    refine G_end ?_
    refine R_seq ?_
    refine R_G ?_
    refine G_run 3 ?_
    obtain ⟨⟨v604, v605⟩, hx, hm⟩ := bind_inv hm
    have hq := w_size_Product_1 _ _ hx []
    refine G_callP hq ?_
    refine G_run 5 ?_
    refine G_end ?_
    refine R_seq ?_
    refine R_G ?_
    refine G_run 2 ?_
    refine G_end ?_
    refine R_ifp (p := v605 = false) (not_dec _) (fun hc => ?_) (fun hc => ?_)
    · replace hm := pos_inv hc hm
      refine R_seq ?_
      refine R_G ?_
      refine G_run 3 ?_
      refine G_end ?_
      refine R_ret ?_
      obtain rfl := inj1 hm
      exact ⟨rfl, cut_leaf (by kernel_rfl)⟩
    replace hm := neg_inv hc hm
    refine R_skip ?_
    refine R_G ?_
    refine G_run 2 ?_
    refine G_end ?_
    exact w_size_fold_int_size_Product_1_L1 _ _ hm _ (by kernel_rfl)
  replace hm := neg_inv hc hm
  refine R_exit ?_
  obtain rfl := inj1 hm
  exact ⟨rfl, cut_leaf (by kernel_rfl)⟩
def m_size_fold_int_size_Product_1 (x : ((List Int) × Int)) : Option (Int × Bool) :=
  match x with
  | (p0, p1) =>
  (
  m_size_fold_int_size_Product_1_L1 (p0, p1, 0) >>= fun (out : Int ⊕ Int) =>
  match out with
  | .inl v601 =>
    some (v601, false)
  | .inr (v602) =>
    some (v602, true)
  )
def P_size_fold_int_size_Product_1 : ((List Int) × Int) → (Int × Bool) → Prop := fun x r => match x, r with
  | (p0, p1), (r0, r1) => ∀ H, PC prog env 156 ([(.lst ((List.map intD) p0)), (intD p1), (.raw (.func (.func 111) #[] #[]))].map .dat) H (.tup [(intPV r0), (boolPV r1)]) H
theorem w_size_fold_int_size_Product_1 : ∀ x r, m_size_fold_int_size_Product_1 x = some r → P_size_fold_int_size_Product_1 x r := by
  intro x r hm
  unfold m_size_fold_int_size_Product_1 at hm
  unfold P_size_fold_int_size_Product_1
  obtain ⟨p0, p1⟩ := x
  obtain ⟨r0, r1⟩ := r
  intro H
  refine PC_sx (ds := [(.lst ((List.map intD) p0)), (intD p1), (.raw (.func (.func 111) #[] #[]))]) (fn := f156) (by kernel_rfl) (by kernel_rfl) rfl ?_ (by kernel_rfl)
  refine R_seq ?_
  refine R_G ?_
  refine G_run 2 ?_
  refine G_end ?_
  refine R_seq ?_
  refine R_G ?_
  refine G_run 3 ?_
  refine G_end ?_
  refine R_seq ?_
  refine R_seq ?_
  refine R_G ?_
  refine G_run 1 ?_
  refine I_len intD p0 (es := (List.map intD) p0) rfl ?_
  refine G_run 1 ?_
  refine G_end ?_
  refine R_block ?_
  obtain ⟨out, hs, hm⟩ := bind_inv hm
  refine R_loop ?_
  rcases out with v601 | v602
  · refine RL_use (w_size_fold_int_size_Product_1_L1 _ _ hs) (by kernel_rfl) ?_
    clear hs
    intro e s hp
    obtain ⟨rfl, d, rfl⟩ := hp
    obtain ⟨rfl, rfl⟩ := inj2 hm
    exact ⟨trivial, fin_pure (by kernel_rfl)⟩
  · refine RL_use (w_size_fold_int_size_Product_1_L1 _ _ hs) (by kernel_rfl) ?_
    clear hs
    intro e s hp
    obtain ⟨rfl, d, rfl⟩ := hp
    refine R_seq ?_
    refine R_G ?_
    refine G_run 3 ?_
    refine G_end ?_
    refine R_ret ?_
    obtain ⟨rfl, rfl⟩ := inj2 hm
    exact ⟨trivial, fin_pure (by kernel_rfl)⟩
end Go.Proofs.Tryz
namespace Go.Proofs.Tryz
open Go Go.Pm
set_option linter.unusedVariables false
set_option maxRecDepth 2000
def m_size_combined_size_Product_1 (x : ((List Int) × Int)) : Option (Int × Int) :=
  match x with
  | (p0, p1) =>
  m_size_check p0 >>= fun (v1 : Int) =>
  if v1 ≠ 0 then
    some (0, v1)
  else
  m_size_fold_int_size_Product_1 (p0, p1) >>= fun ((v2, v3) : (Int × Bool)) =>
  if v3 = false then
    some (0, 7)
  else
  some (v2, 0)
def P_size_combined_size_Product_1 : ((List Int) × Int) → (Int × Int) → Prop := fun x r => match x, r with
  | (p0, p1), (r0, r1) => ∀ H, PC prog env 110 ([(.lst ((List.map intD) p0)), (intD p1), (.raw (.func (.func 111) #[] #[]))].map .dat) H (.tup [(intPV r0), (intPV r1)]) H
theorem w_size_combined_size_Product_1 : ∀ x r, m_size_combined_size_Product_1 x = some r → P_size_combined_size_Product_1 x r := by
  intro x r hm
  unfold m_size_combined_size_Product_1 at hm
  unfold P_size_combined_size_Product_1
  obtain ⟨p0, p1⟩ := x
  obtain ⟨r0, r1⟩ := r
  intro H
  refine PC_sx (ds := [(.lst ((List.map intD) p0)), (intD p1), (.raw (.func (.func 111) #[] #[]))]) (fn := f110) (by kernel_rfl) (by kernel_rfl) rfl ?_ (by kernel_rfl)
  refine R_seq ?_
  refine R_G ?_
  refine G_run 2 ?_
  refine G_end ?_
  refine R_seq ?_
  refine R_seq ?_
  refine R_G ?_
  refine G_run 1 ?_
  obtain ⟨v1, hx, hm⟩ := bind_inv hm
  have hq := w_size_check _ _ hx []
  refine G_callP hq ?_
  refine G_run 1 ?_
  refine G_end ?_
  refine R_seq ?_
  refine R_G ?_
  refine G_run 2 ?_
  refine G_end ?_
  refine R_ifp (p := v1 ≠ 0) (ne_dec _ _) (fun hc => ?_) (fun hc => ?_)
  · replace hm := pos_inv hc hm
    refine R_seq ?_
    refine R_G ?_
    refine G_run 3 ?_
    refine G_end ?_
    refine R_ret ?_
    obtain ⟨rfl, rfl⟩ := inj2 hm
    exact ⟨trivial, fin_pure (by kernel_rfl)⟩
  replace hm := neg_inv hc hm
  refine R_skip ?_
  refine R_seq ?_
  refine R_G ?_
  refine G_run 3 ?_
  obtain ⟨⟨v2, v3⟩, hx, hm⟩ := bind_inv hm
  have hq := w_size_fold_int_size_Product_1 _ _ hx []
  refine G_callP hq ?_
  refine G_run 5 ?_
  refine G_end ?_
  refine R_seq ?_
  refine R_seq ?_
  refine R_G ?_
  refine G_run 2 ?_
  refine G_end ?_
  refine R_ifp (p := v3 = false) (not_dec _) (fun hc => ?_) (fun hc => ?_)
  · replace hm := pos_inv hc hm
    refine R_seq ?_
    refine R_G ?_
    refine G_run 2 ?_
    refine G_end ?_
    refine R_ret ?_
    obtain ⟨rfl, rfl⟩ := inj2 hm
    exact ⟨trivial, fin_pure (by kernel_rfl)⟩
  replace hm := neg_inv hc hm
  refine R_skip ?_
  refine R_seq ?_
  refine R_G ?_
  refine G_run 3 ?_
  refine G_end ?_
  refine R_ret ?_
  obtain ⟨rfl, rfl⟩ := inj2 hm
  exact ⟨trivial, fin_pure (by kernel_rfl)⟩
end Go.Proofs.Tryz
namespace Go.Proofs.Tryz
open Go Go.Pm
set_option linter.unusedVariables false
set_option maxRecDepth 2000
def m_size_Product (x : (List Int)) : Option (Int × Int) :=
  match x with
  | p0 =>
  m_size_check p0 >>= fun (v1 : Int) =>
  (if v1 = 0 then
    m_slices_Contains_int_int (p0, 0) >>= fun (v3 : Bool) =>
    some v3
  else
  some false
  ) >>= fun (v2 : Bool) =>
  if v2 = true then
    some (0, 0)
  else
  m_size_combined_size_Product_1 (p0, 1) >>= fun ((v4, v5) : (Int × Int)) =>
  some (v4, v5)
def P_size_Product : (List Int) → (Int × Int) → Prop := fun x r => match x, r with
  | p0, (r0, r1) => ∀ H, PC prog env 75 ([(.lst ((List.map intD) p0))].map .dat) H (.tup [(intPV r0), (intPV r1)]) H
theorem w_size_Product : ∀ x r, m_size_Product x = some r → P_size_Product x r := by
  intro p0 r hm
  unfold m_size_Product at hm
  unfold P_size_Product
  obtain ⟨r0, r1⟩ := r
  intro H
  refine PC_sx (ds := [(.lst ((List.map intD) p0))]) (fn := f75) (by kernel_rfl) (by kernel_rfl) rfl ?_ (by kernel_rfl)
  refine R_seq ?_
  refine R_G ?_
  refine G_run 2 ?_
  refine G_end ?_
  refine R_seq ?_
  refine R_seq ?_
  refine R_G ?_
  refine G_run 1 ?_
  obtain ⟨v1, hx, hm⟩ := bind_inv hm
  have hq := w_size_check _ _ hx []
  refine G_callP hq ?_
  refine G_run 1 ?_
  refine G_end ?_
  refine R_seq ?_
  obtain ⟨v2, hs, hm⟩ := bind_inv hm
  refine R_cut (fun d => ⟨sl d 17 [(0, (.dat (.lst ((List.map intD) p0)))), (12, (boolPV v2))], []⟩) ?_ (fun d => ?_)
  · replace hm := hs
    clear hs
    refine R_G ?_
    refine G_run 3 ?_
    refine G_split (p := v1 = 0) 9 (eq_dec _ _) (fun hc => ?_) (fun hc => ?_)
    · replace hm := pos_inv hc hm
      refine G_run 1 ?_
      obtain ⟨v3, hx, hm⟩ := bind_inv hm
      have hq := w_slices_Contains_int_int _ _ hx []
      refine G_callP hq ?_
      refine G_run 1 ?_
      refine G_end ?_
      obtain rfl := inj1 hm
      exact cut_leaf (by kernel_rfl)
    replace hm := neg_inv hc hm
    refine G_run 3 ?_
    refine G_end ?_
    obtain rfl := inj1 hm
    exact cut_leaf (by kernel_rfl)
  clear hs
  refine R_ifp (p := v2 = true) (bool_dec _) (fun hc => ?_) (fun hc => ?_)
  · replace hm := pos_inv hc hm
    refine R_seq ?_
    refine R_G ?_
    refine G_run 2 ?_
    refine G_end ?_
    refine R_ret ?_
    obtain ⟨rfl, rfl⟩ := inj2 hm
    exact ⟨trivial, fin_pure (by kernel_rfl)⟩
  replace hm := neg_inv hc hm
  refine R_skip ?_
  refine R_seq ?_
  refine R_G ?_
  refine G_run 1 ?_
  obtain ⟨⟨v4, v5⟩, hx, hm⟩ := bind_inv hm
  have hq := w_size_combined_size_Product_1 _ _ hx []
  refine G_callP hq ?_
  refine G_run 4 ?_
  refine G_end ?_
  refine R_ret ?_
  obtain ⟨rfl, rfl⟩ := inj2 hm
  exact ⟨trivial, fin_pure (by kernel_rfl)⟩
end Go.Proofs.Tryz
namespace Go.Proofs.Tryz
open Go Go.Pm
set_option linter.unusedVariables false
set_option maxRecDepth 2000
def m_shape_Check (x : (List Int)) : Option Int :=
  match x with
  | p0 =>
  m_size_Product p0 >>= fun ((v1, v2) : (Int × Int)) =>
  (if v2 ≠ 6 then
    some (decide ((p0.length : Int) > 16))
  else
  some false
  ) >>= fun (v3 : Bool) =>
  if v3 = true then
    some 7
  else
  some v2
def P_shape_Check : (List Int) → Int → Prop := fun x r => match x, r with
  | p0, r0 => ∀ H, PC prog env 67 ([(.lst ((List.map intD) p0))].map .dat) H (intPV r0) H
theorem w_shape_Check : ∀ x r, m_shape_Check x = some r → P_shape_Check x r := by
  intro p0 r0 hm
  unfold m_shape_Check at hm
  unfold P_shape_Check
  intro H
  refine PC_sx (ds := [(.lst ((List.map intD) p0))]) (fn := f67) (by kernel_rfl) (by kernel_rfl) rfl ?_ (by kernel_rfl)
  refine R_seq ?_
  refine R_G ?_
  refine G_run 1 ?_
  refine G_end ?_
  refine R_seq ?_
  refine R_G ?_
  refine G_run 1 ?_
  obtain ⟨⟨v1, v2⟩, hx, hm⟩ := bind_inv hm
  have hq := w_size_Product _ _ hx []
  refine G_callP hq ?_
  refine G_run 5 ?_
  refine G_end ?_
  refine R_seq ?_
  refine R_seq ?_
  obtain ⟨v3, hs, hm⟩ := bind_inv hm
  refine R_cut (fun d => ⟨sl d 18 [(4, (intPV v2)), (16, (boolPV v3))], []⟩) ?_ (fun d => ?_)
  · replace hm := hs
    clear hs
    refine R_G ?_
    refine G_run 3 ?_
    refine G_split (p := v2 ≠ 6) 12 (ne_dec _ _) (fun hc => ?_) (fun hc => ?_)
    · replace hm := pos_inv hc hm
      refine G_run 1 ?_
      refine I_len intD p0 (es := (List.map intD) p0) rfl ?_
      refine G_run 2 ?_
      refine G_end ?_
      obtain rfl := inj1 hm
      exact cut_leaf (by kernel_rfl)
    replace hm := neg_inv hc hm
    refine G_run 4 ?_
    refine G_end ?_
    obtain rfl := inj1 hm
    exact cut_leaf (by kernel_rfl)
  clear hs
  refine R_ifp (p := v3 = true) (bool_dec _) (fun hc => ?_) (fun hc => ?_)
  · replace hm := pos_inv hc hm
    refine R_seq ?_
    refine R_G ?_
    refine G_run 1 ?_
    refine G_end ?_
    refine R_ret ?_
    obtain rfl := inj1 hm
    exact ⟨trivial, fin_pure (by kernel_rfl)⟩
  replace hm := neg_inv hc hm
  refine R_skip ?_
  refine R_seq ?_
  refine R_G ?_
  refine G_run 2 ?_
  refine G_end ?_
  refine R_ret ?_
  obtain rfl := inj1 hm
  exact ⟨trivial, fin_pure (by kernel_rfl)⟩
end Go.Proofs.Tryz
namespace Go.Proofs.Tryz
open Go Go.Pm
set_option linter.unusedVariables false
set_option maxRecDepth 2000
def m_shape_Cells (x : (List Int)) : Option Int :=
  match x with
  | p0 =>
  m_shape_Check p0 >>= fun (v1 : Int) =>
  if v1 ≠ 0 then
    some 0
  else
  m_size_Product p0 >>= fun ((v2, v3) : (Int × Int)) =>
  some v2
def P_shape_Cells : (List Int) → Int → Prop := fun x r => match x, r with
  | p0, r0 => ∀ H, PC prog env 44 ([(.lst ((List.map intD) p0))].map .dat) H (intPV r0) H
theorem w_shape_Cells : ∀ x r, m_shape_Cells x = some r → P_shape_Cells x r := by
  intro p0 r0 hm
  unfold m_shape_Cells at hm
  unfold P_shape_Cells
  intro H
  refine PC_sx (ds := [(.lst ((List.map intD) p0))]) (fn := f44) (by kernel_rfl) (by kernel_rfl) rfl ?_ (by kernel_rfl)
  refine R_seq ?_
  refine R_G ?_
  refine G_run 1 ?_
  refine G_end ?_
  refine R_seq ?_
  refine R_seq ?_
  refine R_G ?_
  refine G_run 1 ?_
  obtain ⟨v1, hx, hm⟩ := bind_inv hm
  have hq := w_shape_Check _ _ hx []
  refine G_callP hq ?_
  refine G_run 1 ?_
  refine G_end ?_
  refine R_ifp (p := v1 ≠ 0) (ne_dec _ _) (fun hc => ?_) (fun hc => ?_)
  · replace hm := pos_inv hc hm
    refine R_seq ?_
    refine R_G ?_
    refine G_run 1 ?_
    refine G_end ?_
    refine R_ret ?_
    obtain rfl := inj1 hm
    exact ⟨trivial, fin_pure (by kernel_rfl)⟩
  replace hm := neg_inv hc hm
  refine R_skip ?_
  refine R_seq ?_
  refine R_G ?_
  refine G_run 1 ?_
  obtain ⟨⟨v2, v3⟩, hx, hm⟩ := bind_inv hm
  have hq := w_size_Product _ _ hx []
  refine G_callP hq ?_
  refine G_run 5 ?_
  refine G_end ?_
  refine R_seq ?_
  refine R_G ?_
  refine G_run 2 ?_
  refine G_end ?_
  refine R_ret ?_
  obtain rfl := inj1 hm
  exact ⟨trivial, fin_pure (by kernel_rfl)⟩
end Go.Proofs.Tryz
namespace Go.Proofs.Tryz
open Go Go.Pm
set_option linter.unusedVariables false
set_option maxRecDepth 2000
def m_shape_Strides_L1 (x : ((List Int) × (List Int) × (List Int) × Int × Int)) : Option ((List Int)) :=
  match x with
  | (p0, v2, v204, v205, v206) =>
  if v206 < (p0.length : Int) then
    guardM (v204.length = v2.length) >>= fun (_ : Unit) =>
    idx v204 (W ((W ((p0.length : Int) - 1)) - v206)) >>= fun v605 =>
    setM v204 (W ((W ((p0.length : Int) - 1)) - v206)) v205 >>= fun v607 =>
    idx p0 (W ((W ((p0.length : Int) - 1)) - v206)) >>= fun v608 =>
    m_shape_Strides_L1 (p0, v2, v607, (W (v205 * v608)), (W (v206 + 1)))
  else
  some v204
  partial_fixpoint
def P_shape_Strides_L1 : ((List Int) × (List Int) × (List Int) × Int × Int) → (List Int) → Prop := fun x r => match x with
  | (p0, v2, v204, v205, v206) => ∀ st, prune 1 ((firstRegion (codeAt [1, 1, 1, 1, 1, 0, 1, 0, 0] (bodyOf f113))).bind (env.hint 113).keepAt) st = ⟨kp 39 [(0, (.dat (.lst ((List.map intD) p0)))), (3, (.arr 0 0 v2.length v2.length)), (4, (intPV v205)), (18, (intPV (p0.length : Int))), (19, (intPV v206))], [(.box (cellsOf intD v204))]⟩ →
    RL prog env (env.hint 113) true (codeAt [1, 1, 1, 1, 1, 0, 1, 0, 0] (bodyOf f113)) 1 st (fun e s => match r with | v604 => e = .exit 0 ∧ ∃ d, s = ⟨sl d 39 [(3, (.arr 0 0 v2.length v2.length))], [(.box (cellsOf intD v604))]⟩)
theorem w_shape_Strides_L1 : ∀ x r, m_shape_Strides_L1 x = some r → P_shape_Strides_L1 x r := by
  refine m_shape_Strides_L1.partial_correctness _ (fun m_shape_Strides_L1 w_shape_Strides_L1 x r hm => ?_)
  unfold P_shape_Strides_L1
  obtain ⟨p0, v2, v204, v205, v206⟩ := x
  intro st hst
  refine RL_at hst ?_
  clear hst
  refine R_seq ?_
  refine R_G ?_
  refine G_run 1 ?_
  refine G_end ?_
  refine R_seq ?_
  refine R_ifp (p := v206 < (p0.length : Int)) (rfl) (fun hc => ?_) (fun hc => ?_)
  · replace hm := pos_inv hc hm
    refine R_skip ?_
    refine R_seq ?_
    refine R_block ?_
    refine R_seq ?_
    refine R_G ?_
    refine G_run 2 ?_
    refine G_end ?_
    refine R_seq ?_
    refine R_G ?_
    refine G_run 1 ?_
    refine I_len intD p0 (es := (List.map intD) p0) rfl ?_
    refine G_run 4 ?_
    refine G_end ?_
    refine R_seq ?_
    refine R_G ?_
    refine G_run 3 ?_
    obtain ⟨_, hl606, hm⟩ := bind_inv hm
    replace hl606 := guard_inv hl606
    obtain ⟨v605, hx, hm⟩ := bind_inv hm
    refine G_semN rfl (by kernel_rfl) (fun _ => E_ixBox (e := 3) (l := v204) (n := (W ((W ((p0.length : Int) - 1)) - v206))) (i := 0) (cap := v2.length) (m := v2.length) hx hl606 (by kernel_rfl) (by kernel_rfl) rfl (by kernel_rfl) (by kernel_rfl)) ?_
    obtain ⟨v607, hx, hm⟩ := bind_inv hm
    refine G_semH (fun H => H.set 0 (.box (cellsOf intD v607))) rfl (by kernel_rfl) (fun _ => E_stBox intD (l := v204) (n := (W ((W ((p0.length : Int) - 1)) - v206))) (y := v205) hx (fun _ => rfl) (by kernel_rfl) rfl (by kernel_rfl) (by kernel_rfl) (by kernel_rfl)) ?_
    refine G_end ?_
    refine R_G ?_
    refine G_run 3 ?_
    obtain ⟨v608, hx, hm⟩ := bind_inv hm
    refine I_idx 1 intD p0 (W ((W ((p0.length : Int) - 1)) - v206)) v608 (es := (List.map intD) p0) (d := (intD v608)) rfl hx rfl rfl ?_
    refine G_run 3 ?_
    refine G_end ?_
    refine R_G ?_
    refine G_run 2 ?_
    refine G_end ?_
    exact w_shape_Strides_L1 _ _ hm _ (prune_of2 [(.box (cellsOf intD v607))] (fun _ => (pg_cons (purge_box intD _ _ _) pg_nil)) rfl)
  replace hm := neg_inv hc hm
  refine R_exit ?_
  obtain rfl := inj1 hm
  exact ⟨rfl, cut_leaf (by kernel_rfl)⟩
def m_shape_Strides (x : (List Int)) : Option (List Int) :=
  match x with
  | p0 =>
  m_shape_Check p0 >>= fun (v1 : Int) =>
  if v1 ≠ 0 then
    some ([] : (List Int))
  else
  makeM 8 (p0.length : Int) 0 >>= fun v2 =>
  m_shape_Cells p0 >>= fun (v3 : Int) =>
  if v3 = 0 then
    some v2
  else
  m_shape_Strides_L1 (p0, v2, v2, 1, 0) >>= fun (v604 : (List Int)) =>
  guardM (v604.length = v2.length) >>= fun (_ : Unit) =>
  some v604
def P_shape_Strides : (List Int) → (List Int) → Prop := fun x r => match x, r with
  | p0, r0 => ∀ H, PC prog env 113 ([(.lst ((List.map intD) p0))].map .dat) H (.dat (.lst ((List.map intD) r0))) H
theorem w_shape_Strides : ∀ x r, m_shape_Strides x = some r → P_shape_Strides x r := by
  intro p0 r0 hm
  unfold m_shape_Strides at hm
  unfold P_shape_Strides
  intro H
  refine PC_sx (ds := [(.lst ((List.map intD) p0))]) (fn := f113) (by kernel_rfl) (by kernel_rfl) rfl ?_ (by kernel_rfl)
  refine R_seq ?_
  refine R_G ?_
  refine G_run 1 ?_
  refine G_end ?_
  refine R_seq ?_
  refine R_seq ?_
  refine R_G ?_
  refine G_run 1 ?_
  obtain ⟨v1, hx, hm⟩ := bind_inv hm
  have hq := w_shape_Check _ _ hx []
  refine G_callP hq ?_
  refine G_run 1 ?_
  refine G_end ?_
  refine R_ifp (p := v1 ≠ 0) (ne_dec _ _) (fun hc => ?_) (fun hc => ?_)
  · replace hm := pos_inv hc hm
    refine R_seq ?_
    refine R_G ?_
    refine G_run 1 ?_
    refine G_end ?_
    refine R_ret ?_
    obtain rfl := inj1 hm
    exact ⟨trivial, fin_pure (by kernel_rfl)⟩
  replace hm := neg_inv hc hm
  refine R_skip ?_
  refine R_seq ?_
  refine R_G ?_
  refine G_run 1 ?_
  refine I_len intD p0 (es := (List.map intD) p0) rfl ?_
  obtain ⟨v2, hx, hm⟩ := bind_inv hm
  refine G_semH (v := .arr 0 0 v2.length v2.length) (fun H => H ++ [.box (cellsOf intD v2)]) rfl (by kernel_rfl) (fun _ hk => E_mkBoxN 0 intD (z := 0) (n := (p0.length : Int)) (bytes := 8) hx (e := 3) (by kernel_rfl) (by kernel_rfl) (by kernel_rfl) (by kernel_rfl) rfl rfl (by kernel_rfl) (by kernel_rfl) hk) ?_
  refine G_run 1 ?_
  refine G_end ?_
  refine R_seq ?_
  refine R_seq ?_
  refine R_G ?_
  refine G_run 1 ?_
  obtain ⟨v3, hx, hm⟩ := bind_inv hm
  have hq := w_shape_Cells _ _ hx []
  refine G_callP hq ?_
  refine G_run 1 ?_
  refine G_end ?_
  refine R_ifp (p := v3 = 0) (eq_dec _ _) (fun hc => ?_) (fun hc => ?_)
  · replace hm := pos_inv hc hm
    refine R_seq ?_
    refine R_G ?_
    refine G_run 2 ?_
    refine G_end ?_
    refine R_ret ?_
    obtain rfl := inj1 hm
    exact ⟨trivial, fin_pureX [(.arr 0 0 v2.length v2.length)] (by kernel_rfl) (po_arr (pc_arr intD v2 rfl (fun _ => rfl) (by kernel_rfl)))⟩
  replace hm := neg_inv hc hm
  refine R_skip ?_
  refine R_seq ?_
  refine R_G ?_
  refine G_run 1 ?_
  refine G_end ?_
  refine R_seq ?_
  refine R_seq ?_
  refine R_G ?_
  refine G_run 1 ?_
  refine I_len intD p0 (es := (List.map intD) p0) rfl ?_
  refine G_run 1 ?_
  refine G_end ?_
  refine R_block ?_
  obtain ⟨v604, hs, hm⟩ := bind_inv hm
  refine R_loop ?_
  refine RL_use (w_shape_Strides_L1 _ _ hs) (prune_of2 [(.box (cellsOf intD v2))] (fun _ => (pg_cons (purge_box intD _ _ _) pg_nil)) rfl) ?_
  clear hs
  intro e s hp
  obtain ⟨rfl, d, rfl⟩ := hp
  refine R_seq ?_
  refine R_G ?_
  refine G_run 2 ?_
  refine G_end ?_
  refine R_ret ?_
  obtain ⟨_, hl609, hm⟩ := bind_inv hm
  replace hl609 := guard_inv hl609
  obtain rfl := inj1 hm
  exact ⟨trivial, fin_pureX [(.arr 0 0 v2.length v2.length)] (by kernel_rfl) (po_arr (pc_arr intD v604 hl609 (fun _ => rfl) (by kernel_rfl)))⟩
end Go.Proofs.Tryz
namespace Go.Proofs.Tryz
open Go Go.Pm
set_option linter.unusedVariables false
set_option maxRecDepth 2000
def m_gamma_layoutOf (x : (List Int)) : Option T_gamma_layout :=
  match x with
  | p0 =>
  m_shape_Strides p0 >>= fun (v1 : (List Int)) =>
  some (⟨v1, p0⟩ : T_gamma_layout)
def P_gamma_layoutOf : (List Int) → T_gamma_layout → Prop := fun x r => match x, r with
  | p0, r0 => ∀ H, PC prog env 76 ([(.lst ((List.map intD) p0))].map .dat) H (.dat (T_gamma_layout.toD r0)) H
theorem w_gamma_layoutOf : ∀ x r, m_gamma_layoutOf x = some r → P_gamma_layoutOf x r := by
  intro p0 r0 hm
  unfold m_gamma_layoutOf at hm
  unfold P_gamma_layoutOf
  intro H
  refine PC_sx (ds := [(.lst ((List.map intD) p0))]) (fn := f76) (by kernel_rfl) (by kernel_rfl) rfl ?_ (by kernel_rfl)
  refine R_seq ?_
  refine R_G ?_
  refine G_run 1 ?_
  refine G_end ?_
  refine R_seq ?_
  refine R_G ?_
  refine G_run 1 ?_
  obtain ⟨v1, hx, hm⟩ := bind_inv hm
  have hq := w_shape_Strides _ _ hx []
  refine G_callP hq ?_
  refine G_run 3 ?_
  refine G_end ?_
  refine R_ret ?_
  obtain rfl := inj1 hm
  exact ⟨trivial, fin_pure (by kernel_rfl)⟩
end Go.Proofs.Tryz
namespace Go.Proofs.Tryz
open Go Go.Pm
set_option linter.unusedVariables false
set_option maxRecDepth 2000
def m_gamma_Dot_L1 (x : ((List Int) × (List Int) × Int × Int)) : Option (Int) :=
  match x with
  | (p1, p0, v201, v202) =>
  if v202 < (if (p1.length : Int) < (p0.length : Int) then (p1.length : Int) else (p0.length : Int)) then
    idx p0 v202 >>= fun v602 =>
    idx p1 v202 >>= fun v603 =>
    m_gamma_Dot_L1 (p1, p0, (W (v201 + (W (v602 * v603)))), (W (v202 + 1)))
  else
  some v201
  partial_fixpoint
def P_gamma_Dot_L1 : ((List Int) × (List Int) × Int × Int) → Int → Prop := fun x r => match x with
  | (p1, p0, v201, v202) => ∀ st, prune 0 ((firstRegion (codeAt [1, 1, 0, 1, 0, 0] (bodyOf f114))).bind (env.hint 114).keepAt) st = ⟨kp 28 [(0, (.dat (.lst ((List.map intD) p0)))), (1, (.dat (.lst ((List.map intD) p1)))), (5, (intPV v201)), (11, (intPV (if (p1.length : Int) < (p0.length : Int) then (p1.length : Int) else (p0.length : Int)))), (12, (intPV v202))], []⟩ →
    RL prog env (env.hint 114) true (codeAt [1, 1, 0, 1, 0, 0] (bodyOf f114)) 0 st (fun e s => match r with | v601 => e = .exit 0 ∧ ∃ d, s = ⟨sl d 28 [(5, (intPV v601))], []⟩)
theorem w_gamma_Dot_L1 : ∀ x r, m_gamma_Dot_L1 x = some r → P_gamma_Dot_L1 x r := by
  refine m_gamma_Dot_L1.partial_correctness _ (fun m_gamma_Dot_L1 w_gamma_Dot_L1 x r hm => ?_)
  unfold P_gamma_Dot_L1
  obtain ⟨p1, p0, v201, v202⟩ := x
  intro st hst
  refine RL_at hst ?_
  clear hst
  refine R_seq ?_
  refine R_G ?_
  refine G_run 1 ?_
  refine G_end ?_
  refine R_seq ?_
  refine R_ifp (p := v202 < (if (p1.length : Int) < (p0.length : Int) then (p1.length : Int) else (p0.length : Int))) (rfl) (fun hc => ?_) (fun hc => ?_)
  · replace hm := pos_inv hc hm
    refine R_skip ?_
    refine R_seq ?_
    refine R_block ?_
    refine R_seq ?_
    refine R_G ?_
    refine G_run 2 ?_
    refine G_end ?_
    refine R_GD ?_
    refine G_run 3 ?_
    obtain ⟨v602, hx, hm⟩ := bind_inv hm
    refine I_idx 1 intD p0 v202 v602 (es := (List.map intD) p0) (d := (intD v602)) rfl hx rfl rfl ?_
    refine G_run 3 ?_
    obtain ⟨v603, hx, hm⟩ := bind_inv hm
    refine I_idx 1 intD p1 v202 v603 (es := (List.map intD) p1) (d := (intD v603)) rfl hx rfl rfl ?_
    refine G_run 4 ?_
    refine G_end ⟨by kernel_rfl, ?_⟩
    refine R_G ?_
    refine G_run 2 ?_
    refine G_end ?_
    exact w_gamma_Dot_L1 _ _ hm _ (by kernel_rfl)
  replace hm := neg_inv hc hm
  refine R_exit ?_
  obtain rfl := inj1 hm
  exact ⟨rfl, cut_leaf (by kernel_rfl)⟩
def m_gamma_Dot (x : ((List Int) × (List Int))) : Option Int :=
  match x with
  | (p0, p1) =>
  m_gamma_Dot_L1 (p1, p0, 0, 0) >>= fun (v601 : Int) =>
  some v601
def P_gamma_Dot : ((List Int) × (List Int)) → Int → Prop := fun x r => match x, r with
  | (p0, p1), r0 => ∀ H, PC prog env 114 ([(.lst ((List.map intD) p0)), (.lst ((List.map intD) p1))].map .dat) H (intPV r0) H
theorem w_gamma_Dot : ∀ x r, m_gamma_Dot x = some r → P_gamma_Dot x r := by
  intro x r0 hm
  unfold m_gamma_Dot at hm
  unfold P_gamma_Dot
  obtain ⟨p0, p1⟩ := x
  intro H
  refine PC_sx (ds := [(.lst ((List.map intD) p0)), (.lst ((List.map intD) p1))]) (fn := f114) (by kernel_rfl) (by kernel_rfl) rfl ?_ (by kernel_rfl)
  refine R_seq ?_
  refine R_G ?_
  refine G_run 1 ?_
  refine G_end ?_
  refine R_seq ?_
  refine R_G ?_
  refine G_run 1 ?_
  refine G_end ?_
  refine R_seq ?_
  refine R_seq ?_
  refine R_G ?_
  refine G_run 1 ?_
  refine I_len intD p0 (es := (List.map intD) p0) rfl ?_
  refine G_run 1 ?_
  refine I_len intD p1 (es := (List.map intD) p1) rfl ?_
  refine G_semN rfl (by kernel_rfl) (fun _ => E_min (k := .i64) (m := (p0.length : Int)) (n := (p1.length : Int)) rfl (by kernel_rfl) (by kernel_rfl)) ?_
  refine G_run 1 ?_
  refine G_end ?_
  refine R_block ?_
  obtain ⟨v601, hs, hm⟩ := bind_inv hm
  refine R_loop ?_
  refine RL_use (w_gamma_Dot_L1 _ _ hs) (by kernel_rfl) ?_
  clear hs
  intro e s hp
  obtain ⟨rfl, d, rfl⟩ := hp
  refine R_seq ?_
  refine R_G ?_
  refine G_run 2 ?_
  refine G_end ?_
  refine R_ret ?_
  obtain rfl := inj1 hm
  exact ⟨trivial, fin_pure (by kernel_rfl)⟩
end Go.Proofs.Tryz
namespace Go.Proofs.Tryz
open Go Go.Pm
set_option linter.unusedVariables false
set_option maxRecDepth 2000
def m_gamma_strides_dot (x : ((List Int) × (List Int))) : Option Int :=
  match x with
  | (p0, p1) =>
  m_gamma_Dot (p0, p1) >>= fun (v1 : Int) =>
  some v1
def P_gamma_strides_dot : ((List Int) × (List Int)) → Int → Prop := fun x r => match x, r with
  | (p0, p1), r0 => ∀ H, PC prog env 80 ([(.lst ((List.map intD) p0)), (.lst ((List.map intD) p1))].map .dat) H (intPV r0) H
theorem w_gamma_strides_dot : ∀ x r, m_gamma_strides_dot x = some r → P_gamma_strides_dot x r := by
  intro x r0 hm
  unfold m_gamma_strides_dot at hm
  unfold P_gamma_strides_dot
  obtain ⟨p0, p1⟩ := x
  intro H
  refine PC_sx (ds := [(.lst ((List.map intD) p0)), (.lst ((List.map intD) p1))]) (fn := f80) (by kernel_rfl) (by kernel_rfl) rfl ?_ (by kernel_rfl)
  refine R_seq ?_
  refine R_G ?_
  refine G_run 1 ?_
  refine G_end ?_
  refine R_seq ?_
  refine R_G ?_
  refine G_run 2 ?_
  obtain ⟨v1, hx, hm⟩ := bind_inv hm
  have hq := w_gamma_Dot _ _ hx []
  refine G_callP hq ?_
  refine G_run 1 ?_
  refine G_end ?_
  refine R_ret ?_
  obtain rfl := inj1 hm
  exact ⟨trivial, fin_pure (by kernel_rfl)⟩
end Go.Proofs.Tryz
namespace Go.Proofs.Tryz
open Go Go.Pm
set_option linter.unusedVariables false
set_option maxRecDepth 2000
def m_gamma_Offset (x : ((List Int) × (List Int))) : Option (Int × Bool) :=
  match x with
  | (p0, p1) =>
  m_gamma_Valid (p0, p1) >>= fun (v1 : Bool) =>
  if v1 = false then
    some (0, false)
  else
  m_gamma_layoutOf p0 >>= fun (v2 : T_gamma_layout) =>
  m_gamma_strides_dot (v2.strides, p1) >>= fun (v3 : Int) =>
  some (v3, true)
def P_gamma_Offset : ((List Int) × (List Int)) → (Int × Bool) → Prop := fun x r => match x, r with
  | (p0, p1), (r0, r1) => ∀ H, PC prog env 49 ([(.lst ((List.map intD) p0)), (.lst ((List.map intD) p1))].map .dat) H (.tup [(intPV r0), (boolPV r1)]) H
theorem w_gamma_Offset : ∀ x r, m_gamma_Offset x = some r → P_gamma_Offset x r := by
  intro x r hm
  unfold m_gamma_Offset at hm
  unfold P_gamma_Offset
  obtain ⟨p0, p1⟩ := x
  obtain ⟨r0, r1⟩ := r
  intro H
  refine PC_sx (ds := [(.lst ((List.map intD) p0)), (.lst ((List.map intD) p1))]) (fn := f49) (by kernel_rfl) (by kernel_rfl) rfl ?_ (by kernel_rfl)
  refine R_seq ?_
  refine R_G ?_
  refine G_run 2 ?_
  refine G_end ?_
  refine R_seq ?_
  refine R_seq ?_
  refine R_G ?_
  refine G_run 2 ?_
  obtain ⟨v1, hx, hm⟩ := bind_inv hm
  have hq := w_gamma_Valid _ _ hx []
  refine G_callP hq ?_
  refine G_run 1 ?_
  refine G_end ?_
  refine R_ifp (p := v1 = false) (not_dec _) (fun hc => ?_) (fun hc => ?_)
  · replace hm := pos_inv hc hm
    refine R_seq ?_
    refine R_G ?_
    refine G_run 2 ?_
    refine G_end ?_
    refine R_ret ?_
    obtain ⟨rfl, rfl⟩ := inj2 hm
    exact ⟨trivial, fin_pure (by kernel_rfl)⟩
  replace hm := neg_inv hc hm
  refine R_skip ?_
  refine R_seq ?_
  refine R_G ?_
  refine G_run 1 ?_
  obtain ⟨v2, hx, hm⟩ := bind_inv hm
  have hq := w_gamma_layoutOf _ _ hx []
  refine G_callP hq ?_
  refine G_run 2 ?_
  obtain ⟨v3, hx, hm⟩ := bind_inv hm
  have hq := w_gamma_strides_dot _ _ hx []
  refine G_callP hq ?_
  refine G_run 2 ?_
  refine G_end ?_
  refine R_ret ?_
  obtain ⟨rfl, rfl⟩ := inj2 hm
  exact ⟨trivial, fin_pure (by kernel_rfl)⟩
end Go.Proofs.Tryz
namespace Go.Proofs.Tryz
open Go Go.Pm
set_option linter.unusedVariables false
set_option maxRecDepth 2000
def m_slices_Clone_int_int (x : List Int) : Option (List Int) := app 8 [] x
def cgm_slices_Clone_int_int (l : List Int) : Nat := match l with | [] => 0 | _ => 1
def P_slices_Clone_int_int : List Int → List Int → Prop := fun x r => PC prog env 81 [.dat (.lst ((List.map intD) x))] [] (.ms 0 (cgm_slices_Clone_int_int r) 0 r.length r.length) [.mt 3 (cgm_slices_Clone_int_int r) (cellsOf intD r)]
theorem w_slices_Clone_int_int : ∀ x r, m_slices_Clone_int_int x = some r → P_slices_Clone_int_int x r := by
  intro x r hm
  obtain ⟨hroom, hr⟩ := app_some hm
  have hr : r = x := hr
  subst hr
  unfold P_slices_Clone_int_int
  cases r with
  | nil => exact PC_of (n := 20) (by kernel_rfl)
  | cons a l =>
    refine PC_sxB (fn := f81) (by kernel_rfl) (by kernel_rfl) rfl ?_
    refine R_seq ?_
    refine R_G ?_
    refine G_run 1 ?_
    refine G_end ?_
    refine R_seq ?_
    refine R_seq ?_
    refine R_G ?_
    refine G_run 1 ?_
    refine G_semN rfl (by kernel_rfl) (fun _ => E_lstNil (p := .dat (.lst ((List.map intD) (a :: l)))) (b := false) rfl (by kernel_rfl) (by kernel_rfl) (by kernel_rfl)) ?_
    refine G_end ?_
    refine R_false (by kernel_rfl) ?_
    refine R_skip ?_
    refine R_seq ?_
    refine R_G ?_
    refine G_run 2 ?_
    refine G_semH (v := .ms 0 1 0 (a :: l).length (a :: l).length) (fun H => H.set 0 (.mt 3 1 (cellsOf intD (a :: l)))) rfl (by kernel_rfl) (fun _ hk => E_apMs intD (l := []) (es := a :: l) (bytes := 8) (e := 3) (tt := 0) (g := 0) (m := 0) hm (fun _ => rfl) (by kernel_rfl) (by kernel_rfl) (by kernel_rfl) (by kernel_rfl) rfl rfl (by kernel_rfl) rfl (by kernel_rfl) (source_lst (fun _ => rfl)) hk) ?_
    refine G_run 1 ?_
    refine G_end ?_
    refine R_ret ?_
    exact ⟨trivial, fin_body (by kernel_rfl) (by kernel_rfl)⟩
end Go.Proofs.Tryz
namespace Go.Proofs.Tryz
open Go Go.Pm
set_option linter.unusedVariables false
set_option maxRecDepth 2000
def m_core_stays_b7a05 (x : (Int × (List Int) × Int × (List Int) × Int × Int × (List Int) × (List T_core_Core) × (List Int))) : Option (Unit) :=
  match x with
  | (q0, q1, q2, q3, q4, q5, q6, q7, q8) =>
  some ()
def P_core_stays_b7a05 : (Int × (List Int) × Int × (List Int) × Int × Int × (List Int) × (List T_core_Core) × (List Int)) → Unit → Prop := fun x r => match x with
  | (q0, q1, q2, q3, q4, q5, q6, q7, q8) => PC prog env 247 [(.dat (.agg [(intD q0), (.lst ((List.map intD) q1)), (intD q2), (.lst ((List.map intD) q3)), (intD q4), (intD q5), (.lst ((List.map intD) q6)), (.lst (T_core_Core.toDs q7))])), (.ms 1 1 0 q8.length q8.length)] [(.box [(intPV q0), (.dat (.lst ((List.map intD) q1))), (intPV q2), (.dat (.lst ((List.map intD) q3))), (intPV q4), (intPV q5), (.dat (.lst ((List.map intD) q6))), (.dat (.lst (T_core_Core.toDs q7)))]), (.mt 3 1 (cellsOf intD q8))] (match r with | _ => (.tup [(intPV 0), (.dat (.lst ((List.map intD) []))), (boolPV false)])) (match r with | _ => [(.box [(intPV q0), (.dat (.lst ((List.map intD) q1))), (intPV q2), (.dat (.lst ((List.map intD) q3))), (intPV q4), (intPV q5), (.dat (.lst ((List.map intD) q6))), (.dat (.lst (T_core_Core.toDs q7)))]), (.mt 3 1 (cellsOf intD q8)), (.box [(intPV q0), (.dat (.lst ((List.map intD) q1))), (intPV q2), (.dat (.lst ((List.map intD) q3))), (intPV q4), (intPV q5), (.dat (.lst ((List.map intD) q6))), (.dat (.lst (T_core_Core.toDs q7)))])])
theorem w_core_stays_b7a05 : ∀ x r, m_core_stays_b7a05 x = some r → P_core_stays_b7a05 x r := by
  intro x r hm
  unfold m_core_stays_b7a05 at hm
  unfold P_core_stays_b7a05
  obtain ⟨q0, q1, q2, q3, q4, q5, q6, q7, q8⟩ := x
  refine PC_sxB (fn := f247) (by kernel_rfl) (by kernel_rfl) rfl ?_
  refine R_seq ?_
  refine R_G ?_
  refine G_run 4 ?_
  refine G_end ?_
  refine R_seq ?_
  refine R_G ?_
  refine G_run 3 ?_
  refine G_end ?_
  refine R_ret ?_
  obtain rfl := inj1 hm
  exact ⟨trivial, fin_body (by kernel_rfl) (by kernel_rfl)⟩
end Go.Proofs.Tryz
namespace Go.Proofs.Tryz
open Go Go.Pm
set_option linter.unusedVariables false
set_option maxRecDepth 2000
def m_core_stepWindow_b7a05_L1 (x : ((List Int) × (List Int) × Int × (List Int) × Int × Int × Int × (List Int) × (List T_core_Core) × (List Int) × Int)) : Option ((List Int)) :=
  match x with
  | (q3, q8, q0, q1, q2, q4, q5, q6, q7, v201, v202) =>
  if v202 < (q3.length : Int) then
    idx q3 v202 >>= fun v602 =>
    guardM (v201.length = q8.length) >>= fun (_ : Unit) =>
    idx v201 v202 >>= fun v603 =>
    idx v201 v202 >>= fun v605 =>
    guardM (v201.length = q8.length) >>= fun (_ : Unit) =>
    idx v201 v202 >>= fun v606 =>
    setM v201 v202 (W (v605 + v602)) >>= fun v608 =>
    m_core_stepWindow_b7a05_L1 (q3, q8, q0, q1, q2, q4, q5, q6, q7, v608, (W (v202 + 1)))
  else
  some v201
  partial_fixpoint
def P_core_stepWindow_b7a05_L1 : ((List Int) × (List Int) × Int × (List Int) × Int × Int × Int × (List Int) × (List T_core_Core) × (List Int) × Int) → (List Int) → Prop := fun x r => match x with
  | (q3, q8, q0, q1, q2, q4, q5, q6, q7, v201, v202) => ∀ st, prune 3 ((firstRegion (codeAt [1, 0, 1, 0, 0] (bodyOf f249))).bind (env.hint 249).keepAt) st = ⟨kp 34 [(1, (.ms 1 1 0 q8.length q8.length)), (2, (.ptr 2 0)), (10, (.dat (.lst ((List.map intD) q3)))), (11, (intPV (q3.length : Int))), (12, (intPV v202))], [(.box [(intPV q0), (.dat (.lst ((List.map intD) q1))), (intPV q2), (.dat (.lst ((List.map intD) q3))), (intPV q4), (intPV q5), (.dat (.lst ((List.map intD) q6))), (.dat (.lst (T_core_Core.toDs q7)))]), (.mt 3 1 (cellsOf intD v201)), (.box [(intPV q0), (.dat (.lst ((List.map intD) q1))), (intPV q2), (.dat (.lst ((List.map intD) q3))), (intPV q4), (intPV q5), (.dat (.lst ((List.map intD) q6))), (.dat (.lst (T_core_Core.toDs q7)))])]⟩ →
    RL prog env (env.hint 249) true (codeAt [1, 0, 1, 0, 0] (bodyOf f249)) 3 st (fun e s => match r with | v601 => e = .exit 0 ∧ ∃ d, s = ⟨sl d 34 [(1, (.ms 1 1 0 q8.length q8.length)), (2, (.ptr 2 0))], [(.box [(intPV q0), (.dat (.lst ((List.map intD) q1))), (intPV q2), (.dat (.lst ((List.map intD) q3))), (intPV q4), (intPV q5), (.dat (.lst ((List.map intD) q6))), (.dat (.lst (T_core_Core.toDs q7)))]), (.mt 3 1 (cellsOf intD v601)), (.box [(intPV q0), (.dat (.lst ((List.map intD) q1))), (intPV q2), (.dat (.lst ((List.map intD) q3))), (intPV q4), (intPV q5), (.dat (.lst ((List.map intD) q6))), (.dat (.lst (T_core_Core.toDs q7)))])]⟩)
theorem w_core_stepWindow_b7a05_L1 : ∀ x r, m_core_stepWindow_b7a05_L1 x = some r → P_core_stepWindow_b7a05_L1 x r := by
  refine m_core_stepWindow_b7a05_L1.partial_correctness _ (fun m_core_stepWindow_b7a05_L1 w_core_stepWindow_b7a05_L1 x r hm => ?_)
  unfold P_core_stepWindow_b7a05_L1
  obtain ⟨q3, q8, q0, q1, q2, q4, q5, q6, q7, v201, v202⟩ := x
  intro st hst
  refine RL_at hst ?_
  clear hst
  refine R_seq ?_
  refine R_G ?_
  refine G_run 1 ?_
  refine G_end ?_
  refine R_seq ?_
  refine R_ifp (p := v202 < (q3.length : Int)) (rfl) (fun hc => ?_) (fun hc => ?_)
  · replace hm := pos_inv hc hm
    refine R_skip ?_
    refine R_seq ?_
    refine R_block ?_
    refine R_seq ?_
    refine R_G ?_
    refine G_run 1 ?_
    obtain ⟨v602, hx, hm⟩ := bind_inv hm
    refine I_idx 1 intD q3 v202 v602 (es := (List.map intD) q3) (d := (intD v602)) rfl hx rfl rfl ?_
    refine G_run 3 ?_
    refine G_end ?_
    refine R_G ?_
    refine G_run 2 ?_
    obtain ⟨_, hl604, hm⟩ := bind_inv hm
    replace hl604 := guard_inv hl604
    obtain ⟨v603, hx, hm⟩ := bind_inv hm
    refine G_semN rfl (by kernel_rfl) (fun _ => E_indexMs (e := 3) (n := v202) (j := (v202).toNat) (tt := 1) (g := 1) (lo := 0) (len := q8.length) (cap := q8.length) (k := .i64) (by kernel_rfl) (by kernel_rfl) rfl (by kernel_rfl) (by kernel_rfl) (idx_nat hx) (Nat.lt_of_lt_of_eq (idx_lt hx) hl604)) ?_
    obtain ⟨v605, hx, hm⟩ := bind_inv hm
    refine G_semN rfl (by kernel_rfl) (fun _ => E_loadMs (tt := 1) (g := 1) (j := (0 + (v202).toNat)) (e := 3) (cs := cellsOf intD v201) (v := .dat (intD v605)) (by kernel_rfl) (by kernel_rfl) rfl (by kernel_rfl) (mtOf_at (by kernel_rfl)) (cells_idx intD hx)) ?_
    refine G_run 2 ?_
    obtain ⟨_, hl607, hm⟩ := bind_inv hm
    replace hl607 := guard_inv hl607
    obtain ⟨v606, hx, hm⟩ := bind_inv hm
    refine G_semN rfl (by kernel_rfl) (fun _ => E_indexMs (e := 3) (n := v202) (j := (v202).toNat) (tt := 1) (g := 1) (lo := 0) (len := q8.length) (cap := q8.length) (k := .i64) (by kernel_rfl) (by kernel_rfl) rfl (by kernel_rfl) (by kernel_rfl) (idx_nat hx) (Nat.lt_of_lt_of_eq (idx_lt hx) hl607)) ?_
    obtain ⟨v608, hx, hm⟩ := bind_inv hm
    refine G_semH (fun H => H.set 1 (.mt 3 1 (cellsOf intD v608))) rfl (by kernel_rfl) (fun _ => E_stMs intD (l := v201) (n := v202) (y := (W (v605 + v602))) hx (fun _ => rfl) (by kernel_rfl) rfl (by kernel_rfl) (by kernel_rfl) (by kernel_rfl)) ?_
    refine G_end ?_
    refine R_G ?_
    refine G_run 2 ?_
    refine G_end ?_
    exact w_core_stepWindow_b7a05_L1 _ _ hm _ (prune_of2 [(.box [(intPV q0), (.dat (.lst ((List.map intD) q1))), (intPV q2), (.dat (.lst ((List.map intD) q3))), (intPV q4), (intPV q5), (.dat (.lst ((List.map intD) q6))), (.dat (.lst (T_core_Core.toDs q7)))]), (.mt 3 1 (cellsOf intD v608)), (.box [(intPV q0), (.dat (.lst ((List.map intD) q1))), (intPV q2), (.dat (.lst ((List.map intD) q3))), (intPV q4), (intPV q5), (.dat (.lst ((List.map intD) q6))), (.dat (.lst (T_core_Core.toDs q7)))])] (fun _ => (pg_cons (by kernel_rfl) (pg_cons (purge_mt intD _ _ _ _ _) (pg_cons (by kernel_rfl) pg_nil)))) rfl)
  replace hm := neg_inv hc hm
  refine R_exit ?_
  obtain rfl := inj1 hm
  exact ⟨rfl, cut_leaf (by kernel_rfl)⟩
def m_core_stepWindow_b7a05 (x : (Int × (List Int) × Int × (List Int) × Int × Int × (List Int) × (List T_core_Core) × (List Int))) : Option ((List Int) ⊕ (List Int)) :=
  match x with
  | (q0, q1, q2, q3, q4, q5, q6, q7, q8) =>
  m_core_stepWindow_b7a05_L1 (q3, q8, q0, q1, q2, q4, q5, q6, q7, q8, 0) >>= fun (v601 : (List Int)) =>
  idx q7 0 >>= fun v609 =>
  guardM (v601.length = q8.length) >>= fun (_ : Unit) =>
  m_gamma_Valid (v609.shape, v601) >>= fun (v611 : Bool) =>
  if v611 = false then
    some (Sum.inl v601)
  else
  some (Sum.inr v601)
def P_core_stepWindow_b7a05 : (Int × (List Int) × Int × (List Int) × Int × Int × (List Int) × (List T_core_Core) × (List Int)) → ((List Int) ⊕ (List Int)) → Prop := fun x r => match x with
  | (q0, q1, q2, q3, q4, q5, q6, q7, q8) => PC prog env 249 [(.dat (.agg [(intD q0), (.lst ((List.map intD) q1)), (intD q2), (.lst ((List.map intD) q3)), (intD q4), (intD q5), (.lst ((List.map intD) q6)), (.lst (T_core_Core.toDs q7))])), (.ms 1 1 0 q8.length q8.length)] [(.box [(intPV q0), (.dat (.lst ((List.map intD) q1))), (intPV q2), (.dat (.lst ((List.map intD) q3))), (intPV q4), (intPV q5), (.dat (.lst ((List.map intD) q6))), (.dat (.lst (T_core_Core.toDs q7)))]), (.mt 3 1 (cellsOf intD q8))] (match r with | .inl v5001 => (.tup [(intPV 0), (.dat (.lst ((List.map intD) []))), (boolPV false)]) | .inr (v5002) => (.tup [(intPV 0), (.ms 1 1 0 q8.length q8.length), (boolPV true)])) (match r with | .inl v5001 => [(.box [(intPV q0), (.dat (.lst ((List.map intD) q1))), (intPV q2), (.dat (.lst ((List.map intD) q3))), (intPV q4), (intPV q5), (.dat (.lst ((List.map intD) q6))), (.dat (.lst (T_core_Core.toDs q7)))]), (.mt 3 1 (cellsOf intD v5001)), (.box [(intPV q0), (.dat (.lst ((List.map intD) q1))), (intPV q2), (.dat (.lst ((List.map intD) q3))), (intPV q4), (intPV q5), (.dat (.lst ((List.map intD) q6))), (.dat (.lst (T_core_Core.toDs q7)))])] | .inr (v5002) => [(.box [(intPV q0), (.dat (.lst ((List.map intD) q1))), (intPV q2), (.dat (.lst ((List.map intD) q3))), (intPV q4), (intPV q5), (.dat (.lst ((List.map intD) q6))), (.dat (.lst (T_core_Core.toDs q7)))]), (.mt 3 1 (cellsOf intD v5002)), (.box [(intPV q0), (.dat (.lst ((List.map intD) q1))), (intPV q2), (.dat (.lst ((List.map intD) q3))), (intPV q4), (intPV q5), (.dat (.lst ((List.map intD) q6))), (.dat (.lst (T_core_Core.toDs q7)))])])
theorem w_core_stepWindow_b7a05 : ∀ x r, m_core_stepWindow_b7a05 x = some r → P_core_stepWindow_b7a05 x r := by
  intro x r hm
  unfold m_core_stepWindow_b7a05 at hm
  unfold P_core_stepWindow_b7a05
  obtain ⟨q0, q1, q2, q3, q4, q5, q6, q7, q8⟩ := x
  refine PC_sxB (fn := f249) (by kernel_rfl) (by kernel_rfl) rfl ?_
  refine R_seq ?_
  refine R_G ?_
  refine G_run 4 ?_
  refine G_end ?_
  refine R_seq ?_
  refine R_seq ?_
  refine R_G ?_
  refine G_run 2 ?_
  refine I_len intD q3 (es := (List.map intD) q3) rfl ?_
  refine G_run 1 ?_
  refine G_end ?_
  refine R_block ?_
  obtain ⟨v601, hs, hm⟩ := bind_inv hm
  refine R_loop ?_
  refine RL_use (w_core_stepWindow_b7a05_L1 _ _ hs) (prune_of2 [(.box [(intPV q0), (.dat (.lst ((List.map intD) q1))), (intPV q2), (.dat (.lst ((List.map intD) q3))), (intPV q4), (intPV q5), (.dat (.lst ((List.map intD) q6))), (.dat (.lst (T_core_Core.toDs q7)))]), (.mt 3 1 (cellsOf intD q8)), (.box [(intPV q0), (.dat (.lst ((List.map intD) q1))), (intPV q2), (.dat (.lst ((List.map intD) q3))), (intPV q4), (intPV q5), (.dat (.lst ((List.map intD) q6))), (.dat (.lst (T_core_Core.toDs q7)))])] (fun _ => (pg_cons (by kernel_rfl) (pg_cons (purge_mt intD _ _ _ _ _) (pg_cons (by kernel_rfl) pg_nil)))) rfl) ?_
  clear hs
  intro e s hp
  obtain ⟨rfl, d, rfl⟩ := hp
  refine R_seq ?_
  refine R_seq ?_
  refine R_G ?_
  refine G_run 2 ?_
  obtain ⟨v609, hx, hm⟩ := bind_inv hm
  refine I_idx 8 T_core_Core.toD q7 0 v609 (es := T_core_Core.toDs q7) (d := (T_core_Core.ex v609)) (T_core_Core.toDs_eq _) hx (T_core_Core.toD_eq v609) rfl ?_
  refine G_run 3 ?_
  obtain ⟨_, hl610, hm⟩ := bind_inv hm
  replace hl610 := guard_inv hl610
  obtain ⟨v611, hx, hm⟩ := bind_inv hm
  have hq := w_gamma_Valid _ _ hx []
  refine G_callL (args := [(.dat (.lst ((List.map intD) v609.shape))), (.ms 1 1 0 q8.length q8.length)]) hq (ps_cons (by kernel_rfl) (ps_cons (p1_ms (pc_ms (e := 3) intD v601 hl610 (fun _ => rfl) (by kernel_rfl))) ps_nil)) ?_
  refine G_run 1 ?_
  refine G_end ?_
  refine R_ifp (p := v611 = false) (not_dec _) (fun hc => ?_) (fun hc => ?_)
  · replace hm := pos_inv hc hm
    refine R_seq ?_
    refine R_G ?_
    refine G_run 3 ?_
    refine G_end ?_
    refine R_ret ?_
    obtain rfl := inj1 hm
    exact ⟨trivial, fin_body (by kernel_rfl) (by kernel_rfl)⟩
  replace hm := neg_inv hc hm
  refine R_skip ?_
  refine R_seq ?_
  refine R_G ?_
  refine G_run 4 ?_
  refine G_end ?_
  refine R_ret ?_
  obtain rfl := inj1 hm
  exact ⟨trivial, fin_body (by kernel_rfl) (by kernel_rfl)⟩
end Go.Proofs.Tryz
namespace Go.Proofs.Tryz
open Go Go.Pm
set_option linter.unusedVariables false
set_option maxRecDepth 2000
def m_core_stepReverse_b7a05 (x : (Int × (List Int) × Int × (List Int) × Int × Int × (List Int) × (List T_core_Core) × (List Int))) : Option ((List Int)) :=
  match x with
  | (q0, q1, q2, q3, q4, q5, q6, q7, q8) =>
  idx q1 q4 >>= fun v1 =>
  idx q8 q4 >>= fun v2 =>
  idx q8 q4 >>= fun v3 =>
  idx q8 q4 >>= fun v4 =>
  setM q8 q4 (W ((W (v1 - 1)) - v3)) >>= fun v5 =>
  some v5
def P_core_stepReverse_b7a05 : (Int × (List Int) × Int × (List Int) × Int × Int × (List Int) × (List T_core_Core) × (List Int)) → (List Int) → Prop := fun x r => match x with
  | (q0, q1, q2, q3, q4, q5, q6, q7, q8) => PC prog env 251 [(.dat (.agg [(intD q0), (.lst ((List.map intD) q1)), (intD q2), (.lst ((List.map intD) q3)), (intD q4), (intD q5), (.lst ((List.map intD) q6)), (.lst (T_core_Core.toDs q7))])), (.ms 1 1 0 q8.length q8.length)] [(.box [(intPV q0), (.dat (.lst ((List.map intD) q1))), (intPV q2), (.dat (.lst ((List.map intD) q3))), (intPV q4), (intPV q5), (.dat (.lst ((List.map intD) q6))), (.dat (.lst (T_core_Core.toDs q7)))]), (.mt 3 1 (cellsOf intD q8))] (match r with | v5001 => (.tup [(intPV 0), (.ms 1 1 0 q8.length q8.length), (boolPV true)])) (match r with | v5001 => [(.box [(intPV q0), (.dat (.lst ((List.map intD) q1))), (intPV q2), (.dat (.lst ((List.map intD) q3))), (intPV q4), (intPV q5), (.dat (.lst ((List.map intD) q6))), (.dat (.lst (T_core_Core.toDs q7)))]), (.mt 3 1 (cellsOf intD v5001)), (.box [(intPV q0), (.dat (.lst ((List.map intD) q1))), (intPV q2), (.dat (.lst ((List.map intD) q3))), (intPV q4), (intPV q5), (.dat (.lst ((List.map intD) q6))), (.dat (.lst (T_core_Core.toDs q7)))])])
theorem w_core_stepReverse_b7a05 : ∀ x r, m_core_stepReverse_b7a05 x = some r → P_core_stepReverse_b7a05 x r := by
  intro x r hm
  unfold m_core_stepReverse_b7a05 at hm
  unfold P_core_stepReverse_b7a05
  obtain ⟨q0, q1, q2, q3, q4, q5, q6, q7, q8⟩ := x
  refine PC_sxB (fn := f251) (by kernel_rfl) (by kernel_rfl) rfl ?_
  refine R_seq ?_
  refine R_G ?_
  refine G_run 4 ?_
  refine G_end ?_
  refine R_seq ?_
  refine R_GD ?_
  refine G_run 7 ?_
  obtain ⟨v1, hx, hm⟩ := bind_inv hm
  refine I_idx 1 intD q1 q4 v1 (es := (List.map intD) q1) (d := (intD v1)) rfl hx rfl rfl ?_
  refine G_run 5 ?_
  obtain ⟨v2, hx, hm⟩ := bind_inv hm
  refine G_semN rfl (by kernel_rfl) (fun _ => E_indexMs (e := 3) (n := q4) (j := (q4).toNat) (tt := 1) (g := 1) (lo := 0) (len := q8.length) (cap := q8.length) (k := .i64) (by kernel_rfl) (by kernel_rfl) rfl (by kernel_rfl) (by kernel_rfl) (idx_nat hx) (Nat.lt_of_lt_of_eq (idx_lt hx) rfl)) ?_
  obtain ⟨v3, hx, hm⟩ := bind_inv hm
  refine G_semN rfl (by kernel_rfl) (fun _ => E_loadMs (tt := 1) (g := 1) (j := (0 + (q4).toNat)) (e := 3) (cs := cellsOf intD q8) (v := .dat (intD v3)) (by kernel_rfl) (by kernel_rfl) rfl (by kernel_rfl) (mtOf_at (by kernel_rfl)) (cells_idx intD hx)) ?_
  refine G_run 1 ?_
  obtain ⟨v4, hx, hm⟩ := bind_inv hm
  refine G_semN rfl (by kernel_rfl) (fun _ => E_indexMs (e := 3) (n := q4) (j := (q4).toNat) (tt := 1) (g := 1) (lo := 0) (len := q8.length) (cap := q8.length) (k := .i64) (by kernel_rfl) (by kernel_rfl) rfl (by kernel_rfl) (by kernel_rfl) (idx_nat hx) (Nat.lt_of_lt_of_eq (idx_lt hx) rfl)) ?_
  obtain ⟨v5, hx, hm⟩ := bind_inv hm
  refine G_semH (fun H => H.set 1 (.mt 3 1 (cellsOf intD v5))) rfl (by kernel_rfl) (fun _ => E_stMs intD (l := q8) (n := q4) (y := (W ((W (v1 - 1)) - v3))) hx (fun _ => rfl) (by kernel_rfl) rfl (by kernel_rfl) (by kernel_rfl) (by kernel_rfl)) ?_
  refine G_end ⟨by kernel_rfl, ?_⟩
  refine R_seq ?_
  refine R_G ?_
  refine G_run 4 ?_
  refine G_end ?_
  refine R_ret ?_
  obtain rfl := inj1 hm
  exact ⟨trivial, fin_body (by kernel_rfl) (by kernel_rfl)⟩
end Go.Proofs.Tryz
namespace Go.Proofs.Tryz
open Go Go.Pm
set_option linter.unusedVariables false
set_option maxRecDepth 2000
def m_size_Mod (x : (Int × Int)) : Option Int :=
  match x with
  | (p0, p1) =>
  if p1 ≤ 0 then
    some 0
  else
  remM p0 p1 >>= fun v1 =>
  if v1 < 0 then
    some (W (v1 + p1))
  else
  some v1
def P_size_Mod : (Int × Int) → Int → Prop := fun x r => match x, r with
  | (p0, p1), r0 => ∀ H, PC prog env 200 ([(intD p0), (intD p1)].map .dat) H (intPV r0) H
theorem w_size_Mod : ∀ x r, m_size_Mod x = some r → P_size_Mod x r := by
  intro x r0 hm
  unfold m_size_Mod at hm
  unfold P_size_Mod
  obtain ⟨p0, p1⟩ := x
  intro H
  refine PC_sx (ds := [(intD p0), (intD p1)]) (fn := f200) (by kernel_rfl) (by kernel_rfl) rfl ?_ (by kernel_rfl)
  refine R_seq ?_
  refine R_G ?_
  refine G_run 1 ?_
  refine G_end ?_
  refine R_seq ?_
  refine R_seq ?_
  refine R_G ?_
  refine G_run 2 ?_
  refine G_end ?_
  refine R_ifp (p := p1 ≤ 0) (rfl) (fun hc => ?_) (fun hc => ?_)
  · replace hm := pos_inv hc hm
    refine R_seq ?_
    refine R_G ?_
    refine G_run 1 ?_
    refine G_end ?_
    refine R_ret ?_
    obtain rfl := inj1 hm
    exact ⟨trivial, fin_pure (by kernel_rfl)⟩
  replace hm := neg_inv hc hm
  refine R_skip ?_
  refine R_seq ?_
  refine R_G ?_
  refine G_run 2 ?_
  obtain ⟨v1, hx, hm⟩ := bind_inv hm
  refine G_semN rfl (by kernel_rfl) (fun _ => E_rem (a := p0) (b := p1) hx rfl (by kernel_rfl) (by kernel_rfl)) ?_
  refine G_run 1 ?_
  refine G_end ?_
  refine R_seq ?_
  refine R_seq ?_
  refine R_G ?_
  refine G_run 2 ?_
  refine G_end ?_
  refine R_ifp (p := v1 < 0) (rfl) (fun hc => ?_) (fun hc => ?_)
  · replace hm := pos_inv hc hm
    refine R_G ?_
    refine G_run 4 ?_
    refine G_end ?_
    refine R_seq ?_
    refine R_G ?_
    refine G_run 2 ?_
    refine G_end ?_
    refine R_ret ?_
    obtain rfl := inj1 hm
    exact ⟨trivial, fin_pure (by kernel_rfl)⟩
  replace hm := neg_inv hc hm
  refine R_skip ?_
  refine R_seq ?_
  refine R_G ?_
  refine G_run 2 ?_
  refine G_end ?_
  refine R_ret ?_
  obtain rfl := inj1 hm
  exact ⟨trivial, fin_pure (by kernel_rfl)⟩
end Go.Proofs.Tryz
namespace Go.Proofs.Tryz
open Go Go.Pm
set_option linter.unusedVariables false
set_option maxRecDepth 2000
def m_core_stepRotate_b7a05 (x : (Int × (List Int) × Int × (List Int) × Int × Int × (List Int) × (List T_core_Core) × (List Int))) : Option ((List Int)) :=
  match x with
  | (q0, q1, q2, q3, q4, q5, q6, q7, q8) =>
  idx q8 q4 >>= fun v1 =>
  idx q8 q4 >>= fun v2 =>
  idx q1 q4 >>= fun v3 =>
  m_size_Mod ((W (v2 + q5)), v3) >>= fun (v4 : Int) =>
  idx q8 q4 >>= fun v5 =>
  setM q8 q4 v4 >>= fun v6 =>
  some v6
def P_core_stepRotate_b7a05 : (Int × (List Int) × Int × (List Int) × Int × Int × (List Int) × (List T_core_Core) × (List Int)) → (List Int) → Prop := fun x r => match x with
  | (q0, q1, q2, q3, q4, q5, q6, q7, q8) => PC prog env 253 [(.dat (.agg [(intD q0), (.lst ((List.map intD) q1)), (intD q2), (.lst ((List.map intD) q3)), (intD q4), (intD q5), (.lst ((List.map intD) q6)), (.lst (T_core_Core.toDs q7))])), (.ms 1 1 0 q8.length q8.length)] [(.box [(intPV q0), (.dat (.lst ((List.map intD) q1))), (intPV q2), (.dat (.lst ((List.map intD) q3))), (intPV q4), (intPV q5), (.dat (.lst ((List.map intD) q6))), (.dat (.lst (T_core_Core.toDs q7)))]), (.mt 3 1 (cellsOf intD q8))] (match r with | v5001 => (.tup [(intPV 0), (.ms 1 1 0 q8.length q8.length), (boolPV true)])) (match r with | v5001 => [(.box [(intPV q0), (.dat (.lst ((List.map intD) q1))), (intPV q2), (.dat (.lst ((List.map intD) q3))), (intPV q4), (intPV q5), (.dat (.lst ((List.map intD) q6))), (.dat (.lst (T_core_Core.toDs q7)))]), (.mt 3 1 (cellsOf intD v5001)), (.box [(intPV q0), (.dat (.lst ((List.map intD) q1))), (intPV q2), (.dat (.lst ((List.map intD) q3))), (intPV q4), (intPV q5), (.dat (.lst ((List.map intD) q6))), (.dat (.lst (T_core_Core.toDs q7)))])])
theorem w_core_stepRotate_b7a05 : ∀ x r, m_core_stepRotate_b7a05 x = some r → P_core_stepRotate_b7a05 x r := by
  intro x r hm
  unfold m_core_stepRotate_b7a05 at hm
  unfold P_core_stepRotate_b7a05
  obtain ⟨q0, q1, q2, q3, q4, q5, q6, q7, q8⟩ := x
  refine PC_sxB (fn := f253) (by kernel_rfl) (by kernel_rfl) rfl ?_
  refine R_seq ?_
  refine R_G ?_
  refine G_run 4 ?_
  refine G_end ?_
  refine R_seq ?_
  refine R_GD ?_
  refine G_run 6 ?_
  obtain ⟨v1, hx, hm⟩ := bind_inv hm
  refine G_semN rfl (by kernel_rfl) (fun _ => E_indexMs (e := 3) (n := q4) (j := (q4).toNat) (tt := 1) (g := 1) (lo := 0) (len := q8.length) (cap := q8.length) (k := .i64) (by kernel_rfl) (by kernel_rfl) rfl (by kernel_rfl) (by kernel_rfl) (idx_nat hx) (Nat.lt_of_lt_of_eq (idx_lt hx) rfl)) ?_
  obtain ⟨v2, hx, hm⟩ := bind_inv hm
  refine G_semN rfl (by kernel_rfl) (fun _ => E_loadMs (tt := 1) (g := 1) (j := (0 + (q4).toNat)) (e := 3) (cs := cellsOf intD q8) (v := .dat (intD v2)) (by kernel_rfl) (by kernel_rfl) rfl (by kernel_rfl) (mtOf_at (by kernel_rfl)) (cells_idx intD hx)) ?_
  refine G_run 7 ?_
  obtain ⟨v3, hx, hm⟩ := bind_inv hm
  refine I_idx 1 intD q1 q4 v3 (es := (List.map intD) q1) (d := (intD v3)) rfl hx rfl rfl ?_
  refine G_run 1 ?_
  obtain ⟨v4, hx, hm⟩ := bind_inv hm
  have hq := w_size_Mod _ _ hx []
  refine G_callP hq ?_
  obtain ⟨v5, hx, hm⟩ := bind_inv hm
  refine G_semN rfl (by kernel_rfl) (fun _ => E_indexMs (e := 3) (n := q4) (j := (q4).toNat) (tt := 1) (g := 1) (lo := 0) (len := q8.length) (cap := q8.length) (k := .i64) (by kernel_rfl) (by kernel_rfl) rfl (by kernel_rfl) (by kernel_rfl) (idx_nat hx) (Nat.lt_of_lt_of_eq (idx_lt hx) rfl)) ?_
  obtain ⟨v6, hx, hm⟩ := bind_inv hm
  refine G_semH (fun H => H.set 1 (.mt 3 1 (cellsOf intD v6))) rfl (by kernel_rfl) (fun _ => E_stMs intD (l := q8) (n := q4) (y := v4) hx (fun _ => rfl) (by kernel_rfl) rfl (by kernel_rfl) (by kernel_rfl) (by kernel_rfl)) ?_
  refine G_end ⟨by kernel_rfl, ?_⟩
  refine R_seq ?_
  refine R_G ?_
  refine G_run 4 ?_
  refine G_end ?_
  refine R_ret ?_
  obtain rfl := inj1 hm
  exact ⟨trivial, fin_body (by kernel_rfl) (by kernel_rfl)⟩
end Go.Proofs.Tryz
namespace Go.Proofs.Tryz
open Go Go.Pm
set_option linter.unusedVariables false
set_option maxRecDepth 2000
def m_core_stepTranspose_b7a05_L1 (x : ((List Int) × (List Int) × Int × (List Int) × Int × (List Int) × Int × Int × (List T_core_Core) × (List Int) × Int)) : Option ((List Int)) :=
  match x with
  | (q6, q8, q0, q1, q2, q3, q4, q5, q7, v201, v202) =>
  if v202 < (q6.length : Int) then
    idx q6 v202 >>= fun v602 =>
    idx q8 v602 >>= fun v603 =>
    idx q8 v602 >>= fun v604 =>
    app 8 v201 ([v604] : List Int) >>= fun v605 =>
    m_core_stepTranspose_b7a05_L1 (q6, q8, q0, q1, q2, q3, q4, q5, q7, v605, (W (v202 + 1)))
  else
  some v201
  partial_fixpoint
def P_core_stepTranspose_b7a05_L1 : ((List Int) × (List Int) × Int × (List Int) × Int × (List Int) × Int × Int × (List T_core_Core) × (List Int) × Int) → (List Int) → Prop := fun x r => match x with
  | (q6, q8, q0, q1, q2, q3, q4, q5, q7, v201, v202) => ∀ st, prune 4 ((firstRegion (codeAt [1, 1, 0, 1, 0, 0] (bodyOf f255))).bind (env.hint 255).keepAt) st = ⟨kp 26 [(1, (.ms 1 1 0 q8.length q8.length)), (7, (.vec 3 ((List.map intD) v201))), (11, (.dat (.lst ((List.map intD) q6)))), (12, (intPV (q6.length : Int))), (13, (intPV v202))], [(.box [(intPV q0), (.dat (.lst ((List.map intD) q1))), (intPV q2), (.dat (.lst ((List.map intD) q3))), (intPV q4), (intPV q5), (.dat (.lst ((List.map intD) q6))), (.dat (.lst (T_core_Core.toDs q7)))]), (.mt 3 1 (cellsOf intD q8)), (.box [(intPV q0), (.dat (.lst ((List.map intD) q1))), (intPV q2), (.dat (.lst ((List.map intD) q3))), (intPV q4), (intPV q5), (.dat (.lst ((List.map intD) q6))), (.dat (.lst (T_core_Core.toDs q7)))]), (.tok 3 v201.length)]⟩ →
    RL prog env (env.hint 255) true (codeAt [1, 1, 0, 1, 0, 0] (bodyOf f255)) 4 st (fun e s => match r with | v601 => e = .exit 0 ∧ ∃ d, s = ⟨sl d 26 [(7, (.vec 3 ((List.map intD) v601)))], [(.box [(intPV q0), (.dat (.lst ((List.map intD) q1))), (intPV q2), (.dat (.lst ((List.map intD) q3))), (intPV q4), (intPV q5), (.dat (.lst ((List.map intD) q6))), (.dat (.lst (T_core_Core.toDs q7)))]), (.mt 3 1 (cellsOf intD q8)), (.box [(intPV q0), (.dat (.lst ((List.map intD) q1))), (intPV q2), (.dat (.lst ((List.map intD) q3))), (intPV q4), (intPV q5), (.dat (.lst ((List.map intD) q6))), (.dat (.lst (T_core_Core.toDs q7)))]), (.tok 3 v601.length)]⟩)
theorem w_core_stepTranspose_b7a05_L1 : ∀ x r, m_core_stepTranspose_b7a05_L1 x = some r → P_core_stepTranspose_b7a05_L1 x r := by
  refine m_core_stepTranspose_b7a05_L1.partial_correctness _ (fun m_core_stepTranspose_b7a05_L1 w_core_stepTranspose_b7a05_L1 x r hm => ?_)
  unfold P_core_stepTranspose_b7a05_L1
  obtain ⟨q6, q8, q0, q1, q2, q3, q4, q5, q7, v201, v202⟩ := x
  intro st hst
  refine RL_at hst ?_
  clear hst
  refine R_seq ?_
  refine R_G ?_
  refine G_run 1 ?_
  refine G_end ?_
  refine R_seq ?_
  refine R_ifp (p := v202 < (q6.length : Int)) (rfl) (fun hc => ?_) (fun hc => ?_)
  · replace hm := pos_inv hc hm
    refine R_skip ?_
    refine R_seq ?_
    refine R_block ?_
    refine R_seq ?_
    refine R_G ?_
    obtain ⟨v602, hx, hm⟩ := bind_inv hm
    refine I_idx 1 intD q6 v202 v602 (es := (List.map intD) q6) (d := (intD v602)) rfl hx rfl rfl ?_
    refine G_run 2 ?_
    refine G_end ?_
    refine R_G ?_
    refine G_run 3 ?_
    obtain ⟨v603, hx, hm⟩ := bind_inv hm
    refine G_semN rfl (by kernel_rfl) (fun _ => E_indexMs (e := 3) (n := v602) (j := (v602).toNat) (tt := 1) (g := 1) (lo := 0) (len := q8.length) (cap := q8.length) (k := .i64) (by kernel_rfl) (by kernel_rfl) rfl (by kernel_rfl) (by kernel_rfl) (idx_nat hx) (Nat.lt_of_lt_of_eq (idx_lt hx) rfl)) ?_
    obtain ⟨v604, hx, hm⟩ := bind_inv hm
    refine G_semN rfl (by kernel_rfl) (fun _ => E_loadMs (tt := 1) (g := 1) (j := (0 + (v602).toNat)) (e := 3) (cs := cellsOf intD q8) (v := .dat (intD v604)) (by kernel_rfl) (by kernel_rfl) rfl (by kernel_rfl) (mtOf_at (by kernel_rfl)) (cells_idx intD hx)) ?_
    refine G_run 1 ?_
    obtain ⟨v605, hx, hm⟩ := bind_inv hm
    refine I_app 3 1 8 3 intD v201 ([v604] : List Int) v605 (xs := (List.map intD) v201) (es := (List.map intD) ([v604] : List Int)) (L := (List.map intD)) (fun _ => rfl) rfl rfl (fun _ => rfl) hx ?_
    refine G_run 1 ?_
    refine G_end ?_
    refine R_G ?_
    refine G_run 2 ?_
    refine G_end ?_
    exact w_core_stepTranspose_b7a05_L1 _ _ hm _ (prune_of2 [(.box [(intPV q0), (.dat (.lst ((List.map intD) q1))), (intPV q2), (.dat (.lst ((List.map intD) q3))), (intPV q4), (intPV q5), (.dat (.lst ((List.map intD) q6))), (.dat (.lst (T_core_Core.toDs q7)))]), (.mt 3 1 (cellsOf intD q8)), (.box [(intPV q0), (.dat (.lst ((List.map intD) q1))), (intPV q2), (.dat (.lst ((List.map intD) q3))), (intPV q4), (intPV q5), (.dat (.lst ((List.map intD) q6))), (.dat (.lst (T_core_Core.toDs q7)))]), (.tok 3 v605.length)] (fun _ => (pg_cons (by kernel_rfl) (pg_cons (purge_mt intD _ _ _ _ _) (pg_cons (by kernel_rfl) (pg_cons (by kernel_rfl) pg_nil))))) rfl)
  replace hm := neg_inv hc hm
  refine R_exit ?_
  obtain rfl := inj1 hm
  exact ⟨rfl, cut_leaf (by kernel_rfl)⟩
def m_core_stepTranspose_b7a05 (x : (Int × (List Int) × Int × (List Int) × Int × Int × (List Int) × (List T_core_Core) × (List Int))) : Option ((List Int)) :=
  match x with
  | (q0, q1, q2, q3, q4, q5, q6, q7, q8) =>
  m_core_stepTranspose_b7a05_L1 (q6, q8, q0, q1, q2, q3, q4, q5, q7, ([] : List Int), 0) >>= fun (v601 : (List Int)) =>
  some v601
def P_core_stepTranspose_b7a05 : (Int × (List Int) × Int × (List Int) × Int × Int × (List Int) × (List T_core_Core) × (List Int)) → (List Int) → Prop := fun x r => match x with
  | (q0, q1, q2, q3, q4, q5, q6, q7, q8) => PC prog env 255 [(.dat (.agg [(intD q0), (.lst ((List.map intD) q1)), (intD q2), (.lst ((List.map intD) q3)), (intD q4), (intD q5), (.lst ((List.map intD) q6)), (.lst (T_core_Core.toDs q7))])), (.ms 1 1 0 q8.length q8.length)] [(.box [(intPV q0), (.dat (.lst ((List.map intD) q1))), (intPV q2), (.dat (.lst ((List.map intD) q3))), (intPV q4), (intPV q5), (.dat (.lst ((List.map intD) q6))), (.dat (.lst (T_core_Core.toDs q7)))]), (.mt 3 1 (cellsOf intD q8))] (match r with | v5001 => (.tup [(intPV 0), (.vec 3 ((List.map intD) v5001)), (boolPV true)])) (match r with | v5001 => [(.box [(intPV q0), (.dat (.lst ((List.map intD) q1))), (intPV q2), (.dat (.lst ((List.map intD) q3))), (intPV q4), (intPV q5), (.dat (.lst ((List.map intD) q6))), (.dat (.lst (T_core_Core.toDs q7)))]), (.mt 3 1 (cellsOf intD q8)), (.box [(intPV q0), (.dat (.lst ((List.map intD) q1))), (intPV q2), (.dat (.lst ((List.map intD) q3))), (intPV q4), (intPV q5), (.dat (.lst ((List.map intD) q6))), (.dat (.lst (T_core_Core.toDs q7)))]), (.tok 3 v5001.length)])
theorem w_core_stepTranspose_b7a05 : ∀ x r, m_core_stepTranspose_b7a05 x = some r → P_core_stepTranspose_b7a05 x r := by
  intro x r hm
  unfold m_core_stepTranspose_b7a05 at hm
  unfold P_core_stepTranspose_b7a05
  obtain ⟨q0, q1, q2, q3, q4, q5, q6, q7, q8⟩ := x
  refine PC_sxB (fn := f255) (by kernel_rfl) (by kernel_rfl) rfl ?_
  refine R_seq ?_
  refine R_G ?_
  refine G_run 4 ?_
  refine G_end ?_
  refine R_seq ?_
  refine R_G ?_
  refine G_run 1 ?_
  refine G_end ?_
  refine R_seq ?_
  refine R_seq ?_
  refine R_G ?_
  refine G_run 2 ?_
  refine I_len intD q6 (es := (List.map intD) q6) rfl ?_
  refine G_run 1 ?_
  refine G_end ?_
  refine R_block ?_
  obtain ⟨v601, hs, hm⟩ := bind_inv hm
  refine R_loop ?_
  refine RL_use (w_core_stepTranspose_b7a05_L1 _ _ hs) (prune_of2 [(.box [(intPV q0), (.dat (.lst ((List.map intD) q1))), (intPV q2), (.dat (.lst ((List.map intD) q3))), (intPV q4), (intPV q5), (.dat (.lst ((List.map intD) q6))), (.dat (.lst (T_core_Core.toDs q7)))]), (.mt 3 1 (cellsOf intD q8)), (.box [(intPV q0), (.dat (.lst ((List.map intD) q1))), (intPV q2), (.dat (.lst ((List.map intD) q3))), (intPV q4), (intPV q5), (.dat (.lst ((List.map intD) q6))), (.dat (.lst (T_core_Core.toDs q7)))]), (.tok 3 (([] : List Int).length))] (fun _ => (pg_cons (by kernel_rfl) (pg_cons (purge_mt intD _ _ _ _ _) (pg_cons (by kernel_rfl) (pg_cons (by kernel_rfl) pg_nil))))) rfl) ?_
  clear hs
  intro e s hp
  obtain ⟨rfl, d, rfl⟩ := hp
  refine R_seq ?_
  refine R_G ?_
  refine G_run 4 ?_
  refine G_end ?_
  refine R_ret ?_
  obtain rfl := inj1 hm
  exact ⟨trivial, fin_body (by kernel_rfl) (by kernel_rfl)⟩
end Go.Proofs.Tryz
namespace Go.Proofs.Tryz
open Go Go.Pm
set_option linter.unusedVariables false
set_option maxRecDepth 2000
def m_gamma_layout_index_L1 (x : (T_gamma_layout × (List Int) × (List Int) × Int × Int)) : Option ((List Int)) :=
  match x with
  | (p0, v1, v202, v203, v204) =>
  if v204 < (p0.strides.length : Int) then
    idx p0.strides v204 >>= fun v603 =>
    quoM v203 v603 >>= fun v604 =>
    guardM (v202.length = v1.length) >>= fun (_ : Unit) =>
    idx v202 v204 >>= fun v605 =>
    setM v202 v204 v604 >>= fun v607 =>
    remM v203 v603 >>= fun v608 =>
    m_gamma_layout_index_L1 (p0, v1, v607, v608, (W (v204 + 1)))
  else
  some v202
  partial_fixpoint
def P_gamma_layout_index_L1 : (T_gamma_layout × (List Int) × (List Int) × Int × Int) → (List Int) → Prop := fun x r => match x with
  | (p0, v1, v202, v203, v204) => ∀ st, prune 2 ((firstRegion (codeAt [1, 1, 0, 1, 0, 0] (bodyOf f77))).bind (env.hint 77).keepAt) st = ⟨kp 31 [(1, (intPV v203)), (5, (.arr 1 0 v1.length v1.length)), (13, (.dat (.lst ((List.map intD) p0.strides)))), (14, (intPV (p0.strides.length : Int))), (15, (intPV v204))], [(.box [(.dat (.lst ((List.map intD) p0.strides))), (.dat (.lst ((List.map intD) p0.dims)))]), (.box (cellsOf intD v202))]⟩ →
    RL prog env (env.hint 77) true (codeAt [1, 1, 0, 1, 0, 0] (bodyOf f77)) 2 st (fun e s => match r with | v602 => e = .exit 0 ∧ ∃ d, s = ⟨sl d 31 [(5, (.arr 1 0 v1.length v1.length))], [(.box [(.dat (.lst ((List.map intD) p0.strides))), (.dat (.lst ((List.map intD) p0.dims)))]), (.box (cellsOf intD v602))]⟩)
theorem w_gamma_layout_index_L1 : ∀ x r, m_gamma_layout_index_L1 x = some r → P_gamma_layout_index_L1 x r := by
  refine m_gamma_layout_index_L1.partial_correctness _ (fun m_gamma_layout_index_L1 w_gamma_layout_index_L1 x r hm => ?_)
  unfold P_gamma_layout_index_L1
  obtain ⟨p0, v1, v202, v203, v204⟩ := x
  intro st hst
  refine RL_at hst ?_
  clear hst
  refine R_seq ?_
  refine R_G ?_
  refine G_run 1 ?_
  refine G_end ?_
  refine R_seq ?_
  refine R_ifp (p := v204 < (p0.strides.length : Int)) (rfl) (fun hc => ?_) (fun hc => ?_)
  · replace hm := pos_inv hc hm
    refine R_skip ?_
    refine R_seq ?_
    refine R_block ?_
    refine R_seq ?_
    refine R_G ?_
    refine G_run 1 ?_
    obtain ⟨v603, hx, hm⟩ := bind_inv hm
    refine I_idx 1 intD p0.strides v204 v603 (es := (List.map intD) p0.strides) (d := (intD v603)) rfl hx rfl rfl ?_
    refine G_run 3 ?_
    refine G_end ?_
    refine R_seq ?_
    refine R_G ?_
    refine G_run 4 ?_
    obtain ⟨v604, hx, hm⟩ := bind_inv hm
    refine G_semN rfl (by kernel_rfl) (fun _ => E_quo (a := v203) (b := v603) hx rfl (by kernel_rfl) (by kernel_rfl)) ?_
    obtain ⟨_, hl606, hm⟩ := bind_inv hm
    replace hl606 := guard_inv hl606
    obtain ⟨v605, hx, hm⟩ := bind_inv hm
    refine G_semN rfl (by kernel_rfl) (fun _ => E_ixBox (e := 3) (l := v202) (n := v204) (i := 1) (cap := v1.length) (m := v1.length) hx hl606 (by kernel_rfl) (by kernel_rfl) rfl (by kernel_rfl) (by kernel_rfl)) ?_
    obtain ⟨v607, hx, hm⟩ := bind_inv hm
    refine G_semH (fun H => H.set 1 (.box (cellsOf intD v607))) rfl (by kernel_rfl) (fun _ => E_stBox intD (l := v202) (n := v204) (y := v604) hx (fun _ => rfl) (by kernel_rfl) rfl (by kernel_rfl) (by kernel_rfl) (by kernel_rfl)) ?_
    refine G_end ?_
    refine R_G ?_
    refine G_run 2 ?_
    obtain ⟨v608, hx, hm⟩ := bind_inv hm
    refine G_semN rfl (by kernel_rfl) (fun _ => E_rem (a := v203) (b := v603) hx rfl (by kernel_rfl) (by kernel_rfl)) ?_
    refine G_run 1 ?_
    refine G_end ?_
    refine R_G ?_
    refine G_run 2 ?_
    refine G_end ?_
    exact w_gamma_layout_index_L1 _ _ hm _ (prune_of2 [(.box [(.dat (.lst ((List.map intD) p0.strides))), (.dat (.lst ((List.map intD) p0.dims)))]), (.box (cellsOf intD v607))] (fun _ => (pg_cons (by kernel_rfl) (pg_cons (purge_box intD _ _ _) pg_nil))) rfl)
  replace hm := neg_inv hc hm
  refine R_exit ?_
  obtain rfl := inj1 hm
  exact ⟨rfl, cut_leaf (by kernel_rfl)⟩
def m_gamma_layout_index (x : (T_gamma_layout × Int)) : Option (List Int) :=
  match x with
  | (p0, p1) =>
  makeM 8 (p0.dims.length : Int) 0 >>= fun v1 =>
  m_gamma_layout_index_L1 (p0, v1, v1, p1, 0) >>= fun (v602 : (List Int)) =>
  guardM (v602.length = v1.length) >>= fun (_ : Unit) =>
  some v602
def P_gamma_layout_index : (T_gamma_layout × Int) → (List Int) → Prop := fun x r => match x, r with
  | (p0, p1), r0 => ∀ H, PC prog env 77 ([(T_gamma_layout.toD p0), (intD p1)].map .dat) H (.dat (.lst ((List.map intD) r0))) H
theorem w_gamma_layout_index : ∀ x r, m_gamma_layout_index x = some r → P_gamma_layout_index x r := by
  intro x r0 hm
  unfold m_gamma_layout_index at hm
  unfold P_gamma_layout_index
  obtain ⟨p0, p1⟩ := x
  intro H
  refine PC_sx (ds := [(T_gamma_layout.toD p0), (intD p1)]) (fn := f77) (by kernel_rfl) (by kernel_rfl) rfl ?_ (by kernel_rfl)
  refine R_seq ?_
  refine R_G ?_
  refine G_run 2 ?_
  refine G_end ?_
  refine R_seq ?_
  refine R_G ?_
  refine G_run 2 ?_
  refine I_len intD p0.dims (es := (List.map intD) p0.dims) rfl ?_
  obtain ⟨v1, hx, hm⟩ := bind_inv hm
  refine G_semH (v := .arr 1 0 v1.length v1.length) (fun H => H ++ [.box (cellsOf intD v1)]) rfl (by kernel_rfl) (fun _ hk => E_mkBoxN 1 intD (z := 0) (n := (p0.dims.length : Int)) (bytes := 8) hx (e := 3) (by kernel_rfl) (by kernel_rfl) (by kernel_rfl) (by kernel_rfl) rfl rfl (by kernel_rfl) (by kernel_rfl) hk) ?_
  refine G_run 1 ?_
  refine G_end ?_
  refine R_seq ?_
  refine R_seq ?_
  refine R_G ?_
  refine G_run 2 ?_
  refine I_len intD p0.strides (es := (List.map intD) p0.strides) rfl ?_
  refine G_run 1 ?_
  refine G_end ?_
  refine R_block ?_
  obtain ⟨v602, hs, hm⟩ := bind_inv hm
  refine R_loop ?_
  refine RL_use (w_gamma_layout_index_L1 _ _ hs) (prune_of2 [(.box [(.dat (.lst ((List.map intD) p0.strides))), (.dat (.lst ((List.map intD) p0.dims)))]), (.box (cellsOf intD v1))] (fun _ => (pg_cons (by kernel_rfl) (pg_cons (purge_box intD _ _ _) pg_nil))) rfl) ?_
  clear hs
  intro e s hp
  obtain ⟨rfl, d, rfl⟩ := hp
  refine R_seq ?_
  refine R_G ?_
  refine G_run 2 ?_
  refine G_end ?_
  refine R_ret ?_
  obtain ⟨_, hl609, hm⟩ := bind_inv hm
  replace hl609 := guard_inv hl609
  obtain rfl := inj1 hm
  exact ⟨trivial, fin_pureX [(.arr 1 0 v1.length v1.length)] (by kernel_rfl) (po_arr (pc_arr intD v602 hl609 (fun _ => rfl) (by kernel_rfl)))⟩
end Go.Proofs.Tryz
namespace Go.Proofs.Tryz
open Go Go.Pm
set_option linter.unusedVariables false
set_option maxRecDepth 2000
def m_gamma_Index (x : ((List Int) × Int)) : Option ((List Int) × Bool) :=
  match x with
  | (p0, p1) =>
  (if p1 < 0 then
    some true
  else
  m_shape_Cells p0 >>= fun (v2 : Int) =>
  some (decide (p1 ≥ v2))
  ) >>= fun (v1 : Bool) =>
  if v1 = true then
    some (([] : (List Int)), false)
  else
  m_gamma_layoutOf p0 >>= fun (v3 : T_gamma_layout) =>
  m_gamma_layout_index ((⟨v3.strides, v3.dims⟩ : T_gamma_layout), p1) >>= fun (v4 : (List Int)) =>
  some (v4, true)
def P_gamma_Index : ((List Int) × Int) → ((List Int) × Bool) → Prop := fun x r => match x, r with
  | (p0, p1), (r0, r1) => ∀ H, PC prog env 45 ([(.lst ((List.map intD) p0)), (intD p1)].map .dat) H (.tup [(.dat (.lst ((List.map intD) r0))), (boolPV r1)]) H
theorem w_gamma_Index : ∀ x r, m_gamma_Index x = some r → P_gamma_Index x r := by
  intro x r hm
  unfold m_gamma_Index at hm
  unfold P_gamma_Index
  obtain ⟨p0, p1⟩ := x
  obtain ⟨r0, r1⟩ := r
  intro H
  refine PC_sx (ds := [(.lst ((List.map intD) p0)), (intD p1)]) (fn := f45) (by kernel_rfl) (by kernel_rfl) rfl ?_ (by kernel_rfl)
  refine R_seq ?_
  refine R_G ?_
  refine G_run 2 ?_
  refine G_end ?_
  refine R_seq ?_
  refine R_seq ?_
  obtain ⟨v1, hs, hm⟩ := bind_inv hm
  refine R_cut (fun d => ⟨sl d 18 [(0, (.dat (.lst ((List.map intD) p0)))), (1, (intPV p1)), (13, (boolPV v1))], []⟩) ?_ (fun d => ?_)
  · replace hm := hs
    clear hs
    refine R_G ?_
    refine G_run 3 ?_
    refine G_split (p := p1 < 0) 8 (rfl) (fun hc => ?_) (fun hc => ?_)
    · replace hm := pos_inv hc hm
      refine G_run 5 ?_
      refine G_end ?_
      obtain rfl := inj1 hm
      exact cut_leaf (by kernel_rfl)
    replace hm := neg_inv hc hm
    refine G_run 2 ?_
    obtain ⟨v2, hx, hm⟩ := bind_inv hm
    have hq := w_shape_Cells _ _ hx []
    refine G_callP hq ?_
    refine G_run 2 ?_
    refine G_end ?_
    obtain rfl := inj1 hm
    exact cut_leaf (by kernel_rfl)
  clear hs
  refine R_ifp (p := v1 = true) (bool_dec _) (fun hc => ?_) (fun hc => ?_)
  · replace hm := pos_inv hc hm
    refine R_seq ?_
    refine R_G ?_
    refine G_run 2 ?_
    refine G_end ?_
    refine R_ret ?_
    obtain ⟨rfl, rfl⟩ := inj2 hm
    exact ⟨trivial, fin_pure (by kernel_rfl)⟩
  replace hm := neg_inv hc hm
  refine R_skip ?_
  refine R_seq ?_
  refine R_G ?_
  refine G_run 1 ?_
  obtain ⟨v3, hx, hm⟩ := bind_inv hm
  have hq := w_gamma_layoutOf _ _ hx []
  refine G_callP hq ?_
  refine G_run 1 ?_
  obtain ⟨v4, hx, hm⟩ := bind_inv hm
  have hq := w_gamma_layout_index _ _ hx []
  refine G_callP hq ?_
  refine G_run 2 ?_
  refine G_end ?_
  refine R_ret ?_
  obtain ⟨rfl, rfl⟩ := inj2 hm
  exact ⟨trivial, fin_pure (by kernel_rfl)⟩
end Go.Proofs.Tryz
namespace Go.Proofs.Tryz
open Go Go.Pm
set_option linter.unusedVariables false
set_option maxRecDepth 2000
def m_core_stepReshape_b7a05 (x : (Int × (List Int) × Int × (List Int) × Int × Int × (List Int) × (List T_core_Core) × (List Int))) : Option (((List Int) × Bool)) :=
  match x with
  | (q0, q1, q2, q3, q4, q5, q6, q7, q8) =>
  m_gamma_Offset (q1, q8) >>= fun ((v1, v2) : (Int × Bool)) =>
  idx q7 0 >>= fun v3 =>
  m_shape_Cells v3.shape >>= fun (v4 : Int) =>
  idx q7 0 >>= fun v5 =>
  m_size_Mod (v1, v4) >>= fun (v6 : Int) =>
  m_gamma_Index (v5.shape, v6) >>= fun ((v7, v8) : ((List Int) × Bool)) =>
  some (v7, v8)
def P_core_stepReshape_b7a05 : (Int × (List Int) × Int × (List Int) × Int × Int × (List Int) × (List T_core_Core) × (List Int)) → ((List Int) × Bool) → Prop := fun x r => match x with
  | (q0, q1, q2, q3, q4, q5, q6, q7, q8) => PC prog env 256 [(.dat (.agg [(intD q0), (.lst ((List.map intD) q1)), (intD q2), (.lst ((List.map intD) q3)), (intD q4), (intD q5), (.lst ((List.map intD) q6)), (.lst (T_core_Core.toDs q7))])), (.ms 1 1 0 q8.length q8.length)] [(.box [(intPV q0), (.dat (.lst ((List.map intD) q1))), (intPV q2), (.dat (.lst ((List.map intD) q3))), (intPV q4), (intPV q5), (.dat (.lst ((List.map intD) q6))), (.dat (.lst (T_core_Core.toDs q7)))]), (.mt 3 1 (cellsOf intD q8))] (match r with | (v5001, v5002) => (.tup [(intPV 0), (.dat (.lst ((List.map intD) v5001))), (boolPV v5002)])) (match r with | (v5001, v5002) => [(.box [(intPV q0), (.dat (.lst ((List.map intD) q1))), (intPV q2), (.dat (.lst ((List.map intD) q3))), (intPV q4), (intPV q5), (.dat (.lst ((List.map intD) q6))), (.dat (.lst (T_core_Core.toDs q7)))]), (.mt 3 1 (cellsOf intD q8)), (.box [(intPV q0), (.dat (.lst ((List.map intD) q1))), (intPV q2), (.dat (.lst ((List.map intD) q3))), (intPV q4), (intPV q5), (.dat (.lst ((List.map intD) q6))), (.dat (.lst (T_core_Core.toDs q7)))])])
theorem w_core_stepReshape_b7a05 : ∀ x r, m_core_stepReshape_b7a05 x = some r → P_core_stepReshape_b7a05 x r := by
  intro x r hm
  unfold m_core_stepReshape_b7a05 at hm
  unfold P_core_stepReshape_b7a05
  obtain ⟨q0, q1, q2, q3, q4, q5, q6, q7, q8⟩ := x
  refine PC_sxB (fn := f256) (by kernel_rfl) (by kernel_rfl) rfl ?_
  refine R_seq ?_
  refine R_G ?_
  refine G_run 4 ?_
  refine G_end ?_
  refine R_seq ?_
  refine R_G ?_
  refine G_run 3 ?_
  obtain ⟨⟨v1, v2⟩, hx, hm⟩ := bind_inv hm
  have hq := w_gamma_Offset _ _ hx []
  refine G_callL (args := [(.dat (.lst ((List.map intD) q1))), (.ms 1 1 0 q8.length q8.length)]) hq (ps_cons (by kernel_rfl) (ps_cons (p1_ms (pc_ms (e := 3) intD q8 rfl (fun _ => rfl) (by kernel_rfl))) ps_nil)) ?_
  refine G_run 5 ?_
  refine G_end ?_
  refine R_seq ?_
  refine R_G ?_
  refine G_run 2 ?_
  obtain ⟨v3, hx, hm⟩ := bind_inv hm
  refine I_idx 8 T_core_Core.toD q7 0 v3 (es := T_core_Core.toDs q7) (d := (T_core_Core.ex v3)) (T_core_Core.toDs_eq _) hx (T_core_Core.toD_eq v3) rfl ?_
  refine G_run 2 ?_
  obtain ⟨v4, hx, hm⟩ := bind_inv hm
  have hq := w_shape_Cells _ _ hx []
  refine G_callP hq ?_
  refine G_run 1 ?_
  refine G_end ?_
  refine R_seq ?_
  refine R_GD ?_
  refine G_run 2 ?_
  obtain ⟨v5, hx, hm⟩ := bind_inv hm
  refine I_idx 8 T_core_Core.toD q7 0 v5 (es := T_core_Core.toDs q7) (d := (T_core_Core.ex v5)) (T_core_Core.toDs_eq _) hx (T_core_Core.toD_eq v5) rfl ?_
  refine G_run 4 ?_
  obtain ⟨v6, hx, hm⟩ := bind_inv hm
  have hq := w_size_Mod _ _ hx []
  refine G_callP hq ?_
  obtain ⟨⟨v7, v8⟩, hx, hm⟩ := bind_inv hm
  have hq := w_gamma_Index _ _ hx []
  refine G_callP hq ?_
  refine G_run 5 ?_
  refine G_end ⟨by kernel_rfl, ?_⟩
  refine R_seq ?_
  refine R_G ?_
  refine G_run 5 ?_
  refine G_end ?_
  refine R_ret ?_
  obtain rfl := inj1 hm
  exact ⟨trivial, fin_body (by kernel_rfl) (by kernel_rfl)⟩
end Go.Proofs.Tryz
namespace Go.Proofs.Tryz
open Go Go.Pm
set_option linter.unusedVariables false
set_option maxRecDepth 2000
def m_core_stepCatenate_b7a05 (x : (Int × (List Int) × Int × (List Int) × Int × Int × (List Int) × (List T_core_Core) × (List Int))) : Option (((List Int) × Int)) :=
  match x with
  | (q0, q1, q2, q3, q4, q5, q6, q7, q8) =>
  idx q7 0 >>= fun v1 =>
  idx v1.shape q4 >>= fun v2 =>
  idx q8 q4 >>= fun v3 =>
  idx q8 q4 >>= fun v4 =>
  if v4 < v2 then
    some (q8, 0)
  else
  idx q8 q4 >>= fun v5 =>
  idx q8 q4 >>= fun v6 =>
  idx q8 q4 >>= fun v7 =>
  setM q8 q4 (W (v6 - v2)) >>= fun v8 =>
  some (v8, 1)
def P_core_stepCatenate_b7a05 : (Int × (List Int) × Int × (List Int) × Int × Int × (List Int) × (List T_core_Core) × (List Int)) → ((List Int) × Int) → Prop := fun x r => match x with
  | (q0, q1, q2, q3, q4, q5, q6, q7, q8) => PC prog env 258 [(.dat (.agg [(intD q0), (.lst ((List.map intD) q1)), (intD q2), (.lst ((List.map intD) q3)), (intD q4), (intD q5), (.lst ((List.map intD) q6)), (.lst (T_core_Core.toDs q7))])), (.ms 1 1 0 q8.length q8.length)] [(.box [(intPV q0), (.dat (.lst ((List.map intD) q1))), (intPV q2), (.dat (.lst ((List.map intD) q3))), (intPV q4), (intPV q5), (.dat (.lst ((List.map intD) q6))), (.dat (.lst (T_core_Core.toDs q7)))]), (.mt 3 1 (cellsOf intD q8))] (match r with | (v5001, v5002) => (.tup [(intPV v5002), (.ms 1 1 0 q8.length q8.length), (boolPV true)])) (match r with | (v5001, v5002) => [(.box [(intPV q0), (.dat (.lst ((List.map intD) q1))), (intPV q2), (.dat (.lst ((List.map intD) q3))), (intPV q4), (intPV q5), (.dat (.lst ((List.map intD) q6))), (.dat (.lst (T_core_Core.toDs q7)))]), (.mt 3 1 (cellsOf intD v5001)), (.box [(intPV q0), (.dat (.lst ((List.map intD) q1))), (intPV q2), (.dat (.lst ((List.map intD) q3))), (intPV q4), (intPV q5), (.dat (.lst ((List.map intD) q6))), (.dat (.lst (T_core_Core.toDs q7)))])])
theorem w_core_stepCatenate_b7a05 : ∀ x r, m_core_stepCatenate_b7a05 x = some r → P_core_stepCatenate_b7a05 x r := by
  intro x r hm
  unfold m_core_stepCatenate_b7a05 at hm
  unfold P_core_stepCatenate_b7a05
  obtain ⟨q0, q1, q2, q3, q4, q5, q6, q7, q8⟩ := x
  refine PC_sxB (fn := f258) (by kernel_rfl) (by kernel_rfl) rfl ?_
  refine R_seq ?_
  refine R_G ?_
  refine G_run 4 ?_
  refine G_end ?_
  refine R_seq ?_
  refine R_GD ?_
  refine G_run 2 ?_
  obtain ⟨v1, hx, hm⟩ := bind_inv hm
  refine I_idx 8 T_core_Core.toD q7 0 v1 (es := T_core_Core.toDs q7) (d := (T_core_Core.ex v1)) (T_core_Core.toDs_eq _) hx (T_core_Core.toD_eq v1) rfl ?_
  refine G_run 4 ?_
  obtain ⟨v2, hx, hm⟩ := bind_inv hm
  refine I_idx 1 intD v1.shape q4 v2 (es := (List.map intD) v1.shape) (d := (intD v2)) rfl hx rfl rfl ?_
  refine G_run 2 ?_
  refine G_end ⟨by kernel_rfl, ?_⟩
  refine R_seq ?_
  refine R_seq ?_
  refine R_G ?_
  refine G_run 3 ?_
  obtain ⟨v3, hx, hm⟩ := bind_inv hm
  refine G_semN rfl (by kernel_rfl) (fun _ => E_indexMs (e := 3) (n := q4) (j := (q4).toNat) (tt := 1) (g := 1) (lo := 0) (len := q8.length) (cap := q8.length) (k := .i64) (by kernel_rfl) (by kernel_rfl) rfl (by kernel_rfl) (by kernel_rfl) (idx_nat hx) (Nat.lt_of_lt_of_eq (idx_lt hx) rfl)) ?_
  obtain ⟨v4, hx, hm⟩ := bind_inv hm
  refine G_semN rfl (by kernel_rfl) (fun _ => E_loadMs (tt := 1) (g := 1) (j := (0 + (q4).toNat)) (e := 3) (cs := cellsOf intD q8) (v := .dat (intD v4)) (by kernel_rfl) (by kernel_rfl) rfl (by kernel_rfl) (mtOf_at (by kernel_rfl)) (cells_idx intD hx)) ?_
  refine G_run 2 ?_
  refine G_end ?_
  refine R_ifp (p := v4 < v2) (rfl) (fun hc => ?_) (fun hc => ?_)
  · replace hm := pos_inv hc hm
    refine R_seq ?_
    refine R_G ?_
    refine G_run 4 ?_
    refine G_end ?_
    refine R_ret ?_
    obtain rfl := inj1 hm
    exact ⟨trivial, fin_body (by kernel_rfl) (by kernel_rfl)⟩
  replace hm := neg_inv hc hm
  refine R_skip ?_
  refine R_seq ?_
  refine R_G ?_
  refine G_run 3 ?_
  obtain ⟨v5, hx, hm⟩ := bind_inv hm
  refine G_semN rfl (by kernel_rfl) (fun _ => E_indexMs (e := 3) (n := q4) (j := (q4).toNat) (tt := 1) (g := 1) (lo := 0) (len := q8.length) (cap := q8.length) (k := .i64) (by kernel_rfl) (by kernel_rfl) rfl (by kernel_rfl) (by kernel_rfl) (idx_nat hx) (Nat.lt_of_lt_of_eq (idx_lt hx) rfl)) ?_
  obtain ⟨v6, hx, hm⟩ := bind_inv hm
  refine G_semN rfl (by kernel_rfl) (fun _ => E_loadMs (tt := 1) (g := 1) (j := (0 + (q4).toNat)) (e := 3) (cs := cellsOf intD q8) (v := .dat (intD v6)) (by kernel_rfl) (by kernel_rfl) rfl (by kernel_rfl) (mtOf_at (by kernel_rfl)) (cells_idx intD hx)) ?_
  refine G_run 2 ?_
  obtain ⟨v7, hx, hm⟩ := bind_inv hm
  refine G_semN rfl (by kernel_rfl) (fun _ => E_indexMs (e := 3) (n := q4) (j := (q4).toNat) (tt := 1) (g := 1) (lo := 0) (len := q8.length) (cap := q8.length) (k := .i64) (by kernel_rfl) (by kernel_rfl) rfl (by kernel_rfl) (by kernel_rfl) (idx_nat hx) (Nat.lt_of_lt_of_eq (idx_lt hx) rfl)) ?_
  obtain ⟨v8, hx, hm⟩ := bind_inv hm
  refine G_semH (fun H => H.set 1 (.mt 3 1 (cellsOf intD v8))) rfl (by kernel_rfl) (fun _ => E_stMs intD (l := q8) (n := q4) (y := (W (v6 - v2))) hx (fun _ => rfl) (by kernel_rfl) rfl (by kernel_rfl) (by kernel_rfl) (by kernel_rfl)) ?_
  refine G_end ?_
  refine R_seq ?_
  refine R_G ?_
  refine G_run 4 ?_
  refine G_end ?_
  refine R_ret ?_
  obtain rfl := inj1 hm
  exact ⟨trivial, fin_body (by kernel_rfl) (by kernel_rfl)⟩
end Go.Proofs.Tryz
