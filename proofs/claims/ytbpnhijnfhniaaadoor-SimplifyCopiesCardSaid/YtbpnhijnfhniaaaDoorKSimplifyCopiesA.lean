/-
  Models of functions, their walks, and plain laws.
-/
import Derived.Test.YtbpnhijnfhniaaaDoorPmSx
import Derived.Test.YtbpnhijnfhniaaaDoorProg
import Derived.Test.YtbpnhijnfhniaaaDoorPmMap
import Derived.Test.YtbpnhijnfhniaaaDoorPmTab
import Derived.Test.YtbpnhijnfhniaaaDoorPmPk
import Derived.Test.YtbpnhijnfhniaaaDoorRows
import Derived.WalkKit
import Derived.WalkSpells
import Derived.WalkLawsBesides
import Derived.ArgAppend
import Derived.Laws.OwnMore
import Derived.Test.YtbpnhijnfhniaaaDoorPmFun
import Derived.Laws.ResultCell
import Derived.Test.YtbpnhijnfhniaaaDoorPmLaw
namespace Go.Proofs.Tryd
open Go Go.Pm
set_option linter.unusedVariables false
set_option linter.unusedSimpArgs false
set_option maxRecDepth 2000
/-- lists that a machine can hold -/
def Sm (n : Nat) : Prop := n ≤ 9223372036854775807
theorem Sm_of {n m : Nat} (h : n ≤ m) (hm : m ≤ 9223372036854775807 := by decide) : Sm n := Nat.le_trans h hm
theorem idx_ok {α : Type} {l : List α} {j : Nat} (h : j < l.length) : idx l (j : Int) = some l[j] := by simp [idx, h]
theorem app_ok {α : Type} {b : Nat} {l es : List α} (h : (l.length + es.length) * b ≤ room) : app b l es = some (l ++ es) := if_pos h
theorem W_ok {n : Int} (h1 : -9223372036854775808 ≤ n) (h2 : n < 9223372036854775808) : W n = n := by
  simp only [W, IntKind.wrap, IntKind.bits, IntKind.signed]; simp; split <;> omega
theorem W_succ {j : Nat} (h : j < 9223372036854775807) : W ((j : Int) + 1) = ((j + 1 : Nat) : Int) := by rw [W_ok (by omega) (by omega)]; omega
/-! a loop over a list: what lies behind, what lies ahead -/
section
variable {α : Type} {p s : List α} {x : α}
theorem mid_lt : ((p.length : Int) < ((p ++ x :: s).length : Int)) := by simp; omega
theorem end_lt : ¬ ((p.length : Int) < ((p ++ ([] : List α)).length : Int)) := by simp
theorem mid_idx : idx (p ++ x :: s) (p.length : Int) = some x := by simp [idx]
theorem mid_app : p ++ x :: s = (p ++ [x]) ++ s := by simp
theorem mid_W (hs : Sm (p ++ x :: s).length) : W ((p.length : Int) + 1) = ((p ++ [x]).length : Int) := by
  unfold Sm at hs
  rw [W_ok (by omega) (by simp at hs; omega)]; simp
end
theorem bind_ok {α β : Type} (a : α) (f : α → Option β) : (some a >>= f) = f a := rfl
end Go.Proofs.Tryd
namespace Go.Proofs.Tryd
open Go Go.Pm
set_option linter.unusedVariables false
set_option maxHeartbeats 2000000
set_option maxRecDepth 2000
def hintOf : FuncId → Hint
  | 6 => { own := [((1, 1), [(5, 25)]), ((2, 0), [(0, 2)]), ((3, 1), [(0, 25)])], keep := [(5, [1, 2, 3, 4])] }
  | 9 => { own := [], keep := [(2, [1, 2]), (6, [1, 3])] }
  | 10 => { own := [], keep := [(4, [2, 3, 5]), (9, [2, 3, 6])] }
  | 15 => { own := [((2, 0), [(0, 25)]), ((10, 2), [(0, 25)])], keep := [(4, [1, 2, 4, 5, 13, 14, 15]), (11, [1, 2, 4])] }
  | 16 => { own := [((1, 2), [(0, 2)]), ((2, 0), [(0, 25)])], keep := [(4, [1, 2, 3, 11, 12, 13])] }
  | 17 => { own := [], keep := [(2, [1, 2, 8, 9])] }
  | 18 => { own := [((3, 0), [(0, 50)])], keep := [(5, [0, 4, 5]), (26, [0, 4, 5, 12, 13, 14])] }
  | 20 => { own := [], keep := [(3, [1, 2, 5])] }
  | 21 => { own := [], keep := [(3, [1, 3, 4])] }
  | 22 => { own := [], keep := [(3, [1, 3, 4])] }
  | 23 => { own := [], keep := [(4, [1, 3])] }
  | 24 => { own := [((2, 0), [(1000, 2)]), ((3, 0), [(1000, 2)])], keep := [] }
  | 26 => { own := [], keep := [(1, [0, 1])] }
  | 28 => { own := [], keep := [(5, [0, 1, 6, 7])] }
  | 30 => { own := [], keep := [(2, [0, 2, 4, 5, 6])] }
  | 33 => { own := [((10, 5), [(0, 2)])], keep := [(9, [0, 1, 4, 7])] }
  | 37 => { own := [], keep := [(3, [0, 5, 6])] }
  | 38 => { own := [], keep := [(3, [1, 3, 4])] }
  | 63 => { own := [], keep := [(4, [3, 6, 34, 35, 36])] }
  | _ => {}
def env : Env where
  summ := fun _ => none
  hint := hintOf
  pure := fun f => f != 24
  split := fun f => f == 24
abbrev FQ := FP prog env
abbrev LQ := LP prog env

end Go.Proofs.Tryd
namespace Go.Proofs.Tryd
open Go Go.Pm
set_option linter.unusedVariables false
set_option maxHeartbeats 2000000
set_option maxRecDepth 2000
structure T_api_Tree where
  kind : Int
  fn : Int
  axis : Int
  name : ByteArray
  nums : (List Int)
  kids : (List T_api_Tree)
mutual
def T_api_Tree.toD : T_api_Tree → Dat
  | ⟨kind, fn, axis, name, nums, kids⟩ => .agg [(intD kind), (intD fn), (intD axis), (strD name), (.lst ((List.map intD) nums)), (.lst (T_api_Tree.toDs kids))]
def T_api_Tree.toDs : List T_api_Tree → List Dat
  | [] => []
  | k :: ks => T_api_Tree.toD k :: T_api_Tree.toDs ks
end
theorem T_api_Tree.toDs_eq : ∀ l : List T_api_Tree, T_api_Tree.toDs l = l.map T_api_Tree.toD
  | [] => rfl
  | k :: ks => by rw [T_api_Tree.toDs, T_api_Tree.toDs_eq ks]; rfl
def T_api_Tree.ex (x : T_api_Tree) : Dat := .agg [(intD x.kind), (intD x.fn), (intD x.axis), (strD x.name), (.lst ((List.map intD) x.nums)), (.lst (T_api_Tree.toDs x.kids))]
theorem T_api_Tree.toD_eq (x : T_api_Tree) : x.toD = x.ex := by cases x; rfl
theorem T_api_Tree.fit (x : T_api_Tree) : Dat.fits 6 x.toD = true := by cases x; rfl
abbrev k_2524f3 := ((.dat (.lst (T_api_Tree.toDs []))) : PV)
abbrev k_67abae := fun x0 => ((.dat (.lst (T_api_Tree.toDs x0))) : PV)
abbrev k_8e3eb1 := ((.box [(intPV 0), (intPV 0), (intPV 0), (.dat (strD ByteArray.empty)), Ea, (.dat (.lst (T_api_Tree.toDs [])))]) : Blk)
abbrev k_8d433f := fun x0 x1 x2 x3 x4 x5 => ((.box [(intPV x0), (intPV x1), (intPV x2), (.dat (strD x3)), (La x4), (.dat (.lst (T_api_Tree.toDs x5)))]) : Blk)
abbrev k_84b388 := ((.dat (.agg [(.raw (.func (.func 55) #[] #[])), (.raw (.func (.func 56) #[] #[])), (.raw (.func (.func 57) #[] #[])), (.raw (.func (.func 58) #[] #[])), (.raw (.func (.func 59) #[] #[])), (.raw (.func (.func 60) #[] #[]))])) : PV)
abbrev k_f03bee := fun x0 x1 x2 x3 x4 x5 => ([(k_8d433f x0 x1 x2 x3 x4 x5), k_8e3eb1] : List Blk)
end Go.Proofs.Tryd
namespace Go.Proofs.Tryd
open Go Go.Pm
set_option linter.unusedVariables false
set_option maxHeartbeats 2000000
set_option maxRecDepth 2000
def a_ref09_Text0 : ByteArray := (⟨#[226, 140, 189, 226, 140, 189, 50, 32, 51, 226, 141, 180, 44, 120]⟩ : ByteArray)
def a_ref09_Text1 : ByteArray := (⟨#[50, 32, 51, 226, 141, 180, 120]⟩ : ByteArray)
def r_ref09_Text0 : (T_api_Tree × Int) := ((⟨3, 3, -1, ByteArray.empty, [], [(⟨3, 3, -1, ByteArray.empty, [], [(⟨4, 5, -1, ByteArray.empty, [], [(⟨1, 0, -1, ByteArray.empty, [2, 3], []⟩ : T_api_Tree), (⟨3, 6, -1, ByteArray.empty, [], [(⟨2, 0, -1, (⟨#[120]⟩ : ByteArray), [], []⟩ : T_api_Tree)]⟩ : T_api_Tree)]⟩ : T_api_Tree)]⟩ : T_api_Tree)]⟩ : T_api_Tree), 0)
def r_ref09_Text1 : (T_api_Tree × Int) := ((⟨4, 5, -1, ByteArray.empty, [], [(⟨1, 0, -1, ByteArray.empty, [2, 3], []⟩ : T_api_Tree), (⟨2, 0, -1, (⟨#[120]⟩ : ByteArray), [], []⟩ : T_api_Tree)]⟩ : T_api_Tree), 0)
def P_ref09_Text : ByteArray → (T_api_Tree × Int) → Prop := fun x r => match x, r with
  | p0, (r0, r1) => ∀ H, PC prog env 11 ([(strD p0)].map .dat) H (.tup [(.dat (T_api_Tree.ex r0)), (intPV r1)]) H
theorem k_ref09_Text0 : P_ref09_Text a_ref09_Text0 r_ref09_Text0 := fun H => PC_of (n := 200) (by kernel_rfl)
theorem k_ref09_Text1 : P_ref09_Text a_ref09_Text1 r_ref09_Text1 := fun H => PC_of (n := 200) (by kernel_rfl)
def m_ref09_Text (x : ByteArray) : Option (T_api_Tree × Int) :=
  if x = a_ref09_Text0 then some r_ref09_Text0 else
  if x = a_ref09_Text1 then some r_ref09_Text1 else
  none
theorem w_ref09_Text : ∀ x r, m_ref09_Text x = some r → P_ref09_Text x r := by
  intro x r hm
  unfold m_ref09_Text at hm
  split at hm
  · rename_i h; subst h; cases hm; exact k_ref09_Text0
  split at hm
  · rename_i h; subst h; cases hm; exact k_ref09_Text1
  cases hm
end Go.Proofs.Tryd
namespace Go.Proofs.Tryd
open Go Go.Pm
set_option linter.unusedVariables false
set_option maxHeartbeats 2000000
set_option maxRecDepth 2000
def m_simplify_is (x : (T_api_Tree × Int × Int)) : Option Bool :=
  match x with
  | (p0, p1, p2) =>
  if p0.kind = p1 then
    some (p0.fn == p2)
  else
  some false
theorem w_simplify_is {p0 p1 p2 r0} (hm : m_simplify_is (p0, p1, p2) = some r0) : FQ 62 [(T_api_Tree.ex p0), (intD p1), (intD p2)] (boolPV r0) := by
  unfold m_simplify_is at hm
  exact fp (fn:=f62) rfl (ge 2 (gr 5 (gsq 11 hm (fun hm=>re 6 (R_ret zf)) (fun hm=>re 6 (R_ret zf)))))
end Go.Proofs.Tryd
namespace Go.Proofs.Tryd
open Go Go.Pm
set_option linter.unusedVariables false
set_option maxHeartbeats 2000000
set_option maxRecDepth 2000
def m_simplify_twice (x : (T_api_Tree × Int)) : Option (T_api_Tree × Bool) :=
  match x with
  | (p0, p1) =>
  (m_simplify_is (p0, 3, p1) >>= fun (v2 : Bool) =>
  (if v2 = false then
    some true
  else
  idx p0.kids 0 >>= fun v4 =>
  m_simplify_is (v4, 3, p1) >>= fun v5 =>
  some (!v5)
  ) >>= fun (v3 : Bool) =>
  if v3 = true then
    some true
  else
  idx p0.kids 0 >>= fun v6 =>
  some (p0.axis != v6.axis)
  ) >>= fun (v1 : Bool) =>
  if v1 = true then
    some (p0, false)
  else
  idx p0.kids 0 >>= fun v7 =>
  idx v7.kids 0 >>= fun v8 =>
  some (v8, true)
theorem w_simplify_twice {p0 p1 r0 r1} (hm : m_simplify_twice (p0, p1) = some (r0, r1)) : FQ 61 [(T_api_Tree.ex p0), (intD p1)] (.tup [(.dat (T_api_Tree.ex r0)), (boolPV r1)]) := by
  unfold m_simplify_twice at hm
  exact fp (fn:=f61) rfl (ge 3 (R_seq (R_seq (bi hm fun v1 hs hm=>R_cut (fun d => ⟨sl d 37 [(2, (.ptr 0 0)), (4, (.ptr 1 0)), (28, (boolPV v1))], (k_f03bee p0.kind p0.fn p0.axis p0.name p0.nums p0.kids)⟩) (have hm:=hs;R_GW (G_run 2 (bi hm fun v2 hx hm=>cp (w_simplify_is hx) (G_run 2 (bi hm fun v3 hs hm=>G_cut (j := 13) (fun d => ⟨sl d 37 [(2, (.ptr 0 0)), (4, (.ptr 1 0)), (18, (boolPV v3))], (k_f03bee p0.kind p0.fn p0.axis p0.name p0.nums p0.kids)⟩) (fun d => G_run 1 (gsb 19 hm (fun hm=>re 9 ⟨kr, zf⟩) (fun hm=>G_run 4 (bi hm fun v6 hx hm=>I_idx 6 T_api_Tree.toD p0.kids 0 v6 (es := T_api_Tree.toDs p0.kids) (d := (T_api_Tree.ex v6)) (T_api_Tree.toDs_eq _) hx (T_api_Tree.toD_eq v6) rfl (re 4 ⟨kr, zf⟩))))) (fun hJ => gsn 10 hs (fun hm=>G_run 8 zf) (fun hm=>G_run 2 (bi hm fun v4 hx hm=>I_idx 6 T_api_Tree.toD p0.kids 0 v4 (es := T_api_Tree.toDs p0.kids) (d := (T_api_Tree.ex v4)) (T_api_Tree.toDs_eq _) hx (T_api_Tree.toD_eq v4) rfl (G_run 2 (bi hm fun v5 hx hm=>cp (w_simplify_is hx) (G_run 2 zf))))))))))) (fun d => rib hm (fun hm=>ge 3 (R_ret zf)) (fun hm=>R_skip (gr 2 (bi hm fun v7 hx hm=>I_idx 6 T_api_Tree.toD p0.kids 0 v7 (es := T_api_Tree.toDs p0.kids) (d := (T_api_Tree.ex v7)) (T_api_Tree.toDs_eq _) hx (T_api_Tree.toD_eq v7) rfl (G_run 2 (bi hm fun v8 hx hm=>I_idx 6 T_api_Tree.toD v7.kids 0 v8 (es := T_api_Tree.toDs v7.kids) (d := (T_api_Tree.ex v8)) (T_api_Tree.toDs_eq _) hx (T_api_Tree.toD_eq v8) rfl (re 3 (R_ret zf))))))))))))
end Go.Proofs.Tryd
namespace Go.Proofs.Tryd
open Go Go.Pm
set_option linter.unusedVariables false
set_option maxHeartbeats 2000000
set_option maxRecDepth 2000
def m_simplify_reversed (x : T_api_Tree) : Option (T_api_Tree × Bool) :=
  match x with
  | p0 =>
  m_simplify_twice (p0, 3) >>= fun (v1, v2) =>
  some (v1, v2)
theorem w_simplify_reversed {p0 r0 r1} (hm : m_simplify_reversed p0 = some (r0, r1)) : FQ 55 [(T_api_Tree.ex p0)] (.tup [(.dat (T_api_Tree.ex r0)), (boolPV r1)]) := by
  unfold m_simplify_reversed at hm
  exact fp (fn:=f55) rfl (ge 3 (gr 1 (bi2 hm fun v1 v2 hx hm=>cp (w_simplify_twice hx) (re 4 (R_ret zf)))))
end Go.Proofs.Tryd
namespace Go.Proofs.Tryd
open Go Go.Pm
set_option linter.unusedVariables false
set_option maxHeartbeats 2000000
set_option maxRecDepth 2000
def m_simplify_transposed (x : T_api_Tree) : Option (T_api_Tree × Bool) :=
  match x with
  | p0 =>
  m_simplify_twice (p0, 4) >>= fun (v1, v2) =>
  some (v1, v2)
theorem w_simplify_transposed {p0 r0 r1} (hm : m_simplify_transposed p0 = some (r0, r1)) : FQ 56 [(T_api_Tree.ex p0)] (.tup [(.dat (T_api_Tree.ex r0)), (boolPV r1)]) := by
  unfold m_simplify_transposed at hm
  exact fp (fn:=f56) rfl (ge 3 (gr 1 (bi2 hm fun v1 v2 hx hm=>cp (w_simplify_twice hx) (re 4 (R_ret zf)))))
end Go.Proofs.Tryd
namespace Go.Proofs.Tryd
open Go Go.Pm
set_option linter.unusedVariables false
set_option maxHeartbeats 2000000
set_option maxRecDepth 2000
def m_simplify_raveled (x : T_api_Tree) : Option (T_api_Tree × Bool) :=
  match x with
  | p0 =>
  m_simplify_twice (p0, 6) >>= fun (v1, v2) =>
  if v2 = false then
    some (p0, false)
  else
  idx p0.kids 0 >>= fun v3 =>
  some (v3, true)
theorem w_simplify_raveled {p0 r0 r1} (hm : m_simplify_raveled p0 = some (r0, r1)) : FQ 57 [(T_api_Tree.ex p0)] (.tup [(.dat (T_api_Tree.ex r0)), (boolPV r1)]) := by
  unfold m_simplify_raveled at hm
  exact fp (fn:=f57) rfl (ge 3 (R_seq (gr 1 (bi2 hm fun v1 v2 hx hm=>cp (w_simplify_twice hx) (re 6 (ge 2 (rin hm (fun hm=>ge 3 (R_ret zf)) (fun hm=>R_skip (gr 2 (bi hm fun v3 hx hm=>I_idx 6 T_api_Tree.toD p0.kids 0 v3 (es := T_api_Tree.toDs p0.kids) (d := (T_api_Tree.ex v3)) (T_api_Tree.toDs_eq _) hx (T_api_Tree.toD_eq v3) rfl (re 3 (R_ret zf))))))))))))
end Go.Proofs.Tryd
namespace Go.Proofs.Tryd
open Go Go.Pm
set_option linter.unusedVariables false
set_option maxHeartbeats 2000000
set_option maxRecDepth 2000
def m_simplify_reshaped (x : T_api_Tree) : Option (T_api_Tree × Bool) :=
  match x with
  | p0 =>
  (m_simplify_is (p0, 4, 5) >>= fun (v2 : Bool) =>
  if v2 = false then
    some true
  else
  idx p0.kids 1 >>= fun v3 =>
  m_simplify_is (v3, 3, 6) >>= fun v4 =>
  some (!v4)
  ) >>= fun (v1 : Bool) =>
  if v1 = true then
    some (p0, false)
  else
  idx p0.kids 0 >>= fun v5 =>
  idx p0.kids 1 >>= fun v6 =>
  idx v6.kids 0 >>= fun v7 =>
  some ((⟨p0.kind, p0.fn, p0.axis, p0.name, p0.nums, ([(⟨v5.kind, v5.fn, v5.axis, v5.name, v5.nums, v5.kids⟩ : T_api_Tree), (⟨v7.kind, v7.fn, v7.axis, v7.name, v7.nums, v7.kids⟩ : T_api_Tree)] : (List T_api_Tree))⟩ : T_api_Tree), true)
theorem w_simplify_reshaped {p0 r0 r1} (hm : m_simplify_reshaped p0 = some (r0, r1)) : FQ 58 [(T_api_Tree.ex p0)] (.tup [(.dat (T_api_Tree.ex r0)), (boolPV r1)]) := by
  unfold m_simplify_reshaped at hm
  exact fp (fn:=f58) rfl (ge 3 (R_seq (R_seq (bi hm fun v1 hs hm=>R_cut (fun d => ⟨sl d 30 [(1, (.ptr 0 0)), (2, (.ptr 1 0)), (14, (boolPV v1))], (k_f03bee p0.kind p0.fn p0.axis p0.name p0.nums p0.kids)⟩) (have hm:=hs;R_G (G_run 1 (bi hm fun v2 hx hm=>cp (w_simplify_is hx) (G_run 2 (gsn 7 hm (fun hm=>re 7 zf) (fun hm=>G_run 2 (bi hm fun v3 hx hm=>I_idx 6 T_api_Tree.toD p0.kids 1 v3 (es := T_api_Tree.toDs p0.kids) (d := (T_api_Tree.ex v3)) (T_api_Tree.toDs_eq _) hx (T_api_Tree.toD_eq v3) rfl (G_run 1 (bi hm fun v4 hx hm=>cp (w_simplify_is hx) (re 2 zf)))))))))) (fun d => rib hm (fun hm=>ge 3 (R_ret zf)) (fun hm=>R_skip (R_seq (R_GD (G_run 2 (bi hm fun v5 hx hm=>I_idx 6 T_api_Tree.toD p0.kids 0 v5 (es := T_api_Tree.toDs p0.kids) (d := (T_api_Tree.ex v5)) (T_api_Tree.toDs_eq _) hx (T_api_Tree.toD_eq v5) rfl (G_run 3 (bi hm fun v6 hx hm=>I_idx 6 T_api_Tree.toD p0.kids 1 v6 (es := T_api_Tree.toDs p0.kids) (d := (T_api_Tree.ex v6)) (T_api_Tree.toDs_eq _) hx (T_api_Tree.toD_eq v6) rfl (G_run 2 (bi hm fun v7 hx hm=>I_idx 6 T_api_Tree.toD v6.kids 0 v7 (es := T_api_Tree.toDs v6.kids) (d := (T_api_Tree.ex v7)) (T_api_Tree.toDs_eq _) hx (T_api_Tree.toD_eq v7) rfl (re 4 ⟨kr, ge 3 (R_ret zf)⟩)))))))))))))))
end Go.Proofs.Tryd
namespace Go.Proofs.Tryd
open Go Go.Pm
set_option linter.unusedVariables false
set_option maxHeartbeats 2000000
set_option maxRecDepth 2000
def m_simplify_plain_L1 (x : ((List Int) × T_api_Tree × Int)) : Option (Unit ⊕ Unit) :=
  match x with
  | (p2, p0, v206) =>
  if v206 < (p2.length : Int) then
    idx p2 v206 >>= fun v606 =>
    idx p0.kids 0 >>= fun v607 =>
    idx v607.nums v206 >>= fun v608 =>
    if v608 ≠ v606 then
      some (Sum.inl ())
    else
    m_simplify_plain_L1 (p2, p0, (W (v206 + 1)))
  else
  some (Sum.inr ())
  partial_fixpoint
theorem w_simplify_plain_L1 : ∀ x r, m_simplify_plain_L1 x = some r → match x with | (p2, p0, v206) => LQ f63 63 [1, 1, 0, 1, 0, 0] 2 ⟨kp 57 [(3, (.ptr 0 0)), (6, (.ptr 1 0)), (34, (La p2)), (35, (intPV (p2.length : Int))), (36, (intPV v206))], (k_f03bee p0.kind p0.fn p0.axis p0.name p0.nums p0.kids)⟩ (P2 .ret (fun _ d => ⟨sl d 57 [(6, (.ptr 1 0)), (7, (boolPV false))], [(k_8d433f p0.kind p0.fn p0.axis p0.name p0.nums p0.kids), (k_8d433f p0.kind p0.fn p0.axis p0.name p0.nums p0.kids)]⟩) (.exit 0) (fun _ d => ⟨sl d 57 [(3, (.ptr 0 0)), (6, (.ptr 1 0))], (k_f03bee p0.kind p0.fn p0.axis p0.name p0.nums p0.kids)⟩) r) := by
  refine m_simplify_plain_L1.partial_correctness _ (fun m_simplify_plain_L1 w_simplify_plain_L1 x r hm => ?_)
  obtain ⟨p2, p0, v206⟩ := x
  exact lp (ge 1 (R_seq (ri hm (fun hm=>R_skip (R_seq (R_block (gr 1 (I_ix 1 intD hm fun v606 hm=>re 3 (gr 2 (bi hm fun v607 hx hm=>I_idx 6 T_api_Tree.toD p0.kids 0 v607 (es := T_api_Tree.toDs p0.kids) (d := (T_api_Tree.ex v607)) (T_api_Tree.toDs_eq _) hx (T_api_Tree.toD_eq v607) rfl (G_run 3 (I_ix 1 intD hm fun v608 hm=>re 3 (rix hm (fun hm=>ge 3 (R_ret zf)) (fun hm=>R_skip (R_G (re 2 (w_simplify_plain_L1 _ _ hm _ kr)))))))))))))) (fun hm=>R_exit zf))))
def m_simplify_plain (x : (T_api_Tree × Int × (List Int))) : Option (T_api_Tree × Bool) :=
  match x with
  | (p0, p1, p2) =>
  (m_simplify_is (p0, 4, p1) >>= fun (v2 : Bool) =>
  (if v2 = false then
    some true
  else
  idx p0.kids 0 >>= fun v4 =>
  some (v4.kind != 1)
  ) >>= fun (v3 : Bool) =>
  if v3 = true then
    some true
  else
  idx p0.kids 0 >>= fun v5 =>
  some ((v5.nums.length : Int) != (p2.length : Int))
  ) >>= fun (v1 : Bool) =>
  if v1 = true then
    some (p0, false)
  else
  (
  m_simplify_plain_L1 (p2, p0, 0) >>= fun out =>
  match out with
  | .inl _ =>
    some (p0, false)
  | .inr (_) =>
    idx p0.kids 1 >>= fun v609 =>
    some (v609, true)
  )
theorem w_simplify_plain {p0 p1 p2 r0 r1} (hm : m_simplify_plain (p0, p1, p2) = some (r0, r1)) : FQ 63 [(T_api_Tree.ex p0), (intD p1), (Lb p2)] (.tup [(.dat (T_api_Tree.ex r0)), (boolPV r1)]) := by
  unfold m_simplify_plain at hm
  exact fp (fn:=f63) rfl (ge 3 (R_seq (R_seq (bi hm fun v1 hs hm=>R_cut (fun d => ⟨sl d 57 [(2, (La p2)), (3, (.ptr 0 0)), (6, (.ptr 1 0)), (32, (boolPV v1))], (k_f03bee p0.kind p0.fn p0.axis p0.name p0.nums p0.kids)⟩) (have hm:=hs;R_GN (G_run 2 (bi hm fun v2 hx hm=>cp (w_simplify_is hx) (G_run 2 (bi hm fun v3 hs hm=>G_cut (j := 12) (fun d => ⟨sl d 57 [(2, (La p2)), (3, (.ptr 0 0)), (6, (.ptr 1 0)), (21, (boolPV v3))], (k_f03bee p0.kind p0.fn p0.axis p0.name p0.nums p0.kids)⟩) (fun d => G_run 1 (gsb 22 hm (fun hm=>re 10 ⟨kr, zf⟩) (fun hm=>G_run 2 (bi hm fun v5 hx hm=>I_idx 6 T_api_Tree.toD p0.kids 0 v5 (es := T_api_Tree.toDs p0.kids) (d := (T_api_Tree.ex v5)) (T_api_Tree.toDs_eq _) hx (T_api_Tree.toD_eq v5) rfl (G_run 2 (I_ln intD v5.nums (G_run 1 (I_ln intD p2 (re 2 ⟨kr, zf⟩))))))))) (fun hJ => gsn 14 hs (fun hm=>G_run 7 zf) (fun hm=>G_run 2 (bi hm fun v4 hx hm=>I_idx 6 T_api_Tree.toD p0.kids 0 v4 (es := T_api_Tree.toDs p0.kids) (d := (T_api_Tree.ex v4)) (T_api_Tree.toDs_eq _) hx (T_api_Tree.toD_eq v4) rfl (G_run 4 zf))))))))) (fun d => rib hm (fun hm=>ge 3 (R_ret zf)) (fun hm=>R_skip (R_seq (gr 1 (I_ln intD p2 (re 1 (R_block (ru2 hm (w_simplify_plain_L1 _) (fun _ d hm=>zf) fun _ d hm=>gr 2 (bi hm fun v609 hx hm=>I_idx 6 T_api_Tree.toD p0.kids 1 v609 (es := T_api_Tree.toDs p0.kids) (d := (T_api_Tree.ex v609)) (T_api_Tree.toDs_eq _) hx (T_api_Tree.toD_eq v609) rfl (re 3 (R_ret zf)))))))))))))))
end Go.Proofs.Tryd
namespace Go.Proofs.Tryd
open Go Go.Pm
set_option linter.unusedVariables false
set_option maxHeartbeats 2000000
set_option maxRecDepth 2000
def m_simplify_rotated (x : T_api_Tree) : Option (T_api_Tree × Bool) :=
  match x with
  | p0 =>
  m_simplify_plain (p0, 3, ([0] : List Int)) >>= fun (v1, v2) =>
  some (v1, v2)
theorem w_simplify_rotated {p0 r0 r1} (hm : m_simplify_rotated p0 = some (r0, r1)) : FQ 59 [(T_api_Tree.ex p0)] (.tup [(.dat (T_api_Tree.ex r0)), (boolPV r1)]) := by
  unfold m_simplify_rotated at hm
  exact fp (fn:=f59) rfl (ge 3 (gr 2 (bi2 hm fun v1 v2 hx hm=>cp (w_simplify_plain hx) (re 4 (R_ret zf)))))
end Go.Proofs.Tryd
namespace Go.Proofs.Tryd
open Go Go.Pm
set_option linter.unusedVariables false
set_option maxHeartbeats 2000000
set_option maxRecDepth 2000
def m_simplify_dropped (x : T_api_Tree) : Option (T_api_Tree × Bool) :=
  match x with
  | p0 =>
  m_simplify_plain (p0, 2, ([] : (List Int))) >>= fun (v1, v2) =>
  some (v1, v2)
theorem w_simplify_dropped {p0 r0 r1} (hm : m_simplify_dropped p0 = some (r0, r1)) : FQ 60 [(T_api_Tree.ex p0)] (.tup [(.dat (T_api_Tree.ex r0)), (boolPV r1)]) := by
  unfold m_simplify_dropped at hm
  exact fp (fn:=f60) rfl (ge 3 (gr 1 (bi2 hm fun v1 v2 hx hm=>cp (w_simplify_plain hx) (re 4 (R_ret zf)))))
end Go.Proofs.Tryd
namespace Go.Proofs.Tryd
open Go Go.Pm
set_option linter.unusedVariables false
set_option maxHeartbeats 2000000
set_option maxRecDepth 2000
def m_simplify_once (x : T_api_Tree) : Option (T_api_Tree × Int) :=
  match x with
  | p0 =>
  m_simplify_reversed p0 >>= fun (v1, v2) =>
  if v2 = true then
    some (v1, 1)
  else
  m_simplify_transposed p0 >>= fun (v3, v4) =>
  if v4 = true then
    some (v3, 2)
  else
  m_simplify_raveled p0 >>= fun (v5, v6) =>
  if v6 = true then
    some (v5, 3)
  else
  m_simplify_reshaped p0 >>= fun (v7, v8) =>
  if v8 = true then
    some (v7, 4)
  else
  m_simplify_rotated p0 >>= fun (v9, v10) =>
  if v10 = true then
    some (v9, 5)
  else
  m_simplify_dropped p0 >>= fun (v11, v12) =>
  if v12 = true then
    some (v11, 6)
  else
  some (p0, 0)
theorem w_simplify_once {p0 r0 r1} (hm : m_simplify_once p0 = some (r0, r1)) : FQ 17 [(T_api_Tree.ex p0)] (.tup [(.dat (T_api_Tree.ex r0)), (intPV r1)]) := by
  unfold m_simplify_once at hm
  exact fp (fn:=f17) rfl (ge 3 (R_seq (ge 2 (R_block (R_loop (RL_at (st' := ⟨kp 26 [(1, (.ptr 0 0)), (2, (.ptr 1 0)), (8, k_84b388), (9, (intPV 0))], (k_f03bee p0.kind p0.fn p0.axis p0.name p0.nums p0.kids)⟩) kr (ge 1 (R_seq (R_true kr (R_skip (R_seq (R_block (gr 1 (G_run 1 (re 3 (gr 3 (bi2 hm fun v1 v2 hx hm=>cp (w_simplify_reversed hx) (re 6 (ge 1 (rib hm (fun hm=>ge 5 (R_ret zf)) (fun hm=>R_skip (R_G (re 2 (RL_at (st' := ⟨kp 26 [(1, (.ptr 0 0)), (2, (.ptr 1 0)), (8, k_84b388), (9, (intPV 1))], (k_f03bee p0.kind p0.fn p0.axis p0.name p0.nums p0.kids)⟩) kr (ge 1 (R_seq (R_true kr (R_skip (R_seq (R_block (gr 1 (G_run 1 (re 3 (gr 3 (bi2 hm fun v3 v4 hx hm=>cp (w_simplify_transposed hx) (re 6 (ge 1 (rib hm (fun hm=>ge 5 (R_ret zf)) (fun hm=>R_skip (R_G (re 2 (RL_at (st' := ⟨kp 26 [(1, (.ptr 0 0)), (2, (.ptr 1 0)), (8, k_84b388), (9, (intPV 2))], (k_f03bee p0.kind p0.fn p0.axis p0.name p0.nums p0.kids)⟩) kr (ge 1 (R_seq (R_true kr (R_skip (R_seq (R_block (gr 1 (G_run 1 (re 3 (gr 3 (bi2 hm fun v5 v6 hx hm=>cp (w_simplify_raveled hx) (re 6 (ge 1 (rib hm (fun hm=>ge 5 (R_ret zf)) (fun hm=>R_skip (R_G (re 2 (RL_at (st' := ⟨kp 26 [(1, (.ptr 0 0)), (2, (.ptr 1 0)), (8, k_84b388), (9, (intPV 3))], (k_f03bee p0.kind p0.fn p0.axis p0.name p0.nums p0.kids)⟩) kr (ge 1 (R_seq (R_true kr (R_skip (R_seq (R_block (gr 1 (G_run 1 (re 3 (gr 3 (bi2 hm fun v7 v8 hx hm=>cp (w_simplify_reshaped hx) (re 6 (ge 1 (rib hm (fun hm=>ge 5 (R_ret zf)) (fun hm=>R_skip (R_G (re 2 (RL_at (st' := ⟨kp 26 [(1, (.ptr 0 0)), (2, (.ptr 1 0)), (8, k_84b388), (9, (intPV 4))], (k_f03bee p0.kind p0.fn p0.axis p0.name p0.nums p0.kids)⟩) kr (ge 1 (R_seq (R_true kr (R_skip (R_seq (R_block (gr 1 (G_run 1 (re 3 (gr 3 (bi2 hm fun v9 v10 hx hm=>cp (w_simplify_rotated hx) (re 6 (ge 1 (rib hm (fun hm=>ge 5 (R_ret zf)) (fun hm=>R_skip (R_G (re 2 (RL_at (st' := ⟨kp 26 [(1, (.ptr 0 0)), (2, (.ptr 1 0)), (8, k_84b388), (9, (intPV 5))], (k_f03bee p0.kind p0.fn p0.axis p0.name p0.nums p0.kids)⟩) kr (ge 1 (R_seq (R_true kr (R_skip (R_seq (R_block (gr 1 (G_run 1 (re 3 (gr 3 (bi2 hm fun v11 v12 hx hm=>cp (w_simplify_dropped hx) (re 6 (ge 1 (rib hm (fun hm=>ge 5 (R_ret zf)) (fun hm=>R_skip (R_G (re 2 (RL_at (st' := ⟨kp 26 [(1, (.ptr 0 0)), (2, (.ptr 1 0)), (8, k_84b388), (9, (intPV 6))], (k_f03bee p0.kind p0.fn p0.axis p0.name p0.nums p0.kids)⟩) kr (ge 1 (R_seq (R_false kr (R_exit (ge 3 (R_ret zf))))))))))))))))))))))))))))))))))))))))))))))))))))))))))))))))))))))))))))))))))))))))))))))))))))))))))))))))))))))))
end Go.Proofs.Tryd
namespace Go.Proofs.Tryd
open Go Go.Pm
set_option linter.unusedVariables false
set_option maxHeartbeats 2000000
set_option maxRecDepth 2000
def m_slices_Clone_int64_int64 (x : List Int) : Option (List Int) := app 8 [] x
def cgm_slices_Clone_int64_int64 (l : List Int) : Nat := match l with | [] => 0 | _ => 1
theorem w_slices_Clone_int64_int64 {x r} (hm : m_slices_Clone_int64_int64 x = some r) : PC prog env 24 ([.lst ((List.map intD) x)].map .dat) [] (.ms 0 (cgm_slices_Clone_int64_int64 r) 0 r.length r.length) [.mt 2 (cgm_slices_Clone_int64_int64 r) (cellsOf intD r)] := by
  obtain ⟨hroom, hr⟩ := app_some hm
  have hr : r = x := hr
  subst hr
  cases r with
  | nil => exact PC_of (n := 20) (by kernel_rfl)
  | cons a l =>
    exact PC_sxB (fn := f24) rfl (ge 1 (R_seq (gr 1 (G_semN rfl (fun _ => E_lstNil (p := .dat (Lb (a :: l))) (b := false) rfl kr kr kr) (G_end (R_false kr (R_skip (gr 2 (G_semH (v := .ms 0 1 0 (a :: l).length (a :: l).length) (fun H => H.set 0 (.mt 2 1 (cellsOf intD (a :: l)))) rfl kr (fun _ hk => E_apMs intD (l := []) (es := a :: l) (bytes := 8) (e := 2) (tt := 0) (g := 0) (m := 0) hm (fun _ => rfl) kr kr kr kr rfl rfl kr rfl kr (source_lst (fun _ => rfl)) hk) (re 1 (R_ret zf)))))))))))
end Go.Proofs.Tryd
namespace Go.Proofs.Tryd
open Go Go.Pm
set_option linter.unusedVariables false
set_option maxHeartbeats 2000000
set_option maxRecDepth 2000
mutual
def m_tree_Copy_L1 (x : (T_api_Tree × (List Int) × (List T_api_Tree) × Int)) : Option ((List T_api_Tree)) :=
  match x with
  | (p0, v1, v202, v203) =>
  if v203 < (p0.kids.length : Int) then
    idx p0.kids v203 >>= fun v603 =>
    m_tree_Copy v603 >>= fun v604 =>
    app 88 v202 ([v604] : List T_api_Tree) >>= fun v605 =>
    m_tree_Copy_L1 (p0, v1, v605, (W (v203 + 1)))
  else
  some v202
  partial_fixpoint
def m_tree_Copy (x : T_api_Tree) : Option T_api_Tree :=
  match x with
  | p0 =>
  m_slices_Clone_int64_int64 p0.nums >>= fun v1 =>
  m_tree_Copy_L1 (p0, v1, ([] : List T_api_Tree), 0) >>= fun v602 =>
  some (⟨p0.kind, p0.fn, p0.axis, p0.name, v1, v602⟩ : T_api_Tree)
  partial_fixpoint
end
def P_tree_Copy_L1 : (T_api_Tree × (List Int) × (List T_api_Tree) × Int) → ((List T_api_Tree)) → Prop := fun x r => match x with
  | (p0, v1, v202, v203) => LQ f16 16 [1, 1, 1, 0, 1, 0, 0] 4 ⟨kp 26 [(1, (.ptr 0 0)), (2, (.ptr 1 0)), (3, (.vec 3 (T_api_Tree.toDs v202))), (11, (k_67abae p0.kids)), (12, (intPV (p0.kids.length : Int))), (13, (intPV v203))], [(.box [(intPV p0.kind), (intPV p0.fn), (intPV p0.axis), (.dat (strD p0.name)), (.ms 2 1 0 v1.length v1.length), (k_67abae p0.kids)]), k_8e3eb1, (.mt 2 1 (cellsOf intD v1)), (.tok 25 v202.length)]⟩ (P1 (.exit 0) (fun v602 d => ⟨sl d 26 [(1, (.ptr 0 0)), (2, (.ptr 1 0)), (3, (.vec 3 (T_api_Tree.toDs v602)))], [(.box [(intPV p0.kind), (intPV p0.fn), (intPV p0.axis), (.dat (strD p0.name)), (.ms 2 1 0 v1.length v1.length), (k_67abae p0.kids)]), k_8e3eb1, (.mt 2 1 (cellsOf intD v1)), (.tok 25 v602.length)]⟩) r)
def P_tree_Copy : T_api_Tree → T_api_Tree → Prop := fun x r => match x, r with
  | p0, r0 => ∀ H, PC prog env 16 ([(T_api_Tree.ex p0)].map .dat) H (.dat (T_api_Tree.ex r0)) H
theorem g_tree_Copy_L1 : (∀ x r, m_tree_Copy_L1 x = some r → P_tree_Copy_L1 x r) ∧ (∀ x r, m_tree_Copy x = some r → P_tree_Copy x r) := by
  refine m_tree_Copy_L1.mutual_partial_correctness P_tree_Copy_L1 P_tree_Copy ?_ ?_
  · intro m_tree_Copy_L1 m_tree_Copy w_tree_Copy_L1 w_tree_Copy x r hm
    unfold P_tree_Copy_L1
    obtain ⟨p0, v1, v202, v203⟩ := x
    exact lp (ge 1 (R_seq (ri hm (fun hm=>R_skip (R_seq (R_block (R_seq (R_G (bi hm fun v603 hx hm=>I_idx 6 T_api_Tree.toD p0.kids v203 v603 (es := T_api_Tree.toDs p0.kids) (d := (T_api_Tree.ex v603)) (T_api_Tree.toDs_eq _) hx (T_api_Tree.toD_eq v603) rfl (re 3 (R_G (G_run 2 (bi hm fun v604 hx hm=>G_callP (w_tree_Copy _ _ hx []) (G_run 1 (bi hm fun v605 hx hm=>I_app 25 6 88 3 T_api_Tree.toD v202 ([v604] : List T_api_Tree) v605 (xs := T_api_Tree.toDs v202) (es := [(T_api_Tree.ex v604)]) (L := T_api_Tree.toDs) T_api_Tree.toDs_eq rfl (by simp only [T_api_Tree.toDs, T_api_Tree.toD_eq]) T_api_Tree.fit hx (re 1 (R_G (re 2 (w_tree_Copy_L1 _ _ hm _ (prune_of2 [(.box [(intPV p0.kind), (intPV p0.fn), (intPV p0.axis), (.dat (strD p0.name)), (.ms 2 1 0 v1.length v1.length), (k_67abae p0.kids)]), k_8e3eb1, (.mt 2 1 (cellsOf intD v1)), (.tok 25 v605.length)] (fun _ => (pg_cons kr (pg_cons kr (pg_cons (purge_mt intD _ _ _ _ _) (pg_cons kr pg_nil))))) rfl))))))))))))))))) (fun hm=>R_exit zf))))
  · intro m_tree_Copy_L1 w_tree_Copy_L1 p0 r0 hm
    unfold P_tree_Copy
    intro H
    refine PC_sx (ds := [(T_api_Tree.ex p0)]) (fn := f16) rfl ?_
    exact ge 2 (gr 2 (bi hm fun v1 hx hm=>go 2 2 intD (w_slices_Clone_int64_int64 hx) (re 2 (ge 1 (R_seq (gr 2 (I_len T_api_Tree.toD p0.kids (es := T_api_Tree.toDs p0.kids) (T_api_Tree.toDs_eq _) (re 1 (R_block (ru1 hm (w_tree_Copy_L1 _) (fun v602 d hm=>ge 3 (ge 2 (R_ret (by obtain rfl := inj1 hm; exact ⟨trivial, fin_pureX [(.agg [(intPV p0.kind), (intPV p0.fn), (intPV p0.axis), (.dat (strD p0.name)), (.ms 2 1 0 v1.length v1.length), (.vec 3 (T_api_Tree.toDs v602))])] kr (po_agg (pc_cons kr (pc_cons kr (pc_cons kr (pc_cons kr (pc_cons (pc_ms (e := 2) intD v1 rfl (fun _ => rfl) kr) (pc_cons kr pc_nil)))))))⟩)))) (hst:=(prune_of2 [(.box [(intPV p0.kind), (intPV p0.fn), (intPV p0.axis), (.dat (strD p0.name)), (.ms 2 1 0 v1.length v1.length), (k_67abae p0.kids)]), k_8e3eb1, (.mt 2 1 (cellsOf intD v1)), (.tok 25 (([] : List T_api_Tree).length))] (fun _ => (pg_cons kr (pg_cons kr (pg_cons (purge_mt intD _ _ _ _ _) (pg_cons kr pg_nil))))) rfl))))))))))))
theorem w_tree_Copy_L1 : ∀ x r, m_tree_Copy_L1 x = some r → P_tree_Copy_L1 x r := g_tree_Copy_L1.1
theorem w_tree_Copy : ∀ x r, m_tree_Copy x = some r → P_tree_Copy x r := g_tree_Copy_L1.2
end Go.Proofs.Tryd
namespace Go.Proofs.Tryd
open Go Go.Pm
set_option linter.unusedVariables false
set_option maxHeartbeats 2000000
set_option maxRecDepth 2000
def m_simplify_Rule (x : T_api_Tree) : Option (T_api_Tree × Int) :=
  match x with
  | p0 =>
  m_simplify_once p0 >>= fun (v1, v2) =>
  m_tree_Copy (⟨v1.kind, v1.fn, v1.axis, v1.name, v1.nums, v1.kids⟩ : T_api_Tree) >>= fun v3 =>
  some (v3, v2)
theorem w_simplify_Rule {p0 r0 r1} (hm : m_simplify_Rule p0 = some (r0, r1)) : FQ 8 [(T_api_Tree.ex p0)] (.tup [(.dat (T_api_Tree.ex r0)), (intPV r1)]) := by
  unfold m_simplify_Rule at hm
  exact fp (fn:=f8) rfl (ge 3 (gr 1 (bi2 hm fun v1 v2 hx hm=>cp (w_simplify_once hx) (re 6 (gr 1 (bi hm fun v3 hx hm=>G_callP (w_tree_Copy _ _ hx []) (re 3 (R_ret zf))))))))
end Go.Proofs.Tryd
namespace Go.Proofs.Tryd
open Go Go.Pm
set_option linter.unusedVariables false
set_option maxHeartbeats 2000000
set_option maxRecDepth 2000
def m_simplify_simplified_L2 (x : ((List T_api_Tree) × Int × Int × Int × ByteArray × (List Int) × (List T_api_Tree) × Int)) : Option ((Int × Int × Int × ByteArray × (List Int) × (List T_api_Tree) × Int × Int × Int × ByteArray × (List Int) × (List T_api_Tree) × Int)) :=
  match x with
  | (v602, v807, v808, v809, v810, v811, v812, v813) =>
  m_simplify_once (⟨v807, v808, v809, v810, v811, v812⟩ : T_api_Tree) >>= fun (v1220, v1221) =>
  if v1221 = 0 then
    some (v807, v808, v809, v810, v811, v812, v1220.kind, v1220.fn, v1220.axis, v1220.name, v1220.nums, v1220.kids, v813)
  else
  m_simplify_simplified_L2 (v602, v1220.kind, v1220.fn, v1220.axis, v1220.name, v1220.nums, v1220.kids, (W (v813 + 1)))
  partial_fixpoint
theorem w_simplify_simplified_L2 : ∀ x r, m_simplify_simplified_L2 x = some r → match x with | (v602, v807, v808, v809, v810, v811, v812, v813) => LQ f15 15 [1, 0, 1, 1, 1, 1, 1, 0, 0, 0] 3 ⟨kp 46 [(1, (.ptr 0 0)), (2, (.ptr 1 0)), (4, (intPV v813))], [(k_8d433f v807 v808 v809 v810 v811 v812), k_8e3eb1, (.tok 25 v602.length)]⟩ (P1 (.exit 2) (fun (v1207, v1208, v1209, v1210, v1211, v1212, v1213, v1214, v1215, v1216, v1217, v1218, v1219) d => ⟨sl d 46 [(1, (.ptr 0 0)), (2, (.ptr 1 0)), (4, (intPV v1219))], [(k_8d433f v1207 v1208 v1209 v1210 v1211 v1212), k_8e3eb1, (.tok 25 v602.length), (k_8d433f v1213 v1214 v1215 v1216 v1217 v1218)]⟩) r) := by
  refine m_simplify_simplified_L2.partial_correctness _ (fun m_simplify_simplified_L2 w_simplify_simplified_L2 x r hm => ?_)
  obtain ⟨v602, v807, v808, v809, v810, v811, v812, v813⟩ := x
  exact lp (R_block (gr 1 (bi2 hm fun v1220 v1221 hx hm=>cp (w_simplify_once hx) (re 6 (R_seq (ge 2 (riq hm (fun hm=>R_exit zf) (fun hm=>R_skip (R_G (re 5 (w_simplify_simplified_L2 _ _ hm _ kr)))))))))))
mutual
def m_simplify_simplified_L1 (x : (T_api_Tree × Int × (List T_api_Tree) × Int)) : Option ((Int × (List T_api_Tree))) :=
  match x with
  | (p0, v201, v202, v203) =>
  if v203 < (p0.kids.length : Int) then
    idx p0.kids v203 >>= fun v603 =>
    m_simplify_simplified v603 >>= fun (v604, v605) =>
    app 88 v202 ([v604] : List T_api_Tree) >>= fun v606 =>
    m_simplify_simplified_L1 (p0, (W (v201 + v605)), v606, (W (v203 + 1)))
  else
  some (v201, v202)
  partial_fixpoint
def m_simplify_simplified (x : T_api_Tree) : Option (T_api_Tree × Int) :=
  match x with
  | p0 =>
  m_simplify_simplified_L1 (p0, 0, ([] : List T_api_Tree), 0) >>= fun (v601, v602) =>
  m_simplify_simplified_L2 (v602, p0.kind, p0.fn, p0.axis, p0.name, p0.nums, v602, v601) >>= fun (v1207, v1208, v1209, v1210, v1211, v1212, v1213, v1214, v1215, v1216, v1217, v1218, v1219) =>
  some ((⟨v1207, v1208, v1209, v1210, v1211, v1212⟩ : T_api_Tree), v1219)
  partial_fixpoint
end
def P_simplify_simplified_L1 : (T_api_Tree × Int × (List T_api_Tree) × Int) → ((Int × (List T_api_Tree))) → Prop := fun x r => match x with
  | (p0, v201, v202, v203) => LQ f15 15 [1, 0, 1, 1, 0, 1, 0, 0] 3 ⟨kp 46 [(1, (.ptr 0 0)), (2, (.ptr 1 0)), (4, (intPV v201)), (5, (.vec 2 (T_api_Tree.toDs v202))), (13, (k_67abae p0.kids)), (14, (intPV (p0.kids.length : Int))), (15, (intPV v203))], [(k_8d433f p0.kind p0.fn p0.axis p0.name p0.nums p0.kids), k_8e3eb1, (.tok 25 v202.length)]⟩ (P1 (.exit 0) (fun (v601, v602) d => ⟨sl d 46 [(1, (.ptr 0 0)), (2, (.ptr 1 0)), (4, (intPV v601)), (5, (.vec 2 (T_api_Tree.toDs v602)))], [(k_8d433f p0.kind p0.fn p0.axis p0.name p0.nums p0.kids), k_8e3eb1, (.tok 25 v602.length)]⟩) r)
def P_simplify_simplified : T_api_Tree → (T_api_Tree × Int) → Prop := fun x r => match x, r with
  | p0, (r0, r1) => ∀ H, PC prog env 15 ([(T_api_Tree.ex p0)].map .dat) H (.tup [(.dat (T_api_Tree.ex r0)), (intPV r1)]) H
theorem g_simplify_simplified_L1 : (∀ x r, m_simplify_simplified_L1 x = some r → P_simplify_simplified_L1 x r) ∧ (∀ x r, m_simplify_simplified x = some r → P_simplify_simplified x r) := by
  refine m_simplify_simplified_L1.mutual_partial_correctness P_simplify_simplified_L1 P_simplify_simplified ?_ ?_
  · intro m_simplify_simplified_L1 m_simplify_simplified w_simplify_simplified_L1 w_simplify_simplified x r hm
    unfold P_simplify_simplified_L1
    obtain ⟨p0, v201, v202, v203⟩ := x
    exact lp (ge 1 (R_seq (ri hm (fun hm=>R_skip (R_seq (R_block (R_seq (R_G (bi hm fun v603 hx hm=>I_idx 6 T_api_Tree.toD p0.kids v203 v603 (es := T_api_Tree.toDs p0.kids) (d := (T_api_Tree.ex v603)) (T_api_Tree.toDs_eq _) hx (T_api_Tree.toD_eq v603) rfl (re 3 (gr 1 (bi2 hm fun v604 v605 hx hm=>G_callP (w_simplify_simplified _ _ hx []) (re 6 (gr 3 (bi hm fun v606 hx hm=>I_app 25 6 88 2 T_api_Tree.toD v202 ([v604] : List T_api_Tree) v606 (xs := T_api_Tree.toDs v202) (es := [(T_api_Tree.ex v604)]) (L := T_api_Tree.toDs) T_api_Tree.toDs_eq rfl (by simp only [T_api_Tree.toDs, T_api_Tree.toD_eq]) T_api_Tree.fit hx (re 1 (R_G (re 4 (R_G (re 2 (w_simplify_simplified_L1 _ _ hm _ kr)))))))))))))))))) (fun hm=>R_exit zf))))
  · intro m_simplify_simplified_L1 w_simplify_simplified_L1 p0 r hm
    unfold P_simplify_simplified
    obtain ⟨r0, r1⟩ := r
    intro H
    refine PC_sx (ds := [(T_api_Tree.ex p0)]) (fn := f15) rfl ?_
    exact ge 3 (R_scope (ge 1 (ge 1 (R_seq (gr 2 (I_len T_api_Tree.toD p0.kids (es := T_api_Tree.toDs p0.kids) (T_api_Tree.toDs_eq _) (re 1 (R_block (ru1 hm (w_simplify_simplified_L1 _) fun ⟨v601, v602⟩ d hm=>ge 3 (R_seq (R_label (R_seq (R_block (ru1 hm (w_simplify_simplified_L2 _) fun ⟨v1207, v1208, v1209, v1210, v1211, v1212, v1213, v1214, v1215, v1216, v1217, v1218, v1219⟩ d hm=>ge 4 (R_ret zf)))))))))))))))
theorem w_simplify_simplified_L1 : ∀ x r, m_simplify_simplified_L1 x = some r → P_simplify_simplified_L1 x r := g_simplify_simplified_L1.1
theorem w_simplify_simplified : ∀ x r, m_simplify_simplified x = some r → P_simplify_simplified x r := g_simplify_simplified_L1.2
end Go.Proofs.Tryd
namespace Go.Proofs.Tryd
open Go Go.Pm
set_option linter.unusedVariables false
set_option maxHeartbeats 2000000
set_option maxRecDepth 2000
def m_simplify_Simplify (x : T_api_Tree) : Option T_api_Tree :=
  match x with
  | p0 =>
  m_simplify_simplified p0 >>= fun (v1, v2) =>
  m_tree_Copy v1 >>= fun v3 =>
  some v3
theorem w_simplify_Simplify {p0 r0} (hm : m_simplify_Simplify p0 = some r0) : FQ 7 [(T_api_Tree.ex p0)] (.dat (T_api_Tree.ex r0)) := by
  unfold m_simplify_Simplify at hm
  exact fp (fn:=f7) rfl (ge 2 (gr 1 (bi2 hm fun v1 v2 hx hm=>G_callP (w_simplify_simplified _ _ hx []) (re 6 (gr 1 (bi hm fun v3 hx hm=>G_callP (w_tree_Copy _ _ hx []) (re 1 (R_ret zf))))))))
end Go.Proofs.Tryd
namespace Go.Proofs.Tryd
open Go Go.Pm
set_option linter.unusedVariables false
set_option maxHeartbeats 2000000
set_option maxRecDepth 2000
def m_ref08_Same_L1 (x : (T_api_Tree × T_api_Tree × Int)) : Option (Unit ⊕ Unit) :=
  match x with
  | (p0, p1, v206) =>
  if v206 < (p0.nums.length : Int) then
    idx p0.nums v206 >>= fun v606 =>
    idx p1.nums v206 >>= fun v607 =>
    if v606 ≠ v607 then
      some (Sum.inl ())
    else
    m_ref08_Same_L1 (p0, p1, (W (v206 + 1)))
  else
  some (Sum.inr ())
  partial_fixpoint
theorem w_ref08_Same_L1 : ∀ x r, m_ref08_Same_L1 x = some r → match x with | (p0, p1, v206) => LQ f10 10 [1, 1, 0, 1, 0, 0] 2 ⟨kp 88 [(2, (.ptr 0 0)), (3, (.ptr 1 0)), (5, (intPV v206))], [(k_8d433f p0.kind p0.fn p0.axis p0.name p0.nums p0.kids), (k_8d433f p1.kind p1.fn p1.axis p1.name p1.nums p1.kids)]⟩ (P2 .ret (fun _ d => ⟨sl d 88 [(4, (boolPV false))], [(k_8d433f p0.kind p0.fn p0.axis p0.name p0.nums p0.kids), (k_8d433f p1.kind p1.fn p1.axis p1.name p1.nums p1.kids)]⟩) (.exit 0) (fun _ d => ⟨sl d 88 [(2, (.ptr 0 0)), (3, (.ptr 1 0))], [(k_8d433f p0.kind p0.fn p0.axis p0.name p0.nums p0.kids), (k_8d433f p1.kind p1.fn p1.axis p1.name p1.nums p1.kids)]⟩) r) := by
  refine m_ref08_Same_L1.partial_correctness _ (fun m_ref08_Same_L1 w_ref08_Same_L1 x r hm => ?_)
  obtain ⟨p0, p1, v206⟩ := x
  exact lp (R_seq (gr 3 (I_ln intD p0.nums (re 1 (ri hm (fun hm=>R_skip (R_seq (R_block (R_seq (R_GD (G_run 3 (I_ix 1 intD hm fun v606 hm=>G_run 4 (I_ix 1 intD hm fun v607 hm=>re 2 ⟨kr, rix hm (fun hm=>ge 1 (R_ret zf)) (fun hm=>R_skip (R_G (re 3 (w_ref08_Same_L1 _ _ hm _ kr))))⟩)))))))) (fun hm=>R_exit zf))))))
mutual
def m_ref08_Same_L2 (x : (T_api_Tree × T_api_Tree × Int)) : Option (Unit ⊕ Unit) :=
  match x with
  | (p0, p1, v808) =>
  if v808 < (p0.kids.length : Int) then
    idx p0.kids v808 >>= fun v1208 =>
    idx p1.kids v808 >>= fun v1209 =>
    m_ref08_Same (v1208, v1209) >>= fun v1210 =>
    if v1210 = false then
      some (Sum.inl ())
    else
    m_ref08_Same_L2 (p0, p1, (W (v808 + 1)))
  else
  some (Sum.inr ())
  partial_fixpoint
def m_ref08_Same (x : (T_api_Tree × T_api_Tree)) : Option Bool :=
  match x with
  | (p0, p1) =>
  ((if p0.kind ≠ p1.kind then
    some true
  else
  some (p0.fn != p1.fn)
  ) >>= fun (v2 : Bool) =>
  (if v2 = true then
    some true
  else
  some (p0.axis != p1.axis)
  ) >>= fun (v3 : Bool) =>
  (if v3 = true then
    some true
  else
  some (decide (p0.name ≠ p1.name))
  ) >>= fun (v4 : Bool) =>
  (if v4 = true then
    some true
  else
  some ((p0.nums.length : Int) != (p1.nums.length : Int))
  ) >>= fun (v5 : Bool) =>
  if v5 = true then
    some true
  else
  some ((p0.kids.length : Int) != (p1.kids.length : Int))
  ) >>= fun (v1 : Bool) =>
  if v1 = true then
    some false
  else
  (
  m_ref08_Same_L1 (p0, p1, 0) >>= fun out =>
  match out with
  | .inl _ =>
    some false
  | .inr (_) =>
    (
    m_ref08_Same_L2 (p0, p1, 0) >>= fun out =>
    match out with
    | .inl _ =>
      some false
    | .inr (_) =>
      some true
    )
  )
  partial_fixpoint
end
def P_ref08_Same_L2 : (T_api_Tree × T_api_Tree × Int) → (Unit ⊕ Unit) → Prop := fun x r => match x with
  | (p0, p1, v808) => LQ f10 10 [1, 1, 1, 0, 1, 0, 0] 2 ⟨kp 88 [(2, (.ptr 0 0)), (3, (.ptr 1 0)), (6, (intPV v808))], [(k_8d433f p0.kind p0.fn p0.axis p0.name p0.nums p0.kids), (k_8d433f p1.kind p1.fn p1.axis p1.name p1.nums p1.kids)]⟩ (P2 .ret (fun _ d => ⟨sl d 88 [(4, (boolPV false))], [(k_8d433f p0.kind p0.fn p0.axis p0.name p0.nums p0.kids), (k_8d433f p1.kind p1.fn p1.axis p1.name p1.nums p1.kids)]⟩) (.exit 2) (fun _ d => ⟨sl d 88 [], [(k_8d433f p0.kind p0.fn p0.axis p0.name p0.nums p0.kids), (k_8d433f p1.kind p1.fn p1.axis p1.name p1.nums p1.kids)]⟩) r)
def P_ref08_Same : (T_api_Tree × T_api_Tree) → Bool → Prop := fun x r => match x, r with
  | (p0, p1), r0 => ∀ H, PC prog env 10 ([(T_api_Tree.ex p0), (T_api_Tree.ex p1)].map .dat) H (boolPV r0) H
theorem g_ref08_Same_L2 : (∀ x r, m_ref08_Same_L2 x = some r → P_ref08_Same_L2 x r) ∧ (∀ x r, m_ref08_Same x = some r → P_ref08_Same x r) := by
  refine m_ref08_Same_L2.mutual_partial_correctness P_ref08_Same_L2 P_ref08_Same ?_ ?_
  · intro m_ref08_Same_L2 m_ref08_Same w_ref08_Same_L2 w_ref08_Same x r hm
    unfold P_ref08_Same_L2
    obtain ⟨p0, p1, v808⟩ := x
    exact lp (R_seq (gr 3 (I_len T_api_Tree.toD p0.kids (es := T_api_Tree.toDs p0.kids) (T_api_Tree.toDs_eq _) (re 1 (ri hm (fun hm=>R_skip (R_seq (R_block (R_seq (R_GD (G_run 3 (bi hm fun v1208 hx hm=>I_idx 6 T_api_Tree.toD p0.kids v808 v1208 (es := T_api_Tree.toDs p0.kids) (d := (T_api_Tree.ex v1208)) (T_api_Tree.toDs_eq _) hx (T_api_Tree.toD_eq v1208) rfl (G_run 4 (bi hm fun v1209 hx hm=>I_idx 6 T_api_Tree.toD p1.kids v808 v1209 (es := T_api_Tree.toDs p1.kids) (d := (T_api_Tree.ex v1209)) (T_api_Tree.toDs_eq _) hx (T_api_Tree.toD_eq v1209) rfl (G_run 1 (bi hm fun v1210 hx hm=>G_callP (w_ref08_Same _ _ hx []) (re 1 ⟨kr, rin hm (fun hm=>ge 1 (R_ret zf)) (fun hm=>R_skip (R_G (re 3 (w_ref08_Same_L2 _ _ hm _ kr))))⟩)))))))))))) (fun hm=>R_exit zf))))))
  · intro m_ref08_Same_L2 w_ref08_Same_L2 x r0 hm
    unfold P_ref08_Same
    obtain ⟨p0, p1⟩ := x
    intro H
    refine PC_sx (ds := [(T_api_Tree.ex p0), (T_api_Tree.ex p1)]) (fn := f10) rfl ?_
    exact ge 3 (R_seq (R_seq (bi hm fun v1 hs hm=>R_cut (fun d => ⟨sl d 88 [(2, (.ptr 0 0)), (3, (.ptr 1 0)), (50, (boolPV v1))], [(k_8d433f p0.kind p0.fn p0.axis p0.name p0.nums p0.kids), (k_8d433f p1.kind p1.fn p1.axis p1.name p1.nums p1.kids)]⟩) (have hm:=hs;R_GN (G_run 6 (bi hm fun v2 hs hm=>G_cut (j := 12) (fun d => ⟨sl d 88 [(2, (.ptr 0 0)), (3, (.ptr 1 0)), (18, (boolPV v2))], [(k_8d433f p0.kind p0.fn p0.axis p0.name p0.nums p0.kids), (k_8d433f p1.kind p1.fn p1.axis p1.name p1.nums p1.kids)]⟩) (fun d => G_run 1 (bi hm fun v3 hs hm=>G_cut (j := 19) (fun d => ⟨sl d 88 [(2, (.ptr 0 0)), (3, (.ptr 1 0)), (25, (boolPV v3))], [(k_8d433f p0.kind p0.fn p0.axis p0.name p0.nums p0.kids), (k_8d433f p1.kind p1.fn p1.axis p1.name p1.nums p1.kids)]⟩) (fun d => G_run 1 (bi hm fun v4 hs hm=>G_cut (j := 26) (fun d => ⟨sl d 88 [(2, (.ptr 0 0)), (3, (.ptr 1 0)), (32, (boolPV v4))], [(k_8d433f p0.kind p0.fn p0.axis p0.name p0.nums p0.kids), (k_8d433f p1.kind p1.fn p1.axis p1.name p1.nums p1.kids)]⟩) (fun d => G_run 1 (bi hm fun v5 hs hm=>G_cut (j := 35) (fun d => ⟨sl d 88 [(2, (.ptr 0 0)), (3, (.ptr 1 0)), (41, (boolPV v5))], [(k_8d433f p0.kind p0.fn p0.axis p0.name p0.nums p0.kids), (k_8d433f p1.kind p1.fn p1.axis p1.name p1.nums p1.kids)]⟩) (fun d => G_run 1 (gsb 42 hm (fun hm=>re 8 ⟨kr, zf⟩) (fun hm=>G_run 2 (I_len T_api_Tree.toD p0.kids (es := T_api_Tree.toDs p0.kids) (T_api_Tree.toDs_eq _) (G_run 2 (I_len T_api_Tree.toD p1.kids (es := T_api_Tree.toDs p1.kids) (T_api_Tree.toDs_eq _) (re 2 ⟨kr, zf⟩))))))) (fun hJ => gsb 33 hs (fun hm=>G_run 8 zf) (fun hm=>G_run 2 (I_ln intD p0.nums (G_run 2 (I_ln intD p1.nums (G_run 2 zf)))))))) (fun hJ => gsb 26 hs (fun hm=>G_run 6 zf) (fun hm=>G_run 4 (G_semN rfl (fun _ => E_neqStr (a := p0.name) (b := p1.name) rfl kr kr) (G_run 1 zf)))))) (fun hJ => gsb 19 hs (fun hm=>G_run 6 zf) (fun hm=>G_run 6 zf)))) (fun hJ => gsx 12 hs (fun hm=>G_run 6 zf) (fun hm=>G_run 6 zf))))) (fun d => rib hm (fun hm=>ge 1 (R_ret zf)) (fun hm=>R_skip (R_seq (ge 1 (R_block (ru2 hm (w_ref08_Same_L1 _) (fun _ d hm=>zf) fun _ d hm=>R_seq (ge 1 (R_block (ru2 hm (w_ref08_Same_L2 _) (fun _ d hm=>zf) fun _ d hm=>ge 1 (R_ret zf)))))))))))))
theorem w_ref08_Same_L2 : ∀ x r, m_ref08_Same_L2 x = some r → P_ref08_Same_L2 x r := g_ref08_Same_L2.1
theorem w_ref08_Same : ∀ x r, m_ref08_Same x = some r → P_ref08_Same x r := g_ref08_Same_L2.2
end Go.Proofs.Tryd
namespace Go.Proofs.Tryd
open Go Go.Pm
set_option linter.unusedVariables false
set_option maxHeartbeats 2000000
set_option maxRecDepth 2000
def m_simplify_Count (x : T_api_Tree) : Option Int :=
  match x with
  | p0 =>
  m_simplify_simplified p0 >>= fun (v1, v2) =>
  some v2
theorem w_simplify_Count {p0 r0} (hm : m_simplify_Count p0 = some r0) : FQ 12 [(T_api_Tree.ex p0)] (intPV r0) := by
  unfold m_simplify_Count at hm
  exact fp (fn:=f12) rfl (ge 2 (gr 1 (bi2 hm fun v1 v2 hx hm=>G_callP (w_simplify_simplified _ _ hx []) (re 6 (ge 2 (R_ret zf))))))
end Go.Proofs.Tryd
namespace Go.Proofs.Tryd
open Go Go.Pm
set_option linter.unusedVariables false
set_option maxHeartbeats 2000000
set_option maxRecDepth 2000
def m_law29_awake (x : Unit) : Option Bool :=
  match x with
  | _ =>
  m_ref09_Text (⟨#[226, 140, 189, 226, 140, 189, 50, 32, 51, 226, 141, 180, 44, 120]⟩ : ByteArray) >>= fun (v1, v2) =>
  m_simplify_Rule (⟨v1.kind, v1.fn, v1.axis, v1.name, v1.nums, v1.kids⟩ : T_api_Tree) >>= fun (v3, v4) =>
  m_simplify_Simplify v1 >>= fun v5 =>
  m_ref09_Text (⟨#[50, 32, 51, 226, 141, 180, 120]⟩ : ByteArray) >>= fun (v6, v7) =>
  (if v4 = 1 then
    some (v3.kind == 4)
  else
  some false
  ) >>= fun (v8 : Bool) =>
  (if v8 = true then
    m_ref08_Same ((⟨v5.kind, v5.fn, v5.axis, v5.name, v5.nums, v5.kids⟩ : T_api_Tree), (⟨v6.kind, v6.fn, v6.axis, v6.name, v6.nums, v6.kids⟩ : T_api_Tree)) >>= fun v10 =>
    some v10
  else
  some false
  ) >>= fun (v9 : Bool) =>
  (if v9 = true then
    m_simplify_Count v1 >>= fun v12 =>
    some (v12 == 2)
  else
  some false
  ) >>= fun (v11 : Bool) =>
  if v11 = true then
    m_simplify_Count (⟨v5.kind, v5.fn, v5.axis, v5.name, v5.nums, v5.kids⟩ : T_api_Tree) >>= fun v13 =>
    some (v13 == 0)
  else
  some false
def P_law29_awake : Unit → Bool → Prop := fun x r => match x, r with
  | _, r0 => ∀ H, PC prog env 4 ([].map .dat) H (boolPV r0) H
theorem w_law29_awake : ∀ x r, m_law29_awake x = some r → P_law29_awake x r := by
  intro x r0 hm
  unfold m_law29_awake at hm
  unfold P_law29_awake
  intro H
  refine PC_sx (ds := []) (fn := f4) rfl ?_
  exact ge 1 (R_seq (R_G (bi2 hm fun v1 v2 hx hm=>G_callP (w_ref09_Text _ _ hx []) (re 6 (gr 1 (bi2 hm fun v3 v4 hx hm=>cp (w_simplify_Rule hx) (re 6 (gr 1 (bi hm fun v5 hx hm=>cp (w_simplify_Simplify hx) (re 2 (R_seq (R_G (bi2 hm fun v6 v7 hx hm=>G_callP (w_ref09_Text _ _ hx []) (re 6 (R_seq (R_GN (G_run 3 (bi hm fun v8 hs hm=>G_cut (j := 7) (fun d => ⟨sl d 45 [(0, (boolPV false)), (1, (.ptr 0 0)), (5, (.ptr 2 0)), (6, (.ptr 3 0)), (29, (boolPV v8))], [(k_8d433f v1.kind v1.fn v1.axis v1.name v1.nums v1.kids), (k_8d433f v3.kind v3.fn v3.axis v3.name v3.nums v3.kids), (k_8d433f v5.kind v5.fn v5.axis v5.name v5.nums v5.kids), (k_8d433f v6.kind v6.fn v6.axis v6.name v6.nums v6.kids)]⟩) (fun d => G_run 1 (bi hm fun v9 hs hm=>G_cut (j := 12) (fun d => ⟨sl d 45 [(0, (boolPV false)), (1, (.ptr 0 0)), (5, (.ptr 2 0)), (34, (boolPV v9))], [(k_8d433f v1.kind v1.fn v1.axis v1.name v1.nums v1.kids), (k_8d433f v3.kind v3.fn v3.axis v3.name v3.nums v3.kids), (k_8d433f v5.kind v5.fn v5.axis v5.name v5.nums v5.kids), (k_8d433f v6.kind v6.fn v6.axis v6.name v6.nums v6.kids)]⟩) (fun d => G_run 1 (bi hm fun v11 hs hm=>G_cut (j := 17) (fun d => ⟨sl d 45 [(0, (boolPV false)), (5, (.ptr 2 0)), (39, (boolPV v11))], [(k_8d433f v1.kind v1.fn v1.axis v1.name v1.nums v1.kids), (k_8d433f v3.kind v3.fn v3.axis v3.name v3.nums v3.kids), (k_8d433f v5.kind v5.fn v5.axis v5.name v5.nums v5.kids), (k_8d433f v6.kind v6.fn v6.axis v6.name v6.nums v6.kids)]⟩) (fun d => G_run 1 (gsb 40 hm (fun hm=>G_run 1 (bi hm fun v13 hx hm=>cp (w_simplify_Count hx) (re 3 ⟨kr, R_ret zf⟩))) (fun hm=>re 5 ⟨kr, R_ret zf⟩))) (fun hJ => gsb 35 hs (fun hm=>G_run 1 (bi hm fun v12 hx hm=>cp (w_simplify_Count hx) (G_run 2 zf))) (fun hm=>G_run 4 zf)))) (fun hJ => gsb 30 hs (fun hm=>G_run 2 (bi hm fun v10 hx hm=>G_callP (w_ref08_Same _ _ hx []) (G_run 1 zf))) (fun hm=>G_run 4 zf)))) (fun hJ => gsq 25 hs (fun hm=>G_run 4 zf) (fun hm=>G_run 4 zf))))))))))))))))))))
end Go.Proofs.Tryd
namespace Go.Proofs.Tryd
open Go Go.Pm
set_option linter.unusedVariables false
set_option maxHeartbeats 2000000
set_option maxRecDepth 2000
mutual
def m_ref08_left_L1 (x : (T_api_Tree × Int × Int)) : Option (Int) :=
  match x with
  | (p0, v201, v202) =>
  (if v202 < (p0.kids.length : Int) then
    some (decide (v201 ≥ 0))
  else
  some false
  ) >>= fun (v602 : Bool) =>
  if v602 = true then
    idx p0.kids v202 >>= fun v603 =>
    m_ref08_left (v603, v201) >>= fun v604 =>
    m_ref08_left_L1 (p0, v604, (W (v202 + 1)))
  else
  some v201
  partial_fixpoint
def m_ref08_left (x : (T_api_Tree × Int)) : Option Int :=
  match x with
  | (p0, p1) =>
  m_ref08_left_L1 (p0, (W (p1 - 1)), 0) >>= fun v601 =>
  some v601
  partial_fixpoint
end
def P_ref08_left_L1 : (T_api_Tree × Int × Int) → (Int) → Prop := fun x r => match x with
  | (p0, v201, v202) => LQ f20 20 [1, 1, 0, 1, 0, 0] 1 ⟨kp 27 [(1, (intPV v201)), (2, (.ptr 0 0)), (5, (intPV v202))], [(k_8d433f p0.kind p0.fn p0.axis p0.name p0.nums p0.kids)]⟩ (P1 (.exit 0) (fun v601 d => ⟨sl d 27 [(1, (intPV v601))], [(k_8d433f p0.kind p0.fn p0.axis p0.name p0.nums p0.kids)]⟩) r)
def P_ref08_left : (T_api_Tree × Int) → Int → Prop := fun x r => match x, r with
  | (p0, p1), r0 => ∀ H, PC prog env 20 ([(T_api_Tree.ex p0), (intD p1)].map .dat) H (intPV r0) H
theorem g_ref08_left_L1 : (∀ x r, m_ref08_left_L1 x = some r → P_ref08_left_L1 x r) ∧ (∀ x r, m_ref08_left x = some r → P_ref08_left x r) := by
  refine m_ref08_left_L1.mutual_partial_correctness P_ref08_left_L1 P_ref08_left ?_ ?_
  · intro m_ref08_left_L1 m_ref08_left w_ref08_left_L1 w_ref08_left x r hm
    unfold P_ref08_left_L1
    obtain ⟨p0, v201, v202⟩ := x
    exact lp (R_seq (R_seq (bi hm fun v602 hs hm=>R_cut (fun d => ⟨sl d 27 [(1, (intPV v201)), (2, (.ptr 0 0)), (5, (intPV v202)), (16, (boolPV v602))], [(k_8d433f p0.kind p0.fn p0.axis p0.name p0.nums p0.kids)]⟩) (have hm:=hs;R_G (G_run 3 (I_len T_api_Tree.toD p0.kids (es := T_api_Tree.toDs p0.kids) (T_api_Tree.toDs_eq _) (G_run 2 (gs 13 hm (fun hm=>re 3 zf) (fun hm=>re 3 zf)))))) (fun d => rib hm (fun hm=>R_skip (R_seq (R_block (R_G (G_run 3 (bi hm fun v603 hx hm=>I_idx 6 T_api_Tree.toD p0.kids v202 v603 (es := T_api_Tree.toDs p0.kids) (d := (T_api_Tree.ex v603)) (T_api_Tree.toDs_eq _) hx (T_api_Tree.toD_eq v603) rfl (G_run 2 (bi hm fun v604 hx hm=>G_callP (w_ref08_left _ _ hx []) (re 1 (R_G (re 3 (w_ref08_left_L1 _ _ hm _ kr)))))))))))) (fun hm=>R_exit zf)))))
  · intro m_ref08_left_L1 w_ref08_left_L1 x r0 hm
    unfold P_ref08_left
    obtain ⟨p0, p1⟩ := x
    intro H
    refine PC_sx (ds := [(T_api_Tree.ex p0), (intD p1)]) (fn := f20) rfl ?_
    exact ge 2 (ge 3 (R_seq (ge 1 (R_block (ru1 hm (w_ref08_left_L1 _) fun v601 d hm=>ge 2 (R_ret zf))))))
theorem w_ref08_left_L1 : ∀ x r, m_ref08_left_L1 x = some r → P_ref08_left_L1 x r := g_ref08_left_L1.1
theorem w_ref08_left : ∀ x r, m_ref08_left x = some r → P_ref08_left x r := g_ref08_left_L1.2
end Go.Proofs.Tryd
namespace Go.Proofs.Tryd
open Go Go.Pm
set_option linter.unusedVariables false
set_option maxHeartbeats 2000000
set_option maxRecDepth 2000
mutual
def m_ref08_Depth_L1 (x : (T_api_Tree × Int × Int)) : Option (Int) :=
  match x with
  | (p0, v201, v202) =>
  if v202 < (p0.kids.length : Int) then
    idx p0.kids v202 >>= fun v602 =>
    m_ref08_Depth v602 >>= fun v603 =>
    m_ref08_Depth_L1 (p0, (if v201 < v603 then v603 else v201), (W (v202 + 1)))
  else
  some v201
  partial_fixpoint
def m_ref08_Depth (x : T_api_Tree) : Option Int :=
  match x with
  | p0 =>
  m_ref08_Depth_L1 (p0, 0, 0) >>= fun v601 =>
  some (W (v601 + 1))
  partial_fixpoint
end
def P_ref08_Depth_L1 : (T_api_Tree × Int × Int) → (Int) → Prop := fun x r => match x with
  | (p0, v201, v202) => LQ f21 21 [1, 1, 0, 1, 0, 0] 1 ⟨kp 22 [(1, (.ptr 0 0)), (3, (intPV v201)), (4, (intPV v202))], [(k_8d433f p0.kind p0.fn p0.axis p0.name p0.nums p0.kids)]⟩ (P1 (.exit 0) (fun v601 d => ⟨sl d 22 [(3, (intPV v601))], [(k_8d433f p0.kind p0.fn p0.axis p0.name p0.nums p0.kids)]⟩) r)
def P_ref08_Depth : T_api_Tree → Int → Prop := fun x r => match x, r with
  | p0, r0 => ∀ H, PC prog env 21 ([(T_api_Tree.ex p0)].map .dat) H (intPV r0) H
theorem g_ref08_Depth_L1 : (∀ x r, m_ref08_Depth_L1 x = some r → P_ref08_Depth_L1 x r) ∧ (∀ x r, m_ref08_Depth x = some r → P_ref08_Depth x r) := by
  refine m_ref08_Depth_L1.mutual_partial_correctness P_ref08_Depth_L1 P_ref08_Depth ?_ ?_
  · intro m_ref08_Depth_L1 m_ref08_Depth w_ref08_Depth_L1 w_ref08_Depth x r hm
    unfold P_ref08_Depth_L1
    obtain ⟨p0, v201, v202⟩ := x
    exact lp (R_seq (gr 3 (I_len T_api_Tree.toD p0.kids (es := T_api_Tree.toDs p0.kids) (T_api_Tree.toDs_eq _) (re 1 (ri hm (fun hm=>R_skip (R_seq (R_block (R_G (G_run 4 (bi hm fun v602 hx hm=>I_idx 6 T_api_Tree.toD p0.kids v202 v602 (es := T_api_Tree.toDs p0.kids) (d := (T_api_Tree.ex v602)) (T_api_Tree.toDs_eq _) hx (T_api_Tree.toD_eq v602) rfl (G_run 1 (bi hm fun v603 hx hm=>G_callP (w_ref08_Depth _ _ hx []) (G_semN rfl (fun _ => E_max (k := .i64) (m := v201) (n := v603) rfl kr kr) (re 1 (R_G (re 3 (w_ref08_Depth_L1 _ _ hm _ kr))))))))))))) (fun hm=>R_exit zf))))))
  · intro m_ref08_Depth_L1 w_ref08_Depth_L1 p0 r0 hm
    unfold P_ref08_Depth
    intro H
    refine PC_sx (ds := [(T_api_Tree.ex p0)]) (fn := f21) rfl ?_
    exact ge 2 (ge 1 (R_seq (ge 1 (R_block (ru1 hm (w_ref08_Depth_L1 _) fun v601 d hm=>ge 3 (R_ret zf))))))
theorem w_ref08_Depth_L1 : ∀ x r, m_ref08_Depth_L1 x = some r → P_ref08_Depth_L1 x r := g_ref08_Depth_L1.1
theorem w_ref08_Depth : ∀ x r, m_ref08_Depth x = some r → P_ref08_Depth x r := g_ref08_Depth_L1.2
end Go.Proofs.Tryd
namespace Go.Proofs.Tryd
open Go Go.Pm
set_option linter.unusedVariables false
set_option maxHeartbeats 2000000
set_option maxRecDepth 2000
mutual
def m_ref08_numbers_L1 (x : (T_api_Tree × Int × Int)) : Option (Int) :=
  match x with
  | (p0, v201, v202) =>
  if v202 < (p0.kids.length : Int) then
    idx p0.kids v202 >>= fun v602 =>
    m_ref08_numbers v602 >>= fun v603 =>
    m_ref08_numbers_L1 (p0, (W (v201 + v603)), (W (v202 + 1)))
  else
  some v201
  partial_fixpoint
def m_ref08_numbers (x : T_api_Tree) : Option Int :=
  match x with
  | p0 =>
  m_ref08_numbers_L1 (p0, (p0.nums.length : Int), 0) >>= fun v601 =>
  some v601
  partial_fixpoint
end
def P_ref08_numbers_L1 : (T_api_Tree × Int × Int) → (Int) → Prop := fun x r => match x with
  | (p0, v201, v202) => LQ f22 22 [1, 1, 0, 1, 0, 0] 1 ⟨kp 24 [(1, (.ptr 0 0)), (3, (intPV v201)), (4, (intPV v202))], [(k_8d433f p0.kind p0.fn p0.axis p0.name p0.nums p0.kids)]⟩ (P1 (.exit 0) (fun v601 d => ⟨sl d 24 [(3, (intPV v601))], [(k_8d433f p0.kind p0.fn p0.axis p0.name p0.nums p0.kids)]⟩) r)
def P_ref08_numbers : T_api_Tree → Int → Prop := fun x r => match x, r with
  | p0, r0 => ∀ H, PC prog env 22 ([(T_api_Tree.ex p0)].map .dat) H (intPV r0) H
theorem g_ref08_numbers_L1 : (∀ x r, m_ref08_numbers_L1 x = some r → P_ref08_numbers_L1 x r) ∧ (∀ x r, m_ref08_numbers x = some r → P_ref08_numbers x r) := by
  refine m_ref08_numbers_L1.mutual_partial_correctness P_ref08_numbers_L1 P_ref08_numbers ?_ ?_
  · intro m_ref08_numbers_L1 m_ref08_numbers w_ref08_numbers_L1 w_ref08_numbers x r hm
    unfold P_ref08_numbers_L1
    obtain ⟨p0, v201, v202⟩ := x
    exact lp (R_seq (gr 3 (I_len T_api_Tree.toD p0.kids (es := T_api_Tree.toDs p0.kids) (T_api_Tree.toDs_eq _) (re 1 (ri hm (fun hm=>R_skip (R_seq (R_block (R_G (G_run 4 (bi hm fun v602 hx hm=>I_idx 6 T_api_Tree.toD p0.kids v202 v602 (es := T_api_Tree.toDs p0.kids) (d := (T_api_Tree.ex v602)) (T_api_Tree.toDs_eq _) hx (T_api_Tree.toD_eq v602) rfl (G_run 1 (bi hm fun v603 hx hm=>G_callP (w_ref08_numbers _ _ hx []) (re 2 (R_G (re 3 (w_ref08_numbers_L1 _ _ hm _ kr)))))))))))) (fun hm=>R_exit zf))))))
  · intro m_ref08_numbers_L1 w_ref08_numbers_L1 p0 r0 hm
    unfold P_ref08_numbers
    intro H
    refine PC_sx (ds := [(T_api_Tree.ex p0)]) (fn := f22) rfl ?_
    exact ge 2 (gr 2 (I_ln intD p0.nums (re 1 (R_seq (ge 1 (R_block (ru1 hm (w_ref08_numbers_L1 _) fun v601 d hm=>ge 2 (R_ret zf))))))))
theorem w_ref08_numbers_L1 : ∀ x r, m_ref08_numbers_L1 x = some r → P_ref08_numbers_L1 x r := g_ref08_numbers_L1.1
theorem w_ref08_numbers : ∀ x r, m_ref08_numbers x = some r → P_ref08_numbers x r := g_ref08_numbers_L1.2
end Go.Proofs.Tryd
namespace Go.Proofs.Tryd
open Go Go.Pm
set_option linter.unusedVariables false
set_option maxHeartbeats 2000000
set_option maxRecDepth 2000
def m_ref08_Few (x : (T_api_Tree × Int)) : Option Bool :=
  match x with
  | (p0, p1) =>
  m_ref08_left (p0, p1) >>= fun v1 =>
  (if v1 ≥ 0 then
    m_ref08_Depth p0 >>= fun v3 =>
    some (decide (v3 ≤ 150))
  else
  some false
  ) >>= fun (v2 : Bool) =>
  if v2 = true then
    m_ref08_numbers p0 >>= fun v4 =>
    some (decide (v4 ≤ (W (10 * p1))))
  else
  some false
theorem w_ref08_Few {p0 p1 r0} (hm : m_ref08_Few (p0, p1) = some r0) : FQ 13 [(T_api_Tree.ex p0), (intD p1)] (boolPV r0) := by
  unfold m_ref08_Few at hm
  exact fp (fn:=f13) rfl (ge 2 (R_seq (R_GN (G_run 2 (bi hm fun v1 hx hm=>G_callP (w_ref08_left _ _ hx []) (G_run 2 (bi hm fun v2 hs hm=>G_cut (j := 9) (fun d => ⟨sl d 21 [(1, (intPV p1)), (2, (.ptr 0 0)), (4, (boolPV false)), (13, (boolPV v2))], [(k_8d433f p0.kind p0.fn p0.axis p0.name p0.nums p0.kids)]⟩) (fun d => G_run 1 (gsb 14 hm (fun hm=>G_run 1 (bi hm fun v4 hx hm=>G_callP (w_ref08_numbers _ _ hx []) (re 5 ⟨kr, R_ret zf⟩))) (fun hm=>re 7 ⟨kr, R_ret zf⟩))) (fun hJ => gs 9 hs (fun hm=>G_run 1 (bi hm fun v3 hx hm=>G_callP (w_ref08_Depth _ _ hx []) (G_run 2 zf))) (fun hm=>G_run 4 zf)))))))))
end Go.Proofs.Tryd
namespace Go.Proofs.Tryd
open Go Go.Pm
set_option linter.unusedVariables false
set_option maxHeartbeats 2000000
set_option maxRecDepth 2000
def m_ref07_letter (x : Int) : Option Bool :=
  match x with
  | p0 =>
  (if p0 ≥ 65 then
    some (decide (p0 ≤ 90))
  else
  some false
  ) >>= fun (v1 : Bool) =>
  (if v1 = true then
    some true
  else
  if p0 ≥ 97 then
    some (decide (p0 ≤ 122))
  else
  some false
  ) >>= fun (v2 : Bool) =>
  if v2 = true then
    some true
  else
  some (p0 == 95)
theorem w_ref07_letter {p0 r0} (hm : m_ref07_letter p0 = some r0) : FQ 25 [(numD .u8 p0)] (boolPV r0) := by
  unfold m_ref07_letter at hm
  exact fp (fn:=f25) rfl (ge 1 (R_seq (R_GN (G_run 3 (bi hm fun v1 hs hm=>G_cut (j := 6) (fun d => ⟨sl d 21 [(0, (.dat (numD .u8 p0))), (2, (boolPV false)), (8, (boolPV v1))], []⟩) (fun d => G_run 1 (bi hm fun v2 hs hm=>G_cut (j := 14) (fun d => ⟨sl d 21 [(0, (.dat (numD .u8 p0))), (2, (boolPV false)), (16, (boolPV v2))], []⟩) (fun d => G_run 1 (gsb 17 hm (fun hm=>re 4 ⟨kr, R_ret zf⟩) (fun hm=>re 4 ⟨kr, R_ret zf⟩))) (fun hJ => gsb 9 hs (fun hm=>G_run 7 zf) (fun hm=>G_run 3 (gs 12 hm (fun hm=>G_run 4 zf) (fun hm=>G_run 4 zf)))))) (fun hJ => gs 5 hs (fun hm=>G_run 3 zf) (fun hm=>G_run 3 zf)))))))
end Go.Proofs.Tryd
namespace Go.Proofs.Tryd
open Go Go.Pm
set_option linter.unusedVariables false
set_option maxHeartbeats 2000000
set_option maxRecDepth 2000
def m_ref07_digit (x : Int) : Option Bool :=
  match x with
  | p0 =>
  if p0 ≥ 48 then
    some (decide (p0 ≤ 57))
  else
  some false
theorem w_ref07_digit {p0 r0} (hm : m_ref07_digit p0 = some r0) : FQ 32 [(numD .u8 p0)] (boolPV r0) := by
  unfold m_ref07_digit at hm
  exact fp (fn:=f32) rfl (ge 1 (gr 3 (gs 5 hm (fun hm=>re 4 (R_ret zf)) (fun hm=>re 4 (R_ret zf)))))
end Go.Proofs.Tryd
namespace Go.Proofs.Tryd
open Go Go.Pm
set_option linter.unusedVariables false
set_option maxHeartbeats 2000000
set_option maxRecDepth 2000
def m_ref07_end_L1 (x : (ByteArray × Int)) : Option (Int) :=
  match x with
  | (p0, v201) =>
  (if v201 < (p0.size : Int) then
    sidx p0 v201 >>= fun v603 =>
    m_ref07_letter v603 >>= fun v604 =>
    if v604 = true then
      some true
    else
    sidx p0 v201 >>= fun v605 =>
    m_ref07_digit v605 >>= fun v606 =>
    some v606
  else
  some false
  ) >>= fun (v602 : Bool) =>
  if v602 = true then
    m_ref07_end_L1 (p0, (W (v201 + 1)))
  else
  some v201
  partial_fixpoint
theorem w_ref07_end_L1 : ∀ x r, m_ref07_end_L1 x = some r → match x with | (p0, v201) => LQ f26 26 [1, 0, 0, 0] 0 ⟨kp 24 [(0, (.dat (strD p0))), (1, (intPV v201))], []⟩ (P1 (.exit 0) (fun v601 d => ⟨sl d 24 [(1, (intPV v601))], []⟩) r) := by
  refine m_ref07_end_L1.partial_correctness _ (fun m_ref07_end_L1 w_ref07_end_L1 x r hm => ?_)
  obtain ⟨p0, v201⟩ := x
  exact lp (R_seq (R_seq (bi hm fun v602 hs hm=>R_cut (fun d => ⟨sl d 24 [(0, (.dat (strD p0))), (1, (intPV v201)), (20, (boolPV v602))], []⟩) (have hm:=hs;R_G (G_run 2 (G_semN rfl (fun _ => E_lenStr (b := p0) kr rfl kr) (G_run 2 (gs 9 hm (fun hm=>G_run 2 (bi hm fun v603 hx hm=>G_semN rfl (fun _ => E_idxStr (b := p0) (n := v201) (v := v603) (k := .i64) hx kr rfl kr kr) (bi hm fun v604 hx hm=>cp (w_ref07_letter hx) (G_run 1 (gsb 14 hm (fun hm=>re 6 zf) (fun hm=>G_run 2 (bi hm fun v605 hx hm=>G_semN rfl (fun _ => E_idxStr (b := p0) (n := v201) (v := v605) (k := .i64) hx kr rfl kr kr) (bi hm fun v606 hx hm=>cp (w_ref07_digit hx) (re 2 zf))))))))) (fun hm=>re 11 zf)))))) (fun d => rib hm (fun hm=>R_skip (R_block (R_G (re 3 (w_ref07_end_L1 _ _ hm _ kr))))) (fun hm=>R_exit zf)))))
def m_ref07_end (x : (ByteArray × Int)) : Option Int :=
  match x with
  | (p0, p1) =>
  m_ref07_end_L1 (p0, p1) >>= fun v601 =>
  some v601
theorem w_ref07_end {p0 p1 r0} (hm : m_ref07_end (p0, p1) = some r0) : FQ 26 [(strD p0), (intD p1)] (intPV r0) := by
  unfold m_ref07_end at hm
  exact fp (fn:=f26) rfl (ge 1 (R_seq (R_block (ru1 hm (w_ref07_end_L1 _) fun v601 d hm=>ge 2 (R_ret zf)))))
end Go.Proofs.Tryd
namespace Go.Proofs.Tryd
open Go Go.Pm
set_option linter.unusedVariables false
set_option maxHeartbeats 2000000
set_option maxRecDepth 2000
def m_ref07_Name (x : ByteArray) : Option Bool :=
  match x with
  | p0 =>
  (if (p0.size : Int) > 0 then
    sidx p0 0 >>= fun v2 =>
    m_ref07_letter v2 >>= fun v3 =>
    some v3
  else
  some false
  ) >>= fun (v1 : Bool) =>
  if v1 = true then
    m_ref07_end (p0, 0) >>= fun v4 =>
    some (v4 == (p0.size : Int))
  else
  some false
theorem w_ref07_Name {p0 r0} (hm : m_ref07_Name p0 = some r0) : FQ 36 [(strD p0)] (boolPV r0) := by
  unfold m_ref07_Name at hm
  exact fp (fn:=f36) rfl (ge 1 (R_seq (R_GN (G_run 1 (G_semN rfl (fun _ => E_lenStr (b := p0) kr rfl kr) (G_run 2 (bi hm fun v1 hs hm=>G_cut (j := 8) (fun d => ⟨sl d 18 [(0, (.dat (strD p0))), (2, (boolPV false)), (10, (boolPV v1))], []⟩) (fun d => G_run 1 (gsb 11 hm (fun hm=>G_run 1 (bi hm fun v4 hx hm=>cp (w_ref07_end hx) (G_run 1 (G_semN rfl (fun _ => E_lenStr (b := p0) kr rfl kr) (re 3 ⟨kr, R_ret zf⟩))))) (fun hm=>re 7 ⟨kr, R_ret zf⟩))) (fun hJ => gs 6 hs (fun hm=>G_run 1 (bi hm fun v2 hx hm=>G_semN rfl (fun _ => E_idxStr (b := p0) (n := 0) (v := v2) (k := .i64) hx kr rfl kr kr) (bi hm fun v3 hx hm=>cp (w_ref07_letter hx) (G_run 1 zf)))) (fun hm=>G_run 4 zf)))))))))
end Go.Proofs.Tryd
namespace Go.Proofs.Tryd
open Go Go.Pm
set_option linter.unusedVariables false
set_option maxHeartbeats 2000000
set_option maxRecDepth 2000
def m_ref08_node (x : T_api_Tree) : Option Bool :=
  match x with
  | p0 =>
  (if p0.axis ≥ 0 then
    some (decide (p0.axis ≤ 15))
  else
  some false
  ) >>= fun (v1 : Bool) =>
  if p0.kind = 1 then
    (if p0.fn = 0 then
      some (p0.axis == (-1))
    else
    some false
    ) >>= fun (v2 : Bool) =>
    (if v2 = true then
      some (decide (p0.name = ByteArray.empty))
    else
    some false
    ) >>= fun (v3 : Bool) =>
    if v3 = true then
      some ((p0.kids.length : Int) == 0)
    else
    some false
  else
  if p0.kind = 2 then
    (if p0.fn = 0 then
      some (p0.axis == (-1))
    else
    some false
    ) >>= fun (v4 : Bool) =>
    (if v4 = true then
      m_ref07_Name p0.name >>= fun v6 =>
      some v6
    else
    some false
    ) >>= fun (v5 : Bool) =>
    (if v5 = true then
      some ((p0.nums.length : Int) == 0)
    else
    some false
    ) >>= fun (v7 : Bool) =>
    if v7 = true then
      some ((p0.kids.length : Int) == 0)
    else
    some false
  else
  if p0.kind = 3 then
    (if p0.name = ByteArray.empty then
      some ((p0.nums.length : Int) == 0)
    else
    some false
    ) >>= fun (v8 : Bool) =>
    (if v8 = true then
      some ((p0.kids.length : Int) == 1)
    else
    some false
    ) >>= fun (v9 : Bool) =>
    if v9 = true then
      (if p0.fn = 3 then
        (if p0.axis = (-1) then
          some true
        else
        some v1
        ) >>= fun (v11 : Bool) =>
        some v11
      else
      some false
      ) >>= fun (v10 : Bool) =>
      if v10 = true then
        some true
      else
      (if p0.fn = 4 then
        some true
      else
      some (p0.fn == 6)
      ) >>= fun (v12 : Bool) =>
      (if v12 = true then
        some (p0.axis == (-1))
      else
      some false
      ) >>= fun (v13 : Bool) =>
      some v13
    else
    some false
  else
  if p0.kind = 4 then
    ((if p0.name ≠ ByteArray.empty then
      some true
    else
    some (decide ((p0.nums.length : Int) > 0))
    ) >>= fun (v15 : Bool) =>
    (if v15 = true then
      some true
    else
    some ((p0.kids.length : Int) != 2)
    ) >>= fun (v16 : Bool) =>
    (if v16 = true then
      some true
    else
    some (decide (p0.fn < 1))
    ) >>= fun (v17 : Bool) =>
    if v17 = true then
      some true
    else
    some (decide (p0.fn > 6))
    ) >>= fun (v14 : Bool) =>
    if v14 = true then
      some false
    else
    (if p0.axis ≠ (-1) then
      if v1 = false then
        some true
      else
      (if p0.fn ≠ 3 then
        some (p0.fn != 6)
      else
      some false
      ) >>= fun (v19 : Bool) =>
      some v19
    else
    some false
    ) >>= fun (v18 : Bool) =>
    if v18 = true then
      some false
    else
    (if p0.fn = 6 then
      some true
    else
    idx p0.kids 0 >>= fun v21 =>
    some (v21.kind == 1)
    ) >>= fun (v20 : Bool) =>
    if v20 = true then
      some true
    else
    idx p0.kids 0 >>= fun v22 =>
    some (v22.kind == 2)
  else
  some false
theorem w_ref08_node {p0 r0} (hm : m_ref08_node p0 = some r0) : FQ 31 [(T_api_Tree.ex p0)] (boolPV r0) := by
  unfold m_ref08_node at hm
  exact fp (fn:=f31) rfl (ge 2 (R_seq (bi hm fun v1 hs hm=>R_cut (fun d => ⟨sl d 170 [(1, (.ptr 0 0)), (3, (boolPV v1))], [(k_8d433f p0.kind p0.fn p0.axis p0.name p0.nums p0.kids)]⟩) (have hm:=hs;R_G (G_run 4 (gs 7 hm (fun hm=>re 5 zf) (fun hm=>re 5 zf)))) (fun d => R_seq (ge 2 (R_block (ge 2 (riq hm (fun hm=>R_seq (R_GN (G_run 4 (bi hm fun v2 hs hm=>G_cut (j := 8) (fun d => ⟨sl d 170 [(1, (.ptr 0 0)), (23, (boolPV v2))], [(k_8d433f p0.kind p0.fn p0.axis p0.name p0.nums p0.kids)]⟩) (fun d => G_run 1 (bi hm fun v3 hs hm=>G_cut (j := 13) (fun d => ⟨sl d 170 [(1, (.ptr 0 0)), (28, (boolPV v3))], [(k_8d433f p0.kind p0.fn p0.axis p0.name p0.nums p0.kids)]⟩) (fun d => G_run 1 (gsb 29 hm (fun hm=>G_run 2 (I_len T_api_Tree.toD p0.kids (es := T_api_Tree.toDs p0.kids) (T_api_Tree.toDs_eq _) (re 3 ⟨kr, R_ret zf⟩))) (fun hm=>re 6 ⟨kr, R_ret zf⟩))) (fun hJ => gsb 24 hs (fun hm=>G_run 2 (G_semN rfl (fun _ => E_eqlStr (a := p0.name) (b := ByteArray.empty) rfl kr kr) (G_run 1 zf))) (fun hm=>G_run 4 zf)))) (fun hJ => gsq 19 hs (fun hm=>G_run 4 zf) (fun hm=>G_run 4 zf)))))) (fun hm=>ge 2 (riq hm (fun hm=>R_seq (R_GN (G_run 4 (bi hm fun v4 hs hm=>G_cut (j := 8) (fun d => ⟨sl d 170 [(1, (.ptr 0 0)), (44, (boolPV v4))], [(k_8d433f p0.kind p0.fn p0.axis p0.name p0.nums p0.kids)]⟩) (fun d => G_run 1 (bi hm fun v5 hs hm=>G_cut (j := 13) (fun d => ⟨sl d 170 [(1, (.ptr 0 0)), (49, (boolPV v5))], [(k_8d433f p0.kind p0.fn p0.axis p0.name p0.nums p0.kids)]⟩) (fun d => G_run 1 (bi hm fun v7 hs hm=>G_cut (j := 19) (fun d => ⟨sl d 170 [(1, (.ptr 0 0)), (55, (boolPV v7))], [(k_8d433f p0.kind p0.fn p0.axis p0.name p0.nums p0.kids)]⟩) (fun d => G_run 1 (gsb 56 hm (fun hm=>G_run 2 (I_len T_api_Tree.toD p0.kids (es := T_api_Tree.toDs p0.kids) (T_api_Tree.toDs_eq _) (re 3 ⟨kr, R_ret zf⟩))) (fun hm=>re 6 ⟨kr, R_ret zf⟩))) (fun hJ => gsb 50 hs (fun hm=>G_run 2 (I_ln intD p0.nums (G_run 2 zf))) (fun hm=>G_run 5 zf)))) (fun hJ => gsb 45 hs (fun hm=>G_run 2 (bi hm fun v6 hx hm=>cp (w_ref07_Name hx) (G_run 1 zf))) (fun hm=>G_run 4 zf)))) (fun hJ => gsq 40 hs (fun hm=>G_run 4 zf) (fun hm=>G_run 4 zf)))))) (fun hm=>ge 2 (riq hm (fun hm=>R_seq (R_GN (G_run 2 (G_semN rfl (fun _ => E_eqlStr (a := p0.name) (b := ByteArray.empty) rfl kr kr) (G_run 1 (bi hm fun v8 hs hm=>G_cut (j := 9) (fun d => ⟨sl d 170 [(1, (.ptr 0 0)), (3, (boolPV v1)), (72, (boolPV v8))], [(k_8d433f p0.kind p0.fn p0.axis p0.name p0.nums p0.kids)]⟩) (fun d => G_run 1 (bi hm fun v9 hs hm=>G_cut (j := 15) (fun d => ⟨sl d 170 [(1, (.ptr 0 0)), (3, (boolPV v1)), (78, (boolPV v9))], [(k_8d433f p0.kind p0.fn p0.axis p0.name p0.nums p0.kids)]⟩) (fun d => G_run 1 (gsb 79 hm (fun hm=>G_run 4 (bi hm fun v10 hs hm=>G_cut (j := 27) (fun d => ⟨sl d 170 [(1, (.ptr 0 0)), (79, (boolPV true)), (90, (boolPV v10))], [(k_8d433f p0.kind p0.fn p0.axis p0.name p0.nums p0.kids)]⟩) (fun d => G_run 1 (gsb 91 hm (fun hm=>re 16 ⟨kr, R_ret zf⟩) (fun hm=>G_run 4 (bi hm fun v12 hs hm=>G_cut (j := 36) (fun d => ⟨sl d 170 [(1, (.ptr 0 0)), (79, (boolPV true)), (91, (boolPV false)), (99, (boolPV v12))], [(k_8d433f p0.kind p0.fn p0.axis p0.name p0.nums p0.kids)]⟩) (fun d => G_run 1 (bi hm fun v13 hs hm=>G_cut (j := 41) (fun d => ⟨sl d 170 [(79, (boolPV true)), (91, (boolPV false)), (104, (boolPV v13))], [(k_8d433f p0.kind p0.fn p0.axis p0.name p0.nums p0.kids)]⟩) (fun d => re 3 ⟨kr, R_ret zf⟩) (fun hJ => gsb 100 hs (fun hm=>G_run 4 zf) (fun hm=>G_run 4 zf)))) (fun hJ => gsq 95 hs (fun hm=>G_run 4 zf) (fun hm=>G_run 4 zf)))))) (fun hJ => gsq 83 hs (fun hm=>G_run 4 (bi hm fun v11 hs hm=>G_cut (j := 26) (fun d => ⟨sl d 170 [(1, (.ptr 0 0)), (79, (boolPV true)), (83, (boolPV true)), (89, (boolPV v11))], [(k_8d433f p0.kind p0.fn p0.axis p0.name p0.nums p0.kids)]⟩) (fun d => G_run 1 zf) (fun hJ => gsq 87 hs (fun hm=>G_run 2 zf) (fun hm=>G_run 2 zf)))) (fun hm=>G_run 7 zf)))) (fun hm=>re 28 ⟨kr, R_ret zf⟩))) (fun hJ => gsb 73 hs (fun hm=>G_run 2 (I_len T_api_Tree.toD p0.kids (es := T_api_Tree.toDs p0.kids) (T_api_Tree.toDs_eq _) (G_run 2 zf))) (fun hm=>G_run 5 zf)))) (fun hJ => gs 67 hs (fun hm=>G_run 2 (I_ln intD p0.nums (G_run 2 zf))) (fun hm=>G_run 5 zf)))))))) (fun hm=>ge 2 (riq hm (fun hm=>R_seq (R_seq (bi hm fun v14 hs hm=>R_cut (fun d => ⟨sl d 170 [(1, (.ptr 0 0)), (3, (boolPV v1)), (133, (boolPV v14))], [(k_8d433f p0.kind p0.fn p0.axis p0.name p0.nums p0.kids)]⟩) (have hm:=hs;R_GN (G_run 2 (G_semN rfl (fun _ => E_neqStr (a := p0.name) (b := ByteArray.empty) rfl kr kr) (G_run 1 (bi hm fun v15 hs hm=>G_cut (j := 9) (fun d => ⟨sl d 170 [(1, (.ptr 0 0)), (3, (boolPV v1)), (117, (boolPV v15))], [(k_8d433f p0.kind p0.fn p0.axis p0.name p0.nums p0.kids)]⟩) (fun d => G_run 1 (bi hm fun v16 hs hm=>G_cut (j := 15) (fun d => ⟨sl d 170 [(1, (.ptr 0 0)), (3, (boolPV v1)), (123, (boolPV v16))], [(k_8d433f p0.kind p0.fn p0.axis p0.name p0.nums p0.kids)]⟩) (fun d => G_run 1 (bi hm fun v17 hs hm=>G_cut (j := 20) (fun d => ⟨sl d 170 [(1, (.ptr 0 0)), (3, (boolPV v1)), (128, (boolPV v17))], [(k_8d433f p0.kind p0.fn p0.axis p0.name p0.nums p0.kids)]⟩) (fun d => G_run 1 (gsb 129 hm (fun hm=>re 4 ⟨kr, zf⟩) (fun hm=>re 4 ⟨kr, zf⟩))) (fun hJ => gsb 124 hs (fun hm=>G_run 4 zf) (fun hm=>G_run 4 zf)))) (fun hJ => gsb 118 hs (fun hm=>G_run 5 zf) (fun hm=>G_run 2 (I_len T_api_Tree.toD p0.kids (es := T_api_Tree.toDs p0.kids) (T_api_Tree.toDs_eq _) (G_run 2 zf)))))) (fun hJ => gs 112 hs (fun hm=>G_run 5 zf) (fun hm=>G_run 2 (I_ln intD p0.nums (G_run 2 zf))))))))) (fun d => rib hm (fun hm=>ge 1 (R_ret zf)) (fun hm=>R_skip (R_seq (R_seq (bi hm fun v18 hs hm=>R_cut (fun d => ⟨sl d 170 [(1, (.ptr 0 0)), (150, (boolPV v18))], [(k_8d433f p0.kind p0.fn p0.axis p0.name p0.nums p0.kids)]⟩) (have hm:=hs;R_GN (G_run 4 (gsx 137 hm (fun hm=>G_run 3 (gsn 140 hm (fun hm=>re 10 ⟨kr, zf⟩) (fun hm=>G_run 4 (bi hm fun v19 hs hm=>G_cut (j := 15) (fun d => ⟨sl d 170 [(1, (.ptr 0 0)), (137, (boolPV true)), (140, (boolPV false)), (148, (boolPV v19))], [(k_8d433f p0.kind p0.fn p0.axis p0.name p0.nums p0.kids)]⟩) (fun d => re 2 ⟨kr, zf⟩) (fun hJ => gsx 144 hs (fun hm=>G_run 4 zf) (fun hm=>G_run 4 zf)))))) (fun hm=>re 13 ⟨kr, zf⟩)))) (fun d => rib hm (fun hm=>ge 1 (R_ret zf)) (fun hm=>R_skip (R_seq (R_GN (G_run 4 (bi hm fun v20 hs hm=>G_cut (j := 11) (fun d => ⟨sl d 170 [(1, (.ptr 0 0)), (161, (boolPV v20))], [(k_8d433f p0.kind p0.fn p0.axis p0.name p0.nums p0.kids)]⟩) (fun d => G_run 1 (gsb 162 hm (fun hm=>re 8 ⟨kr, R_ret zf⟩) (fun hm=>G_run 2 (bi hm fun v22 hx hm=>I_idx 6 T_api_Tree.toD p0.kids 0 v22 (es := T_api_Tree.toDs p0.kids) (d := (T_api_Tree.ex v22)) (T_api_Tree.toDs_eq _) hx (T_api_Tree.toD_eq v22) rfl (re 5 ⟨kr, R_ret zf⟩))))) (fun hJ => gsq 154 hs (fun hm=>G_run 7 zf) (fun hm=>G_run 2 (bi hm fun v21 hx hm=>I_idx 6 T_api_Tree.toD p0.kids 0 v21 (es := T_api_Tree.toDs p0.kids) (d := (T_api_Tree.ex v21)) (T_api_Tree.toDs_eq _) hx (T_api_Tree.toD_eq v21) rfl (G_run 4 zf)))))))))))))))))) (fun hm=>R_skip (ge 1 (R_ret zf)))))))))))))))))
end Go.Proofs.Tryd
namespace Go.Proofs.Tryd
open Go Go.Pm
set_option linter.unusedVariables false
set_option maxHeartbeats 2000000
set_option maxRecDepth 2000
mutual
def m_ref08_nodes_L1 (x : (T_api_Tree × Int)) : Option (Unit ⊕ Unit) :=
  match x with
  | (p0, v202) =>
  if v202 < (p0.kids.length : Int) then
    idx p0.kids v202 >>= fun v602 =>
    m_ref08_nodes v602 >>= fun v603 =>
    if v603 = false then
      some (Sum.inl ())
    else
    m_ref08_nodes_L1 (p0, (W (v202 + 1)))
  else
  some (Sum.inr ())
  partial_fixpoint
def m_ref08_nodes (x : T_api_Tree) : Option Bool :=
  match x with
  | p0 =>
  m_ref08_node (⟨p0.kind, p0.fn, p0.axis, p0.name, p0.nums, p0.kids⟩ : T_api_Tree) >>= fun v1 =>
  if v1 = false then
    some false
  else
  (
  m_ref08_nodes_L1 (p0, 0) >>= fun out =>
  match out with
  | .inl _ =>
    some false
  | .inr (_) =>
    some true
  )
  partial_fixpoint
end
def P_ref08_nodes_L1 : (T_api_Tree × Int) → (Unit ⊕ Unit) → Prop := fun x r => match x with
  | (p0, v202) => LQ f23 23 [1, 1, 0, 1, 0, 0] 1 ⟨kp 21 [(1, (.ptr 0 0)), (3, (intPV v202))], [(k_8d433f p0.kind p0.fn p0.axis p0.name p0.nums p0.kids)]⟩ (P2 .ret (fun _ d => ⟨sl d 21 [(2, (boolPV false))], [(k_8d433f p0.kind p0.fn p0.axis p0.name p0.nums p0.kids)]⟩) (.exit 0) (fun _ d => ⟨sl d 21 [], [(k_8d433f p0.kind p0.fn p0.axis p0.name p0.nums p0.kids)]⟩) r)
def P_ref08_nodes : T_api_Tree → Bool → Prop := fun x r => match x, r with
  | p0, r0 => ∀ H, PC prog env 23 ([(T_api_Tree.ex p0)].map .dat) H (boolPV r0) H
theorem g_ref08_nodes_L1 : (∀ x r, m_ref08_nodes_L1 x = some r → P_ref08_nodes_L1 x r) ∧ (∀ x r, m_ref08_nodes x = some r → P_ref08_nodes x r) := by
  refine m_ref08_nodes_L1.mutual_partial_correctness P_ref08_nodes_L1 P_ref08_nodes ?_ ?_
  · intro m_ref08_nodes_L1 m_ref08_nodes w_ref08_nodes_L1 w_ref08_nodes x r hm
    unfold P_ref08_nodes_L1
    obtain ⟨p0, v202⟩ := x
    exact lp (R_seq (gr 3 (I_len T_api_Tree.toD p0.kids (es := T_api_Tree.toDs p0.kids) (T_api_Tree.toDs_eq _) (re 1 (ri hm (fun hm=>R_skip (R_seq (R_block (gr 3 (bi hm fun v602 hx hm=>I_idx 6 T_api_Tree.toD p0.kids v202 v602 (es := T_api_Tree.toDs p0.kids) (d := (T_api_Tree.ex v602)) (T_api_Tree.toDs_eq _) hx (T_api_Tree.toD_eq v602) rfl (G_run 1 (bi hm fun v603 hx hm=>G_callP (w_ref08_nodes _ _ hx []) (re 1 (rin hm (fun hm=>ge 1 (R_ret zf)) (fun hm=>R_skip (R_G (re 3 (w_ref08_nodes_L1 _ _ hm _ kr))))))))))))) (fun hm=>R_exit zf))))))
  · intro m_ref08_nodes_L1 w_ref08_nodes_L1 p0 r0 hm
    unfold P_ref08_nodes
    intro H
    refine PC_sx (ds := [(T_api_Tree.ex p0)]) (fn := f23) rfl ?_
    exact ge 2 (R_seq (gr 1 (bi hm fun v1 hx hm=>cp (w_ref08_node hx) (re 1 (rin hm (fun hm=>ge 1 (R_ret zf)) (fun hm=>R_skip (R_seq (ge 1 (R_block (ru2 hm (w_ref08_nodes_L1 _) (fun _ d hm=>zf) fun _ d hm=>ge 1 (R_ret zf)))))))))))
theorem w_ref08_nodes_L1 : ∀ x r, m_ref08_nodes_L1 x = some r → P_ref08_nodes_L1 x r := g_ref08_nodes_L1.1
theorem w_ref08_nodes : ∀ x r, m_ref08_nodes x = some r → P_ref08_nodes x r := g_ref08_nodes_L1.2
end Go.Proofs.Tryd
namespace Go.Proofs.Tryd
open Go Go.Pm
set_option linter.unusedVariables false
set_option maxHeartbeats 2000000
set_option maxRecDepth 2000
def m_ref08_Right (x : T_api_Tree) : Option Bool :=
  match x with
  | p0 =>
  m_ref08_Depth p0 >>= fun v1 =>
  if v1 ≤ 100 then
    m_ref08_nodes (⟨p0.kind, p0.fn, p0.axis, p0.name, p0.nums, p0.kids⟩ : T_api_Tree) >>= fun v2 =>
    some v2
  else
  some false
theorem w_ref08_Right {p0 r0} (hm : m_ref08_Right p0 = some r0) : FQ 14 [(T_api_Tree.ex p0)] (boolPV r0) := by
  unfold m_ref08_Right at hm
  exact fp (fn:=f14) rfl (ge 2 (gr 1 (bi hm fun v1 hx hm=>G_callP (w_ref08_Depth _ _ hx []) (G_run 2 (gs 6 hm (fun hm=>G_run 1 (bi hm fun v2 hx hm=>G_callP (w_ref08_nodes _ _ hx []) (re 2 (R_ret zf)))) (fun hm=>re 4 (R_ret zf)))))))
end Go.Proofs.Tryd
namespace Go.Proofs.Tryd
open Go Go.Pm
set_option linter.unusedVariables false
set_option maxHeartbeats 2000000
set_option maxRecDepth 2000
def m_ref08_Small (x : (T_api_Tree × Int)) : Option Bool :=
  match x with
  | (p0, p1) =>
  m_ref08_Few (p0, p1) >>= fun v1 =>
  if v1 = true then
    m_ref08_Right (⟨p0.kind, p0.fn, p0.axis, p0.name, p0.nums, p0.kids⟩ : T_api_Tree) >>= fun v2 =>
    some v2
  else
  some false
theorem w_ref08_Small {p0 p1 r0} (hm : m_ref08_Small (p0, p1) = some r0) : FQ 5 [(T_api_Tree.ex p0), (intD p1)] (boolPV r0) := by
  unfold m_ref08_Small at hm
  exact fp (fn:=f5) rfl (ge 2 (gr 2 (bi hm fun v1 hx hm=>cp (w_ref08_Few hx) (G_run 1 (gsb 8 hm (fun hm=>G_run 1 (bi hm fun v2 hx hm=>cp (w_ref08_Right hx) (re 2 (R_ret zf)))) (fun hm=>re 4 (R_ret zf)))))))
end Go.Proofs.Tryd
namespace Go.Proofs.Tryd
open Go Go.Pm
set_option linter.unusedVariables false
set_option maxHeartbeats 2000000
set_option maxRecDepth 2000
mutual
def m_ref08_Copy_L1 (x : (T_api_Tree × (List Int) × (List T_api_Tree) × Int)) : Option ((List T_api_Tree)) :=
  match x with
  | (p0, v1, v202, v203) =>
  if v203 < (p0.kids.length : Int) then
    idx p0.kids v203 >>= fun v603 =>
    m_ref08_Copy v603 >>= fun v604 =>
    app 88 v202 ([v604] : List T_api_Tree) >>= fun v605 =>
    m_ref08_Copy_L1 (p0, v1, v605, (W (v203 + 1)))
  else
  some v202
  partial_fixpoint
def m_ref08_Copy (x : T_api_Tree) : Option T_api_Tree :=
  match x with
  | p0 =>
  app 8 ([] : List Int) p0.nums >>= fun v1 =>
  m_ref08_Copy_L1 (p0, v1, ([] : List T_api_Tree), 0) >>= fun v602 =>
  some (⟨p0.kind, p0.fn, p0.axis, p0.name, v1, v602⟩ : T_api_Tree)
  partial_fixpoint
end
def P_ref08_Copy_L1 : (T_api_Tree × (List Int) × (List T_api_Tree) × Int) → ((List T_api_Tree)) → Prop := fun x r => match x with
  | (p0, v1, v202, v203) => LQ f6 6 [1, 1, 1, 1, 0, 1, 0, 0] 6 ⟨kp 31 [(1, (.ptr 0 0)), (2, (.ptr 1 0)), (3, (.ptr 2 0)), (4, (intPV v203))], [(k_8d433f p0.kind p0.fn p0.axis p0.name p0.nums p0.kids), k_8e3eb1, (.box [(intPV p0.kind), (intPV p0.fn), (intPV p0.axis), (.dat (strD p0.name)), (.vec 4 ((List.map intD) v1)), (.vec 5 (T_api_Tree.toDs v202))]), (.tok 25 (([] : List T_api_Tree).length)), (.tok 2 v1.length), (.tok 25 v202.length)]⟩ (P1 (.exit 0) (fun v602 d => ⟨sl d 31 [(2, (.ptr 1 0)), (3, (.ptr 2 0))], [(k_8d433f p0.kind p0.fn p0.axis p0.name p0.nums p0.kids), k_8e3eb1, (.box [(intPV p0.kind), (intPV p0.fn), (intPV p0.axis), (.dat (strD p0.name)), (.vec 4 ((List.map intD) v1)), (.vec 5 (T_api_Tree.toDs v602))]), (.tok 25 (([] : List T_api_Tree).length)), (.tok 2 v1.length), (.tok 25 v602.length)]⟩) r)
def P_ref08_Copy : T_api_Tree → T_api_Tree → Prop := fun x r => match x, r with
  | p0, r0 => ∀ H, PC prog env 6 ([(T_api_Tree.ex p0)].map .dat) H (.dat (T_api_Tree.ex r0)) H
theorem g_ref08_Copy_L1 : (∀ x r, m_ref08_Copy_L1 x = some r → P_ref08_Copy_L1 x r) ∧ (∀ x r, m_ref08_Copy x = some r → P_ref08_Copy x r) := by
  refine m_ref08_Copy_L1.mutual_partial_correctness P_ref08_Copy_L1 P_ref08_Copy ?_ ?_
  · intro m_ref08_Copy_L1 m_ref08_Copy w_ref08_Copy_L1 w_ref08_Copy x r hm
    unfold P_ref08_Copy_L1
    obtain ⟨p0, v1, v202, v203⟩ := x
    exact lp (R_seq (gr 3 (I_len T_api_Tree.toD p0.kids (es := T_api_Tree.toDs p0.kids) (T_api_Tree.toDs_eq _) (re 1 (ri hm (fun hm=>R_skip (R_seq (R_block (R_GD (G_run 5 (bi hm fun v603 hx hm=>I_idx 6 T_api_Tree.toD p0.kids v203 v603 (es := T_api_Tree.toDs p0.kids) (d := (T_api_Tree.ex v603)) (T_api_Tree.toDs_eq _) hx (T_api_Tree.toD_eq v603) rfl (G_run 1 (bi hm fun v604 hx hm=>G_callP (w_ref08_Copy _ _ hx []) (G_run 1 (bi hm fun v605 hx hm=>I_app 25 6 88 5 T_api_Tree.toD v202 ([v604] : List T_api_Tree) v605 (xs := T_api_Tree.toDs v202) (es := [(T_api_Tree.ex v604)]) (L := T_api_Tree.toDs) T_api_Tree.toDs_eq rfl (by simp only [T_api_Tree.toDs, T_api_Tree.toD_eq]) T_api_Tree.fit hx (re 2 ⟨kr, R_G (re 3 (w_ref08_Copy_L1 _ _ hm _ kr))⟩))))))))))) (fun hm=>R_exit zf))))))
  · intro m_ref08_Copy_L1 w_ref08_Copy_L1 p0 r0 hm
    unfold P_ref08_Copy
    intro H
    refine PC_sx (ds := [(T_api_Tree.ex p0)]) (fn := f6) rfl ?_
    exact ge 2 (ge 3 (gr 3 (bi hm fun v1 hx hm=>I_app 2 1 8 4 intD ([] : List Int) p0.nums v1 (xs := (List.map intD) ([] : List Int)) (es := (List.map intD) p0.nums) (L := (List.map intD)) (fun _ => rfl) rfl rfl (fun _ => rfl) hx (re 2 (ge 2 (R_seq (ge 1 (R_block (ru1 hm (w_ref08_Copy_L1 _) fun v602 d hm=>ge 2 (R_ret zf))))))))))
theorem w_ref08_Copy_L1 : ∀ x r, m_ref08_Copy_L1 x = some r → P_ref08_Copy_L1 x r := g_ref08_Copy_L1.1
theorem w_ref08_Copy : ∀ x r, m_ref08_Copy x = some r → P_ref08_Copy x r := g_ref08_Copy_L1.2
end Go.Proofs.Tryd

namespace Go.Proofs.Tryd
open Go Go.Pm
set_option linter.unusedVariables false
set_option linter.unusedSimpArgs false
set_option maxRecDepth 2000
mutual
def szT : T_api_Tree → Nat
  | ⟨_, _, _, _, _, kids⟩ => 1 + szTs kids
def szTs : List T_api_Tree → Nat
  | [] => 0
  | k :: ks => szT k + szTs ks
end
mutual
def numT : T_api_Tree → Nat
  | ⟨_, _, _, _, nums, kids⟩ => nums.length + numTs kids
def numTs : List T_api_Tree → Nat
  | [] => 0
  | k :: ks => numT k + numTs ks
end
mutual
def depT : T_api_Tree → Nat
  | ⟨_, _, _, _, _, kids⟩ => depTs kids + 1
def depTs : List T_api_Tree → Nat
  | [] => 0
  | k :: ks => max (depT k) (depTs ks)
end
mutual
def wT : T_api_Tree → Nat
  | ⟨_, _, _, nm, nums, kids⟩ => 40 + nm.size + 40 * nums.length + wTs kids
def wTs : List T_api_Tree → Nat
  | [] => 0
  | k :: ks => wT k + wTs ks
end
theorem szT_pos : ∀ t : T_api_Tree, 1 ≤ szT t
  | ⟨_, _, _, _, _, kids⟩ => by rw [szT]; omega
theorem szTs_len : ∀ l : List T_api_Tree, l.length ≤ szTs l
  | [] => Nat.zero_le _
  | k :: ks => by have := szTs_len ks; have := szT_pos k; rw [szTs]; simp only [List.length_cons]; omega
theorem szTs_app : ∀ a b : List T_api_Tree, szTs (a ++ b) = szTs a + szTs b
  | [], b => by simp [szTs]
  | k :: ks, b => by rw [List.cons_append, szTs, szTs, szTs_app ks b]; omega
theorem numTs_app : ∀ a b : List T_api_Tree, numTs (a ++ b) = numTs a + numTs b
  | [], b => by simp [numTs]
  | k :: ks, b => by rw [List.cons_append, numTs, numTs, numTs_app ks b]; omega
mutual
theorem depT_le : ∀ t : T_api_Tree, depT t ≤ szT t
  | ⟨_, _, _, _, _, kids⟩ => by have := depTs_le kids; rw [depT, szT]; omega
theorem depTs_le : ∀ l : List T_api_Tree, depTs l ≤ szTs l
  | [] => Nat.le_refl _
  | k :: ks => by have := depT_le k; have := depTs_le ks; rw [depTs, szTs]; omega
end
mutual
theorem tleft_ok : ∀ (t : T_api_Tree) (n : Int), 0 ≤ n → n ≤ 600 → m_ref08_left (t, n) = some (max (n - (szT t : Int)) (-1))
  | ⟨k, f, a, nm, nu, ks⟩, n, h1, h2 => by
    rw [m_ref08_left]
    have w : W (n - 1) = n - 1 := W_ok (by omega) (by omega)
    have e := tleft_loop ks [] (n - 1) k f a nm nu (by omega) (by simp; omega)
    simp only [List.nil_append, List.length_nil, Int.natCast_zero] at e
    rw [w, e, bind_ok, szT]
    congr 1; omega
theorem tleft_loop : ∀ (s p : List T_api_Tree) (n : Int) (k f a : Int) (nm : ByteArray) (nu : List Int), -1 ≤ n → (p.length : Int) + n ≤ 600 →
    m_ref08_left_L1 (⟨k, f, a, nm, nu, p ++ s⟩, n, (p.length : Int)) = some (max (n - (szTs s : Int)) (-1))
  | [], p, n, k, f, a, nm, nu, h1, h2 => by
    rw [m_ref08_left_L1]
    simp only [end_lt, if_false, bind_ok, Bool.false_eq_true, szTs]
    congr 1; omega
  | x :: s, p, n, k, f, a, nm, nu, h1, h2 => by
    rw [m_ref08_left_L1]
    simp only [mid_lt, if_true, bind_ok]
    by_cases hn : n ≥ 0
    · rw [decide_eq_true hn]
      have e := tleft_ok x n hn (by omega)
      have e' := tleft_loop s (p ++ [x]) (max (n - (szT x : Int)) (-1)) k f a nm nu (by omega) (by have := szT_pos x; simp; omega)
      rw [← mid_app] at e'
      have w : W ((p.length : Int) + 1) = ((p ++ [x]).length : Int) := by rw [W_ok (by omega) (by omega)]; simp
      simp only [if_true, mid_idx, bind_ok, e, w, e', szTs]
      congr 1; omega
    · rw [decide_eq_false hn]
      simp only [Bool.false_eq_true, if_false, szTs]
      congr 1; omega
end
mutual
theorem tdep_ok : ∀ (t : T_api_Tree), szT t ≤ 100000 → m_ref08_Depth t = some (depT t : Int)
  | ⟨k, f, a, nm, nu, ks⟩, h => by
    rw [m_ref08_Depth]
    rw [szT] at h
    have e := tdep_loop ks [] 0 k f a nm nu (by have := szTs_len ks; simp; omega) (by omega) (by omega)
    simp only [List.nil_append, List.length_nil, Int.natCast_zero] at e
    have := depTs_le ks
    simp only [e, bind_ok, depT]
    rw [W_ok (by omega) (by omega)]
    congr 1
    first | done | omega
theorem tdep_loop : ∀ (s p : List T_api_Tree) (m : Nat) (k f a : Int) (nm : ByteArray) (nu : List Int), (p ++ s).length ≤ 100000 → szTs s ≤ 100000 → m ≤ 100000 →
    m_ref08_Depth_L1 (⟨k, f, a, nm, nu, p ++ s⟩, (m : Int), (p.length : Int)) = some ((max m (depTs s) : Nat) : Int)
  | [], p, m, k, f, a, nm, nu, h1, h2, h3 => by
    rw [m_ref08_Depth_L1]
    simp only [end_lt, if_false, depTs, Nat.max_zero]
  | x :: s, p, m, k, f, a, nm, nu, h1, h2, h3 => by
    rw [m_ref08_Depth_L1]
    rw [szTs] at h2
    have e := tdep_ok x (by omega)
    have hd := depT_le x
    have e' := tdep_loop s (p ++ [x]) (max m (depT x)) k f a nm nu (by simpa using h1) (by omega) (by omega)
    rw [← mid_app] at e'
    have w : W ((p.length : Int) + 1) = ((p ++ [x]).length : Int) := mid_W (Sm_of h1)
    have hx : (if (m : Int) < (depT x : Int) then (depT x : Int) else (m : Int)) = ((max m (depT x) : Nat) : Int) := by split <;> omega
    simp only [mid_lt, if_true, mid_idx, bind_ok, e, w, hx, e', depTs]
    congr 1; omega
end
mutual
theorem tnum_ok : ∀ (t : T_api_Tree), szT t ≤ 600 → numT t ≤ 1000000000000000000 → m_ref08_numbers t = some (numT t : Int)
  | ⟨k, f, a, nm, nu, ks⟩, h, h2 => by
    rw [m_ref08_numbers]
    rw [szT] at h
    rw [numT] at h2
    have e := tnum_loop ks [] nu.length k f a nm nu (by have := szTs_len ks; simp; omega) (by omega) (by omega)
    simp only [List.nil_append, List.length_nil, Int.natCast_zero] at e
    simp only [e, bind_ok, numT]
theorem tnum_loop : ∀ (s p : List T_api_Tree) (m : Nat) (k f a : Int) (nm : ByteArray) (nu : List Int), (p ++ s).length ≤ 600 → szTs s ≤ 600 → m + numTs s ≤ 1000000000000000000 →
    m_ref08_numbers_L1 (⟨k, f, a, nm, nu, p ++ s⟩, (m : Int), (p.length : Int)) = some ((m + numTs s : Nat) : Int)
  | [], p, m, k, f, a, nm, nu, h1, h2, h3 => by
    rw [m_ref08_numbers_L1]
    simp only [end_lt, if_false, numTs, Nat.add_zero]
  | x :: s, p, m, k, f, a, nm, nu, h1, h2, h3 => by
    rw [m_ref08_numbers_L1]
    rw [szTs] at h2
    rw [numTs] at h3
    have e := tnum_ok x (by omega) (by omega)
    have e' := tnum_loop s (p ++ [x]) (m + numT x) k f a nm nu (by simpa using h1) (by omega) (by omega)
    rw [← mid_app] at e'
    have w : W ((p.length : Int) + 1) = ((p ++ [x]).length : Int) := mid_W (Sm_of h1)
    have hx : W ((m : Int) + (numT x : Int)) = ((m + numT x : Nat) : Int) := by rw [W_ok (by omega) (by omega)]; omega
    simp only [mid_lt, if_true, mid_idx, bind_ok, e, w, hx, e', numTs, Nat.add_assoc]
end
/-- few nodes and numbers -/
def fewT (t : T_api_Tree) : Prop := szT t ≤ 300 ∧ depT t ≤ 150 ∧ numT t ≤ 3000
theorem Few_ok (t : T_api_Tree) (hb : numT t ≤ szT t * 140737488351232) : ∃ b, m_ref08_Few (t, 300) = some b ∧ (b = true ↔ fewT t) := by
  unfold m_ref08_Few
  simp only [tleft_ok t 300 (by omega) (by omega), bind_ok]
  by_cases h : szT t ≤ 300
  · have h0 : max ((300 : Int) - (szT t : Int)) (-1) ≥ 0 := by omega
    have hn : numT t ≤ 1000000000000000000 := Nat.le_trans hb (Nat.le_trans (Nat.mul_le_mul_right _ h) (by decide))
    have w : W (10 * 300) = 3000 := by decide
    simp only [h0, if_true, tdep_ok t (by omega), tnum_ok t (by omega) hn, bind_ok, w]
    by_cases hd : (depT t : Int) ≤ 150
    · rw [decide_eq_true hd]
      simp only [if_true]
      refine ⟨_, rfl, ?_⟩
      unfold fewT
      simp only [decide_eq_true_eq]
      omega
    · rw [decide_eq_false hd]
      simp only [Bool.false_eq_true, if_false]
      exact ⟨_, rfl, fun h => (by cases h), fun h => by unfold fewT at h; omega⟩
  · have h0 : ¬ max ((300 : Int) - (szT t : Int)) (-1) ≥ 0 := by omega
    simp only [h0, if_false, bind_ok, Bool.false_eq_true]
    exact ⟨_, rfl, fun h => (by cases h), fun h' => by unfold fewT at h'; omega⟩
end Go.Proofs.Tryd
namespace Go.Proofs.Tryd
open Go Go.Pm
set_option linter.unusedVariables false
set_option linter.unusedSimpArgs false
set_option maxRecDepth 2000
def B (l : List UInt8) : ByteArray := ⟨l.toArray⟩
theorem B_size (l : List UInt8) : (B l).size = l.length := by simp [B, ByteArray.size]
theorem B_eta (b : ByteArray) : B b.data.toList = b := by cases b; simp [B]
theorem B_inj {a b : List UInt8} : B a = B b ↔ a = b := by
  constructor
  · intro h
    have := congrArg (fun x : ByteArray => x.data.toList) h
    simpa [B] using this
  · intro h; rw [h]
theorem sidx_B (p s : List UInt8) (x : UInt8) : sidx (B (p ++ x :: s)) (p.length : Int) = some (x.toNat : Int) := by
  unfold sidx B
  rw [if_pos (by omega)]
  simp
theorem sidx_0 (s : List UInt8) (x : UInt8) : sidx (B (x :: s)) 0 = some (x.toNat : Int) := sidx_B [] s x
theorem extract_B (l : List UInt8) (i j : Nat) : (B l).extract i j = B ((l.take j).drop i) := by
  have h : ((B l).extract i j).data = ((l.take j).drop i).toArray := by
    rw [ByteArray.data_extract]
    show l.toArray.extract i j = _
    rw [List.extract_toArray]
    simp [List.extract, List.drop_take]
  cases e : (B l).extract i j
  rw [e] at h
  simp only at h
  rw [h]; rfl
theorem ssub_B {l : List UInt8} {p m s : List UInt8} (hl : l = p ++ (m ++ s)) {i j : Int} (hi : i = (p.length : Int)) (hj : j = ((p.length + m.length : Nat) : Int)) : ssub (B l) i j = some (B m) := by
  subst hl hi hj
  unfold ssub
  rw [if_pos ⟨by omega, by omega, by rw [B_size]; simp; omega⟩, extract_B]
  have h : (p ++ (m ++ s)).take (p.length + m.length) = p ++ m := by rw [← List.append_assoc]; exact List.take_left' (by simp)
  rw [Int.toNat_natCast, Int.toNat_natCast, h]
  simp
theorem sadd_B {a b : List UInt8} (h : a.length + b.length ≤ 1000000) : sadd (B a) (B b) = some (B (a ++ b)) := by
  unfold sadd
  rw [if_pos (by rw [B_size, B_size]; omega)]
  congr 1
theorem W_in (n : Int) : -9223372036854775808 ≤ W n ∧ W n < 9223372036854775808 := by
  simp only [W, IntKind.wrap, IntKind.bits, IntKind.signed]; simp; split <;> omega
/-- letters and digits -/
def lt (v : Int) : Bool := decide (65 ≤ v ∧ v ≤ 90) || decide (97 ≤ v ∧ v ≤ 122) || decide (v = 95)
def dg (v : Int) : Bool := decide (48 ≤ v ∧ v ≤ 57)
theorem letter_eq (v : Int) : m_ref07_letter v = some (lt v) := by
  unfold m_ref07_letter lt
  simp only []
  by_cases h1 : v ≥ 65 <;> by_cases h2 : v ≤ 90 <;> by_cases h3 : v ≥ 97 <;> by_cases h4 : v ≤ 122 <;> simp [h1, h2, h3, h4, bind_ok] <;> first | done | rfl | omega
theorem digit_eq (v : Int) : m_ref07_digit v = some (dg v) := by
  unfold m_ref07_digit dg
  simp only []
  by_cases h1 : v ≥ 48 <;> by_cases h2 : v ≤ 57 <;> simp [h1, h2]
def wordc (c : UInt8) : Bool := lt (c.toNat : Int) || dg (c.toNat : Int)
theorem end_L1 : ∀ (s p l : List UInt8), l = p ++ s → l.length ≤ 1000000 → m_ref07_end_L1 (B l, (p.length : Int)) = some (((p.length + (s.takeWhile wordc).length : Nat)) : Int)
  | [], p, l, hl, hs => by
    subst hl
    rw [m_ref07_end_L1]
    have : ¬ ((p.length : Int) < ((B (p ++ [])).size : Int)) := by rw [B_size]; simp
    simp only [this, if_false, bind_ok, Bool.false_eq_true, List.takeWhile_nil, List.length_nil, Nat.add_zero]
  | c :: s, p, l, hl, hs => by
    rw [m_ref07_end_L1]
    have h1 : ((p.length : Int) < ((B l).size : Int)) := by rw [B_size, hl]; simp; omega
    have e : sidx (B l) (p.length : Int) = some (c.toNat : Int) := by rw [hl]; exact sidx_B p s c
    have hw : W ((p.length : Int) + 1) = ((p ++ [c]).length : Int) := by
      rw [hl] at hs; simp at hs
      rw [W_ok (by omega) (by omega)]; simp
    have ih := end_L1 s (p ++ [c]) l (by simp [hl]) hs
    simp only [h1, if_true, e, letter_eq, digit_eq, bind_ok]
    by_cases hL : lt (c.toNat : Int) = true
    · have hc : wordc c = true := by unfold wordc; rw [hL]; rfl
      simp only [hL, if_true, bind_ok, hw]
      rw [ih, List.takeWhile_cons, if_pos hc]
      exact congrArg (fun n : Nat => some (n : Int)) (by simp; omega)
    · have hL' : lt (c.toNat : Int) = false := by simpa using hL
      simp only [hL', Bool.false_eq_true, if_false, bind_ok]
      by_cases hD : dg (c.toNat : Int) = true
      · have hc : wordc c = true := by unfold wordc; rw [hD]; simp
        simp only [hD, if_true, hw]
        rw [ih, List.takeWhile_cons, if_pos hc]
        exact congrArg (fun n : Nat => some (n : Int)) (by simp; omega)
      · have hD' : dg (c.toNat : Int) = false := by simpa using hD
        have hc : wordc c = false := by unfold wordc; rw [hD', hL']; rfl
        simp [hD', List.takeWhile_cons, hc]
theorem end_ok {s p l : List UInt8} (hl : l = p ++ s) (hs : l.length ≤ 1000000) {i : Int} (hi : i = (p.length : Int)) : m_ref07_end (B l, i) = some (((p.length + (s.takeWhile wordc).length : Nat)) : Int) := by
  subst hi
  unfold m_ref07_end
  simp only [end_L1 s p l hl hs, bind_ok]
/-- a text that begins with another one -/
def pre (g s : List UInt8) : Bool := decide (s.take g.length = g)
theorem pre_len {g s : List UInt8} (h : pre g s = true) : ∃ r, s = g ++ r := by
  unfold pre at h
  rw [decide_eq_true_eq] at h
  exact ⟨s.drop g.length, by
    have := List.take_append_drop g.length s
    rw [h] at this
    exact this.symm⟩
theorem word_word (w : List UInt8) (h : ∀ c ∈ w, wordc c = true) (s : List UInt8) (hs : ∀ c, s.head? = some c → wordc c = false) : (w ++ s).takeWhile wordc = w := by
  induction w with
  | nil =>
    cases s with
    | nil => rfl
    | cons c s => simp [List.takeWhile_cons, hs c rfl]
  | cons c w ih =>
    rw [List.cons_append, List.takeWhile_cons, h c (by simp)]
    simp only [if_true]
    rw [ih (fun d hd => h d (by simp [hd]))]
end Go.Proofs.Tryd
namespace Go.Proofs.Tryd
open Go Go.Pm
set_option linter.unusedVariables false
set_option linter.unusedSimpArgs false
set_option maxRecDepth 2000
def i64 (n : Int) : Prop := -9223372036854775808 ≤ n ∧ n < 9223372036854775808
theorem ite_b {c : Prop} [Decidable c] {α : Type} (a b : α) : (if c then some a else some b) = some (if c then a else b) := by split <;> rfl
/-- the glyphs -/
def GL : List (List UInt8) := [[226, 134, 145], [226, 134, 147], [226, 140, 189], [226, 141, 137], [226, 141, 180], [226, 141, 172], [226, 134, 144], [44], [40], [41], [91], [93]]
def fnd (G : List (List UInt8)) (s f : List UInt8) : List UInt8 := G.foldl (fun f g => if pre g s then g else f) f
theorem fnd_some : ∀ (G : List (List UInt8)) (s f : List UInt8), fnd G s f = f ∨ ∃ g ∈ G, fnd G s f = g ∧ pre g s = true
  | [], s, f => Or.inl rfl
  | g :: G, s, f => by
    have hf : fnd (g :: G) s f = fnd G s (if pre g s then g else f) := rfl
    rw [hf]
    rcases fnd_some G s (if pre g s then g else f) with h | ⟨g', h1, h2, h3⟩
    · rw [h]
      by_cases hp : pre g s = true
      · rw [if_pos hp]; exact Or.inr ⟨g, by simp, rfl, hp⟩
      · rw [if_neg hp]; exact Or.inl rfl
    · exact Or.inr ⟨g', by simp [h1], h2, h3⟩
theorem fnd_len (s : List UInt8) : fnd GL s [] = [] ∨ ∃ r, s = fnd GL s [] ++ r := by
  rcases fnd_some GL s [] with h | ⟨g, h1, h2, h3⟩
  · exact Or.inl h
  · rw [h2]; exact Or.inr (pre_len h3)
theorem room_app {α : Type} {b : Nat} {l es : List α} (h : l.length + es.length ≤ 1000000) (hb : b ≤ 1000) : app b l es = some (l ++ es) := app_ok (by
  have h1 : (l.length + es.length) * b ≤ 1000000 * 1000 := Nat.mul_le_mul h hb
  have h2 : 1000000 * 1000 ≤ room := by decide +kernel
  omega)
def sp (c : UInt8) : Prop := (c.toNat : Int) = 32 ∨ (c.toNat : Int) = 9 ∨ (c.toNat : Int) = 13
instance (c : UInt8) : Decidable (sp c) := by unfold sp; infer_instance
theorem sp_eval {b : ByteArray} {i : Int} {c : UInt8} (e : sidx b i = some (c.toNat : Int)) : (sidx b i >>= fun v604 => (if v604 = 32 then some true else sidx b i >>= fun v606 => some (v606 == 9)) >>= fun (v605 : Bool) => if v605 = true then some true else sidx b i >>= fun v607 => some (v607 == 13)) = some (decide (sp c)) := by
  simp only [e, bind_ok]
  unfold sp
  by_cases h1 : (c.toNat : Int) = 32
  · simp [h1, bind_ok]
  · by_cases h2 : (c.toNat : Int) = 9 <;> by_cases h3 : (c.toNat : Int) = 13 <;> simp [h1, h2, h3, bind_ok]
end Go.Proofs.Tryd
namespace Go.Proofs.Tryd
open Go Go.Pm
set_option linter.unusedVariables false
set_option linter.unusedSimpArgs false
set_option maxRecDepth 2000
theorem ite_some {c : Prop} [Decidable c] {α : Type} (a b : α) : (if c then some a else some b) = some (if c then a else b) := by split <;> rfl
/-- numbers that are such -/
def nuOk (l : List Int) : Prop := ∀ n ∈ l, i64 n
theorem letter_tot (v : Int) : ∃ b, m_ref07_letter v = some b := by
  unfold m_ref07_letter
  simp only [ite_some, bind_ok]
  exact ⟨_, rfl⟩
theorem digit_tot (v : Int) : ∃ b, m_ref07_digit v = some b := by
  unfold m_ref07_digit
  simp only [ite_some, bind_ok]
  exact ⟨_, rfl⟩
theorem sidx_ok {b : ByteArray} {i : Nat} (h : i < b.size) : ∃ v, sidx b (i : Int) = some v := by
  unfold sidx
  rw [if_pos (by omega)]
  have h2 : ((i : Int)).toNat < b.data.size := by have : b.data.size = b.size := rfl; omega
  rw [Array.getElem?_eq_getElem h2]
  exact ⟨_, rfl⟩
theorem end_tot (s : ByteArray) (hs : s.size ≤ 1000000000000000000) : ∀ m i : Nat, i + m = s.size → ∃ r, m_ref07_end_L1 (s, (i : Int)) = some r
  | 0, i, h => by
    rw [m_ref07_end_L1]
    have : ¬ ((i : Int) < (s.size : Int)) := by omega
    simp only [this, if_false, bind_ok, Bool.false_eq_true]
    exact ⟨_, rfl⟩
  | m + 1, i, h => by
    rw [m_ref07_end_L1]
    have h1 : ((i : Int) < (s.size : Int)) := by omega
    obtain ⟨v, e⟩ := sidx_ok (b := s) (i := i) (by omega)
    obtain ⟨b, eb⟩ := letter_tot v
    obtain ⟨c, ec⟩ := digit_tot v
    obtain ⟨r, er⟩ := end_tot s hs m (i + 1) (by omega)
    have w : W ((i : Int) + 1) = ((i + 1 : Nat) : Int) := W_succ (by omega)
    simp only [h1, if_true, e, eb, ec, bind_ok, w, er, ite_some]
    split
    · exact ⟨_, rfl⟩
    · exact ⟨_, rfl⟩
theorem name_tot (s : ByteArray) (hs : s.size ≤ 1000000000000000000) : ∃ b, m_ref07_Name s = some b := by
  unfold m_ref07_Name
  simp only []
  by_cases h : (s.size : Int) > 0
  · obtain ⟨v, e⟩ := sidx_ok (b := s) (i := 0) (by omega)
    simp only [Int.natCast_zero] at e
    obtain ⟨b, eb⟩ := letter_tot v
    obtain ⟨r, er⟩ := end_tot s hs s.size 0 (by omega)
    simp only [Int.natCast_zero] at er
    simp only [h, if_true, e, eb, bind_ok]
    cases b
    · simp only [Bool.false_eq_true, if_false]; exact ⟨_, rfl⟩
    · simp only [if_true, m_ref07_end, er, bind_ok]; exact ⟨_, rfl⟩
  · simp only [h, if_false, bind_ok, Bool.false_eq_true]; exact ⟨_, rfl⟩
def noT : T_api_Tree := ⟨0, 0, 0, ByteArray.empty, [], []⟩
def axF (a : Int) : Prop := 0 ≤ a ∧ a ≤ 15
/-- a node as the chapter permits -/
def formF (t : T_api_Tree) : Prop :=
  (t.kind = 1 ∧ t.fn = 0 ∧ t.axis = -1 ∧ t.name = ByteArray.empty ∧ t.kids.length = 0) ∨
  (t.kind = 2 ∧ t.fn = 0 ∧ t.axis = -1 ∧ m_ref07_Name t.name = some true ∧ t.nums.length = 0 ∧ t.kids.length = 0) ∨
  (t.kind = 3 ∧ t.name = ByteArray.empty ∧ t.nums.length = 0 ∧ t.kids.length = 1 ∧ ((t.fn = 3 ∧ (t.axis = -1 ∨ axF t.axis)) ∨ ((t.fn = 4 ∨ t.fn = 6) ∧ t.axis = -1))) ∨
  (t.kind = 4 ∧ t.name = ByteArray.empty ∧ t.nums.length = 0 ∧ t.kids.length = 2 ∧ 1 ≤ t.fn ∧ t.fn ≤ 6 ∧ (t.axis = -1 ∨ (axF t.axis ∧ (t.fn = 3 ∨ t.fn = 6))) ∧ (t.fn = 6 ∨ (t.kids.getD 0 noT).kind = 1 ∨ (t.kids.getD 0 noT).kind = 2))
set_option maxHeartbeats 4000000 in
theorem node_ok (t : T_api_Tree) (hs : t.name.size ≤ 1000000000000000000) : ∃ b, m_ref08_node t = some b ∧ (b = true ↔ formF t) := by
  obtain ⟨k, f, a, nm, nu, ks⟩ := t
  obtain ⟨nb, en⟩ := name_tot nm hs
  unfold m_ref08_node
  simp only [ite_some, bind_ok]
  by_cases h1 : k = 1
  · subst h1
    simp only [if_true, ite_some, bind_ok]
    refine ⟨_, rfl, ?_⟩
    simp only [formF, axF]
    by_cases c1 : f = 0 <;> by_cases c2 : a = -1 <;> by_cases c3 : nm = ByteArray.empty <;> simp [c1, c2, c3] <;> omega
  · by_cases h2 : k = 2
    · subst h2
      simp only [if_neg h1, if_true, ite_some, bind_ok, en]
      refine ⟨_, rfl, ?_⟩
      simp only [formF, axF, en]
      cases nb <;> by_cases c1 : f = 0 <;> by_cases c2 : a = -1 <;> by_cases c3 : nu = [] <;> simp [c1, c2, c3]
    · by_cases h3 : k = 3
      · subst h3
        simp only [if_neg h1, if_neg h2, if_true, ite_some, bind_ok]
        refine ⟨_, rfl, ?_⟩
        simp only [formF, axF]
        by_cases c1 : nm = ByteArray.empty <;> by_cases c2 : nu = [] <;> by_cases c3 : ks.length = 1 <;> by_cases c4 : f = 3 <;> by_cases c5 : a = -1 <;> simp [c1, c2, c3, c4, c5] <;> (try omega)
      · by_cases h4 : k = 4
        · subst h4
          simp only [if_neg h1, if_neg h2, if_neg h3, if_true, ite_some, bind_ok]
          match ks with
          | [x, y] =>
            have i0 : idx [x, y] 0 = some x := rfl
            simp only [i0, ite_some, bind_ok]
            refine ⟨_, rfl, ?_⟩
            simp only [formF, axF]
            by_cases c1 : nm = ByteArray.empty <;> by_cases c2 : nu = [] <;> by_cases c3 : f = 6 <;> by_cases c4 : f = 3 <;> by_cases c5 : a = -1 <;> simp [c1, c2, c3, c4, c5] <;> (try omega)
          | [] =>
            simp [formF]
          | [x] => 
            simp [formF]
          | x :: y :: z :: r =>
            simp [formF]
            intro _ _ h
            omega
        · simp only [if_neg h1, if_neg h2, if_neg h3, if_neg h4]
          exact ⟨_, rfl, fun h => (by cases h), fun h => by simp only [formF] at h; omega⟩
mutual
def good : T_api_Tree → Prop
  | ⟨k, f, a, nm, nu, ks⟩ => formF ⟨k, f, a, nm, nu, ks⟩ ∧ goods ks
def goods : List T_api_Tree → Prop
  | [] => True
  | k :: ks => good k ∧ goods ks
end
/-- names are no longer than a machine can hold -/
def nmOk (n : Nat) : Prop := n ≤ 1000000000000000000
mutual
def namesOk : T_api_Tree → Prop
  | ⟨_, _, _, nm, nu, ks⟩ => (nmOk nm.size ∧ nuOk nu) ∧ namesOks ks
def namesOks : List T_api_Tree → Prop
  | [] => True
  | k :: ks => namesOk k ∧ namesOks ks
end
mutual
theorem nodes_ok : ∀ (t : T_api_Tree), szT t ≤ 600 → namesOk t → ∃ b, m_ref08_nodes t = some b ∧ (b = true ↔ good t)
  | ⟨k, f, a, nm, nu, ks⟩, h, hn => by
    rw [szT] at h
    rw [namesOk] at hn
    obtain ⟨b, e, hb⟩ := node_ok ⟨k, f, a, nm, nu, ks⟩ hn.1.1
    have hl := szTs_len ks
    obtain ⟨r, e2, hr⟩ := nodes_loop ks [] k f a nm nu (by simp; omega) (by omega) hn.2
    simp only [List.nil_append, List.length_nil, Int.natCast_zero] at e2
    rw [m_ref08_nodes]
    simp only [e, bind_ok, good, ← hb, ← hr]
    cases b with
    | false => exact ⟨_, rfl, fun h => (by cases h), fun h => (by cases h.1)⟩
    | true =>
      simp only [Bool.true_eq_false, if_false, e2, bind_ok, true_and]
      cases r with
      | inl u => exact ⟨_, rfl, fun h => (by cases h), fun h => (by cases h)⟩
      | inr u => exact ⟨_, rfl, fun _ => rfl, fun _ => rfl⟩
theorem nodes_loop : ∀ (s p : List T_api_Tree) (k f a : Int) (nm : ByteArray) (nu : List Int), (p ++ s).length ≤ 600 → szTs s ≤ 600 → namesOks s →
    ∃ r, m_ref08_nodes_L1 (⟨k, f, a, nm, nu, p ++ s⟩, (p.length : Int)) = some r ∧ (r = .inr () ↔ goods s)
  | [], p, k, f, a, nm, nu, h1, h2, h3 => by
    rw [m_ref08_nodes_L1]
    simp only [end_lt, if_false, goods]
    exact ⟨_, rfl, fun _ => trivial, fun _ => rfl⟩
  | x :: s, p, k, f, a, nm, nu, h1, h2, h3 => by
    rw [m_ref08_nodes_L1]
    rw [szTs] at h2
    rw [namesOks] at h3
    obtain ⟨b, e, hb⟩ := nodes_ok x (by omega) h3.1
    obtain ⟨r, e', hr⟩ := nodes_loop s (p ++ [x]) k f a nm nu (by simpa using h1) (by omega) h3.2
    rw [← mid_app] at e'
    have w : W ((p.length : Int) + 1) = ((p ++ [x]).length : Int) := mid_W (Sm_of h1)
    simp only [mid_lt, if_true, mid_idx, bind_ok, e, w, goods, ← hb, ← hr]
    cases b with
    | false => exact ⟨_, rfl, fun h => (by cases h), fun h => (by cases h.1)⟩
    | true => exact ⟨r, e', fun h => ⟨rfl, h⟩, fun h => h.2⟩
end
theorem etaT (t : T_api_Tree) : (⟨t.kind, t.fn, t.axis, t.name, t.nums, t.kids⟩ : T_api_Tree) = t := by cases t; rfl
theorem Right_ok (t : T_api_Tree) (h : szT t ≤ 300) (hn : namesOk t) : ∃ b, m_ref08_Right t = some b ∧ (b = true ↔ depT t ≤ 100 ∧ good t) := by
  obtain ⟨b, e, hb⟩ := nodes_ok t (by omega) hn
  unfold m_ref08_Right
  simp only [tdep_ok t (by omega), bind_ok]
  by_cases hd : (depT t : Int) ≤ 100
  · simp only [hd, if_true, etaT, e, bind_ok]
    exact ⟨_, rfl, by rw [hb]; exact ⟨fun h => ⟨by omega, h⟩, fun h => h.2⟩⟩
  · simp only [hd, if_false]
    exact ⟨_, rfl, fun h => (by cases h), fun h => (by omega)⟩
theorem Small_ok (t : T_api_Tree) (hb : numT t ≤ szT t * 140737488351232) (hn : namesOk t) : ∃ b, m_ref08_Small (t, 300) = some b ∧ (b = true ↔ fewT t ∧ depT t ≤ 100 ∧ good t) := by
  obtain ⟨b, e, h⟩ := Few_ok t hb
  unfold m_ref08_Small
  simp only [e, bind_ok]
  cases b with
  | false => 
    simp only [Bool.false_eq_true, if_false]
    exact ⟨_, rfl, fun h => (by cases h), fun h' => h.2 h'.1⟩
  | true =>
    obtain ⟨c, e2, h2⟩ := Right_ok t (h.1 rfl).1 hn
    simp only [if_true, etaT, e2, bind_ok]
    exact ⟨_, rfl, by rw [h2]; exact ⟨fun h' => ⟨h.1 rfl, h'⟩, fun h' => h'.2⟩⟩
end Go.Proofs.Tryd
namespace Go.Proofs.Tryd
open Go Go.Pm
set_option linter.unusedVariables false
set_option linter.unusedSimpArgs false
set_option maxRecDepth 2000
theorem szT_f (t : T_api_Tree) : szT t = 1 + szTs t.kids := by cases t; rw [szT]
theorem numT_f (t : T_api_Tree) : numT t = t.nums.length + numTs t.kids := by cases t; rw [numT]
theorem depT_f (t : T_api_Tree) : depT t = depTs t.kids + 1 := by cases t; rw [depT]
theorem wT_f (t : T_api_Tree) : wT t = 40 + t.name.size + 40 * t.nums.length + wTs t.kids := by cases t; rw [wT]
theorem good_f {t : T_api_Tree} : good t ↔ formF t ∧ goods t.kids := by cases t; rw [good]
theorem namesOk_f {t : T_api_Tree} : namesOk t ↔ (nmOk t.name.size ∧ nuOk t.nums) ∧ namesOks t.kids := by cases t; rw [namesOk]
theorem kids1 {t : T_api_Tree} (h : t.kids.length = 1) : ∃ k, t.kids = [k] := by
  match e : t.kids, h with
  | [k], _ => exact ⟨k, rfl⟩
theorem kids2 {t : T_api_Tree} (h : t.kids.length = 2) : ∃ l k, t.kids = [l, k] := by
  match e : t.kids, h with
  | [l, k], _ => exact ⟨l, k, rfl⟩
theorem is_ok (t : T_api_Tree) (a b : Int) : m_simplify_is (t, a, b) = some (decide (t.kind = a) && decide (t.fn = b)) := by
  unfold m_simplify_is
  simp only []
  by_cases h : t.kind = a
  · simp only [h, if_true, decide_true, Bool.true_and]; congr 1
  · simp only [h, if_false, decide_false, Bool.false_and]
/-- what is left of a size when a rule has been applied -/
structure less (u t : T_api_Tree) : Prop where
  sz : szT u < szT t
  num : numT u ≤ numT t
  dep : depT u ≤ depT t
  wt : wT u ≤ wT t
  gd : good u
  nm : namesOk u
theorem idx0 {α : Type} {l : List α} {a : α} (h : l = [a]) : idx l 0 = some a := by subst h; rfl
theorem idx20 {α : Type} {l : List α} {a b : α} (h : l = [a, b]) : idx l 0 = some a := by subst h; rfl
theorem idx21 {α : Type} {l : List α} {a b : α} (h : l = [a, b]) : idx l 1 = some b := by subst h; rfl
theorem twice_no {t : T_api_Tree} {f : Int} (h : t.kind ≠ 3 ∨ t.fn ≠ f) : m_simplify_twice (t, f) = some (t, false) := by
  unfold m_simplify_twice
  have : (decide (t.kind = 3) && decide (t.fn = f)) = false := by
    rcases h with h | h
    · rw [decide_eq_false h]; rfl
    · rw [decide_eq_false h, Bool.and_false]
  simp only [is_ok, this, bind_ok, if_true]
theorem twice_ok {t k : T_api_Tree} {f : Int} (h3 : t.kind = 3) (hf : t.fn = f) (hk : t.kids = [k]) : m_simplify_twice (t, f) =
    if k.kind = 3 ∧ k.fn = f ∧ t.axis = k.axis then idx k.kids 0 >>= fun v => some (v, true) else some (t, false) := by
  unfold m_simplify_twice
  simp only [is_ok, h3, hf, idx0 hk, bind_ok, decide_true, Bool.and_self, Bool.true_eq_false, if_false]
  by_cases c1 : k.kind = 3 <;> by_cases c2 : k.fn = f <;> by_cases c3 : t.axis = k.axis <;> simp [c1, c2, c3]
theorem plain_no {t : T_api_Tree} {f : Int} {l : List Int} (h : t.kind ≠ 4 ∨ t.fn ≠ f) : m_simplify_plain (t, f, l) = some (t, false) := by
  unfold m_simplify_plain
  have : (decide (t.kind = 4) && decide (t.fn = f)) = false := by
    rcases h with h | h
    · rw [decide_eq_false h]; rfl
    · rw [decide_eq_false h, Bool.and_false]
  simp only [is_ok, this, bind_ok, if_true]
theorem plain_zero {t l k : T_api_Tree} {f : Int} (h4 : t.kind = 4) (hf : t.fn = f) (hk : t.kids = [l, k]) : m_simplify_plain (t, f, [0]) = some (if l.kind = 1 ∧ l.nums = [0] then (k, true) else (t, false)) := by
  unfold m_simplify_plain
  simp only [is_ok, h4, hf, idx20 hk, idx21 hk, bind_ok, decide_true, Bool.and_self, Bool.true_eq_false, if_false]
  by_cases c1 : l.kind = 1
  · match e : l.nums with
    | [n] =>
      have e1 : m_simplify_plain_L1 ([0], t, 1) = some (.inr ()) := by rw [m_simplify_plain_L1]; rfl
      have e0 : m_simplify_plain_L1 ([0], t, 0) = some (if n = 0 then .inr () else .inl ()) := by
        rw [m_simplify_plain_L1]
        have w : W (0 + 1) = 1 := by decide
        have i1 : idx ([0] : List Int) 0 = some 0 := rfl
        have i2 : idx ([n] : List Int) 0 = some n := rfl
        have h1 : (0 : Int) < (([0] : List Int).length : Int) := by decide
        simp only [h1, if_true, i1, idx20 hk, e, i2, bind_ok, w, e1]
        by_cases hn : n = 0 <;> simp [hn]
      simp only [c1, e, e0, bind_ok]
      by_cases hn : n = 0 <;> simp [hn]
    | [] => simp [c1]
    | a :: b :: r =>
      have : ¬ ((r.length : Int) + 1 + 1 = 1) := by omega
      simp [c1, this]
  · simp [c1]
theorem plain_nil {t l k : T_api_Tree} {f : Int} (h4 : t.kind = 4) (hf : t.fn = f) (hk : t.kids = [l, k]) : m_simplify_plain (t, f, []) = some (if l.kind = 1 ∧ l.nums = [] then (k, true) else (t, false)) := by
  unfold m_simplify_plain
  simp only [is_ok, h4, hf, idx20 hk, idx21 hk, bind_ok, decide_true, Bool.and_self, Bool.true_eq_false, if_false]
  have e0 : m_simplify_plain_L1 ([], t, 0) = some (.inr ()) := by rw [m_simplify_plain_L1]; rfl
  by_cases c1 : l.kind = 1
  · match e : l.nums with
    | [] => simp [c1, e0]
    | a :: r =>
      have : ¬ ((r.length : Int) + 1 = 0) := by omega
      simp [c1, this]
  · simp [c1]
mutual
def nf : T_api_Tree → Prop
  | ⟨k, f, a, nm, nu, ks⟩ => m_simplify_once ⟨k, f, a, nm, nu, ks⟩ = some (⟨k, f, a, nm, nu, ks⟩, 0) ∧ nfs ks
def nfs : List T_api_Tree → Prop
  | [] => True
  | k :: ks => nf k ∧ nfs ks
end
theorem nf_f {t : T_api_Tree} : nf t ↔ m_simplify_once t = some (t, 0) ∧ nfs t.kids := by cases t; rw [nf]
theorem goods1 {k : T_api_Tree} : goods [k] ↔ good k := by rw [goods, goods]; simp
theorem goods2 {l k : T_api_Tree} : goods [l, k] ↔ good l ∧ good k := by rw [goods, goods, goods]; simp
theorem nfs1 {k : T_api_Tree} : nfs [k] ↔ nf k := by rw [nfs, nfs]; simp
theorem nfs2 {l k : T_api_Tree} : nfs [l, k] ↔ nf l ∧ nf k := by rw [nfs, nfs, nfs]; simp
theorem nms1 {k : T_api_Tree} : namesOks [k] ↔ namesOk k := by rw [namesOks, namesOks]; simp
theorem nms2 {l k : T_api_Tree} : namesOks [l, k] ↔ namesOk l ∧ namesOk k := by rw [namesOks, namesOks, namesOks]; simp
theorem sz1 (k : T_api_Tree) : szTs [k] = szT k ∧ numTs [k] = numT k ∧ depTs [k] = depT k ∧ wTs [k] = wT k := by simp [szTs, numTs, depTs, wTs]
theorem sz2 (l k : T_api_Tree) : szTs [l, k] = szT l + szT k ∧ numTs [l, k] = numT l + numT k ∧ depTs [l, k] = max (depT l) (depT k) ∧ wTs [l, k] = wT l + wT k := by simp [szTs, numTs, depTs, wTs]
theorem empty_size : ByteArray.empty.size = 0 := rfl
/-- one step: the program's rule and the reference's -/
def stepT (t u : T_api_Tree) (n : Int) : Prop :=
  m_simplify_once t = some (u, n)  ∧ 0 ≤ n ∧ (n = 0 → u = t) ∧ (n ≠ 0 → less u t) ∧ (nfs t.kids → nfs u.kids)
theorem step_low {t : T_api_Tree} (h : t.kind < 3) : stepT t t 0 := by
  have k3 : t.kind ≠ 3 := by omega
  have k4 : t.kind ≠ 4 := by omega
  refine ⟨?_, by omega, fun _ => rfl, fun h => absurd rfl h, fun h => h⟩
  · unfold m_simplify_once m_simplify_reversed m_simplify_transposed m_simplify_raveled m_simplify_reshaped m_simplify_rotated m_simplify_dropped
    simp only [twice_no (Or.inl k3), plain_no (Or.inl k4), bind_ok, is_ok, decide_eq_false k4, Bool.false_and, if_true, if_false, Bool.false_eq_true]
theorem less_kid1 {t k : T_api_Tree} (hk : t.kids = [k]) (hg : good t) (hn : namesOk t) : less k t := by
  have a := szT_f t; have b := numT_f t; have c := depT_f t; have d := wT_f t
  rw [hk] at a b c d
  obtain ⟨s1, s2, s3, s7⟩ := sz1 k
  have hg2 := (good_f.1 hg).2; rw [hk] at hg2
  have hn2 := (namesOk_f.1 hn).2; rw [hk] at hn2
  exact ⟨by omega, by omega, by omega, by omega, goods1.1 hg2, nms1.1 hn2⟩
theorem less_kid2 {t l k : T_api_Tree} (hk : t.kids = [l, k]) (hg : good t) (hn : namesOk t) : less k t := by
  have a := szT_f t; have b := numT_f t; have c := depT_f t; have d := wT_f t
  rw [hk] at a b c d
  obtain ⟨s1, s2, s3, s7⟩ := sz2 l k
  have hg2 := (good_f.1 hg).2; rw [hk] at hg2
  have hn2 := (namesOk_f.1 hn).2; rw [hk] at hn2
  exact ⟨by omega, by omega, by omega, by omega, (goods2.1 hg2).2, (nms2.1 hn2).2⟩
theorem less.trans {a b c : T_api_Tree} (h : less a b) (h2 : less b c) : less a c :=
  ⟨Nat.lt_trans h.sz h2.sz, Nat.le_trans h.num h2.num, Nat.le_trans h.dep h2.dep, Nat.le_trans h.wt h2.wt, h.gd, h.nm⟩
theorem form_monad {t : T_api_Tree} (hg : good t) (h : t.kind = 3) : ∃ k, t.kids = [k] ∧ t.name = ByteArray.empty ∧ t.nums = [] ∧ ((t.fn = 3 ∧ (t.axis = -1 ∨ axF t.axis)) ∨ ((t.fn = 4 ∨ t.fn = 6) ∧ t.axis = -1)) := by
  rcases (good_f.1 hg).1 with c | c | c | c
  · omega
  · omega
  · obtain ⟨k, e⟩ := kids1 c.2.2.2.1
    exact ⟨k, e, c.2.1, List.length_eq_zero_iff.1 c.2.2.1, c.2.2.2.2⟩
  · omega
theorem form_dyad {t : T_api_Tree} (hg : good t) (h : t.kind = 4) : ∃ l k, t.kids = [l, k] ∧ t.name = ByteArray.empty ∧ t.nums = [] ∧ 1 ≤ t.fn ∧ t.fn ≤ 6 ∧ (t.axis = -1 ∨ (axF t.axis ∧ (t.fn = 3 ∨ t.fn = 6))) ∧ (t.fn = 6 ∨ l.kind = 1 ∨ l.kind = 2) := by
  rcases (good_f.1 hg).1 with c | c | c | c
  · omega
  · omega
  · omega
  · obtain ⟨l, k, e⟩ := kids2 c.2.2.2.1
    have q := c.2.2.2.2
    rw [e] at q
    exact ⟨l, k, e, c.2.1, List.length_eq_zero_iff.1 c.2.2.1, q⟩
theorem step_monad {t : T_api_Tree} (hg : good t) (hn : namesOk t) (h3 : t.kind = 3) : ∃ u n, stepT t u n := by
  obtain ⟨k, hk, hnm, hnu, hf⟩ := form_monad hg h3
  have hgk : good k := (less_kid1 hk hg hn).gd
  have hlk := less_kid1 hk hg hn
  have k4 : t.kind ≠ 4 := by omega
  have d4 : (decide (t.kind = 4)) = false := decide_eq_false k4
  have n3 : ¬ t.kind < 3 := by omega
  have hW : W ((t.kids.length : Int) - 1) = 0 := by
    rw [hk, show (([k] : List T_api_Tree).length : Int) - 1 = 0 by simp]; decide
  by_cases hc : k.kind = 3 ∧ k.fn = t.fn ∧ t.axis = k.axis
  · obtain ⟨c1, c2, c3⟩ := hc
    obtain ⟨k0, hk0, _, _, hf0⟩ := form_monad hgk c1
    have hl0 := (less_kid1 hk0 hgk hlk.nm)
    by_cases f3 : t.fn = 3
    · refine ⟨k0, 1, ?_, by omega, fun h => (by cases h), fun _ => hl0.trans hlk, fun h => ?_⟩
      · unfold m_simplify_once m_simplify_reversed
        simp [twice_ok h3 f3 hk, c1, c2, c3, f3, idx0 hk0, bind_ok]
      · rw [hk] at h
        have h2 := (nf_f.1 (nfs1.1 h)).2
        rw [hk0] at h2
        exact (nf_f.1 (nfs1.1 h2)).2
    · by_cases f4 : t.fn = 4
      · refine ⟨k0, 2, ?_, by omega, fun h => (by cases h), fun _ => hl0.trans hlk, fun h => ?_⟩
        · unfold m_simplify_once m_simplify_reversed m_simplify_transposed
          simp [twice_no (f := 3) (Or.inr f3), twice_ok h3 f4 hk, c1, c2, c3, f4, idx0 hk0, bind_ok]
        · rw [hk] at h
          have h2 := (nf_f.1 (nfs1.1 h)).2
          rw [hk0] at h2
          exact (nf_f.1 (nfs1.1 h2)).2
      · have f6 : t.fn = 6 := by omega
        refine ⟨k, 3, ?_, by omega, fun h => (by cases h), fun _ => hlk, fun h => ?_⟩
        · unfold m_simplify_once m_simplify_reversed m_simplify_transposed m_simplify_raveled
          simp [twice_no (f := 3) (Or.inr f3), twice_no (f := 4) (Or.inr f4), twice_ok h3 f6 hk, c1, c2, c3, f6, idx0 hk0, idx0 hk, bind_ok]
        · rw [hk] at h
          exact (nf_f.1 (nfs1.1 h)).2
  · refine ⟨t, 0, ?_, by omega, fun _ => rfl, fun h => absurd rfl h, fun h => h⟩
    · have e3 : m_simplify_twice (t, 3) = some (t, false) := by
        by_cases f : t.fn = 3
        · rw [twice_ok h3 f hk, if_neg (fun h => hc ⟨h.1, by omega, h.2.2⟩)]
        · exact twice_no (Or.inr f)
      have e4 : m_simplify_twice (t, 4) = some (t, false) := by
        by_cases f : t.fn = 4
        · rw [twice_ok h3 f hk, if_neg (fun h => hc ⟨h.1, by omega, h.2.2⟩)]
        · exact twice_no (Or.inr f)
      have e6 : m_simplify_twice (t, 6) = some (t, false) := by
        by_cases f : t.fn = 6
        · rw [twice_ok h3 f hk, if_neg (fun h => hc ⟨h.1, by omega, h.2.2⟩)]
        · exact twice_no (Or.inr f)
      unfold m_simplify_once m_simplify_reversed m_simplify_transposed m_simplify_raveled m_simplify_reshaped m_simplify_rotated m_simplify_dropped
      simp only [e3, e4, e6, plain_no (Or.inl k4), bind_ok, is_ok, d4, Bool.false_and, if_true, if_false, Bool.false_eq_true]
theorem reshaped_no {t : T_api_Tree} (h : t.fn ≠ 5) : m_simplify_reshaped t = some (t, false) := by
  unfold m_simplify_reshaped
  simp only [is_ok, decide_eq_false h, Bool.and_false, bind_ok, if_true]
theorem step_dyad {t : T_api_Tree} (hg : good t) (hn : namesOk t) (h4 : t.kind = 4) : ∃ u n, stepT t u n := by
  obtain ⟨l, k, hk, hnm, hnu, hf1, hf6, hax, hfl⟩ := form_dyad hg h4
  have hlk := less_kid2 hk hg hn
  have hgk : good k := hlk.gd
  have k3 : t.kind ≠ 3 := by omega
  have n3 : ¬ t.kind < 3 := by omega
  have hW : W ((t.kids.length : Int) - 1) = 1 := by
    rw [hk, show (([l, k] : List T_api_Tree).length : Int) - 1 = 1 by simp]; decide
  have hnfk : nfs t.kids → nfs k.kids := fun h => by
    rw [hk] at h
    exact (nf_f.1 (nfs2.1 h).2).2
  by_cases f5 : t.fn = 5
  · by_cases hc : k.kind = 3 ∧ k.fn = 6
    · obtain ⟨c1, c2⟩ := hc
      obtain ⟨k0, hk0, _, _, hf0⟩ := form_monad hgk c1
      have hl0 := (less_kid1 hk0 hgk hlk.nm)
      refine ⟨⟨4, 5, t.axis, ByteArray.empty, [], [l, k0]⟩, 4, ?_, by omega, fun h => (by cases h), fun _ => ?_, fun h => ?_⟩
      · unfold m_simplify_once m_simplify_reversed m_simplify_transposed m_simplify_raveled m_simplify_reshaped
        simp [twice_no (f := 3) (Or.inl k3), twice_no (f := 4) (Or.inl k3), twice_no (f := 6) (Or.inl k3), is_ok, h4, f5, idx20 hk, idx21 hk, idx0 hk0, c1, c2, etaT, hnm, hnu]
      · have a := szT_f t; have b := numT_f t; have c := depT_f t; have d := wT_f t
        rw [hk] at a b c d
        obtain ⟨s1, s2, s3, s7⟩ := sz2 l k
        obtain ⟨s4, s5, s6, s8⟩ := sz2 l k0
        have := hl0.sz; have := hl0.num; have := hl0.dep; have := hl0.wt
        have hg2 := (good_f.1 hg).2; rw [hk] at hg2
        have hn2 := (namesOk_f.1 hn).2; rw [hk] at hn2
        refine ⟨by rw [szT]; omega, by rw [numT]; simp only [List.length_nil]; omega, by rw [depT]; omega, by rw [wT, empty_size]; simp only [List.length_nil]; omega, ?_, ?_⟩
        · rw [good]
          refine ⟨Or.inr (Or.inr (Or.inr ⟨rfl, rfl, rfl, rfl, (show (1 : Int) ≤ 5 by omega), (show (5 : Int) ≤ 6 by omega), ?_, ?_⟩)), goods2.2 ⟨(goods2.1 hg2).1, hl0.gd⟩⟩
          · rcases hax with h | h
            · exact Or.inl h
            · omega
          · rcases hfl with h | h
            · omega
            · exact Or.inr h
        · rw [namesOk]
          exact ⟨⟨by unfold nmOk; rw [empty_size]; omega, fun n h => by simp at h⟩, nms2.2 ⟨(nms2.1 hn2).1, hl0.nm⟩⟩
      · have h2 := hnfk h
        rw [hk] at h
        rw [hk0] at h2
        exact nfs2.2 ⟨(nfs2.1 h).1, nfs1.1 h2⟩
    · refine ⟨t, 0, ?_, by omega, fun _ => rfl, fun h => absurd rfl h, fun h => h⟩
      · have e : m_simplify_reshaped t = some (t, false) := by
          unfold m_simplify_reshaped
          have q : (decide (k.kind = 3) && decide (k.fn = 6)) = false := by
            by_cases c1 : k.kind = 3
            · rw [decide_eq_false (fun c2 => hc ⟨c1, c2⟩), Bool.and_false]
            · rw [decide_eq_false c1, Bool.false_and]
          simp only [is_ok, h4, f5, idx21 hk, decide_true, Bool.and_self, Bool.true_eq_false, if_false, bind_ok, q, Bool.not_false, if_true]
        unfold m_simplify_once m_simplify_reversed m_simplify_transposed m_simplify_raveled m_simplify_rotated m_simplify_dropped
        simp only [twice_no (Or.inl k3), plain_no (t := t) (f := 3) (l := [0]) (Or.inr (by omega)), plain_no (t := t) (f := 2) (l := []) (Or.inr (by omega)), e, bind_ok, if_true, if_false, Bool.false_eq_true]
  · by_cases f3 : t.fn = 3
    · have e0 : m_simplify_plain (t, 2, []) = some (t, false) := plain_no (Or.inr (by omega))
      by_cases hc : l.kind = 1 ∧ l.nums = [0]
      · refine ⟨k, 5, ?_, by omega, fun h => (by cases h), fun _ => hlk, hnfk⟩
        · unfold m_simplify_once m_simplify_reversed m_simplify_transposed m_simplify_raveled m_simplify_rotated
          simp only [twice_no (Or.inl k3), plain_zero h4 f3 hk, reshaped_no f5, if_pos hc, bind_ok, if_true, if_false, Bool.false_eq_true]
      · refine ⟨t, 0, ?_, by omega, fun _ => rfl, fun h => absurd rfl h, fun h => h⟩
        · unfold m_simplify_once m_simplify_reversed m_simplify_transposed m_simplify_raveled m_simplify_rotated m_simplify_dropped
          simp only [twice_no (Or.inl k3), plain_zero h4 f3 hk, e0, reshaped_no f5, if_neg hc, bind_ok, if_true, if_false, Bool.false_eq_true]
    · have e3 : m_simplify_plain (t, 3, [0]) = some (t, false) := plain_no (Or.inr f3)
      by_cases hc : t.fn = 2 ∧ l.kind = 1 ∧ l.nums = []
      · refine ⟨k, 6, ?_, by omega, fun h => (by cases h), fun _ => hlk, hnfk⟩
        · unfold m_simplify_once m_simplify_reversed m_simplify_transposed m_simplify_raveled m_simplify_rotated m_simplify_dropped
          simp only [twice_no (Or.inl k3), plain_nil h4 hc.1 hk, e3, reshaped_no f5, if_pos hc.2, bind_ok, if_true, if_false, Bool.false_eq_true]
      · refine ⟨t, 0, ?_, by omega, fun _ => rfl, fun h => absurd rfl h, fun h => h⟩
        · have e2 : m_simplify_plain (t, 2, []) = some (t, false) := by
            by_cases f2 : t.fn = 2
            · rw [plain_nil h4 f2 hk, if_neg (fun h => hc ⟨f2, h⟩)]
            · exact plain_no (Or.inr f2)
          unfold m_simplify_once m_simplify_reversed m_simplify_transposed m_simplify_raveled m_simplify_rotated m_simplify_dropped
          simp only [twice_no (Or.inl k3), e2, e3, reshaped_no f5, bind_ok, if_true, if_false, Bool.false_eq_true]
theorem step_ok {t : T_api_Tree} (hg : good t) (hn : namesOk t) : ∃ u n, stepT t u n := by
  by_cases h : t.kind < 3
  · exact ⟨t, 0, step_low h⟩
  · by_cases h3 : t.kind = 3
    · exact step_monad hg hn h3
    · refine step_dyad hg hn ?_
      rcases (good_f.1 hg).1 with c | c | c | c <;> omega
end Go.Proofs.Tryd
namespace Go.Proofs.Tryd
open Go Go.Pm
set_option linter.unusedVariables false
set_option linter.unusedSimpArgs false
set_option maxRecDepth 2000
mutual
theorem copy_ok : ∀ (t : T_api_Tree), szT t ≤ 600 → numT t ≤ 100000 → m_tree_Copy t = some t
  | ⟨k, f, a, nm, nu, ks⟩, h, h2 => by
    rw [szT] at h
    rw [numT] at h2
    have hl := szTs_len ks
    have e := copy_loop ks [] k f a nm nu nu (by simp; omega) (by omega) (by omega)
    simp only [List.nil_append, List.length_nil, Int.natCast_zero] at e
    rw [m_tree_Copy]
    have ec : m_slices_Clone_int64_int64 nu = some nu := by rw [m_slices_Clone_int64_int64, room_app (by simp; omega) (by omega)]; rfl
    simp only [ec, e, bind_ok]
theorem copy_loop : ∀ (s p : List T_api_Tree) (k f a : Int) (nm : ByteArray) (nu v : List Int), (p ++ s).length ≤ 600 → szTs s ≤ 600 → numTs s ≤ 100000 →
    m_tree_Copy_L1 (⟨k, f, a, nm, nu, p ++ s⟩, v, p, (p.length : Int)) = some (p ++ s)
  | [], p, k, f, a, nm, nu, v, h1, h2, h3 => by
    rw [m_tree_Copy_L1]
    simp only [List.append_nil, Int.lt_irrefl, if_false]
  | x :: s, p, k, f, a, nm, nu, v, h1, h2, h3 => by
    rw [m_tree_Copy_L1]
    rw [szTs] at h2
    rw [numTs] at h3
    have e := copy_ok x (by omega) (by omega)
    have e' := copy_loop s (p ++ [x]) k f a nm nu v (by simpa using h1) (by omega) (by omega)
    rw [← mid_app] at e'
    have w : W ((p.length : Int) + 1) = ((p ++ [x]).length : Int) := mid_W (Sm_of h1)
    have ea : app 88 p [x] = some (p ++ [x]) := room_app (by simp at h1 ⊢; omega) (by omega)
    simp only [mid_lt, if_true, mid_idx, bind_ok, e, ea, w, e']
end
theorem same_L1 (t : T_api_Tree) (hs : t.nums.length ≤ 1000000) : ∀ m i : Nat, i + m = t.nums.length → m_ref08_Same_L1 (t, t, (i : Int)) = some (.inr ())
  | 0, i, h => by
    rw [m_ref08_Same_L1]
    have : ¬ ((i : Int) < (t.nums.length : Int)) := by omega
    simp only [this, if_false]
  | m + 1, i, h => by
    rw [m_ref08_Same_L1]
    have h1 : ((i : Int) < (t.nums.length : Int)) := by omega
    have e := same_L1 t hs m (i + 1) (by omega)
    have w : W ((i : Int) + 1) = ((i + 1 : Nat) : Int) := W_succ (by omega)
    have hi : idx t.nums (i : Int) = some t.nums[i] := idx_ok (by omega)
    simp only [h1, if_true, hi, bind_ok, ne_eq, not_true_eq_false, if_false, w, e]
mutual
theorem same_self : ∀ (t : T_api_Tree), szT t ≤ 600 → numT t ≤ 100000 → m_ref08_Same (t, t) = some true
  | ⟨k, f, a, nm, nu, ks⟩, h, h2 => by
    rw [szT] at h
    rw [numT] at h2
    have hl := szTs_len ks
    have e := same_loop ks [] k f a nm nu (by simp; omega) (by omega) (by omega)
    simp only [List.nil_append, List.length_nil, Int.natCast_zero] at e
    have e1 := same_L1 ⟨k, f, a, nm, nu, ks⟩ (by show nu.length ≤ _; omega) nu.length 0 (by show 0 + nu.length = nu.length; omega)
    simp only [Int.natCast_zero] at e1
    rw [m_ref08_Same]
    simp [e1, e]
theorem same_loop : ∀ (s p : List T_api_Tree) (k f a : Int) (nm : ByteArray) (nu : List Int), (p ++ s).length ≤ 600 → szTs s ≤ 600 → numTs s ≤ 100000 →
    m_ref08_Same_L2 (⟨k, f, a, nm, nu, p ++ s⟩, ⟨k, f, a, nm, nu, p ++ s⟩, (p.length : Int)) = some (.inr ())
  | [], p, k, f, a, nm, nu, h1, h2, h3 => by
    rw [m_ref08_Same_L2]
    simp only [end_lt, if_false]
  | x :: s, p, k, f, a, nm, nu, h1, h2, h3 => by
    rw [m_ref08_Same_L2]
    rw [szTs] at h2
    rw [numTs] at h3
    have e := same_self x (by omega) (by omega)
    have e' := same_loop s (p ++ [x]) k f a nm nu (by simpa using h1) (by omega) (by omega)
    rw [← mid_app] at e'
    have w : W ((p.length : Int) + 1) = ((p ++ [x]).length : Int) := mid_W (Sm_of h1)
    simp only [mid_lt, if_true, mid_idx, bind_ok, e, w, e', Bool.true_eq_false, if_false]
end
/-- what repeated steps come to -/
structure fin (u s : T_api_Tree) (c c' : Nat) : Prop where
  gd : good s
  nm : namesOk s
  nf : nf s
  sz : szT s + c' ≤ szT u + c
  num : numT s ≤ numT u
  dep : depT s ≤ depT u
  wt : wT s ≤ wT u
  still : m_simplify_once u = some (u, 0) → s = u ∧ c' = c
theorem rounds : ∀ (m : Nat) (u : T_api_Tree) (c : Nat), szT u ≤ m → good u → namesOk u → nfs u.kids → c + szT u ≤ 1000000 → ∃ s c', fin u s c c' ∧
    (∀ ks, m_simplify_simplified_L2 (ks, u.kind, u.fn, u.axis, u.name, u.nums, u.kids, (c : Int)) = some (s.kind, s.fn, s.axis, s.name, s.nums, s.kids, s.kind, s.fn, s.axis, s.name, s.nums, s.kids, (c' : Int)))
  | 0, u, c, h, _, _, _, _ => by have := szT_pos u; omega
  | m + 1, u, c, h, hg, hn, hk, hc => by
    obtain ⟨v, n, e1, n0, hz, hl, hf⟩ := step_ok hg hn
    by_cases hn0 : n = 0
    · subst hn0
      obtain rfl := hz rfl
      refine ⟨v, c, ⟨hg, hn, nf_f.2 ⟨e1, hk⟩, Nat.le_refl _, Nat.le_refl _, Nat.le_refl _, Nat.le_refl _, fun _ => ⟨rfl, rfl⟩⟩, fun ks => ?_⟩
      · rw [m_simplify_simplified_L2]
        simp only [etaT, e1, bind_ok, if_true]
    · have hl' := hl hn0
      have hlt := hl'.sz
      obtain ⟨s, c', hfin, g1⟩ := rounds m v (c + 1) (by omega) hl'.gd hl'.nm (hf hk) (by omega)
      have w : W ((c : Int) + 1) = ((c + 1 : Nat) : Int) := W_succ (by omega)
      refine ⟨s, c', ⟨hfin.gd, hfin.nm, hfin.nf, by have := hfin.sz; omega, Nat.le_trans hfin.num hl'.num, Nat.le_trans hfin.dep hl'.dep, Nat.le_trans hfin.wt hl'.wt, fun q => ?_⟩, fun ks => ?_⟩
      · rw [e1] at q
        cases q
        exact absurd rfl hn0
      · rw [m_simplify_simplified_L2]
        simp only [etaT, e1, bind_ok, hn0, if_false, w, g1]
/-- what simplifying comes to -/
structure simpR (t s : T_api_Tree) (c : Nat) : Prop where
  e1 : m_simplify_simplified t = some (s, (c : Int))
  gd : good s
  nm : namesOk s
  nrm : nf s
  sz : szT s + c ≤ szT t
  num : numT s ≤ numT t
  dep : depT s ≤ depT t
  wt : wT s ≤ wT t
  low : t.kind < 3 → s = t
  still : nf t → s = t ∧ c = 0
theorem simp_of {t : T_api_Tree} {ks : List T_api_Tree} {c : Nat} (hg : good ⟨t.kind, t.fn, t.axis, t.name, t.nums, ks⟩) (hn : namesOk ⟨t.kind, t.fn, t.axis, t.name, t.nums, ks⟩) (hk : nfs ks)
    (hsz : szTs ks + c ≤ szTs t.kids) (hnum : numTs ks ≤ numTs t.kids) (hdep : depTs ks ≤ depTs t.kids) (hwt : wTs ks ≤ wTs t.kids) (hs : szT t ≤ 600)
    (l1 : m_simplify_simplified_L1 (t, 0, [], 0) = some ((c : Int), ks))
    (hlow : t.kind < 3 → ks = t.kids) (hst : nfs t.kids → ks = t.kids ∧ c = 0) : ∃ s c, simpR t s c := by
  have a1 : szT ⟨t.kind, t.fn, t.axis, t.name, t.nums, ks⟩ = 1 + szTs ks := by rw [szT]
  have a2 : numT ⟨t.kind, t.fn, t.axis, t.name, t.nums, ks⟩ = t.nums.length + numTs ks := by rw [numT]
  have a3 : depT ⟨t.kind, t.fn, t.axis, t.name, t.nums, ks⟩ = depTs ks + 1 := by rw [depT]
  have a4 : wT ⟨t.kind, t.fn, t.axis, t.name, t.nums, ks⟩ = 40 + t.name.size + 40 * t.nums.length + wTs ks := by rw [wT]
  have b1 := szT_f t; have b2 := numT_f t; have b3 := depT_f t; have b4 := wT_f t
  obtain ⟨s, c', hf, g1⟩ := rounds (szT ⟨t.kind, t.fn, t.axis, t.name, t.nums, ks⟩) _ c (Nat.le_refl _) hg hn hk (by omega)
  have := hf.sz
  have := hf.num
  have := hf.dep
  have := hf.wt
  refine ⟨s, c', ?_, hf.gd, hf.nm, hf.nf, by omega, by omega, by omega, by omega, fun h => ?_, fun h => ?_⟩
  · rw [m_simplify_simplified]
    simp only [l1, bind_ok, g1, etaT]
  · have hk' := hlow h
    subst hk'
    rw [etaT] at hf
    exact (hf.still (step_low h).1).1
  · obtain ⟨h1, h2⟩ := nf_f.1 h
    obtain ⟨rfl, rfl⟩ := hst h2
    rw [etaT] at hf
    exact hf.still h1
theorem W_add {a b : Nat} (h : a + b ≤ 1000000) : W ((a : Int) + (b : Int)) = ((a + b : Nat) : Int) := by rw [W_ok (by omega) (by omega)]; omega
theorem simp_ok : ∀ (m : Nat) (t : T_api_Tree), szT t ≤ m → m ≤ 600 → good t → namesOk t → ∃ s c, simpR t s c
  | 0, t, h, _, _, _ => by have := szT_pos t; omega
  | m + 1, t, h, hm, hg, hn => by
    obtain ⟨hF, hG⟩ := good_f.1 hg
    obtain ⟨hN, hN2⟩ := namesOk_f.1 hn
    have hz := szT_f t
    have b2 := numT_f t; have b3 := depT_f t; have b4 := wT_f t
    match ek : t.kids with
    | [] =>
      have et : (⟨t.kind, t.fn, t.axis, t.name, t.nums, []⟩ : T_api_Tree) = t := by rw [← ek]; exact etaT t
      refine simp_of (ks := []) (c := 0) (by rw [et]; exact hg) (by rw [et]; exact hn) (by rw [nfs]; trivial) (by rw [ek]; omega) (by rw [ek]; omega) (by rw [ek]; omega) (by rw [ek]; omega) (by omega) ?_ (fun _ => ek.symm) (fun _ => ⟨ek.symm, rfl⟩)
      · rw [m_simplify_simplified_L1]
        simp [ek]
    | [k] =>
      rw [ek] at hG hN2 hz b2 b3 b4
      obtain ⟨s1, s2, s3, s4⟩ := sz1 k
      obtain ⟨s, c, r⟩ := simp_ok m k (by omega) (by omega) (goods1.1 hG) (nms1.1 hN2)
      obtain ⟨q1, q2, q3, q4⟩ := sz1 s
      have := r.sz; have := r.num; have := r.dep; have := r.wt
      have w1 : W (0 + (c : Int)) = (c : Int) := by rw [W_ok (by omega) (by omega)]; omega
      have w2 : W (0 + 1) = 1 := by decide
      have ea : app 88 ([] : List T_api_Tree) [s] = some [s] := room_app (by simp) (by omega)
      refine simp_of (ks := [s]) (c := c) ?_ ?_ (nfs1.2 r.nrm) (by rw [ek]; omega) (by rw [ek]; omega) (by rw [ek]; omega) (by rw [ek]; omega) (by omega) ?_ (fun h => ?_) (fun h => ?_)
      · rw [good]
        refine ⟨?_, goods1.2 r.gd⟩
        unfold formF at hF ⊢
        rw [ek] at hF
        rcases hF with f | f | f | f
        · exact absurd f.2.2.2.2 (by simp)
        · exact absurd f.2.2.2.2.2 (by simp)
        · exact Or.inr (Or.inr (Or.inl f))
        · exact absurd f.2.2.2.1 (by simp)
      · rw [namesOk]
        exact ⟨hN, nms1.2 r.nm⟩
      · rw [m_simplify_simplified_L1]
        simp only [ek, show (0 : Int) < (([k] : List T_api_Tree).length : Int) by simp, if_true, idx0 rfl, bind_ok, r.e1, ea, w1, w2]
        rw [m_simplify_simplified_L1]
        simp [ek]
      · rcases hF with f | f | f | f
        · rw [ek] at f; exact absurd f.2.2.2.2 (by simp)
        · rw [ek] at f; exact absurd f.2.2.2.2.2 (by simp)
        · omega
        · omega
      · rw [ek] at h ⊢
        obtain ⟨rfl, rfl⟩ := r.still (nfs1.1 h)
        exact ⟨rfl, rfl⟩
    | [l, k] =>
      rw [ek] at hG hN2 hz b2 b3 b4
      obtain ⟨s1, s2, s3, s4⟩ := sz2 l k
      have p1 := szT_pos l; have p2 := szT_pos k
      obtain ⟨sl, cl, rl⟩ := simp_ok m l (by omega) (by omega) (goods2.1 hG).1 (nms2.1 hN2).1
      obtain ⟨s, c, r⟩ := simp_ok m k (by omega) (by omega) (goods2.1 hG).2 (nms2.1 hN2).2
      obtain ⟨q1, q2, q3, q4⟩ := sz2 sl s
      have := r.sz; have := r.num; have := r.dep; have := r.wt
      have := rl.sz; have := rl.num; have := rl.dep; have := rl.wt
      have w1 : W (0 + (cl : Int)) = (cl : Int) := by rw [W_ok (by omega) (by omega)]; omega
      have w2 : W (0 + 1) = 1 := by decide
      have w3 : W (1 + 1) = 2 := by decide
      have w4 : W ((cl : Int) + (c : Int)) = ((cl + c : Nat) : Int) := W_add (by omega)
      have ea : app 88 ([] : List T_api_Tree) [sl] = some [sl] := room_app (by simp) (by omega)
      have eb : app 88 [sl] [s] = some [sl, s] := room_app (by simp) (by omega)
      refine simp_of (ks := [sl, s]) (c := cl + c) ?_ ?_ (nfs2.2 ⟨rl.nrm, r.nrm⟩) (by rw [ek]; omega) (by rw [ek]; omega) (by rw [ek]; omega) (by rw [ek]; omega) (by omega) ?_ (fun h => ?_) (fun h => ?_)
      · rw [good]
        refine ⟨?_, goods2.2 ⟨rl.gd, r.gd⟩⟩
        unfold formF at hF ⊢
        rw [ek] at hF
        rcases hF with f | f | f | f
        · exact absurd f.2.2.2.2 (by simp)
        · exact absurd f.2.2.2.2.2 (by simp)
        · exact absurd f.2.2.2.1 (by simp)
        · refine Or.inr (Or.inr (Or.inr ⟨f.1, f.2.1, f.2.2.1, rfl, f.2.2.2.2.1, f.2.2.2.2.2.1, f.2.2.2.2.2.2.1, ?_⟩))
          rcases f.2.2.2.2.2.2.2 with g | g | g
          · exact Or.inl g
          · have g' : l.kind = 1 := g
            have := rl.low (by omega)
            subst this
            exact Or.inr (Or.inl g)
          · have g' : l.kind = 2 := g
            have := rl.low (by omega)
            subst this
            exact Or.inr (Or.inr g)
      · rw [namesOk]
        exact ⟨hN, nms2.2 ⟨rl.nm, r.nm⟩⟩
      · rw [m_simplify_simplified_L1]
        simp only [ek, show (0 : Int) < (([l, k] : List T_api_Tree).length : Int) by simp, if_true, idx20 rfl, bind_ok, rl.e1, ea, w1, w2]
        rw [m_simplify_simplified_L1]
        simp only [ek, show (1 : Int) < (([l, k] : List T_api_Tree).length : Int) by simp, if_true, idx21 rfl, bind_ok, r.e1, eb, w3, w4]
        rw [m_simplify_simplified_L1]
        simp [ek]
      · rcases hF with f | f | f | f
        · rw [ek] at f; exact absurd f.2.2.2.2 (by simp)
        · rw [ek] at f; exact absurd f.2.2.2.2.2 (by simp)
        · omega
        · omega
      · rw [ek] at h ⊢
        obtain ⟨rfl, rfl⟩ := r.still (nfs2.1 h).2
        obtain ⟨rfl, rfl⟩ := rl.still (nfs2.1 h).1
        exact ⟨rfl, rfl⟩
    | x :: y :: z :: r =>
      rcases hF with f | f | f | f
      · rw [ek] at f; exact absurd f.2.2.2.2 (by simp)
      · rw [ek] at f; exact absurd f.2.2.2.2.2 (by simp)
      · rw [ek] at f; exact absurd f.2.2.2.1 (by simp)
      · rw [ek] at f; exact absurd f.2.2.2.1 (by simp)
end Go.Proofs.Tryd
namespace Go.Proofs.Tryd
open Go Go.Pm
set_option linter.unusedVariables false
set_option linter.unusedSimpArgs false
set_option maxRecDepth 2000
theorem run0 {t : T_api_Tree} (hk : t.kids = []) : m_simplify_simplified_L1 (t, 0, [], 0) = some (0, []) := by
  rw [m_simplify_simplified_L1]
  simp [hk]
theorem run1 {t k s : T_api_Tree} {c : Nat} (hc : c ≤ 1000) (hk : t.kids = [k]) (e : m_simplify_simplified k = some (s, (c : Int))) : m_simplify_simplified_L1 (t, 0, [], 0) = some ((c : Int), [s]) := by
  have w1 : W (0 + (c : Int)) = (c : Int) := by rw [W_ok (by omega) (by omega)]; omega
  have w2 : W (0 + 1) = 1 := by decide
  have ea : app 88 ([] : List T_api_Tree) [s] = some [s] := room_app (by simp) (by omega)
  rw [m_simplify_simplified_L1]
  simp only [hk, show (0 : Int) < (([k] : List T_api_Tree).length : Int) by simp, if_true, idx0 rfl, bind_ok, e, ea, w1, w2]
  rw [m_simplify_simplified_L1]
  simp [hk]
theorem run2 {t l k sl s : T_api_Tree} {cl c : Nat} (hc : c ≤ 1000) (hcl : cl ≤ 1000) (hk : t.kids = [l, k]) (el : m_simplify_simplified l = some (sl, (cl : Int))) (e : m_simplify_simplified k = some (s, (c : Int))) : m_simplify_simplified_L1 (t, 0, [], 0) = some (((cl + c : Nat) : Int), [sl, s]) := by
  have w1 : W (0 + (cl : Int)) = (cl : Int) := by rw [W_ok (by omega) (by omega)]; omega
  have w2 : W (0 + 1) = 1 := by decide
  have w3 : W (1 + 1) = 2 := by decide
  have w4 : W ((cl : Int) + (c : Int)) = ((cl + c : Nat) : Int) := W_add (by omega)
  have ea : app 88 ([] : List T_api_Tree) [sl] = some [sl] := room_app (by simp) (by omega)
  have eb : app 88 [sl] [s] = some [sl, s] := room_app (by simp) (by omega)
  rw [m_simplify_simplified_L1]
  simp only [hk, show (0 : Int) < (([l, k] : List T_api_Tree).length : Int) by simp, if_true, idx20 rfl, bind_ok, el, ea, w1, w2]
  rw [m_simplify_simplified_L1]
  simp only [hk, show (1 : Int) < (([l, k] : List T_api_Tree).length : Int) by simp, if_true, idx21 rfl, bind_ok, e, eb, w3, w4]
  rw [m_simplify_simplified_L1]
  simp [hk]
def out12 (s : T_api_Tree) (c : Int) : Option (Int × Int × Int × ByteArray × (List Int) × (List T_api_Tree) × Int × Int × Int × ByteArray × (List Int) × (List T_api_Tree) × Int) :=
  some (s.kind, s.fn, s.axis, s.name, s.nums, s.kids, s.kind, s.fn, s.axis, s.name, s.nums, s.kids, c)
theorem stop2 {u : T_api_Tree} {ks : List T_api_Tree} {c : Int} (e : m_simplify_once u = some (u, 0)) : m_simplify_simplified_L2 (ks, u.kind, u.fn, u.axis, u.name, u.nums, u.kids, c) = out12 u c := by
  rw [m_simplify_simplified_L2]
  simp only [etaT, e, bind_ok, if_true, out12]
theorem go2 {u v : T_api_Tree} {n : Int} {ks : List T_api_Tree} {c : Int} (e : m_simplify_once u = some (v, n)) (h : n ≠ 0) : m_simplify_simplified_L2 (ks, u.kind, u.fn, u.axis, u.name, u.nums, u.kids, c) = m_simplify_simplified_L2 (ks, v.kind, v.fn, v.axis, v.name, v.nums, v.kids, W (c + 1)) := by
  rw [m_simplify_simplified_L2]
  simp only [etaT, e, bind_ok, h, if_false]
theorem simp_run {t s : T_api_Tree} {ks : List T_api_Tree} {c c' : Int} (l1 : m_simplify_simplified_L1 (t, 0, [], 0) = some (c, ks)) (l2 : m_simplify_simplified_L2 (ks, t.kind, t.fn, t.axis, t.name, t.nums, ks, c) = out12 s c') : m_simplify_simplified t = some (s, c') := by
  rw [m_simplify_simplified]
  simp only [l1, bind_ok, l2, out12, etaT]
def aX : T_api_Tree := ⟨2, 0, -1, ⟨#[120]⟩, [], []⟩
def aL : T_api_Tree := ⟨1, 0, -1, ByteArray.empty, [2, 3], []⟩
def aRV : T_api_Tree := ⟨3, 6, -1, ByteArray.empty, [], [aX]⟩
def aRS : T_api_Tree := ⟨4, 5, -1, ByteArray.empty, [], [aL, aRV]⟩
def aRS' : T_api_Tree := ⟨4, 5, -1, ByteArray.empty, [], [aL, aX]⟩
def aM2 : T_api_Tree := ⟨3, 3, -1, ByteArray.empty, [], [aRS]⟩
def aM2' : T_api_Tree := ⟨3, 3, -1, ByteArray.empty, [], [aRS']⟩
def aM1 : T_api_Tree := ⟨3, 3, -1, ByteArray.empty, [], [aM2]⟩
def aM1' : T_api_Tree := ⟨3, 3, -1, ByteArray.empty, [], [aM2']⟩
theorem oX : m_simplify_once aX = some (aX, 0) := by kernel_rfl
theorem oL : m_simplify_once aL = some (aL, 0) := by kernel_rfl
theorem oRV : m_simplify_once aRV = some (aRV, 0) := by kernel_rfl
theorem oRS : m_simplify_once aRS = some (aRS', 4) := by kernel_rfl
theorem oRS' : m_simplify_once aRS' = some (aRS', 0) := by kernel_rfl
theorem oM2 : m_simplify_once aM2' = some (aM2', 0) := by kernel_rfl
theorem oM1 : m_simplify_once aM1 = some (aRS, 1) := by kernel_rfl
theorem oM1' : m_simplify_once aM1' = some (aRS', 1) := by kernel_rfl
theorem sX : m_simplify_simplified aX = some (aX, ((0 : Nat) : Int)) := simp_run (t := aX) (run0 rfl) (stop2 oX)
theorem sL : m_simplify_simplified aL = some (aL, ((0 : Nat) : Int)) := simp_run (t := aL) (run0 rfl) (stop2 oL)
theorem sRV : m_simplify_simplified aRV = some (aRV, ((0 : Nat) : Int)) := simp_run (t := aRV) (run1 (by omega) rfl sX) (stop2 oRV)
theorem sRS : m_simplify_simplified aRS = some (aRS', ((1 : Nat) : Int)) := simp_run (t := aRS) (run2 (by omega) (by omega) rfl sL sRV) ((go2 (u := aRS) oRS (by decide)).trans (stop2 (u := aRS') oRS'))
theorem sRS' : m_simplify_simplified aRS' = some (aRS', ((0 : Nat) : Int)) := simp_run (t := aRS') (run2 (by omega) (by omega) rfl sL sX) (stop2 (u := aRS') oRS')
theorem sM2 : m_simplify_simplified aM2 = some (aM2', ((1 : Nat) : Int)) := simp_run (t := aM2) (run1 (by omega) rfl sRS) (stop2 (u := aM2') oM2)
theorem sM1 : m_simplify_simplified aM1 = some (aRS', ((2 : Nat) : Int)) := simp_run (t := aM1) (run1 (by omega) rfl sM2) ((go2 (u := aM1') oM1' (by decide)).trans (stop2 (u := aRS') oRS'))
theorem awake_of (text1 : m_ref09_Text (⟨#[226, 140, 189, 226, 140, 189, 50, 32, 51, 226, 141, 180, 44, 120]⟩ : ByteArray) = some (aM1, 0)) (text2 : m_ref09_Text (⟨#[50, 32, 51, 226, 141, 180, 120]⟩ : ByteArray) = some (aRS', 0)) : m_law29_awake () = some true := by
  have c1 : m_tree_Copy aRS = some aRS := copy_ok aRS (by simp [aRS, aL, aRV, aX, szT, szTs]) (by simp [aRS, aL, aRV, aX, numT, numTs])
  have c2 : m_tree_Copy aRS' = some aRS' := copy_ok aRS' (by simp [aRS', aL, aRV, aX, szT, szTs]) (by simp [aRS', aL, aRV, aX, numT, numTs])
  have c3 : m_ref08_Same (aRS', aRS') = some true := same_self aRS' (by simp [aRS', aL, aRV, aX, szT, szTs]) (by simp [aRS', aL, aRV, aX, numT, numTs])
  have k : aRS.kind = 4 := rfl
  unfold m_law29_awake m_simplify_Rule m_simplify_Simplify m_simplify_Count
  simp only [text1, text2, bind_ok, etaT, oM1, c1, sM1, c2, c3, sRS', k, if_true, beq_self_eq_true]
  rfl
theorem few_of {s t : T_api_Tree} {c : Nat} (h : fewT t) (h1 : szT s + c ≤ szT t) (h2 : numT s ≤ numT t) (h3 : depT s ≤ depT t) : fewT s := by
  unfold fewT at h ⊢
  omega
/-- what the law needs of a tree that is right, with few nodes -/
theorem ends {t : T_api_Tree} (h : fewT t) (hg : good t) (hn : namesOk t) : ∃ s c, simpR t s c ∧ m_simplify_Simplify t = some s ∧ m_ref08_Same (s, s) = some true ∧ fewT s := by
  obtain ⟨s, c, r⟩ := simp_ok 300 t h.1 (by omega) hg hn
  have hs := few_of h r.sz r.num r.dep
  have e1 := copy_ok s (by have := hs.1; omega) (by have := hs.2.2; omega)
  refine ⟨s, c, r, ?_, same_self s (by have := hs.1; omega) (by have := hs.2.2; omega), hs⟩
  unfold m_simplify_Simplify
  simp only [r.e1, bind_ok, e1]
end Go.Proofs.Tryd
namespace Go.Proofs.Tryd
open Go Go.RowKit

def isI (v : Value) : Prop := ∃ n, v = .int .i64 n
/-- a list of numbers in memory of its own -/
def NumsOK (w : World) (S : Nat → Prop) (v : Value) : Prop :=
  (∃ ad cap, v = .slice ad 0 cap) ∨ ∃ b len cap, v = .slice (some ⟨b, 0, none⟩) len cap ∧ (S b ∧ len ≤ 1000000) ∧ ∀ j, j < len → (∃ n, w.cell? ⟨b, j, none⟩ = some (.int .i64 n)) ∧ w.frozen? ⟨b, j, none⟩ = false
def KidsOK (w : World) (S : Nat → Prop) (Q : Value → Prop) (v : Value) : Prop :=
  (∃ ad cap, v = .slice ad 0 cap) ∨ ∃ b len cap, v = .slice (some ⟨b, 0, none⟩) len cap ∧ (S b ∧ len ≤ 1000000) ∧
    ∀ i, i < len → ∃ x0 x1 x2 x3 x4 x5, w.cell? ⟨b, i * 6, none⟩ = some x0 ∧ w.cell? ⟨b, i * 6 + 1, none⟩ = some x1 ∧ w.cell? ⟨b, i * 6 + 2, none⟩ = some x2 ∧ w.cell? ⟨b, i * 6 + 3, none⟩ = some x3 ∧ w.cell? ⟨b, i * 6 + 4, none⟩ = some x4 ∧ w.cell? ⟨b, i * 6 + 5, none⟩ = some x5 ∧
      w.frozen? ⟨b, i * 6, none⟩ = false ∧ Q (.agg #[x0, x1, x2, x3, x4, x5])
/-- a tree in memory of its own -/
def Sh (w : World) (S : Nat → Prop) : Nat → Value → Prop
  | 0, _ => False
  | k + 1, v => ∃ a b c nm nums kids, v = .agg #[.int .i64 a, .int .i64 b, .int .i64 c, .string nm, nums, kids] ∧ NumsOK w S nums ∧ KidsOK w S (Sh w S k) kids
/-- numbers of S may have turned, nothing else -/
structure Kept (S : Nat → Prop) (w w' : World) : Prop where
  os : w'.os = w.os
  tape : w'.tape = w.tape
  output : w'.output = w.output
  size : w.heap.size ≤ w'.heap.size
  block : ∀ k, k < w.heap.size → ¬ S k → w'.heap[k]? = w.heap[k]?
  cell : ∀ b o v, S b → w.cell? ⟨b, o, none⟩ = some v → ∃ v', w'.cell? ⟨b, o, none⟩ = some v' ∧ ((isI v ∧ isI v') ∨ v' = v)
  frz : ∀ b o, S b → w.frozen? ⟨b, o, none⟩ = false → w'.frozen? ⟨b, o, none⟩ = false
theorem Kept.refl (S : Nat → Prop) (w : World) : Kept S w w := ⟨rfl, rfl, rfl, Nat.le_refl _, fun _ _ _ => rfl, fun _ _ v _ h => ⟨v, h, .inr rfl⟩, fun _ _ _ h => h⟩
theorem Kept.trans {S : Nat → Prop} {a b c : World} (h : Kept S a b) (k : Kept S b c) : Kept S a c :=
  ⟨k.os.trans h.os, k.tape.trans h.tape, k.output.trans h.output, Nat.le_trans h.size k.size, fun i hi hs => (k.block i (Nat.lt_of_lt_of_le hi h.size) hs).trans (h.block i hi hs), fun b o v hs hv => by
    obtain ⟨v1, h1, h2⟩ := h.cell b o v hs hv
    obtain ⟨v2, k1, k2⟩ := k.cell b o v1 hs h1
    refine ⟨v2, k1, ?_⟩
    rcases h2 with ⟨i1, i2⟩ | rfl
    · rcases k2 with ⟨_, i3⟩ | rfl
      · exact .inl ⟨i1, i3⟩
      · exact .inl ⟨i1, i2⟩
    · exact k2, fun b o hs hf => k.frz b o hs (h.frz b o hs hf)⟩
theorem Kept.drew {S : Nat → Prop} {a w : World} (h : Kept S a w) : Kept S a w.drew := ⟨h.os, h.tape, h.output, h.size, h.block, h.cell, h.frz⟩
theorem Kept.alloc {S : Nat → Prop} {a w : World} (h : Kept S a w) (hS : ∀ b, S b → b < w.heap.size) (o : Obj) : Kept S a (w.alloc o) :=
  h.trans ⟨rfl, rfl, rfl, by simp, fun k hk _ => Below.heap_alloc _ _ _ hk, fun b o' v hs hv => ⟨v, by rw [World.cell?_alloc_past _ _ _ (hS b hs)]; exact hv, .inr rfl⟩, fun b o' hs hf => by
    rw [World.frozen?_of_block (w := w) (Below.heap_alloc _ _ _ (hS b hs))]; exact hf⟩
theorem Kept.setI {S : Nat → Prop} {a w : World} (h : Kept S a w) {b o : Nat} (hs : S b) {m n : Int} (hc : w.cell? ⟨b, o, none⟩ = some (.int .i64 m)) : Kept S a (w.setCell ⟨b, o, none⟩ (.int .i64 n)) := by
  refine h.trans ⟨rfl, rfl, rfl, by simp [World.setCell], fun k hk hS => Below.heap_setCell _ _ _ _ (fun e => hS (by simp at e; rw [e]; exact hs)), fun b' o' v hs' hv => ?_, fun b' o' hs' hf => by rw [World.frozen?_setCell]; exact hf⟩
  by_cases e : (⟨b', o', none⟩ : Addr) = ⟨b, o, none⟩
  · cases e
    rw [hc] at hv; cases hv
    exact ⟨.int .i64 n, World.cell?_setCell_same _ _ _ hc, .inl ⟨⟨m, rfl⟩, ⟨n, rfl⟩⟩⟩
  · exact ⟨v, by rw [World.cell?_setCell_other _ _ _ _ (Ne.symm e)]; exact hv, .inr rfl⟩
theorem Kept.int {S : Nat → Prop} {w w' : World} (h : Kept S w w') {b o : Nat} {n : Int} (hs : S b) (hc : w.cell? ⟨b, o, none⟩ = some (.int .i64 n)) : ∃ m, w'.cell? ⟨b, o, none⟩ = some (.int .i64 m) := by
  obtain ⟨v, h1, h2⟩ := h.cell b o _ hs hc
  rcases h2 with ⟨_, ⟨m, rfl⟩⟩ | rfl
  · exact ⟨m, h1⟩
  · exact ⟨n, h1⟩
theorem Kept.non {S : Nat → Prop} {w w' : World} (h : Kept S w w') {b o : Nat} {v : Value} (hs : S b) (hc : w.cell? ⟨b, o, none⟩ = some v) (hv : ¬ isI v) : w'.cell? ⟨b, o, none⟩ = some v := by
  obtain ⟨u, h1, h2⟩ := h.cell b o _ hs hc
  rcases h2 with ⟨h3, _⟩ | rfl
  · exact absurd h3 hv
  · exact h1
theorem NumsOK.kept {S : Nat → Prop} {w w' : World} (h : Kept S w w') {v : Value} (hv : NumsOK w S v) : NumsOK w' S v := by
  rcases hv with ⟨ad, cap, rfl⟩ | ⟨b, len, cap, rfl, ⟨hs, hl⟩, hj⟩
  · exact .inl ⟨ad, cap, rfl⟩
  · exact .inr ⟨b, len, cap, rfl, ⟨hs, hl⟩, fun j hj' => by
      obtain ⟨⟨n, h1⟩, h2⟩ := hj j hj'
      exact ⟨h.int hs h1, h.frz _ _ hs h2⟩⟩
theorem NumsOK.notI {S : Nat → Prop} {w : World} {v : Value} (hv : NumsOK w S v) : ¬ isI v := by
  rintro ⟨n, rfl⟩
  rcases hv with ⟨ad, cap, h⟩ | ⟨b, len, cap, h, _⟩ <;> cases h
theorem KidsOK.notI {S : Nat → Prop} {Q : Value → Prop} {w : World} {v : Value} (hv : KidsOK w S Q v) : ¬ isI v := by
  rintro ⟨n, rfl⟩
  rcases hv with ⟨ad, cap, h⟩ | ⟨b, len, cap, h, _⟩ <;> cases h
theorem KidsOK.kept {S : Nat → Prop} {w w' : World} (h : Kept S w w') {k : Nat} (ih : ∀ v, Sh w S k v → Sh w' S k v) {v : Value} (hv : KidsOK w S (Sh w S k) v) : KidsOK w' S (Sh w' S k) v := by
  rcases hv with ⟨ad, cap, rfl⟩ | ⟨b, len, cap, rfl, ⟨hs, hl⟩, hj⟩
  · exact .inl ⟨ad, cap, rfl⟩
  · refine .inr ⟨b, len, cap, rfl, ⟨hs, hl⟩, fun i hi => ?_⟩
    obtain ⟨x0, x1, x2, x3, x4, x5, h0, h1, h2, h3, h4, h5, hf, hq⟩ := hj i hi
    cases k with
    | zero => exact absurd hq (by simp [Sh])
    | succ k =>
      have hq' := ih _ hq
      obtain ⟨a, b', c, nm, nums, kids, he, g1, g2⟩ := hq
      simp only [Value.agg.injEq, Array.mk.injEq, List.cons.injEq, and_true] at he
      obtain ⟨rfl, rfl, rfl, rfl, rfl, rfl⟩ := he
      obtain ⟨a', b'', c', nm', nums', kids', he', g1', g2'⟩ := hq'
      simp only [Value.agg.injEq, Array.mk.injEq, List.cons.injEq, and_true] at he'
      obtain ⟨_, _, _, _, rfl, rfl⟩ := he'
      obtain ⟨m0, e0⟩ := h.int hs h0
      obtain ⟨m1, e1⟩ := h.int hs h1
      obtain ⟨m2, e2⟩ := h.int hs h2
      have e3 := h.non hs h3 (by rintro ⟨n, hn⟩; cases hn)
      have e4 := h.non hs h4 g1.notI
      have e5 := h.non hs h5 g2.notI
      exact ⟨_, _, _, _, _, _, e0, e1, e2, e3, e4, e5, h.frz _ _ hs hf, ⟨m0, m1, m2, nm, _, _, rfl, g1', g2'⟩⟩
theorem Sh.kept {S : Nat → Prop} {w w' : World} (h : Kept S w w') : ∀ (k : Nat) (v : Value), Sh w S k v → Sh w' S k v
  | 0, v, hv => by simp [Sh] at hv
  | k + 1, v, hv => by
    obtain ⟨a, b, c, nm, nums, kids, rfl, g1, g2⟩ := hv
    exact ⟨a, b, c, nm, nums, kids, rfl, g1.kept h, g2.kept h fun v hv => Sh.kept h k v hv⟩

theorem wrap_one {j n : Nat} (h : j < n) (hn : n ≤ 1000000) : wrap64 ((j : Int) + 1) = ((j + 1 : Nat) : Int) := by
  unfold wrap64; omega
set_option maxHeartbeats 1600000 in
set_option maxRecDepth 1000000 in
theorem spoil_any (S : Nat → Prop) : ∀ (k : Nat) (v : Value) (w : World), (∀ b, S b → b < w.heap.size) → Sh w S k v → Calls Tryd.prog 9 #[v] w fun e w' => e = .returned (.tuple #[]) ∧ Kept S w w' := by
  intro k
  induction k with
  | zero => intro v w _ hv; simp [Sh] at hv
  | succ k ih =>
    intro v w hS hv
    obtain ⟨a, b, c, nm, nums, kids, rfl, g1, g2⟩ := hv
    obtain ⟨na, nl, nc, rfl⟩ : ∃ na nl nc, nums = .slice na nl nc := by
      rcases g1 with ⟨ad, cap, rfl⟩ | ⟨b, len, cap, rfl, _⟩ <;> exact ⟨_, _, _, rfl⟩
    obtain ⟨ka, kl, kc, rfl⟩ : ∃ ka kl kc, kids = .slice ka kl kc := by
      rcases g2 with ⟨ad, cap, rfl⟩ | ⟨b, len, cap, rfl, _⟩ <;> exact ⟨_, _, _, rfl⟩
    go_enter Tryd.func9, Tryd.ntmps9
    go_wp2_with fail
    go_loopw [2] (fun i wr => ∃ j : Nat, j ≤ nl ∧ i = .int .i64 j ∧ Kept S w wr ∧ w.heap.size < wr.heap.size ∧ wr.cell? ⟨w.heap.size, 4, none⟩ = some (.slice na nl nc) ∧ wr.cell? ⟨w.heap.size, 5, none⟩ = some (.slice ka kl kc)) (fun i _ => nl - (intOf i).toNat)
    case atStart => exact ⟨0, Nat.zero_le _, rfl, (Kept.refl S w).alloc hS _, by simp, by rw [World.cell?_alloc_at _ _ _ _ rfl]; rfl, by rw [World.cell?_alloc_at _ _ _ _ rfl]; rfl⟩
    case round =>
      obtain ⟨j, hj, rfl, hK, hsz, h4, h5⟩ := hrel
      by_cases hlt : j < nl
      · obtain ⟨nb, hna, ⟨hs, hnl⟩, n, hcn, hfn⟩ : ∃ nb, na = some ⟨nb, 0, none⟩ ∧ (S nb ∧ nl ≤ 1000000) ∧ ∃ n, wr.cell? ⟨nb, j, none⟩ = some (.int .i64 n) ∧ wr.frozen? ⟨nb, j, none⟩ = false := by
          rcases g1 with ⟨ad, cap, he⟩ | ⟨b, len, cap, he, ⟨hs, hl⟩, hj⟩
          · simp at he; omega
          · simp at he
            obtain ⟨rfl, rfl, rfl⟩ := he
            obtain ⟨⟨n, h1⟩, h2⟩ := hj j hlt
            obtain ⟨m, h3⟩ := hK.int hs h1
            exact ⟨b, rfl, ⟨hs, hl⟩, m, h3, hK.frz _ _ hs h2⟩
        subst hna
        go_wp2_with fail
        have hne : nb < w.heap.size := hS nb hs
        refine ⟨⟨j + 1, by omega, by simp, hK.setI hs hcn, by simpa [World.setCell] using hsz, ?_, ?_⟩, ?_⟩
        · rw [World.cell?_setCell_other _ _ _ _ (by intro h; cases h; omega)]; exact h4
        · rw [World.cell?_setCell_other _ _ _ _ (by intro h; cases h; omega)]; exact h5
        · simp [intOf]; omega
      · go_wp2_with fail
        go_loopw [3] (fun i wr => ∃ j : Nat, j ≤ kl ∧ i = .int .i64 j ∧ Kept S w wr ∧ w.heap.size < wr.heap.size ∧ wr.cell? ⟨w.heap.size, 5, none⟩ = some (.slice ka kl kc)) (fun i _ => kl - (intOf i).toNat)
        case atStart => exact ⟨0, Nat.zero_le _, rfl, hK, hsz, h5⟩
        case round =>
          rename_i hrel
          obtain ⟨i, hi, rfl, hK, hsz, h5⟩ := hrel
          by_cases hlt : i < kl
          · obtain ⟨nb, hna, ⟨hs, hnl⟩, x0, x1, x2, x3, x4, x5, hc0, hc1, hc2, hc3, hc4, hc5, hcf, hq⟩ : ∃ nb, ka = some ⟨nb, 0, none⟩ ∧ (S nb ∧ kl ≤ 1000000) ∧ ∃ x0 x1 x2 x3 x4 x5, wr.cell? ⟨nb, i * 6, none⟩ = some x0 ∧ wr.cell? ⟨nb, i * 6 + 1, none⟩ = some x1 ∧ wr.cell? ⟨nb, i * 6 + 2, none⟩ = some x2 ∧ wr.cell? ⟨nb, i * 6 + 3, none⟩ = some x3 ∧ wr.cell? ⟨nb, i * 6 + 4, none⟩ = some x4 ∧ wr.cell? ⟨nb, i * 6 + 5, none⟩ = some x5 ∧
              wr.frozen? ⟨nb, i * 6, none⟩ = false ∧ Sh wr S k (.agg #[x0, x1, x2, x3, x4, x5]) := by
              rcases KidsOK.kept hK (fun v hv => Sh.kept hK k v hv) g2 with ⟨ad, cap, he⟩ | ⟨b, len, cap, he, ⟨hs, hl⟩, hj⟩
              · simp at he; omega
              · simp at he
                obtain ⟨rfl, rfl, rfl⟩ := he
                exact ⟨b, rfl, ⟨hs, hl⟩, hj i hlt⟩
            subst hna
            have hx0 : ∃ n0, x0 = .int .i64 n0 := by
              cases k with
              | zero => simp [Sh] at hq
              | succ k =>
                obtain ⟨a, b', c, nm, nums, kids, he, _⟩ := hq
                simp at he
                exact ⟨_, he.1⟩
            obtain ⟨n0, rfl⟩ := hx0
            go_wp2_with (go_at_call 9; refine (ih _ _ (fun b hb => Nat.lt_of_lt_of_le (hS b hb) hK.size) hq).mono ?_; rintro e w2 ⟨rfl, hK2⟩; have hb2 := World.cell?_of_block (w := wr) (w' := w2) (a := ⟨w.heap.size, 5, none⟩) (hK2.block w.heap.size hsz (fun h => Nat.lt_irrefl _ (hS _ h))); rw [h5] at hb2; obtain ⟨m0, hm0⟩ := hK2.int hs hc0; have hf2 := hK2.frz _ _ hs hcf)
            have hne : nb < w.heap.size := hS nb hs
            refine ⟨⟨i + 1, by omega, by simp, (hK.trans hK2).setI hs hm0, by have := hK2.size; simp [World.setCell]; omega, ?_⟩, ?_⟩
            · rw [World.cell?_setCell_other _ _ _ _ (by intro h; simp at h)]; exact hb2
            · simp [intOf]; omega
          · go_wp2_with fail
            go_end0
            exact ⟨rfl, hK⟩
end Go.Proofs.Tryd
namespace Go.Proofs.Tryd
open Go Go.RowKit
theorem info2 : (prog.info? 2).map (fun i => (i.zero, i.size, i.bytes)) = some (some (.int .i64 0), 1, 8) := by kernel_rfl
theorem under22 : prog.underlying 22 = some (.slice 2) := by kernel_rfl
theorem eql22 (a : Option Addr) (l c : Nat) (w : World) : (binOp .eql 22 (.slice a l c) (.slice none 0 0)).run prog w = .ok (.bool a.isNone) w := Lib.run_eql_slice_nil w 22 2 a l c 0 0 under22
theorem clone_nil (w : World) : Calls prog 24 #[.slice none 0 0] w fun e w' => e = .returned (.slice none 0 0) ∧ Below w.heap.size w w' := by
  have heq := eql22
  go_enter Tryd.func24, Tryd.ntmps24
  go_wp2_with fail
  go_ret
  exact ⟨rfl, Below.refl _ _⟩
set_option maxHeartbeats 1600000 in
set_option maxRecDepth 1000000 in
theorem clone_empty (a : Addr) (cap : Nat) (w : World) : Calls prog 24 #[.slice (some a) 0 cap] w fun e w' => ∃ ad c, e = .returned (.slice ad 0 c) ∧ Below w.heap.size w w' := by
  have heq := eql22
  go_enter Tryd.func24, Tryd.ntmps24
  go_wp2_with fail
  go_ret
  exact ⟨_, _, rfl, (Below.refl _ _).alloc (Nat.le_refl _) _⟩
theorem own_nil (w : World) (e : TypeId) (size : Nat) : (w.alloc (.cells #[] e)).ownsRow w.heap.size e size (.slice (some ⟨w.heap.size, 0, none⟩) 0 0) 0 [] := by
  refine ⟨by simp, .inr ⟨w.heap.size, 0, #[], rfl, Nat.le_refl _, ?_, Nat.le_refl _, by simp [maxLen], by simp, by simp⟩⟩
  show (w.heap.push _)[w.heap.size]? = _
  simp
theorem cell_of {w : World} {g : Nat} {cur : Array Value} {e : TypeId} (h : w.heap[g]? = some (.cells cur e (0, 0))) (j : Nat) : w.cell? ⟨g, j, none⟩ = cur[j]? ∧ w.frozen? ⟨g, j, none⟩ = false := by
  constructor
  · simp [World.cell?, h]
  · simp [World.frozen?, h]
theorem nums_own {w : World} {base : Nat} {v : Value} {ns : List Int} (h : w.ownsRow base 2 1 v ns.length (ns.map (Value.int .i64))) (hm : ns.length ≤ 1000000) : NumsOK w (fun b => base ≤ b ∧ b < w.heap.size) v := by
  obtain ⟨h1, ⟨rfl, h2⟩ | ⟨g, cap, cur, rfl, h3, h4, h5, h6, h7, h8⟩⟩ := h
  · exact .inl ⟨none, 0, rfl⟩
  · refine .inr ⟨g, _, cap, rfl, ⟨⟨h3, ?_⟩, hm⟩, fun j hj => ?_⟩
    · rcases Nat.lt_or_ge g w.heap.size with q | q
      · exact q
      · rw [Array.getElem?_eq_none (by omega)] at h4; cases h4
    · obtain ⟨c1, c2⟩ := cell_of h4 j
      refine ⟨⟨ns[j], ?_⟩, c2⟩
      rw [c1]
      have : (cur.toList.take (ns.length * 1))[j]? = some (.int .i64 ns[j]) := by rw [h8]; simp [hj]
      rw [List.getElem?_take, if_pos (by omega)] at this
      simpa using this
set_option maxHeartbeats 1600000 in
set_option maxRecDepth 1000000 in
theorem clone_some (b off len cap : Nat) (ns : List Int) (w : World) (hl : ns.length = len) (h0 : 0 < len) (hm : len ≤ 1000000) (hb : b < w.heap.size) (hc : ∀ j n, ns[j]? = some n → w.cell? ⟨b, off + j, none⟩ = some (.int .i64 n)) :
    Calls prog 24 #[.slice (some ⟨b, off, none⟩) len cap] w fun e w' => ∃ v, e = .returned v ∧ Below w.heap.size w w' ∧ NumsOK w' (fun b => w.heap.size ≤ b ∧ b < w'.heap.size) v := by
  obtain ⟨i0, hi, hz0, hz1, hz2⟩ := info_parts info2
  have heq := eql22
  have hown := own_nil w 2 1
  have HC : Hid (∀ j u, (ns.map (Value.int .i64))[j]? = some u → (w.alloc (.cells #[] 2)).cell? ((⟨b, off, none⟩ : Addr).add j) = some u) := fun j u hj => by
    simp only [List.getElem?_map, Option.map_eq_some_iff] at hj
    obtain ⟨n, h1, rfl⟩ := hj
    have := hc j n h1
    rw [show (⟨b, off, none⟩ : Addr).add j = ⟨b, off + j, none⟩ by simp [Addr.add], World.cell?_alloc_past _ _ _ hb]
    exact this
  clear hc
  go_enter Tryd.func24, Tryd.ntmps24
  go_wp2_with (at_builtin; refine wpList_append_own _ rfl _ _ 22 rfl w.heap.size 2 i0 (.int .i64 0) 1 8 under22 hi hz0 hz1 hz2 rfl (by decide) _ 0 [] rfl hown ⟨b, off, none⟩ len cap (ns.map (Value.int .i64)) rfl ?c1 HC.out ?c3 ?c4 ?c5 ?c6 ?_)
  case c1 => simp [hl]
  case c3 => intro u hu; simp at hu; obtain ⟨n, _, rfl⟩ := hu; rfl
  case c4 => unfold maxLen; omega
  case c5 => omega
  case c6 => simp
  intro v' w1 hown' hgrow _
  go_wp2
  go_ret
  refine ⟨_, rfl, ((Below.refl _ _).alloc (Nat.le_refl _) _).grown hgrow (by simp) (fun k hk => ?_), nums_own (by rw [hl]; simpa using hown') (by omega)⟩
  simp only [Value.ownBlock] at hk
  simp at hk; omega
end Go.Proofs.Tryd
namespace Go.Proofs.Tryd
open Go Go.RowKit
theorem own_block {w : World} {base : Nat} {e : TypeId} {size : Nat} {v : Value} {n : Nat} {xs : List Value} (h : w.ownsRow base e size v n xs) : v.ownBlock = none ∨ ∃ g, v.ownBlock = some g ∧ base ≤ g ∧ g < w.heap.size := by
  obtain ⟨h1, ⟨rfl, h2⟩ | ⟨g, cap, cur, rfl, h3, h4, _⟩⟩ := h
  · exact .inl rfl
  · refine .inr ⟨g, rfl, h3, ?_⟩
    rcases Nat.lt_or_ge g w.heap.size with q | q
    · exact q
    · rw [Array.getElem?_eq_none (by omega)] at h4; cases h4
theorem own_same {w w' : World} {base : Nat} {e : TypeId} {size : Nat} {v : Value} {n : Nat} {xs : List Value} (h : w.ownsRow base e size v n xs) (hb : ∀ g, v.ownBlock = some g → w'.heap[g]? = w.heap[g]?) : w'.ownsRow base e size v n xs := by
  obtain ⟨h1, ⟨rfl, h2⟩ | ⟨g, cap, cur, rfl, h3, h4, h5⟩⟩ := h
  · exact ⟨h1, .inl ⟨rfl, h2⟩⟩
  · exact ⟨h1, .inr ⟨g, cap, cur, rfl, h3, by rw [hb g rfl]; exact h4, h5⟩⟩
theorem run_append_sep {P : Program} (w : World) (base : Nat) (t ty e : TypeId) (i : TypeInfo) (z : Value) (size bytes : Nat) (ht : P.underlying t = some (.slice e)) (hi : P.info? e = some i) (hz : i.zero = some z)
    (hsize : i.size = size) (hby : i.bytes = bytes) (hzs : z.cells.size = size) (hsz : 0 < size)
    (v : Value) (n : Nat) (xs : List Value) (hown : w.ownsRow base e size v n xs)
    (a : Addr) (m c : Nat) (news : List Value) (hl : news.length = m * size) (hnews : ∀ j u, news[j]? = some u → w.cell? (a.add j) = some u) (h1 : ∀ u ∈ news, u.oneCell' = true)
    (h63 : n + m ≤ maxLen) (hbytes : (n + m) * bytes ≤ 140737488355328) (hbase : base ≤ w.heap.size) :
    ∃ v' w', (Builtin.append_ #[t, t] ty #[v, .slice (some a) m c]).run P w = .ok v' w' ∧ w'.ownsRow base e size v' (n + m) (xs ++ news) ∧ w.grownBy w' v.ownBlock ∧
      (∀ g, v'.ownBlock = some g → v.ownBlock = some g ∨ w.heap.size ≤ g) := by
  obtain ⟨v', w', hr, h2, h3, h4⟩ := run_append_own (P := P) w base t ty e i z size bytes ht hi hz hsize hby hzs hsz v n xs hown a m c news hl hnews h1 h63 hbytes hbase
  refine ⟨v', w', hr, h2, h3, fun g hg => ?_⟩
  have hown0 := hown
  obtain ⟨k1, ⟨rfl, k2⟩ | ⟨g0, cap, cur, rfl, k3, k4, k5, k6, k7, k8⟩⟩ := hown
  · have hn : w.ownsRow w.heap.size e size (.slice none 0 0) n xs := ⟨k1, .inl ⟨rfl, k2⟩⟩
    obtain ⟨v2, w2, hr2, j2, _⟩ := run_append_own (P := P) w w.heap.size t ty e i z size bytes ht hi hz hsize hby hzs hsz _ n xs hn a m c news hl hnews h1 h63 hbytes (Nat.le_refl _)
    rw [hr] at hr2; cases hr2
    rcases own_block j2 with q | ⟨g', q, q1, _⟩
    · rw [q] at hg; cases hg
    · rw [q] at hg; cases hg; exact .inr q1
  · by_cases hroom : n + m ≤ cap
    · obtain ⟨w2, hr2, _, _⟩ := run_append_fits (P := P) w base t ty e i size ht hi hsize g0 n cap xs hown0 a m c news hl hnews h1 hroom
      rw [hr] at hr2; cases hr2
      exact .inl hg
    · obtain ⟨v2, w2, hr2, j2, _⟩ := run_append_arg_grows (P := P) w t ty e i z size bytes ht hi hz hsize hby hzs hsz ⟨g0, 0, none⟩ n cap xs k1 (fun j u hj => by
        rw [show (⟨g0, 0, none⟩ : Addr).add j = ⟨g0, j, none⟩ by simp [Addr.add]; intro h; exact h.symm, (cell_of k4 j).1]
        rw [← k8] at hj
        rw [List.getElem?_take] at hj
        split at hj
        · simpa using hj
        · cases hj) a m c news hl hnews (by omega) h63 hbytes
      rw [hr] at hr2; cases hr2
      rcases own_block j2 with q | ⟨g', q, q1, _⟩
      · rw [q] at hg; cases hg
      · rw [q] at hg; cases hg; exact .inr q1
theorem wpList_append_sep {P : Program} (w : World) {ops : Array Oper} {rest : List Oper} {o : Oper} {a : Act} {Q : Exit → Act → World → Prop} (hgd : o.guard = none) (s x : Operand) (t : TypeId)
    (ho : o.op = .call { callee := .builtin .append, args := #[s, x], argTypes := #[t, t] })
    (base : Nat) (e : TypeId) (i : TypeInfo) (z : Value) (size bytes : Nat) (ht : P.underlying t = some (.slice e)) (hi : P.info? e = some i) (hz : i.zero = some z)
    (hsize : i.size = size) (hby : i.bytes = bytes) (hzs : z.cells.size = size) (hsz : 0 < size)
    (v : Value) (n : Nat) (xs : List Value) (hs : a.eval s = v) (hown : w.ownsRow base e size v n xs)
    (ad : Addr) (m c : Nat) (news : List Value) (hx : a.eval x = .slice (some ad) m c) (hl : news.length = m * size) (hnews : ∀ j u, news[j]? = some u → w.cell? (ad.add j) = some u) (h1 : ∀ u ∈ news, u.oneCell' = true)
    (h63 : n + m ≤ maxLen) (hbytes : (n + m) * bytes ≤ 140737488355328) (hbase : base ≤ w.heap.size)
    (h : ∀ v' w', w'.ownsRow base e size v' (n + m) (xs ++ news) → w.grownBy w' v.ownBlock → (∀ g, v'.ownBlock = some g → v.ownBlock = some g ∨ w.heap.size ≤ g) → wpList P ops Q rest (a.put o.dst v') w') : wpList P ops Q (o :: rest) a w := by
  refine wpList_plain hgd fun K hK => ?_
  obtain ⟨v', w', hr, h2, h3, h4⟩ := run_append_sep (P := P) w base t o.type e i z size bytes ht hi hz hsize hby hzs hsz v n xs hown ad m c news hl hnews h1 h63 hbytes hbase
  unfold Oper.wp execOp
  simp only [ho, resolve, invoke, builtin, Sem.run_bind, Sem.run_pure, Result.andThen_ok, List.map_toArray, List.map_cons, List.map_nil, hs, hx, hr]
  exact hK _ _ (h v' w' h2 h3 h4)
theorem NumsOK.move {S S' : Nat → Prop} {w w' : World} (h : ∀ b, S b → S' b ∧ w'.heap[b]? = w.heap[b]?) {v : Value} (hv : NumsOK w S v) : NumsOK w' S' v := by
  rcases hv with ⟨ad, cap, rfl⟩ | ⟨b, len, cap, rfl, ⟨hs, hl⟩, hj⟩
  · exact .inl ⟨ad, cap, rfl⟩
  · refine .inr ⟨b, len, cap, rfl, ⟨(h b hs).1, hl⟩, fun j hj' => ?_⟩
    obtain ⟨⟨n, h1⟩, h2⟩ := hj j hj'
    exact ⟨⟨n, by rw [World.cell?_of_block (w := w) (h b hs).2]; exact h1⟩, by rw [World.frozen?_of_block (w := w) (h b hs).2]; exact h2⟩
theorem Sh.move {S S' : Nat → Prop} {w w' : World} (h : ∀ b, S b → S' b ∧ w'.heap[b]? = w.heap[b]?) : ∀ (k : Nat) (v : Value), Sh w S k v → Sh w' S' k v
  | 0, v, hv => by simp [Sh] at hv
  | k + 1, v, hv => by
    obtain ⟨a, b, c, nm, nums, kids, rfl, g1, g2⟩ := hv
    refine ⟨a, b, c, nm, nums, kids, rfl, g1.move h, ?_⟩
    rcases g2 with ⟨ad, cap, rfl⟩ | ⟨b, len, cap, rfl, ⟨hs, hl⟩, hj⟩
    · exact .inl ⟨ad, cap, rfl⟩
    · refine .inr ⟨b, len, cap, rfl, ⟨(h b hs).1, hl⟩, fun i hi => ?_⟩
      obtain ⟨x0, x1, x2, x3, x4, x5, h0, h1, h2, h3, h4, h5, hf, hq⟩ := hj i hi
      have e : ∀ o, w'.cell? ⟨b, o, none⟩ = w.cell? ⟨b, o, none⟩ := fun o => World.cell?_of_block (w := w) (h b hs).2
      exact ⟨x0, x1, x2, x3, x4, x5, by rw [e]; exact h0, by rw [e]; exact h1, by rw [e]; exact h2, by rw [e]; exact h3, by rw [e]; exact h4, by rw [e]; exact h5, by rw [World.frozen?_of_block (w := w) (h b hs).2]; exact hf, Sh.move h k _ hq⟩
end Go.Proofs.Tryd
namespace Go.Proofs.Tryd
open Go Go.RowKit Go.Pm
theorem info25 : (prog.info? 25).map (fun i => (i.zero, i.size, i.bytes)) = some (some (.agg #[.int .i64 0, .int .i64 0, .int .i64 0, .string ByteArray.empty, .slice none 0 0, .slice none 0 0]), 6, 88) := by kernel_rfl
theorem under23 : prog.underlying 23 = some (.slice 25) := by kernel_rfl
theorem rep_lst {w : World} {S : Nat → Nat → Prop} {v : Value} {es : List Dat} (h : RepD w S v (.lst es)) : (es = [] ∧ ((v = .slice none 0 0) ∨ ∃ a cap, v = .slice (some a) 0 cap)) ∨
    ∃ (b off len cap k : Nat) (c : Nat → Value), v = .slice (some ⟨b, off, none⟩) len cap ∧ len = es.length ∧ (∀ d, d ∈ es → d.num = k) ∧ (∀ i, i < len * k → w.cell? ⟨b, off + i, none⟩ = some (c i) ∧ S b (off + i)) ∧
      (∀ (i j : Nat) d u, es[i]? = some d → d.cells[j]? = some u → RepD w S (c (i * k + j)) u) := by
  cases h with
  | nil => exact .inl ⟨rfl, .inl rfl⟩
  | empty a cap => exact .inl ⟨rfl, .inr ⟨a, cap, rfl⟩⟩
  | lst b off len cap k es c h1 h1' h2 h3 h4 => exact .inr ⟨b, off, len, cap, k, c, rfl, h1, h2, h3, h4⟩
theorem rep_raw {w : World} {S : Nat → Nat → Prop} {v x : Value} (h : RepD w S v (.raw x)) : v = x := by cases h; rfl
theorem rep_tree {w : World} {S : Nat → Nat → Prop} {v : Value} {t : T_api_Tree} (h : RepD w S v t.toD) : ∃ nums kids, v = .agg #[.int .i64 t.kind, .int .i64 t.fn, .int .i64 t.axis, .string t.name, nums, kids] ∧ RepD w S nums (.lst (t.nums.map intD)) ∧ RepD w S kids (.lst (t.kids.map T_api_Tree.toD)) := by
  rw [T_api_Tree.toD_eq, T_api_Tree.ex, T_api_Tree.toDs_eq] at h
  cases h with
  | agg vs cs h1 h2 =>
    obtain ⟨l⟩ := vs
    match l, h1 with
    | [v0, v1, v2, v3, v4, v5], _ =>
      have e0 := rep_raw (h2 0 v0 _ rfl rfl)
      have e1 := rep_raw (h2 1 v1 _ rfl rfl)
      have e2 := rep_raw (h2 2 v2 _ rfl rfl)
      have e3 := rep_raw (h2 3 v3 _ rfl rfl)
      subst e0; subst e1; subst e2; subst e3
      exact ⟨v4, v5, rfl, h2 4 v4 _ rfl rfl, h2 5 v5 _ rfl rfl⟩
theorem clone_rep {w : World} {S : Nat → Nat → Prop} {v : Value} {ns : List Int} (hS : ∀ b o, S b o → b < w.heap.size) (hm : ns.length ≤ 1000000) (h : RepD w S v (.lst (ns.map intD))) :
    Calls prog 24 #[v] w fun e w' => ∃ v', e = .returned v' ∧ Below w.heap.size w w' ∧ NumsOK w' (fun b => w.heap.size ≤ b ∧ b < w'.heap.size) v' := by
  rcases rep_lst h with ⟨he, rfl | ⟨a, cap, rfl⟩⟩ | ⟨b, off, len, cap, k, c, rfl, hl, hk, hc, hr⟩
  · refine (clone_nil w).mono ?_
    rintro e w' ⟨rfl, hb⟩
    exact ⟨_, rfl, hb, .inl ⟨none, 0, rfl⟩⟩
  · refine (clone_empty a cap w).mono ?_
    rintro e w' ⟨ad, c, rfl, hb⟩
    exact ⟨_, rfl, hb, .inl ⟨ad, c, rfl⟩⟩
  · rw [List.length_map] at hl
    by_cases h0 : len = 0
    · subst h0
      refine (clone_empty _ cap w).mono ?_
      rintro e w' ⟨ad, c, rfl, hb⟩
      exact ⟨_, rfl, hb, .inl ⟨ad, c, rfl⟩⟩
    · have hk1 : k = 1 := by
        have : (intD (ns[0]'(by omega))) ∈ ns.map intD := List.mem_map.2 ⟨_, List.getElem_mem (by omega), rfl⟩
        rw [← hk _ this]; rfl
      subst hk1
      refine clone_some b off len cap ns w hl.symm (by omega) (by omega) (hS _ _ (hc 0 (by omega)).2) fun j n hj => ?_
      have hjl : j < len := by rw [hl]; exact (List.getElem?_eq_some_iff.1 hj).1
      rw [(hc j (by omega)).1]
      have := hr j 0 (intD n) (intD n) (by simp [hj]) rfl
      rw [Nat.mul_one, Nat.add_zero] at this
      rw [rep_raw this]
end Go.Proofs.Tryd
namespace Go.Proofs.Tryd
open Go Go.RowKit Go.Pm
/-- a tree with few numbers and kids at each node -/
def TB : Nat → T_api_Tree → Prop
  | 0, _ => False
  | k + 1, t => t.nums.length ≤ 1000000 ∧ t.kids.length ≤ 1000000 ∧ ∀ x ∈ t.kids, TB k x
def newB (w w' : World) (b : Nat) : Prop := w.heap.size ≤ b ∧ b < w'.heap.size
theorem rep_below {w w' : World} {S : Nat → Nat → Prop} {v : Value} {d : Dat} (hS : ∀ b o, S b o → b < w.heap.size) (hb : Below w.heap.size w w') (h : RepD w S v d) : RepD w' S v d :=
  h.mono (fun _ _ h => h) fun b o hs => hb.cell (hS b o hs)

theorem kid_rep {w : World} {S : Nat → Nat → Prop} {v : Value} {l : List T_api_Tree} (h : RepD w S v (.lst (l.map T_api_Tree.toD))) : ∃ ka kl kc, v = .slice ka kl kc ∧ kl = l.length ∧ ∀ i (h : i < l.length), ∃ b off, ka = some ⟨b, off, none⟩ ∧ S b (off + i * 6) ∧ ∃ x0 x1 x2 x3 x4 x5,
    w.cell? ⟨b, off + i * 6, none⟩ = some x0 ∧ w.cell? ⟨b, off + i * 6 + 1, none⟩ = some x1 ∧ w.cell? ⟨b, off + i * 6 + 2, none⟩ = some x2 ∧ w.cell? ⟨b, off + i * 6 + 3, none⟩ = some x3 ∧ w.cell? ⟨b, off + i * 6 + 4, none⟩ = some x4 ∧ w.cell? ⟨b, off + i * 6 + 5, none⟩ = some x5 ∧
    RepD w S (.agg #[x0, x1, x2, x3, x4, x5]) (l[i]).toD := by
  rcases rep_lst h with ⟨he, hv⟩ | ⟨b, off, len, cap, k, c, rfl, hl, hk, hc, hr⟩
  · have : l = [] := by simpa using he
    subst this
    rcases hv with rfl | ⟨a, cap, rfl⟩
    · exact ⟨none, 0, 0, rfl, rfl, fun i h => by simp at h⟩
    · exact ⟨some a, 0, cap, rfl, rfl, fun i h => by simp at h⟩
  · rw [List.length_map] at hl
    refine ⟨_, len, cap, rfl, hl, fun i hi => ?_⟩
    have hk6 : k = 6 := by
      rw [← hk (l[i].toD) (List.mem_map.2 ⟨_, List.getElem_mem hi, rfl⟩)]
      rw [T_api_Tree.toD_eq]; rfl
    subst hk6
    have e : ∀ j, j < 6 → i * 6 + j < len * 6 := fun j hj => by omega
    have q0 := hc (i * 6) (by have := e 0 (by omega); omega)
    have q1 := hc (i * 6 + 1) (e 1 (by omega))
    have q2 := hc (i * 6 + 2) (e 2 (by omega))
    have q3 := hc (i * 6 + 3) (e 3 (by omega))
    have q4 := hc (i * 6 + 4) (e 4 (by omega))
    have q5 := hc (i * 6 + 5) (e 5 (by omega))
    simp only [← Nat.add_assoc] at q1 q2 q3 q4 q5
    refine ⟨b, off, rfl, q0.2, _, _, _, _, _, _, q0.1, q1.1, q2.1, q3.1, q4.1, q5.1, ?_⟩
    have hd : (l.map T_api_Tree.toD)[i]? = some (l[i].toD) := by simp [hi]
    rw [T_api_Tree.toD_eq, T_api_Tree.ex] at hd ⊢
    refine .agg _ _ rfl fun j u d hj hd' => ?_
    have := hr i j _ d hd hd'
    match j, hj with
    | 0, hj => simp at hj; subst hj; exact this
    | 1, hj => simp at hj; subst hj; exact this
    | 2, hj => simp at hj; subst hj; exact this
    | 3, hj => simp at hj; subst hj; exact this
    | 4, hj => simp at hj; subst hj; exact this
    | 5, hj => simp at hj; subst hj; exact this
    | j + 6, hj => simp at hj
theorem two_blocks (w : World) (o o' : Obj) : ((w.alloc o).alloc o').heap[w.heap.size]? = some o ∧ ((w.alloc o).alloc o').heap[w.heap.size + 1]? = some o' := by
  have hs : (w.alloc o).heap.size = w.heap.size + 1 := by simp
  constructor
  · rw [Below.heap_alloc _ _ _ (by omega)]; exact heap_alloc_new w o
  · rw [← hs]; exact heap_alloc_new _ _
theorem rep_slice {w : World} {S : Nat → Nat → Prop} {v : Value} {es : List Dat} (h : RepD w S v (.lst es)) : ∃ a l c, v = .slice a l c := by
  rcases rep_lst h with ⟨_, rfl | ⟨a, cap, rfl⟩⟩ | ⟨b, off, len, cap, k, c, rfl, _⟩ <;> exact ⟨_, _, _, rfl⟩
theorem own_slice {w : World} {base : Nat} {e : TypeId} {size : Nat} {v : Value} {n : Nat} {xs : List Value} (h : w.ownsRow base e size v n xs) : ∃ a c, v = .slice a n c := by
  obtain ⟨h1, ⟨rfl, rfl⟩ | ⟨g, cap, cur, rfl, _⟩⟩ := h <;> exact ⟨_, _, rfl⟩
theorem setCell_at {w : World} {b o : Nat} {cur : Array Value} {e : TypeId} {fz : Nat × Nat} {v : Value} (h : w.heap[b]? = some (.cells cur e fz)) : (w.setCell ⟨b, o, none⟩ v).heap[b]? = some (.cells (cur.setIfInBounds o v) e fz) := by
  simp [World.setCell, Array.getElem?_modify, h]
theorem struct25b : (prog.underlying 25).map (fun d => match d with | .struct _ => true | _ => false) = some true := by kernel_rfl
theorem struct25 : ∃ fs, prog.underlying 25 = some (.struct fs) := by
  obtain ⟨d, h1, h2⟩ := Option.map_eq_some_iff.1 struct25b
  cases d with
  | struct fs => exact ⟨fs, h1⟩
  | _ => simp at h2
theorem seven {B : Nat} {w wr : World} (h : Below B w wr) (n : Nat) (hn : B ≤ n) (a1 a2 a3 a4 a5 a6 a7 : Value) : ∃ WF, WF = (((((((wr.setCell { block := n, off := 5 } a1).setCell { block := n + 1, off := 0 } a2).setCell { block := n + 1, off := 1 } a3).setCell
    { block := n + 1, off := 2 } a4).setCell { block := n + 1, off := 3 } a5).setCell { block := n + 1, off := 4 } a6).setCell { block := n + 1, off := 5 } a7) ∧ Below B w WF ∧ WF.heap.size = wr.heap.size ∧ ∀ b, b ≠ n → b ≠ n + 1 → WF.heap[b]? = wr.heap[b]? := by
  have hn1 : B ≤ n + 1 := by omega
  refine ⟨_, rfl, ((((((h.setCell hn _).setCell hn1 _).setCell hn1 _).setCell hn1 _).setCell hn1 _).setCell hn1 _).setCell hn1 _, by simp [World.setCell], fun b h0 h1 => ?_⟩
  rw [Below.heap_setCell _ _ _ _ h1, Below.heap_setCell _ _ _ _ h1, Below.heap_setCell _ _ _ _ h1, Below.heap_setCell _ _ _ _ h1, Below.heap_setCell _ _ _ _ h1, Below.heap_setCell _ _ _ _ h1, Below.heap_setCell _ _ _ _ h0]
/-- the kids that have been copied -/
def RowOK (w : World) (B k : Nat) (v : Value) (j : Nat) (xs : List Value) : Prop :=
  ∀ i, i < j → ∃ x0 x1 x2 x3 x4 x5, xs[i * 6]? = some x0 ∧ xs[i * 6 + 1]? = some x1 ∧ xs[i * 6 + 2]? = some x2 ∧ xs[i * 6 + 3]? = some x3 ∧ xs[i * 6 + 4]? = some x4 ∧ xs[i * 6 + 5]? = some x5 ∧
    Sh w (fun b => B ≤ b ∧ b < w.heap.size ∧ v.ownBlock ≠ some b) k (.agg #[x0, x1, x2, x3, x4, x5])
set_option maxHeartbeats 3200000 in
set_option maxRecDepth 1000000 in
theorem copy_any : ∀ (k : Nat) (t : T_api_Tree), TB k t → ∀ (w : World) (S : Nat → Nat → Prop) (v : Value), (∀ b o, S b o → b < w.heap.size) → RepD w S v t.toD →
    Calls prog 16 #[v] w fun e w' => ∃ v', e = .returned v' ∧ Below w.heap.size w w' ∧ Sh w' (newB w w') k v' := by
  intro k
  induction k with
  | zero => intro t h; simp [TB] at h
  | succ k ih =>
    intro t htb w S v hS hr
    obtain ⟨htn, htk, hkids⟩ := htb
    obtain ⟨nums, kids, rfl, hn, hk⟩ := rep_tree hr
    obtain ⟨ka, kl, kc, rfl, hkl, hkid⟩ := kid_rep hk
    clear hr hk
    obtain ⟨i0, hi, hz0, hz1, hz2⟩ := info_parts info25
    generalize t.kind = tk
    generalize t.fn = tf
    generalize t.axis = ta
    generalize t.name = tm
    have HK : Hid (∀ x ∈ t.kids, TB k x) := hkids
    have HKID := @id (Hid _) hkid
    have HKL : Hid (kl = t.kids.length) := hkl
    clear hkids hkid hkl
    go_enter Tryd.func16, Tryd.ntmps16
    go_wp2_with fail
    have hb1 : ∀ o o', Below w.heap.size w ((w.alloc o).alloc o') := fun o o' => ((Below.refl _ _).alloc (Nat.le_refl _) _).alloc (by simp) _
    refine Calls.mono (clone_rep (S := S) (fun b o h => Nat.lt_of_lt_of_le (hS b o h) (hb1 _ _).size) htn (rep_below hS (hb1 _ _) hn)) ?_
    rintro e w2 ⟨nv, rfl, hb2, hnn⟩
    obtain ⟨na, nl, nc, rfl⟩ : ∃ na nl nc, nv = .slice na nl nc := by
      rcases hnn with ⟨ad, cap, rfl⟩ | ⟨b, len, cap, rfl, _⟩ <;> exact ⟨_, _, _, rfl⟩
    obtain ⟨hB0, hB1⟩ := two_blocks w (Obj.cells #[Value.int IntKind.i64 tk, Value.int IntKind.i64 tf, Value.int IntKind.i64 ta, Value.string tm, nums, Value.slice ka kl kc] 25)
      (Obj.cells #[Value.int IntKind.i64 0, Value.int IntKind.i64 0, Value.int IntKind.i64 0, Value.string { data := #[] }, Value.slice none 0 0, Value.slice none 0 0] 25)
    rw [← hb2.block _ (by simp; omega)] at hB0
    rw [← hb2.block _ (by simp)] at hB1
    have c4 := cell_of hB0 4
    have c5 := cell_of hB0 5
    simp only [List.getElem?_toArray, List.getElem?_cons_succ, List.getElem?_cons_zero] at c4 c5
    obtain ⟨c4, f4⟩ := c4
    obtain ⟨c5, f5⟩ := c5
    go_wp2_with fail
    obtain ⟨W2, hW2⟩ : ∃ W2, W2 = w2.setCell ⟨w.heap.size, 4, none⟩ (Value.slice na nl nc) := ⟨_, rfl⟩
    rw [← hW2]
    have hsz1 : w.heap.size + 2 ≤ w2.heap.size := by have := hb2.size; simp at this; omega
    have hszW : W2.heap.size = w2.heap.size := by rw [hW2]; simp [World.setCell]
    have hBW : Below w.heap.size w W2 := by rw [hW2]; exact ((hb1 _ _).trans (hb2.mono (by simp; omega))).setCell (Nat.le_refl _) _
    have HC : Hid ((∀ j u, (#[Value.int IntKind.i64 tk, Value.int IntKind.i64 tf, Value.int IntKind.i64 ta, Value.string tm, Value.slice na nl nc, Value.slice ka kl kc] : Array Value)[j]? = some u → W2.cell? ⟨w.heap.size, j, none⟩ = some u) ∧ (∀ j, W2.frozen? ⟨w.heap.size, j, none⟩ = false) ∧
        (∀ j u, (#[Value.int IntKind.i64 0, Value.int IntKind.i64 0, Value.int IntKind.i64 0, Value.string { data := #[] }, Value.slice none 0 0, Value.slice none 0 0] : Array Value)[j]? = some u → W2.cell? ⟨w.heap.size + 1, j, none⟩ = some u) ∧ (∀ j, W2.frozen? ⟨w.heap.size + 1, j, none⟩ = false) ∧
        W2.heap[w.heap.size + 1]? = some (.cells #[Value.int IntKind.i64 0, Value.int IntKind.i64 0, Value.int IntKind.i64 0, Value.string { data := #[] }, Value.slice none 0 0, Value.slice none 0 0] 25 (0, 0)) ∧
        NumsOK W2 (fun b => w.heap.size + 2 ≤ b ∧ b < W2.heap.size) (Value.slice na nl nc)) := by
      refine ⟨fun j u hj => ?_, fun j => ?_, fun j u hj => ?_, fun j => ?_, ?_, ?_⟩
      · rw [hW2]
        by_cases h4 : j = 4
        · subst h4
          rw [World.cell?_setCell_same _ _ _ c4]
          simpa using hj
        · rw [World.cell?_setCell_other _ _ _ _ (fun h => h4 (congrArg Addr.off h).symm), (cell_of hB0 j).1]
          match j, hj with
          | 0, hj => exact hj
          | 1, hj => exact hj
          | 2, hj => exact hj
          | 3, hj => exact hj
          | 4, hj => exact absurd rfl h4
          | 5, hj => exact hj
          | j + 6, hj => simp at hj
      · rw [hW2, World.frozen?_setCell]; exact (cell_of hB0 j).2
      · rw [hW2, World.cell?_setCell_other _ _ _ _ (by intro h; simp at h), (cell_of hB1 j).1]; exact hj
      · rw [hW2, World.frozen?_setCell]; exact (cell_of hB1 j).2
      · rw [hW2, Below.heap_setCell _ _ _ _ (by simp)]; exact hB1
      · refine hnn.move fun b hb => ⟨⟨by have := hb.1; simp at this; omega, by rw [hszW]; exact hb.2⟩, ?_⟩
        rw [hW2]
        exact Below.heap_setCell _ _ _ _ (by have := hb.1; simp at this ⊢; omega)
    rw [← hszW] at hsz1
    clear hW2 hB0 hB1 c4 c5 f4 f5 hnn hb2 hszW
    go_loopw [3, 13] (fun v i wr => ∃ (j : Nat) (xs : List Value), j ≤ kl ∧ i = .int .i64 j ∧ Below W2.heap.size W2 wr ∧ wr.ownsRow W2.heap.size 25 6 v j xs ∧ RowOK wr W2.heap.size k v j xs) (fun _ i _ => kl - (intOf i).toNat)
    case atStart => exact ⟨0, [], Nat.zero_le _, rfl, Below.refl _ _, World.ownsRow_nil _ _ _ _, fun i h => absurd h (Nat.not_lt_zero _)⟩
    case round =>
      obtain ⟨j, xs, hj, rfl, hbr, hown, hrow⟩ := hrel
      have hBr : Below w.heap.size w wr := hBW.trans (hbr.mono (by omega))
      by_cases hlt : j < kl
      · obtain ⟨b, off, hka, hsb, x0, x1, x2, x3, x4, x5, hx0, hx1, hx2, hx3, hx4, hx5, hrep⟩ := HKID.out j (by rw [← HKL.out]; exact hlt)
        have hbw := hS _ _ hsb
        subst hka
        obtain ⟨nu, ki, he, hnu, hki⟩ := rep_tree hrep
        simp only [Value.agg.injEq, Array.mk.injEq, List.cons.injEq, and_true] at he
        obtain ⟨rfl, rfl, rfl, rfl, rfl, rfl⟩ := he
        obtain ⟨ua, ul, uc, rfl⟩ := rep_slice hnu
        obtain ⟨va, vl, vc, rfl⟩ := rep_slice hki
        clear hnu hki
        rw [← hBr.cell (p := ⟨b, off + j * 6, none⟩) hbw] at hx0
        rw [← hBr.cell (p := ⟨b, off + j * 6 + 1, none⟩) hbw] at hx1
        rw [← hBr.cell (p := ⟨b, off + j * 6 + 2, none⟩) hbw] at hx2
        rw [← hBr.cell (p := ⟨b, off + j * 6 + 3, none⟩) hbw] at hx3
        rw [← hBr.cell (p := ⟨b, off + j * 6 + 4, none⟩) hbw] at hx4
        rw [← hBr.cell (p := ⟨b, off + j * 6 + 5, none⟩) hbw] at hx5
        have HT := @id (Hid (TB k t.kids[j])) (HK.out _ (List.getElem_mem _))
        have HR : Hid (RepD w S _ _) := hrep
        clear hrep
        generalize t.kids[j] = tj at *
        obtain ⟨sa, sc, rfl⟩ := own_slice hown
        have hkl1 : kl ≤ 1000000 := by have := HKL.out; omega
        go_wp2_with fail
        have hB3 : ∀ o, Below w.heap.size w (wr.alloc o) := fun o => hBr.alloc hBr.size o
        refine Calls.mono (ih tj HT.out _ S _ (fun b o h => Nat.lt_of_lt_of_le (hS b o h) (hB3 _).size) (rep_below hS (hB3 _) HR.out)) ?_
        rintro e w4 ⟨v4, rfl, hb4, hsh⟩
        obtain ⟨k', rfl⟩ : ∃ k', k = k' + 1 := by
          cases k with
          | zero => simp [Sh] at hsh
          | succ k => exact ⟨k, rfl⟩
        obtain ⟨y0, y1, y2, y3, y4, y5, rfl, hn4, hk4⟩ := id hsh
        obtain ⟨oa, ol, oc, rfl⟩ : ∃ a l c, y4 = .slice a l c := by
          rcases hn4 with ⟨ad, cap, rfl⟩ | ⟨b, len, cap, rfl, _⟩ <;> exact ⟨_, _, _, rfl⟩
        obtain ⟨pa, pl, pc, rfl⟩ : ∃ a l c, y5 = .slice a l c := by
          rcases hk4 with ⟨ad, cap, rfl⟩ | ⟨b, len, cap, rfl, _⟩ <;> exact ⟨_, _, _, rfl⟩
        clear hn4 hk4
        have HS4 := @id (Hid _) hsh
        clear hsh
        have hsz3 : ∀ o, (wr.alloc o).heap.size = wr.heap.size + 1 := fun o => by simp
        have hsz4 : wr.heap.size + 1 ≤ w4.heap.size := by have := hb4.size; simp at this; exact this
        have hblk : ∀ g, g < wr.heap.size → ∀ o, (w4.alloc o).heap[g]? = wr.heap[g]? := fun g hg o => by
          rw [Below.heap_alloc _ _ _ (by omega), hb4.block g (by simp; omega), Below.heap_alloc _ _ _ hg]
        have hown4 : ∀ o, (w4.alloc o).ownsRow W2.heap.size 25 6 (.slice sa j sc) j xs := fun o => own_same hown fun g hg => by
          rcases own_block hown with q | ⟨g', q, _, q2⟩
          · rw [q] at hg; cases hg
          · rw [q] at hg; cases hg; exact hblk _ q2 o
        have hW24 : W2.heap.size ≤ wr.heap.size := hbr.size
        go_wp2_with (at_builtin; refine wpList_append_sep _ rfl _ _ 23 rfl W2.heap.size 25 i0 _ 6 88 under23 hi hz0 hz1 hz2 rfl (by decide) _ _ _ rfl (hown4 _) ⟨w4.heap.size, 0, none⟩ 1 1 [.int .i64 y0, .int .i64 y1, .int .i64 y2, .string y3, .slice oa ol oc, .slice pa pl pc] rfl rfl ?c1 ?c2 ?c3 ?c4 ?c5 ?_)
        case c1 =>
          intro q u hq
          match q, hq with
          | 0, hq => simp at hq; subst hq; simp [Addr.add]
          | 1, hq => simp at hq; subst hq; simp [Addr.add]
          | 2, hq => simp at hq; subst hq; simp [Addr.add]
          | 3, hq => simp at hq; subst hq; simp [Addr.add]
          | 4, hq => simp at hq; subst hq; simp [Addr.add]
          | 5, hq => simp at hq; subst hq; simp [Addr.add]
          | q + 6, hq => simp at hq
        case c2 => intro u hu; simp at hu; rcases hu with rfl | rfl | rfl | rfl | rfl | rfl <;> rfl
        case c3 => have := HKL.out; unfold maxLen; omega
        case c4 => have := HKL.out; omega
        case c5 => simp; omega
        intro v' w5 hown5 hgrow5 hsep5
        have HB5 : Hid (Below W2.heap.size W2 w5) := by
          refine (((hbr.alloc hW24 _).trans (hb4.mono (by simp; omega))).alloc (by omega) _).grown hgrow5 (by simp; omega) fun q hq => ?_
          rcases own_block hown with z | ⟨g', z, z1, _⟩
          · rw [z] at hq; cases hq
          · rw [z] at hq; cases hq; exact z1
        have HR5 : Hid (RowOK w5 W2.heap.size (k' + 1) v' (j + 1) (xs ++ [.int .i64 y0, .int .i64 y1, .int .i64 y2, .string y3, .slice oa ol oc, .slice pa pl pc])) := by
          have hx6 : xs.length = j * 6 := hown.1
          have h5 : ∀ b, b < w4.heap.size → (Value.slice sa j sc).ownBlock ≠ some b → ∀ o : Obj, (w4.alloc o).grownBy w5 (Value.slice sa j sc).ownBlock → w5.heap[b]? = w4.heap[b]? := fun b hb hne o hg => by
            rw [hg.block b (by simp; omega) (fun e => hne e.symm), Below.heap_alloc _ _ _ hb]
          have hs5 : w4.heap.size + 1 ≤ w5.heap.size := by have := hgrow5.size; simp at this; exact this
          intro i hi'
          by_cases hij : i < j
          · obtain ⟨x0, x1, x2, x3, x4, x5, g0, g1, g2, g3, g4, g5, hq⟩ := hrow i hij
            refine ⟨x0, x1, x2, x3, x4, x5, ?_, ?_, ?_, ?_, ?_, ?_, Sh.move (w := wr) (fun b hb => by
              have h1 := hb.1
              have h2 := hb.2.1
              refine ⟨⟨h1, by omega, fun hv => ?_⟩, ?_⟩
              · rcases hsep5 b hv with z | z
                · exact hb.2.2 z
                · omega
              · rw [h5 b (by omega) hb.2.2 _ hgrow5, hb4.block b (by simp; omega), Below.heap_alloc _ _ _ h2]) _ _ hq⟩
            · rw [List.getElem?_append_left (by omega)]; exact g0
            · rw [List.getElem?_append_left (by omega)]; exact g1
            · rw [List.getElem?_append_left (by omega)]; exact g2
            · rw [List.getElem?_append_left (by omega)]; exact g3
            · rw [List.getElem?_append_left (by omega)]; exact g4
            · rw [List.getElem?_append_left (by omega)]; exact g5
          · have hij' : i = j := by omega
            subst hij'
            have hne : ∀ b, wr.heap.size ≤ b → (Value.slice sa i sc).ownBlock ≠ some b := fun b hb hv => by
              rcases own_block hown with z | ⟨g', z, _, z2⟩
              · rw [z] at hv; cases hv
              · rw [z] at hv; cases hv; omega
            refine ⟨_, _, _, _, _, _, ?_, ?_, ?_, ?_, ?_, ?_, Sh.move (w := w4) (fun b hb => by
              have h1 : wr.heap.size + 1 ≤ b := by have := hb.1; simp at this; exact this
              have h2 := hb.2
              refine ⟨⟨by omega, by omega, fun hv => ?_⟩, h5 b h2 (hne b (by omega)) _ hgrow5⟩
              rcases hsep5 b hv with z | z
              · exact hne b (by omega) z
              · omega) _ _ HS4.out⟩
            · rw [List.getElem?_append_right (by omega), hx6, Nat.sub_self]; rfl
            · rw [List.getElem?_append_right (by omega), hx6, Nat.add_sub_cancel_left]; rfl
            · rw [List.getElem?_append_right (by omega), hx6, Nat.add_sub_cancel_left]; rfl
            · rw [List.getElem?_append_right (by omega), hx6, Nat.add_sub_cancel_left]; rfl
            · rw [List.getElem?_append_right (by omega), hx6, Nat.add_sub_cancel_left]; rfl
            · rw [List.getElem?_append_right (by omega), hx6, Nat.add_sub_cancel_left]; rfl
        clear hown hrow hgrow5 hsep5 hown4
        go_wp2_with fail
        exact ⟨⟨j + 1, _, by omega, by simp, HB5.out, hown5, HR5.out⟩, by simp [intOf]; omega⟩
      · obtain ⟨sa, sc, rfl⟩ := own_slice hown
        have e0 : ∀ o, wr.cell? ⟨w.heap.size, o, none⟩ = W2.cell? ⟨w.heap.size, o, none⟩ := fun o => hbr.cell (by show w.heap.size < _; omega)
        have e1 : ∀ o, wr.cell? ⟨w.heap.size + 1, o, none⟩ = W2.cell? ⟨w.heap.size + 1, o, none⟩ := fun o => hbr.cell (by show w.heap.size + 1 < _; omega)
        have g0 : ∀ o, wr.frozen? ⟨w.heap.size, o, none⟩ = false := fun o => (hbr.frozen (by show w.heap.size < _; omega)).trans (HC.out.2.1 o)
        have g1 : ∀ o, wr.frozen? ⟨w.heap.size + 1, o, none⟩ = false := fun o => (hbr.frozen (by show w.heap.size + 1 < _; omega)).trans (HC.out.2.2.2.1 o)
        have p0 := (e0 0).trans (HC.out.1 0 _ rfl)
        have p1 := (e0 1).trans (HC.out.1 1 _ rfl)
        have p2 := (e0 2).trans (HC.out.1 2 _ rfl)
        have p3 := (e0 3).trans (HC.out.1 3 _ rfl)
        have p4 := (e0 4).trans (HC.out.1 4 _ rfl)
        have p5 := (e0 5).trans (HC.out.1 5 _ rfl)
        have q0 := (e1 0).trans (HC.out.2.2.1 0 _ rfl)
        have q1 := (e1 1).trans (HC.out.2.2.1 1 _ rfl)
        have q2 := (e1 2).trans (HC.out.2.2.1 2 _ rfl)
        have q3 := (e1 3).trans (HC.out.2.2.1 3 _ rfl)
        have q4 := (e1 4).trans (HC.out.2.2.1 4 _ rfl)
        have q5 := (e1 5).trans (HC.out.2.2.1 5 _ rfl)
        clear e0 e1
        go_wp2_with fail
        obtain ⟨d25, hd25⟩ := struct25
        have hfin := setCell_at (o := 5) (v := Value.slice sa j sc) (setCell_at (o := 4) (v := Value.slice na nl nc) (setCell_at (o := 3) (v := Value.string tm) (setCell_at (o := 2) (v := Value.int IntKind.i64 ta) (setCell_at (o := 1) (v := Value.int IntKind.i64 tf) (setCell_at (o := 0) (v := Value.int IntKind.i64 tk)
          ((Below.heap_setCell wr ⟨w.heap.size, 5, none⟩ (Value.slice sa j sc) (w.heap.size + 1) (by simp)).trans ((hbr.block _ (by omega)).trans HC.out.2.2.2.2.1)))))))
        simp only [List.setIfInBounds_toArray, List.set_cons_zero, List.set_cons_succ] at hfin
        obtain ⟨WF, hWF, hBF, hsF, hsame⟩ := seven hBr w.heap.size (Nat.le_refl _) (Value.slice sa j sc) (Value.int IntKind.i64 tk) (Value.int IntKind.i64 tf) (Value.int IntKind.i64 ta) (Value.string tm) (Value.slice na nl nc) (Value.slice sa j sc)
        rw [← hWF] at hfin ⊢
        clear hWF
        refine bodyPost_ret (results_cell_row rfl _ _ (w.heap.size + 1) 25 _ (0, 0) _ rfl hfin hd25 rfl (by rw [hi]; simp [hz1])) rfl ?_
        have hjk : j = kl := by omega
        have hW24 : W2.heap.size ≤ wr.heap.size := hbr.size
        refine ⟨_, rfl, hBF, tk, tf, ta, tm, _, _, rfl, NumsOK.move (fun b hb => ?_) HC.out.2.2.2.2.2, ?_⟩
        · refine ⟨⟨by omega, by omega⟩, ?_⟩
          rw [hsame b (by omega) (by omega), hbr.block b hb.2]
        · obtain ⟨k1, ⟨he, rfl⟩ | ⟨g, cap, cur, he, k3, k4, k5, k6, k7, k8⟩⟩ := hown
          · exact .inl ⟨_, _, rfl⟩
          · simp only [Value.slice.injEq] at he
            obtain ⟨rfl, _, rfl⟩ := he
            have hgl : g < wr.heap.size := by
              rcases Nat.lt_or_ge g wr.heap.size with q | q
              · exact q
              · rw [Array.getElem?_eq_none (by omega)] at k4; cases k4
            refine .inr ⟨g, j, sc, rfl, ⟨⟨by omega, by omega⟩, by have := HKL.out; omega⟩, fun i hi => ?_⟩
            obtain ⟨x0, x1, x2, x3, x4, x5, h0, h1, h2, h3, h4, h5, hq⟩ := hrow i hi
            have hc : ∀ o x, xs[o]? = some x → WF.cell? ⟨g, o, none⟩ = some x := fun o x hx => by
              rw [World.cell?_of_block (w := wr) (hsame g (by omega) (by omega)), (cell_of k4 o).1]
              rw [← k8, List.getElem?_take] at hx
              split at hx
              · simpa using hx
              · cases hx
            refine ⟨x0, x1, x2, x3, x4, x5, hc _ _ h0, hc _ _ h1, hc _ _ h2, hc _ _ h3, hc _ _ h4, hc _ _ h5, ?_, Sh.move (w := wr) (fun b hb => ?_) _ _ hq⟩
            · rw [World.frozen?_of_block (w := wr) (hsame g (by omega) (by omega))]; exact (cell_of k4 _).2
            · exact ⟨⟨by omega, by omega⟩, hsame b (by omega) (by omega)⟩
end Go.Proofs.Tryd
namespace Go.Proofs.Tryd
open Go Go.RowKit Go.Pm
theorem glob_below {S S' : Nat → Nat → Prop} {w w' : World} (hS : ∀ b o, S b o → b < w.heap.size) (hb : Below w.heap.size w w') (hss : ∀ b o, S b o → S' b o) (h : GlobRep (gS S) w) : GlobRep (gS S') w' :=
  GlobRep.ext (N := 0) h ⟨hss, fun b o hs => hb.cell (hS b o hs), fun i hi => absurd hi (Nat.not_lt_zero _), fun t ht => absurd ht (Nat.not_lt_zero _)⟩
theorem tup2 {g : Gh} {w : World} {v : Value} {d : Dat} {n : Int} (h : RepV g 0 w v (.tup [.dat d, intPV n])) : ∃ a, v = .tuple #[a, .int .i64 n] ∧ RepD w g.S a d := by
  obtain ⟨vs, rfl, h1, h2⟩ := RepV.tupInv h
  obtain ⟨l⟩ := vs
  match l, h1 with
  | [a, b], _ =>
    have ha := (h2 0 a _ rfl rfl).datInv
    have hb := rep_raw ((h2 1 b _ rfl rfl).datInv)
    subst hb
    exact ⟨a, rfl, ha⟩
theorem pure_vals {w : World} {S : Nat → Nat → Prop} {v : Value} {d : Dat} (h : RepD w S v d) : ∀ (j : Nat) u e, (#[v] : Array Value)[j]? = some u → ([d] : List Dat)[j]? = some e → RepD w S u e := fun j u e hj he => by
  match j, hj, he with
  | 0, hj, he => simp at hj he; subst hj; subst he; exact h
  | j + 1, hj, he => simp at he
theorem pure2 {f : FuncId} {t s : T_api_Tree} {c : Int} (hp : PureCall prog f [t.toD] (.tup [.dat s.toD, intPV c])) {w : World} {S : Nat → Nat → Prop} {v : Value} (hS : ∀ b o, S b o → b < w.heap.size) (hr : RepD w S v t.toD) (hG : GlobRep (gS S) w) :
    Calls prog f #[v] w fun e w' => ∃ (a : Value) (S2 : Nat → Nat → Prop), e = .returned (.tuple #[a, .int .i64 c]) ∧ Below w.heap.size w w' ∧ (∀ b o, S2 b o → b < w'.heap.size) ∧ RepD w' S2 a s.toD := by
  refine Calls.mono (hp w S _ hS rfl (pure_vals hr) hG) ?_
  rintro e w2 ⟨v2, rfl, hb2, hr2⟩
  obtain ⟨a2, rfl, hra⟩ := tup2 hr2
  exact ⟨a2, _, rfl, hb2, fun b o h => by
    rcases h with h | h
    · exact Nat.lt_of_lt_of_le (hS b o h) hb2.size
    · exact h.2, hra⟩
theorem sh_agg {w : World} {S : Nat → Prop} {k : Nat} {v : Value} (h : Sh w S k v) : ∃ a b c nm na nl nc ka kl kc, v = .agg #[.int .i64 a, .int .i64 b, .int .i64 c, .string nm, .slice na nl nc, .slice ka kl kc] := by
  cases k with
  | zero => simp [Sh] at h
  | succ k =>
    obtain ⟨a, b, c, nm, nums, kids, rfl, h1, h2⟩ := h
    obtain ⟨na, nl, nc, rfl⟩ : ∃ a l c, nums = .slice a l c := by
      rcases h1 with ⟨ad, cap, rfl⟩ | ⟨b, len, cap, rfl, _⟩ <;> exact ⟨_, _, _, rfl⟩
    obtain ⟨ka, kl, kc, rfl⟩ : ∃ a l c, kids = .slice a l c := by
      rcases h2 with ⟨ad, cap, rfl⟩ | ⟨b, len, cap, rfl, _⟩ <;> exact ⟨_, _, _, rfl⟩
    exact ⟨_, _, _, _, _, _, _, _, _, _, rfl⟩
theorem tree_agg {w : World} {S : Nat → Nat → Prop} {v : Value} {t : T_api_Tree} (h : RepD w S v t.toD) : ∃ a b c nm na nl nc ka kl kc, v = .agg #[.int .i64 a, .int .i64 b, .int .i64 c, .string nm, .slice na nl nc, .slice ka kl kc] := by
  obtain ⟨nums, kids, rfl, h1, h2⟩ := rep_tree h
  obtain ⟨_, _, _, rfl⟩ := rep_slice h1
  obtain ⟨_, _, _, rfl⟩ := rep_slice h2
  exact ⟨_, _, _, _, _, _, _, _, _, _, rfl⟩
theorem put6 {B : Nat} {w wr : World} (h : Below B w wr) (n : Nat) (hn : B ≤ n) {z0 z1 z2 z3 z4 z5 : Value} (hB : wr.heap[n]? = some (.cells #[z0, z1, z2, z3, z4, z5] 25 (0, 0))) (a0 a1 a2 a3 a4 a5 : Value) : ∃ WF, WF = ((((((wr.setCell { block := n, off := 0 } a0).setCell { block := n, off := 1 } a1).setCell
    { block := n, off := 2 } a2).setCell { block := n, off := 3 } a3).setCell { block := n, off := 4 } a4).setCell { block := n, off := 5 } a5) ∧ Below B w WF ∧ WF.heap.size = wr.heap.size ∧ (∀ b, b ≠ n → WF.heap[b]? = wr.heap[b]?) ∧ WF.heap[n]? = some (.cells #[a0, a1, a2, a3, a4, a5] 25 (0, 0)) := by
  refine ⟨_, rfl, (((((h.setCell hn _).setCell hn _).setCell hn _).setCell hn _).setCell hn _).setCell hn _, by simp [World.setCell], fun b h0 => ?_, ?_⟩
  · rw [Below.heap_setCell _ _ _ _ h0, Below.heap_setCell _ _ _ _ h0, Below.heap_setCell _ _ _ _ h0, Below.heap_setCell _ _ _ _ h0, Below.heap_setCell _ _ _ _ h0, Below.heap_setCell _ _ _ _ h0]
  · have := setCell_at (o := 5) (v := a5) (setCell_at (o := 4) (v := a4) (setCell_at (o := 3) (v := a3) (setCell_at (o := 2) (v := a2) (setCell_at (o := 1) (v := a1) (setCell_at (o := 0) (v := a0) hB)))))
    simpa only [List.setIfInBounds_toArray, List.set_cons_zero, List.set_cons_succ] using this
set_option maxHeartbeats 1600000 in
set_option maxRecDepth 1000000 in
theorem simplify_any {t s : T_api_Tree} {c : Int} {k : Nat} (hp : PureCall prog 15 [t.toD] (.tup [.dat s.toD, intPV c])) (hs : TB k s) (w : World) (S : Nat → Nat → Prop) (v : Value) (hS : ∀ b o, S b o → b < w.heap.size) (hr : RepD w S v t.toD) (hG : GlobRep (gS S) w) :
    Calls prog 7 #[v] w fun e w' => ∃ v', e = .returned v' ∧ Below w.heap.size w w' ∧ Sh w' (newB w w') k v' := by
  obtain ⟨a, b, c', nm, na, nl, nc, ka, kl, kc, rfl⟩ := tree_agg hr
  have HP : Hid (PureCall prog 15 [t.toD] (.tup [.dat s.toD, intPV c])) := hp
  have HS : Hid (∀ b o, S b o → b < w.heap.size) := hS
  have HR := @id (Hid _) hr
  have HG := @id (Hid (GlobRep (gS S) w)) hG
  clear hp hS hr hG
  have hb1 : ∀ o o', Below w.heap.size w ((w.alloc o).alloc o') := fun o o' => ((Below.refl _ _).alloc (Nat.le_refl _) _).alloc (by simp) _
  go_enter Tryd.func7, Tryd.ntmps7
  go_wp2_with fail
  refine Calls.mono (pure2 HP.out (fun b o h => Nat.lt_of_lt_of_le (HS.out b o h) (hb1 _ _).size) (rep_below HS.out (hb1 _ _) HR.out) (glob_below HS.out (hb1 _ _) (fun _ _ h => h) HG.out)) ?_
  rintro e w2 ⟨a2, S2, rfl, hb2, hS2, hra⟩
  obtain ⟨p0, p1, p2, p3, p4, p5, p6, p7, p8, p9, rfl⟩ := tree_agg hra
  have HRA := @id (Hid _) hra
  have HS2 : Hid (∀ b o, S2 b o → b < w2.heap.size) := hS2
  clear hra hS2
  obtain ⟨_, hB1⟩ := two_blocks w (Obj.cells #[Value.int IntKind.i64 a, Value.int IntKind.i64 b, Value.int IntKind.i64 c', Value.string nm, Value.slice na nl nc, Value.slice ka kl kc] 25)
    (Obj.cells #[Value.int IntKind.i64 0, Value.int IntKind.i64 0, Value.int IntKind.i64 0, Value.string { data := #[] }, Value.slice none 0 0, Value.slice none 0 0] 25)
  rw [← hb2.block _ (by simp)] at hB1
  have hsz2 : w.heap.size + 2 ≤ w2.heap.size := by have := hb2.size; simp at this; omega
  have hbw2 : Below w.heap.size w w2 := (hb1 _ _).trans (hb2.mono (by simp; omega))
  go_wp2_with fail
  have hb3 : ∀ o, Below w2.heap.size w2 (w2.alloc o) := fun o => (Below.refl _ _).alloc (Nat.le_refl _) o
  refine Calls.mono (copy_any k s hs _ _ _ (fun b o h => Nat.lt_of_lt_of_le (HS2.out b o h) (hb3 _).size) (rep_below HS2.out (hb3 _) HRA.out)) ?_
  rintro e w4 ⟨v4, rfl, hb4, hsh⟩
  obtain ⟨q0, q1, q2, q3, q4, q5, q6, q7, q8, q9, rfl⟩ := sh_agg hsh
  have HSH := @id (Hid _) hsh
  clear hsh
  rw [← Below.heap_alloc w2 _ _ (by omega), ← hb4.block _ (by simp; omega)] at hB1
  have hsz4 : w2.heap.size + 1 ≤ w4.heap.size := by have := hb4.size; simp at this; exact this
  have hbw4 : Below w.heap.size w w4 := hbw2.trans ((hb3 _).mono (by omega) |>.trans (hb4.mono (by simp; omega)))
  obtain ⟨z0, z1⟩ := cell_of hB1 0
  obtain ⟨y0, y1⟩ := cell_of hB1 1
  obtain ⟨x0, x1⟩ := cell_of hB1 2
  obtain ⟨u0, u1⟩ := cell_of hB1 3
  obtain ⟨t0, t1⟩ := cell_of hB1 4
  obtain ⟨s0, s1⟩ := cell_of hB1 5
  simp only [List.getElem?_toArray, List.getElem?_cons_succ, List.getElem?_cons_zero] at z0 y0 x0 u0 t0 s0
  go_wp2_with fail
  obtain ⟨i0, hi, hz0, hz1, hz2⟩ := info_parts info25
  obtain ⟨d25, hd25⟩ := struct25
  obtain ⟨WF, hWF, hBF, hsF, hsame, hfin⟩ := put6 hbw4 (w.heap.size + 1) (Nat.le_succ _) hB1 (.int .i64 q0) (.int .i64 q1) (.int .i64 q2) (.string q3) (.slice q4 q5 q6) (.slice q7 q8 q9)
  rw [← hWF]
  refine bodyPost_ret (results_cell_row rfl _ _ (w.heap.size + 1) 25 _ (0, 0) _ rfl hfin hd25 rfl (by rw [hi]; simp [hz1])) rfl ?_
  refine ⟨_, rfl, hBF, Sh.move (w := w4) (fun b hb => ?_) _ _ HSH.out⟩
  have h1 : w2.heap.size + 1 ≤ b := by have := hb.1; simp at this; exact this
  have h2 := hb.2
  exact ⟨⟨by omega, by omega⟩, hsame b (by omega)⟩
theorem results_row_tmp {P : Program} {fn : Func} {p u : Tmp} {ty : TypeId} (h : fn.results = #[.cell p ty, .tmp u]) (tmps : Array Value) (w : World) (g : Nat) (t : TypeId) (cs : Array Value) (fr : Nat × Nat) (d : TypeDesc)
    (hp : tmps.getD p undef = .pointer (some ⟨g, 0, none⟩)) (hg : w.heap[g]? = some (.cells cs t fr))
    (hu : P.underlying ty = some d) (hd : (match d with | .struct _ | .array _ _ => true | _ => false) = true) (hi : (P.info? ty).map (·.size) = some cs.size) :
    (results fn tmps).run P w = .ok (.tuple #[.agg cs, tmps.getD u undef]) w := by
  rw [results_cell_tmp h, hp]
  simp [asAddr, run_loadVar_row w g t ty cs fr d hg hu hd hi, Result.andThen]
set_option maxHeartbeats 1600000 in
set_option maxRecDepth 1000000 in
theorem rule_any {t s : T_api_Tree} {c : Int} {k : Nat} (hp : PureCall prog 17 [t.toD] (.tup [.dat s.toD, intPV c])) (hs : TB k s) (w : World) (S : Nat → Nat → Prop) (v : Value) (hS : ∀ b o, S b o → b < w.heap.size) (hr : RepD w S v t.toD) (hG : GlobRep (gS S) w) :
    Calls prog 8 #[v] w fun e w' => ∃ v', e = .returned (.tuple #[v', .int .i64 c]) ∧ Below w.heap.size w w' ∧ Sh w' (newB w w') k v' := by
  obtain ⟨a, b, c', nm, na, nl, nc, ka, kl, kc, rfl⟩ := tree_agg hr
  have HP : Hid (PureCall prog 17 [t.toD] (.tup [.dat s.toD, intPV c])) := hp
  have HS : Hid (∀ b o, S b o → b < w.heap.size) := hS
  have HR := @id (Hid _) hr
  have HG := @id (Hid (GlobRep (gS S) w)) hG
  clear hp hS hr hG
  have hb1 : ∀ o o', Below w.heap.size w ((w.alloc o).alloc o') := fun o o' => ((Below.refl _ _).alloc (Nat.le_refl _) _).alloc (by simp) _
  go_enter Tryd.func8, Tryd.ntmps8
  go_wp2_with fail
  refine Calls.mono (pure2 HP.out (fun b o h => Nat.lt_of_lt_of_le (HS.out b o h) (hb1 _ _).size) (rep_below HS.out (hb1 _ _) HR.out) (glob_below HS.out (hb1 _ _) (fun _ _ h => h) HG.out)) ?_
  rintro e w2 ⟨a2, S2, rfl, hb2, hS2, hra⟩
  obtain ⟨p0, p1, p2, p3, p4, p5, p6, p7, p8, p9, rfl⟩ := tree_agg hra
  have HRA := @id (Hid _) hra
  have HS2 : Hid (∀ b o, S2 b o → b < w2.heap.size) := hS2
  clear hra hS2
  obtain ⟨_, hB1⟩ := two_blocks w (Obj.cells #[Value.int IntKind.i64 a, Value.int IntKind.i64 b, Value.int IntKind.i64 c', Value.string nm, Value.slice na nl nc, Value.slice ka kl kc] 25)
    (Obj.cells #[Value.int IntKind.i64 0, Value.int IntKind.i64 0, Value.int IntKind.i64 0, Value.string { data := #[] }, Value.slice none 0 0, Value.slice none 0 0] 25)
  rw [← hb2.block _ (by simp)] at hB1
  have hsz2 : w.heap.size + 2 ≤ w2.heap.size := by have := hb2.size; simp at this; omega
  have hbw2 : Below w.heap.size w w2 := (hb1 _ _).trans (hb2.mono (by simp; omega))
  go_wp2_with fail
  have hb3 : ∀ o, Below w2.heap.size w2 (w2.alloc o) := fun o => (Below.refl _ _).alloc (Nat.le_refl _) o
  refine Calls.mono (copy_any k s hs _ _ _ (fun b o h => Nat.lt_of_lt_of_le (HS2.out b o h) (hb3 _).size) (rep_below HS2.out (hb3 _) HRA.out)) ?_
  rintro e w4 ⟨v4, rfl, hb4, hsh⟩
  obtain ⟨q0, q1, q2, q3, q4, q5, q6, q7, q8, q9, rfl⟩ := sh_agg hsh
  have HSH := @id (Hid _) hsh
  clear hsh
  rw [← Below.heap_alloc w2 _ _ (by omega), ← hb4.block _ (by simp; omega)] at hB1
  have hsz4 : w2.heap.size + 1 ≤ w4.heap.size := by have := hb4.size; simp at this; exact this
  have hbw4 : Below w.heap.size w w4 := hbw2.trans ((hb3 _).mono (by omega) |>.trans (hb4.mono (by simp; omega)))
  obtain ⟨z0, z1⟩ := cell_of hB1 0
  obtain ⟨y0, y1⟩ := cell_of hB1 1
  obtain ⟨x0, x1⟩ := cell_of hB1 2
  obtain ⟨u0, u1⟩ := cell_of hB1 3
  obtain ⟨t0, t1⟩ := cell_of hB1 4
  obtain ⟨s0, s1⟩ := cell_of hB1 5
  simp only [List.getElem?_toArray, List.getElem?_cons_succ, List.getElem?_cons_zero] at z0 y0 x0 u0 t0 s0
  go_wp2_with fail
  obtain ⟨i0, hi, hz0, hz1, hz2⟩ := info_parts info25
  obtain ⟨d25, hd25⟩ := struct25
  obtain ⟨WF, hWF, hBF, hsF, hsame, hfin⟩ := put6 hbw4 (w.heap.size + 1) (Nat.le_succ _) hB1 (.int .i64 q0) (.int .i64 q1) (.int .i64 q2) (.string q3) (.slice q4 q5 q6) (.slice q7 q8 q9)
  rw [← hWF]
  refine bodyPost_ret (results_row_tmp rfl _ _ (w.heap.size + 1) 25 _ (0, 0) _ rfl hfin hd25 rfl (by rw [hi]; simp [hz1])) rfl ?_
  refine ⟨_, rfl, hBF, Sh.move (w := w4) (fun b hb => ?_) _ _ HSH.out⟩
  have h1 : w2.heap.size + 1 ≤ b := by have := hb.1; simp at this; exact this
  have h2 := hb.2
  exact ⟨⟨by omega, by omega⟩, hsame b (by omega)⟩
end Go.Proofs.Tryd
namespace Go.Proofs.Tryd
open Go Go.RowKit Go.Pm
theorem pureB {f : FuncId} {ds : List Dat} {b : Bool} (hp : PureCall prog f ds (boolPV b)) {w : World} {S : Nat → Nat → Prop} {vals : Array Value} (hS : ∀ b o, S b o → b < w.heap.size) (hn : vals.size = ds.length) (hr : ∀ (j : Nat) v d, vals[j]? = some v → ds[j]? = some d → RepD w S v d) (hG : GlobRep (gS S) w) :
    Calls prog f vals w fun e w' => e = .returned (.bool b) ∧ Below w.heap.size w w' := by
  refine Calls.mono (hp w S _ hS hn hr hG) ?_
  rintro e w2 ⟨v2, rfl, hb2, hr2⟩
  have := rep_raw (hr2.datInv)
  subst this
  exact ⟨rfl, hb2⟩
theorem pure1 {f : FuncId} {t s : T_api_Tree} (hp : PureCall prog f [t.toD] (.dat s.toD)) {w : World} {S : Nat → Nat → Prop} {v : Value} (hS : ∀ b o, S b o → b < w.heap.size) (hr : RepD w S v t.toD) (hG : GlobRep (gS S) w) :
    Calls prog f #[v] w fun e w' => ∃ (a : Value) (S2 : Nat → Nat → Prop), e = .returned a ∧ Below w.heap.size w w' ∧ (∀ b o, S2 b o → b < w'.heap.size) ∧ (∀ b o, S b o → S2 b o) ∧ RepD w' S2 a s.toD := by
  refine Calls.mono (hp w S _ hS rfl (pure_vals hr) hG) ?_
  rintro e w2 ⟨v2, rfl, hb2, hr2⟩
  exact ⟨v2, _, rfl, hb2, fun b o h => by
    rcases h with h | h
    · exact Nat.lt_of_lt_of_le (hS b o h) hb2.size
    · exact h.2, fun b o h => .inl h, hr2.datInv⟩
theorem six {w : World} {n : Nat} {a0 a1 a2 a3 a4 a5 : Value} (h : w.heap[n]? = some (.cells #[a0, a1, a2, a3, a4, a5] 25 (0, 0))) : w.cell? ⟨n, 0, none⟩ = some a0 ∧ w.cell? ⟨n, 1, none⟩ = some a1 ∧ w.cell? ⟨n, 2, none⟩ = some a2 ∧ w.cell? ⟨n, 3, none⟩ = some a3 ∧ w.cell? ⟨n, 4, none⟩ = some a4 ∧ w.cell? ⟨n, 5, none⟩ = some a5 :=
  ⟨(cell_of h 0).1, (cell_of h 1).1, (cell_of h 2).1, (cell_of h 3).1, (cell_of h 4).1, (cell_of h 5).1⟩
theorem pure_vals2 {w : World} {S : Nat → Nat → Prop} {v : Value} {d : Dat} (h : RepD w S v d) : ∀ (j : Nat) u e, (#[v, .int .i64 300] : Array Value)[j]? = some u → ([d, intD 300] : List Dat)[j]? = some e → RepD w S u e := fun j u e hj he => by
  match j, hj, he with
  | 0, hj, he => simp at hj he; subst hj; subst he; exact h
  | 1, hj, he => simp at hj he; subst hj; subst he; exact .raw _ rfl
  | j + 2, hj, he => simp at he
theorem pure_valsB {w : World} {S : Nat → Nat → Prop} {v v' : Value} {d d' : Dat} (h : RepD w S v d) (h' : RepD w S v' d') : ∀ (j : Nat) u e, (#[v, v'] : Array Value)[j]? = some u → ([d, d'] : List Dat)[j]? = some e → RepD w S u e := fun j u e hj he => by
  match j, hj, he with
  | 0, hj, he => simp at hj he; subst hj; subst he; exact h
  | 1, hj, he => simp at hj he; subst hj; subst he; exact h'
  | j + 2, hj, he => simp at he
set_option maxHeartbeats 1600000 in
set_option maxRecDepth 1000000 in
theorem law_no {t : T_api_Tree} (hA : PureCall prog 4 [] (boolPV true)) (hSm : PureCall prog 5 [t.toD, intD 300] (boolPV false)) (w : World) (S : Nat → Nat → Prop) (v : Value) (hS : ∀ b o, S b o → b < w.heap.size) (hr : RepD w S v t.toD) (hG : GlobRep (gS S) w) :
    Calls prog 3 #[v] w fun e w' => e = .returned (.bool true) ∧ Below w.heap.size w w' := by
  obtain ⟨a, b, c', nm, na, nl, nc, ka, kl, kc, rfl⟩ := tree_agg hr
  have HA : Hid (PureCall prog 4 [] (boolPV true)) := hA
  have HSm := @id (Hid _) hSm
  have HS : Hid (∀ b o, S b o → b < w.heap.size) := hS
  have HR := @id (Hid _) hr
  have HG := @id (Hid (GlobRep (gS S) w)) hG
  clear hA hSm hS hr hG
  have hb1 : ∀ o, Below w.heap.size w (w.alloc o) := fun o => (Below.refl _ _).alloc (Nat.le_refl _) _
  go_enter Tryd.func3, Tryd.ntmps3
  go_wp2_with fail
  refine Calls.mono (pureB HA.out (fun b o h => Nat.lt_of_lt_of_le (HS.out b o h) (hb1 _).size) rfl (fun j v d hj hd => by simp at hd) (glob_below HS.out (hb1 _) (fun _ _ h => h) HG.out)) ?_
  rintro e w2 ⟨rfl, hb2⟩
  have hB0 := heap_alloc_new w (Obj.cells #[Value.int IntKind.i64 a, Value.int IntKind.i64 b, Value.int IntKind.i64 c', Value.string nm, Value.slice na nl nc, Value.slice ka kl kc] 25)
  rw [← hb2.block _ (by simp)] at hB0
  have hbw2 : Below w.heap.size w w2 := (hb1 _).trans (hb2.mono (by simp))
  obtain ⟨z0, z1, z2, z3, z4, z5⟩ := six hB0
  go_wp2_with fail
  refine Calls.mono (pureB HSm.out (fun b o h => Nat.lt_of_lt_of_le (HS.out b o h) hbw2.size) rfl (pure_vals2 (rep_below HS.out hbw2 HR.out)) (glob_below HS.out hbw2 (fun _ _ h => h) HG.out)) ?_
  rintro e w3 ⟨rfl, hb3⟩
  have hbw3 : Below w.heap.size w w3 := hbw2.trans (hb3.mono hbw2.size)
  clear z0 z1 z2 z3 z4 z5
  go_wp2_with fail
  refine Calls.mono (pureB HA.out (fun b o h => Nat.lt_of_lt_of_le (HS.out b o h) hbw3.size) rfl (fun j v d hj hd => by simp at hd) (glob_below HS.out hbw3 (fun _ _ h => h) HG.out)) ?_
  rintro e w4 ⟨rfl, hb4⟩
  have hbw4 : Below w.heap.size w w4 := hbw3.trans (hb4.mono hbw3.size)
  go_wp2_with fail
  go_ret
  exact ⟨rfl, hbw4⟩
/-- what spoil leaves below a block -/
theorem Kept.below {S : Nat → Prop} {w w' : World} (h : Kept S w w') {B : Nat} (hB : B ≤ w.heap.size) (hS : ∀ b, S b → B ≤ b) : Below B w w' :=
  ⟨h.os, h.tape, h.output, h.size, fun k hk => h.block k (by omega) fun hs => by have := hS k hs; omega⟩
set_option maxHeartbeats 3200000 in
set_option maxRecDepth 1000000 in
theorem law_yes {t s u : T_api_Tree} {c n : Int} {k1 k2 : Nat} (hA : PureCall prog 4 [] (boolPV true)) (hSm : PureCall prog 5 [t.toD, intD 300] (boolPV true)) (hC : PureCall prog 6 [t.toD] (.dat t.toD))
    (hSi : PureCall prog 15 [t.toD] (.tup [.dat s.toD, intPV c])) (hOn : PureCall prog 17 [t.toD] (.tup [.dat u.toD, intPV n])) (hSa : PureCall prog 10 [t.toD, t.toD] (boolPV true)) (hs : TB k1 s) (hu : TB k2 u)
    (w : World) (S : Nat → Nat → Prop) (v : Value) (hS : ∀ b o, S b o → b < w.heap.size) (hr : RepD w S v t.toD) (hG : GlobRep (gS S) w) :
    Calls prog 3 #[v] w fun e w' => e = .returned (.bool true) ∧ Below w.heap.size w w' := by
  obtain ⟨a, b, c', nm, na, nl, nc, ka, kl, kc, rfl⟩ := tree_agg hr
  have HA : Hid (PureCall prog 4 [] (boolPV true)) := hA
  have HSm := @id (Hid _) hSm
  have HC := @id (Hid _) hC
  have HSi := @id (Hid _) hSi
  have HOn := @id (Hid _) hOn
  have HSa := @id (Hid _) hSa
  have HS : Hid (∀ b o, S b o → b < w.heap.size) := hS
  have HR := @id (Hid _) hr
  have HG := @id (Hid (GlobRep (gS S) w)) hG
  clear hA hSm hS hr hG hC hSi hOn hSa
  have hb1 : ∀ o, Below w.heap.size w (w.alloc o) := fun o => (Below.refl _ _).alloc (Nat.le_refl _) _
  go_enter Tryd.func3, Tryd.ntmps3
  go_wp2_with fail
  refine Calls.mono (pureB HA.out (fun b o h => Nat.lt_of_lt_of_le (HS.out b o h) (hb1 _).size) rfl (fun j v d hj hd => by simp at hd) (glob_below HS.out (hb1 _) (fun _ _ h => h) HG.out)) ?_
  rintro e w2 ⟨rfl, hb2⟩
  have hB0 := heap_alloc_new w (Obj.cells #[Value.int IntKind.i64 a, Value.int IntKind.i64 b, Value.int IntKind.i64 c', Value.string nm, Value.slice na nl nc, Value.slice ka kl kc] 25)
  rw [← hb2.block _ (by simp)] at hB0
  have hbw2 : Below w.heap.size w w2 := (hb1 _).trans (hb2.mono (by simp))
  have hz2 : w.heap.size < w2.heap.size := by have := hb2.size; simp at this; omega
  obtain ⟨z0, z1, z2, z3, z4, z5⟩ := six hB0
  go_wp2_with fail
  refine Calls.mono (pureB HSm.out (fun b o h => Nat.lt_of_lt_of_le (HS.out b o h) hbw2.size) rfl (pure_vals2 (rep_below HS.out hbw2 HR.out)) (glob_below HS.out hbw2 (fun _ _ h => h) HG.out)) ?_
  rintro e w3 ⟨rfl, hb3⟩
  have hbw3 : Below w.heap.size w w3 := hbw2.trans (hb3.mono hbw2.size)
  have hz3 : w2.heap.size ≤ w3.heap.size := hb3.size
  clear z0 z1 z2 z3 z4 z5
  rw [← hb3.block _ hz2] at hB0
  obtain ⟨z0, z1, z2, z3, z4, z5⟩ := six hB0
  go_wp2_with fail
  -- own := ref08.Copy(t)
  refine Calls.mono (pure1 HC.out (fun b o h => Nat.lt_of_lt_of_le (HS.out b o h) hbw3.size) (rep_below HS.out hbw3 HR.out) (glob_below HS.out hbw3 (fun _ _ h => h) HG.out)) ?_
  rintro e w4 ⟨ow, S4, rfl, hb4, hS4, hSS, hro⟩
  obtain ⟨a1, a2, a3, a4, a5, a6, a7, a8, a9, a10, rfl⟩ := tree_agg hro
  have hbw4 : Below w.heap.size w w4 := hbw3.trans (hb4.mono hbw3.size)
  have hz4 : w3.heap.size ≤ w4.heap.size := hb4.size
  have HS4 : Hid (∀ b o, S4 b o → b < w4.heap.size) := hS4
  have HSS : Hid (∀ b o, S b o → S4 b o) := hSS
  have HRO := @id (Hid _) hro
  have HG4 : Hid (GlobRep (gS S4) w4) := glob_below HS.out hbw4 hSS HG.out
  clear hS4 hSS hro z0 z1 z2 z3 z4 z5
  rw [← hb4.block _ (by omega)] at hB0
  have hb5 : ∀ o, Below w4.heap.size w4 (w4.alloc o) := fun o => (Below.refl _ _).alloc (Nat.le_refl _) _
  go_wp2_with fail
  -- s := Simplify(own)
  refine Calls.mono (simplify_any HSi.out hs _ S4 _ (fun b o h => Nat.lt_of_lt_of_le (HS4.out b o h) (hb5 _).size) (rep_below HS4.out (hb5 _) HRO.out) (glob_below HS4.out (hb5 _) (fun _ _ h => h) HG4.out)) ?_
  rintro e w6 ⟨v6, rfl, hb6, hsh6⟩
  obtain ⟨d1, d2, d3, d4, d5, d6, d7, d8, d9, d10, rfl⟩ := sh_agg hsh6
  have hB1 := heap_alloc_new w4 (Obj.cells #[Value.int IntKind.i64 a1, Value.int IntKind.i64 a2, Value.int IntKind.i64 a3, Value.string a4, Value.slice a5 a6 a7, Value.slice a8 a9 a10] 25)
  rw [← hb6.block _ (by simp)] at hB1
  rw [← Below.heap_alloc w4 (Obj.cells #[Value.int IntKind.i64 a1, Value.int IntKind.i64 a2, Value.int IntKind.i64 a3, Value.string a4, Value.slice a5 a6 a7, Value.slice a8 a9 a10] 25) _ (by omega), ← hb6.block _ (by simp; omega)] at hB0
  have hz6 : w4.heap.size + 1 ≤ w6.heap.size := by have := hb6.size; simp at this; exact this
  have hbw6 : Below w4.heap.size w4 w6 := (hb5 _).trans (hb6.mono (by simp))
  have HSH6 := @id (Hid _) hsh6
  clear hsh6
  obtain ⟨z0, z1, z2, z3, z4, z5⟩ := six hB1
  have hb7 : ∀ o, Below w4.heap.size w4 (w6.alloc o) := fun o => hbw6.alloc (by omega) _
  have hlt6 : w4.heap.size < w6.heap.size := by omega
  go_wp2_with fail
  -- u := Rule(own)
  refine Calls.mono (rule_any HOn.out hu _ S4 _ (fun b o h => Nat.lt_of_lt_of_le (HS4.out b o h) (hb7 _).size) (rep_below HS4.out (hb7 _) HRO.out) (glob_below HS4.out (hb7 _) (fun _ _ h => h) HG4.out)) ?_
  rintro e w8 ⟨v8, rfl, hb8, hsh8⟩
  obtain ⟨e1, e2, e3, e4, e5, e6, e7, e8, e9, e10, rfl⟩ := sh_agg hsh8
  have hB2 := heap_alloc_new w6 (Obj.cells #[Value.int IntKind.i64 d1, Value.int IntKind.i64 d2, Value.int IntKind.i64 d3, Value.string d4, Value.slice d5 d6 d7, Value.slice d8 d9 d10] 25)
  rw [← hb8.block _ (by simp)] at hB2
  have h68 : ∀ b, b < w6.heap.size → w8.heap[b]? = w6.heap[b]? := fun b hb => by rw [hb8.block _ (by simp; omega), Below.heap_alloc _ _ _ hb]
  rw [← h68 _ (by omega)] at hB0 hB1
  have hz8 : w6.heap.size + 1 ≤ w8.heap.size := by have := hb8.size; simp at this; exact this
  have hbw8 : Below w4.heap.size w4 w8 := (hb7 _).trans (hb8.mono (by simp; omega))
  have HSH8 := @id (Hid _) hsh8
  clear hsh8 z0 z1 z2 z3 z4 z5
  obtain ⟨z0, z1, z2, z3, z4, z5⟩ := six hB2
  have hlt8 : w6.heap.size < w8.heap.size := by omega
  go_wp2_with fail
  -- spoil(s)
  have h9 : ∀ o b, b < w8.heap.size → (w8.alloc o).heap[b]? = w8.heap[b]? := fun o b hb => Below.heap_alloc _ _ _ hb
  have hB3 := heap_alloc_new w8 (Obj.cells #[Value.int IntKind.i64 e1, Value.int IntKind.i64 e2, Value.int IntKind.i64 e3, Value.string e4, Value.slice e5 e6 e7, Value.slice e8 e9 e10] 25)
  refine Calls.mono (spoil_any (fun b => w4.heap.size + 1 ≤ b ∧ b < w6.heap.size) k1 _ _ (fun b hb => by have := hb.2; simp; omega) (Sh.move (w := w6) (fun b hb => by
    have h1 := hb.1
    have h2 := hb.2
    simp at h1
    exact ⟨⟨h1, h2⟩, by rw [h9 _ _ (by omega), h68 _ h2]⟩) _ _ HSH6.out)) ?_
  rintro e w10 ⟨rfl, hk10⟩
  have h10 : ∀ b, b < w8.heap.size + 1 → ¬ (w4.heap.size + 1 ≤ b ∧ b < w6.heap.size) → ∀ o : Obj, Kept (fun b => w4.heap.size + 1 ≤ b ∧ b < w6.heap.size) (w8.alloc o) w10 → w10.heap[b]? = (w8.alloc o).heap[b]? := fun b hb hn o hk => hk.block b (by simp; omega) hn
  rw [← h10 _ (by omega) (by omega) _ hk10] at hB3
  have hBl10 : Below (w4.heap.size + 1) w8 w10 := ((Below.refl _ _).alloc (by omega) _).trans (hk10.below (by simp; omega) (fun b hb => hb.1))
  have hz10 : w8.heap.size + 1 ≤ w10.heap.size := by have := hk10.size; simp at this; exact this
  have h10u : ∀ b, w6.heap.size ≤ b → b < w8.heap.size → w10.heap[b]? = w8.heap[b]? := fun b hb hb' => by rw [h10 b (by omega) (by omega) _ hk10, h9 _ _ hb']
  clear z0 z1 z2 z3 z4 z5
  obtain ⟨z0, z1, z2, z3, z4, z5⟩ := six hB3
  go_wp2_with fail
  -- spoil(u)
  refine Calls.mono (spoil_any (fun b => w6.heap.size + 1 ≤ b ∧ b < w8.heap.size) k2 _ _ (fun b hb => by have := hb.2; omega) (Sh.move (w := w8) (fun b hb => by
    have h1 := hb.1
    have h2 := hb.2
    simp at h1
    exact ⟨⟨h1, h2⟩, h10u b (by omega) h2⟩) _ _ HSH8.out)) ?_
  rintro e w11 ⟨rfl, hk11⟩
  have hBl11 : Below (w4.heap.size + 1) w8 w11 := hBl10.trans (hk11.below (by omega) (fun b hb => by have := hb.1; omega))
  rw [← hBl11.block _ (by omega)] at hB0 hB1
  clear z0 z1 z2 z3 z4 z5
  obtain ⟨z0, z1, z2, z3, z4, z5⟩ := six hB0
  obtain ⟨y0, y1, y2, y3, y4, y5⟩ := six hB1
  have hbw11 : Below w4.heap.size w4 w11 := hbw8.trans (hBl11.mono (by omega))
  have hbW : Below w.heap.size w w11 := hbw4.trans (hbw11.mono (by omega))
  go_wp2_with fail
  -- Same(own, t)
  refine Calls.mono (pureB HSa.out (S := S4) (fun b o h => Nat.lt_of_lt_of_le (HS4.out b o h) hbw11.size) rfl (pure_valsB (rep_below HS4.out hbw11 HRO.out) ((rep_below HS.out hbW HR.out).mono HSS.out (fun _ _ _ => rfl))) (glob_below HS4.out hbw11 (fun _ _ h => h) HG4.out)) ?_
  rintro e w12 ⟨rfl, hb12⟩
  go_wp2_with fail
  go_ret
  exact ⟨rfl, hbW.trans (hb12.mono hbW.size)⟩
end Go.Proofs.Tryd
namespace Go.Proofs.Tryd
open Go Go.Pm
set_option linter.unusedVariables false
set_option linter.unusedSimpArgs false
set_option maxHeartbeats 2000000
set_option maxRecDepth 2000
theorem ua3 : prog.underlying 3 = some (TypeDesc.int IntKind.i64) := by kernel_rfl
theorem ua9 : prog.underlying 9 = some TypeDesc.string := by kernel_rfl
theorem ua2 : prog.underlying 2 = some (TypeDesc.int IntKind.i64) := by kernel_rfl
theorem ua22 : prog.underlying 22 = some (TypeDesc.slice 2) := by kernel_rfl
theorem ua25 : prog.underlying 25 = some (TypeDesc.struct { toList := [{ name := "Kind", type := 3, offset := 0, embedded := false, tag := "", pkgPath := "", byteOffset := 0 }, { name := "Fn", type := 3, offset := 1, embedded := false, tag := "", pkgPath := "", byteOffset := 8 }, { name := "Axis", type := 3, offset := 2, embedded := false, tag := "", pkgPath := "", byteOffset := 16 }, { name := "Name", type := 9, offset := 3, embedded := false, tag := "", pkgPath := "", byteOffset := 24 }, { name := "Nums", type := 22, offset := 4, embedded := false, tag := "", pkgPath := "", byteOffset := 40 }, { name := "Kids", type := 23, offset := 5, embedded := false, tag := "", pkgPath := "", byteOffset := 64 }] }) := by kernel_rfl
theorem ua23 : prog.underlying 23 = some (TypeDesc.slice 25) := by kernel_rfl
theorem ua4 : prog.underlying 4 = some TypeDesc.bool := by kernel_rfl
theorem exists_map {α β : Type} {f : β → α} {p : β → Prop} : ∀ {L : List α}, (∀ x ∈ L, ∃ y, x = f y ∧ p y) → ∃ l : List β, L = l.map f ∧ ∀ y ∈ l, p y
  | [], _ => ⟨[], rfl, fun y h => by cases h⟩
  | x :: L, h => by
    obtain ⟨y, rfl, hy⟩ := h x (List.mem_cons_self ..)
    obtain ⟨l, rfl, hl⟩ := exists_map (fun x hx => h x (List.mem_cons_of_mem _ hx))
    exact ⟨y :: l, rfl, fun z hz => by
      rcases List.mem_cons.1 hz with rfl | hz
      · exact hy
      · exact hl z hz⟩
variable {B : Nat} {n : Nat} {cs : List Dat}
theorem tc3 (h : TyC prog B n 3 cs) : ∃ m : Int, cs = [(intD m)] ∧ ((-9223372036854775808) ≤ m ∧ m ≤ 9223372036854775807) := by
  cases n with
  | zero => exact h.elim
  | succ n =>
    simp only [TyC, ua3] at h
    obtain ⟨m, rfl, hm⟩ := h
    refine ⟨m, rfl, ?_⟩
    simpa [Lit.wf, IntKind.min, IntKind.max, IntKind.signed, IntKind.bits] using hm
theorem tc9 (h : TyC prog B n 9 cs) : ∃ m : ByteArray, cs = [strD m] ∧ m.size ≤ B := by
  cases n with
  | zero => exact h.elim
  | succ n =>
    simp only [TyC, ua9] at h
    obtain ⟨m, rfl, hm⟩ := h
    exact ⟨m, rfl, hm⟩
theorem tc2 (h : TyC prog B n 2 cs) : ∃ m : Int, cs = [(intD m)] ∧ ((-9223372036854775808) ≤ m ∧ m ≤ 9223372036854775807) := by
  cases n with
  | zero => exact h.elim
  | succ n =>
    simp only [TyC, ua2] at h
    obtain ⟨m, rfl, hm⟩ := h
    refine ⟨m, rfl, ?_⟩
    simpa [Lit.wf, IntKind.min, IntKind.max, IntKind.signed, IntKind.bits] using hm
def ok22 (B : Nat) (x : (List Int)) : Prop := x.length ≤ B ∧ ∀ m ∈ x, ((-9223372036854775808) ≤ m ∧ m ≤ 9223372036854775807)
theorem tc22 (h : TyC prog B n 22 cs) : ∃ l : (List Int), cs = [.lst ((List.map intD) l)] ∧ ok22 B l := by
  cases n with
  | zero => exact h.elim
  | succ n =>
    simp only [TyC, ua22] at h
    obtain ⟨L, rfl, hl, hx⟩ := h
    obtain ⟨l, rfl, hm⟩ := exists_map (f := fun m => [(intD m)]) (p := fun m => ((-9223372036854775808) ≤ m ∧ m ≤ 9223372036854775807)) (fun x hx' => tc2 (hx x hx'))
    refine ⟨l, ?_, by simpa using hl, hm⟩
    have e : (l.map (fun m => [(intD m)])).map (elemD prog 2) = l.map intD := by
      rw [List.map_map]; exact List.map_congr_left (fun m _ => by simp only [Function.comp_apply]; simp [elemD, aggB, ua2])
    rw [e]
mutual
def ok25 (B : Nat) : T_api_Tree → Prop
  | ⟨kind, fn, axis, name, nums, kids⟩ => (((-9223372036854775808) ≤ kind ∧ kind ≤ 9223372036854775807)) ∧ (((-9223372036854775808) ≤ fn ∧ fn ≤ 9223372036854775807)) ∧ (((-9223372036854775808) ≤ axis ∧ axis ≤ 9223372036854775807)) ∧ ((name.size ≤ B)) ∧ ((ok22 B nums)) ∧ (kids.length ≤ B ∧ okl25 B kids)
def okl25 (B : Nat) : List T_api_Tree → Prop
  | [] => True
  | k :: ks => ok25 B k ∧ okl25 B ks
end
theorem okl25_of : ∀ {l : List T_api_Tree}, (∀ y ∈ l, ok25 B y) → okl25 B l
  | [], _ => by rw [okl25]; trivial
  | y :: l, h => by rw [okl25]; exact ⟨h y (List.mem_cons_self ..), okl25_of fun z hz => h z (List.mem_cons_of_mem _ hz)⟩
theorem ts25 (ih : ∀ cs, TyC prog B n 23 cs → ∃ l : List T_api_Tree, cs = [.lst (T_api_Tree.toDs l)] ∧ l.length ≤ B ∧ okl25 B l) (h : TyC prog B (n + 1) 25 cs) : ∃ x : T_api_Tree, cs = [(intD x.kind), (intD x.fn), (intD x.axis), (strD x.name), (.lst ((List.map intD) x.nums)), (.lst (T_api_Tree.toDs x.kids))] ∧ ok25 B x := by
  simp only [TyC, ua25, List.foldr] at h
  obtain ⟨_, _, rfl, h0, _, _, rfl, h1, _, _, rfl, h2, _, _, rfl, h3, _, _, rfl, h4, _, _, rfl, h5, rfl⟩ := h
  obtain ⟨m0, rfl, i0⟩ := tc3 h0
  obtain ⟨m1, rfl, i1⟩ := tc3 h1
  obtain ⟨m2, rfl, i2⟩ := tc3 h2
  obtain ⟨m3, rfl, i3⟩ := tc9 h3
  obtain ⟨m4, rfl, i4⟩ := tc22 h4
  obtain ⟨m5, rfl, i5⟩ := ih _ h5
  exact ⟨⟨m0, m1, m2, m3, m4, m5⟩, rfl, by rw [ok25]; exact ⟨i0, i1, i2, i3, i4, i5⟩⟩
theorem tl25 (ih : ∀ cs, TyC prog B n 25 cs → ∃ x : T_api_Tree, cs = [(intD x.kind), (intD x.fn), (intD x.axis), (strD x.name), (.lst ((List.map intD) x.nums)), (.lst (T_api_Tree.toDs x.kids))] ∧ ok25 B x) (h : TyC prog B (n + 1) 23 cs) : ∃ l : List T_api_Tree, cs = [.lst (T_api_Tree.toDs l)] ∧ l.length ≤ B ∧ okl25 B l := by
  simp only [TyC, ua23] at h
  obtain ⟨L, rfl, hl, hx⟩ := h
  obtain ⟨l, rfl, hm⟩ := exists_map (f := fun (x : T_api_Tree) => [(intD x.kind), (intD x.fn), (intD x.axis), (strD x.name), (.lst ((List.map intD) x.nums)), (.lst (T_api_Tree.toDs x.kids))]) (p := fun x => ok25 B x) (fun c hc => ih c (hx c hc))
  refine ⟨l, ?_, by simpa using hl, okl25_of hm⟩
  have e : (l.map (fun (x : T_api_Tree) => [(intD x.kind), (intD x.fn), (intD x.axis), (strD x.name), (.lst ((List.map intD) x.nums)), (.lst (T_api_Tree.toDs x.kids))])).map (elemD prog 25) = T_api_Tree.toDs l := by
    rw [T_api_Tree.toDs_eq, List.map_map]; exact List.map_congr_left (fun m _ => by rw [T_api_Tree.toD_eq]; simp only [Function.comp_apply]; simp [elemD, aggB, ua25]; rfl)
  rw [e]
theorem tr25 : ∀ n, (∀ cs, TyC prog B n 25 cs → ∃ x : T_api_Tree, cs = [(intD x.kind), (intD x.fn), (intD x.axis), (strD x.name), (.lst ((List.map intD) x.nums)), (.lst (T_api_Tree.toDs x.kids))] ∧ ok25 B x) ∧ (∀ cs, TyC prog B n 23 cs → ∃ l : List T_api_Tree, cs = [.lst (T_api_Tree.toDs l)] ∧ l.length ≤ B ∧ okl25 B l)
  | 0 => ⟨fun _ h => h.elim, fun _ h => h.elim⟩
  | n + 1 => ⟨fun _ h => ts25 (tr25 n).2 h, fun _ h => tl25 (tr25 n).1 h⟩
theorem tc25 (h : TyC prog B n 25 cs) : ∃ x : T_api_Tree, cs = [(intD x.kind), (intD x.fn), (intD x.axis), (strD x.name), (.lst ((List.map intD) x.nums)), (.lst (T_api_Tree.toDs x.kids))] ∧ ok25 B x := (tr25 n).1 cs h
theorem ty25 {d : Dat} (h : TyA prog B 25 d) : ∃ m : T_api_Tree, d = (T_api_Tree.ex m) ∧ (ok25 B m) := by
  obtain ⟨n, cs, h, hd⟩ := h
  obtain ⟨m, rfl, hm⟩ := tc25 h
  exact ⟨m, by rw [hd]; simp [elemD, aggB, ua25]; rfl, hm⟩
def argTs : List TypeId := [3, 9, 2, 22, 25, 23, 4]
theorem argTs_closed : closedTs prog argTs = true := by kernel_rfl
theorem laidOut : laidOutB prog = true := by kernel_rfl
theorem summ : SummOK prog env := fun f s h => by cases h
theorem mixed : prog.follows .mixedOrders = true := by kernel_rfl
/-- a call that comes to a value keeps it in the model -/
theorem pure_of {f : FuncId} {dss : List Dat} {p : PV} (ho : p.out = true) (h : PC prog env f (dss.map .dat) [] p []) : PureCall prog f dss p := by
  obtain ⟨N, hN⟩ := h
  exact pure_sound summ mixed (hN N (Nat.le_refl _)) ho
end Go.Proofs.Tryd
namespace Go.Proofs.Tryd
open Go Go.Pm
set_option linter.unusedVariables false
set_option linter.unusedSimpArgs false
set_option maxRecDepth 2000
mutual
theorem rcopy_ok : ∀ (t : T_api_Tree), szT t ≤ 600 → numT t ≤ 100000 → m_ref08_Copy t = some t
  | ⟨k, f, a, nm, nu, ks⟩, h, h2 => by
    rw [szT] at h
    rw [numT] at h2
    have hl := szTs_len ks
    have e := rcopy_loop ks [] k f a nm nu nu (by simp; omega) (by omega) (by omega)
    simp only [List.nil_append, List.length_nil, Int.natCast_zero] at e
    rw [m_ref08_Copy]
    have ec : app 8 ([] : List Int) nu = some nu := by rw [room_app (by simp; omega) (by omega)]; rfl
    simp only [ec, e, bind_ok]
theorem rcopy_loop : ∀ (s p : List T_api_Tree) (k f a : Int) (nm : ByteArray) (nu v : List Int), (p ++ s).length ≤ 600 → szTs s ≤ 600 → numTs s ≤ 100000 →
    m_ref08_Copy_L1 (⟨k, f, a, nm, nu, p ++ s⟩, v, p, (p.length : Int)) = some (p ++ s)
  | [], p, k, f, a, nm, nu, v, h1, h2, h3 => by
    rw [m_ref08_Copy_L1]
    simp only [List.append_nil, Int.lt_irrefl, if_false]
  | x :: s, p, k, f, a, nm, nu, v, h1, h2, h3 => by
    rw [m_ref08_Copy_L1]
    rw [szTs] at h2
    rw [numTs] at h3
    have e := rcopy_ok x (by omega) (by omega)
    have e' := rcopy_loop s (p ++ [x]) k f a nm nu v (by simpa using h1) (by omega) (by omega)
    rw [← mid_app] at e'
    have w : W ((p.length : Int) + 1) = ((p ++ [x]).length : Int) := mid_W (Sm_of h1)
    have ea : app 88 p [x] = some (p ++ [x]) := room_app (by simp at h1 ⊢; omega) (by omega)
    simp only [mid_lt, if_true, mid_idx, bind_ok, e, ea, w, e']
end
theorem mem_sz : ∀ {l : List T_api_Tree} {x : T_api_Tree}, x ∈ l → szT x ≤ szTs l ∧ numT x ≤ numTs l
  | y :: l, x, h => by
    rw [szTs, numTs]
    rcases List.mem_cons.1 h with rfl | h
    · omega
    · have := mem_sz h; omega
theorem TB_of : ∀ (k : Nat) (t : T_api_Tree), szT t ≤ k → k ≤ 600 → numT t ≤ 100000 → TB k t
  | 0, t, h, _, _ => by have := szT_pos t; omega
  | k + 1, ⟨kd, f, a, nm, nu, ks⟩, h, hk, hn => by
    rw [szT] at h
    rw [numT] at hn
    have hl := szTs_len ks
    exact ⟨by show nu.length ≤ _; omega, by show ks.length ≤ _; omega, fun x hx => by
      have hx' : x ∈ ks := hx
      have := mem_sz hx'
      exact TB_of k x (by omega) (by omega) (by omega)⟩
mutual
theorem numT_le (B : Nat) : ∀ t : T_api_Tree, ok25 B t → numT t ≤ szT t * B
  | ⟨_, _, _, _, nums, kids⟩, h => by
    rw [ok25] at h
    have := numTs_le B kids h.2.2.2.2.2.2
    have := h.2.2.2.2.1.1
    rw [numT, szT, Nat.add_mul, Nat.one_mul]; omega
theorem numTs_le (B : Nat) : ∀ l : List T_api_Tree, okl25 B l → numTs l ≤ szTs l * B
  | [], _ => Nat.zero_le _
  | k :: ks, h => by
    rw [okl25] at h
    have := numT_le B k h.1
    have := numTs_le B ks h.2
    rw [numTs, szTs, Nat.add_mul]; omega
end
mutual
theorem namesOk_of : ∀ t : T_api_Tree, ok25 140737488351232 t → namesOk t
  | ⟨_, _, _, nm, _, ks⟩, h => by
    rw [ok25] at h
    rw [namesOk]
    exact ⟨⟨by have := h.2.2.2.1; unfold nmOk; omega, fun n hn => by have := h.2.2.2.2.1.2 n hn; unfold i64; omega⟩, namesOks_of ks h.2.2.2.2.2.2⟩
theorem namesOks_of : ∀ l : List T_api_Tree, okl25 140737488351232 l → namesOks l
  | [], _ => by rw [namesOks]; trivial
  | k :: ks, h => by
    rw [okl25] at h
    rw [namesOks]
    exact ⟨namesOk_of k h.1, namesOks_of ks h.2⟩
end
theorem text1 : m_ref09_Text (⟨#[226, 140, 189, 226, 140, 189, 50, 32, 51, 226, 141, 180, 44, 120]⟩ : ByteArray) = some (aM1, 0) := by
  unfold m_ref09_Text
  exact (if_pos rfl).trans rfl
theorem text2 : m_ref09_Text (⟨#[50, 32, 51, 226, 141, 180, 120]⟩ : ByteArray) = some (aRS', 0) := by
  unfold m_ref09_Text
  exact ((if_neg (by decide)).trans (if_pos rfl)).trans rfl
open Go.RowKit in
theorem SC_pure (t : T_api_Tree) (h : ok25 140737488351232 t) : PureCall prog 3 [t.ex] (boolPV true) := by
  rw [← T_api_Tree.toD_eq]
  have hn := namesOk_of t h
  obtain ⟨b, e, hb⟩ := Small_ok t (numT_le _ t h) hn
  have hA : PureCall prog 4 [] (boolPV true) := pure_of rfl (w_law29_awake _ _ (awake_of text1 text2) [])
  have hSm : PureCall prog 5 [t.toD, intD 300] (boolPV b) := by rw [T_api_Tree.toD_eq]; exact pure_of rfl (w_ref08_Small e [])
  have one : ∀ {w : World} {S : Nat → Nat → Prop} {vals : Array Value}, vals.size = [t.toD].length → (∀ (j : Nat) v d, vals[j]? = some v → [t.toD][j]? = some d → RepD w S v d) → ∃ v, vals = #[v] ∧ RepD w S v t.toD := fun {w S vals} h1 h2 => by
    obtain ⟨l⟩ := vals
    match l, h1 with
    | [v], _ => exact ⟨v, rfl, h2 0 v _ rfl rfl⟩
  have fin : ∀ {e : Ending} {w w' : World} {S : Nat → Nat → Prop}, e = .returned (.bool true) ∧ Below w.heap.size w w' → ∃ v, e = .returned v ∧ Below w.heap.size w w' ∧ RepV (gS fun b o => S b o ∨ (w.heap.size ≤ b ∧ b < w'.heap.size)) 0 w' v (boolPV true) := fun {e w w' S} h => ⟨_, h.1, h.2, .dat _ _ (.raw _ rfl)⟩
  cases b with
  | false =>
    intro w S vals hS h1 h2 hG
    obtain ⟨v, rfl, hr⟩ := one h1 h2
    exact Calls.mono (law_no hA hSm w S v hS hr hG) fun e w' h => fin h
  | true =>
    obtain ⟨hf, hd, hg⟩ := hb.1 rfl
    obtain ⟨s, c, r⟩ := simp_ok 300 t hf.1 (by omega) hg hn
    obtain ⟨u, n, q1, n0, hz, hl, _⟩ := step_ok hg hn
    have hsz := hf.1
    have hnu := hf.2.2
    have hu : szT u ≤ 300 ∧ numT u ≤ 3000 := by
      by_cases hn0 : n = 0
      · rw [hz hn0]; exact ⟨hf.1, hf.2.2⟩
      · have := (hl hn0).sz; have := (hl hn0).num; omega
    have hs : szT s ≤ 300 ∧ numT s ≤ 3000 := by have := r.sz; have := r.num; omega
    have hC : PureCall prog 6 [t.toD] (.dat t.toD) := by rw [T_api_Tree.toD_eq]; exact pure_of rfl (w_ref08_Copy _ _ (rcopy_ok t (by omega) (by omega)) [])
    have hSi : PureCall prog 15 [t.toD] (.tup [.dat s.toD, intPV c]) := by rw [T_api_Tree.toD_eq, T_api_Tree.toD_eq]; exact pure_of rfl (w_simplify_simplified _ _ r.e1 [])
    have hOn : PureCall prog 17 [t.toD] (.tup [.dat u.toD, intPV n]) := by rw [T_api_Tree.toD_eq, T_api_Tree.toD_eq]; exact pure_of rfl (w_simplify_once q1 [])
    have hSa : PureCall prog 10 [t.toD, t.toD] (boolPV true) := by rw [T_api_Tree.toD_eq]; exact pure_of rfl (w_ref08_Same _ _ (same_self t (by omega) (by omega)) [])
    intro w S vals hS h1 h2 hG
    obtain ⟨v, rfl, hr⟩ := one h1 h2
    exact Calls.mono (law_yes hA hSm hC hSi hOn hSa (TB_of 300 s hs.1 (by omega) (by omega)) (TB_of 300 u hu.1 (by omega) (by omega)) w S v hS hr hG) fun e w' h => fin h
end Go.Proofs.Tryd
