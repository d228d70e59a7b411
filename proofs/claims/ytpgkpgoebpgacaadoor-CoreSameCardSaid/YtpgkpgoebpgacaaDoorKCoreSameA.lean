/-
  Models of functions, their walks, and plain laws.
-/
import Derived.Test.YtpgkpgoebpgacaaDoorPmSx
import Derived.Test.YtpgkpgoebpgacaaDoorProg
import Derived.Test.YtpgkpgoebpgacaaDoorPmLaw
namespace Go.Proofs.Tryd
open Go Go.Pm
set_option linter.unusedVariables false
set_option linter.unusedSimpArgs false
set_option maxRecDepth 2000
/-- lists that a machine can hold -/
def Sm (n : Nat) : Prop := n ≤ 9223372036854775807
theorem Sm_of {n m : Nat} (h : n ≤ m) (hm : m ≤ 9223372036854775807 := by decide) : Sm n := Nat.le_trans h hm
theorem idx_ok {α : Type} {l : List α} {j : Nat} (h : j < l.length) : idx l (j : Int) = some l[j] := by simp [idx, h]
theorem app_ok {α : Type} {b : Nat} {l es : List α} (h : (l.length + es.length) * b ≤ room) : app b l es = some (l ++ es) := if_pos h
theorem W_ok {n : Int} (h1 : -9223372036854775808 ≤ n) (h2 : n < 9223372036854775808) : W n = n := by
  simp only [W, IntKind.wrap, IntKind.bits, IntKind.signed]; simp; split <;> omega
theorem W_succ {j : Nat} (h : j < 9223372036854775807) : W ((j : Int) + 1) = ((j + 1 : Nat) : Int) := by rw [W_ok (by omega) (by omega)]; omega
/-! a loop over a list: what lies behind, what lies ahead -/
section
variable {α : Type} {p s : List α} {x : α}
theorem mid_lt : ((p.length : Int) < ((p ++ x :: s).length : Int)) := by simp; omega
theorem end_lt : ¬ ((p.length : Int) < ((p ++ ([] : List α)).length : Int)) := by simp
theorem mid_idx : idx (p ++ x :: s) (p.length : Int) = some x := by simp [idx]
theorem mid_app : p ++ x :: s = (p ++ [x]) ++ s := by simp
theorem mid_W (hs : Sm (p ++ x :: s).length) : W ((p.length : Int) + 1) = ((p ++ [x]).length : Int) := by
  unfold Sm at hs
  rw [W_ok (by omega) (by simp at hs; omega)]; simp
end
theorem bind_ok {α β : Type} (a : α) (f : α → Option β) : (some a >>= f) = f a := rfl
end Go.Proofs.Tryd
namespace Go.Proofs.Tryd
open Go Go.Pm
set_option linter.unusedVariables false
set_option maxRecDepth 2000
def hintOf : FuncId → Hint
  | 4 => { own := [((3, 0), [(0, 3)])], keep := [] }
  | 6 => { own := [], keep := [(7, [2, 5, 6, 7, 8])] }
  | 10 => { own := [((1, 14), [(7, 32)]), ((1, 15), [(7, 32)])], keep := [(3, [1, 2, 3, 4])] }
  | 12 => { own := [], keep := [(3, [3, 7, 8, 9])] }
  | 13 => { own := [], keep := [(3, [1, 3, 4])] }
  | 15 => { own := [((3, 7), [(0, 3)])], keep := [] }
  | 16 => { own := [((3, 0), [(0, 3)]), ((18, 0), [(0, 3)])], keep := [(8, [2, 7, 8, 9]), (20, [1, 2, 7, 8, 10])] }
  | 17 => { own := [], keep := [(4, [0, 1, 5])] }
  | 18 => { own := [], keep := [(4, [0, 1, 5])] }
  | 20 => { own := [], keep := [(4, [2, 3, 5])] }
  | 21 => { own := [((5, 0), [(0, 22)]), ((12, 1), [(0, 3)])], keep := [(3, [0, 3, 4]), (7, [0, 3, 4, 5, 6]), (10, [0, 3, 4, 5, 6, 7])] }
  | 23 => { own := [], keep := [(5, [0, 1, 5, 6])] }
  | 24 => { own := [], keep := [(5, [1, 2, 5])] }
  | 26 => { own := [], keep := [(3, [1, 3, 4])] }
  | 27 => { own := [], keep := [(4, [1, 2, 5])] }
  | 28 => { own := [], keep := [(4, [1, 2, 5])] }
  | 29 => { own := [], keep := [(4, [0, 12, 13, 14])] }
  | 30 => { own := [((2, 0), [(1000, 3)]), ((3, 0), [(1000, 3)])], keep := [] }
  | 31 => { own := [], keep := [(3, [0, 1, 5, 6])] }
  | 33 => { own := [], keep := [(4, [0, 1, 12, 13])] }
  | 34 => { own := [], keep := [(4, [1, 2, 15, 16, 17])] }
  | 35 => { own := [], keep := [(2, [0, 3])] }
  | 36 => { own := [], keep := [(3, [0, 4, 5]), (9, [0, 4, 6]), (17, [0, 7, 8])] }
  | 40 => { own := [], keep := [(15, [2, 6])] }
  | 41 => { own := [], keep := [(5, [0, 1, 5, 6])] }
  | 44 => { own := [], keep := [(2, [0, 1, 7, 8])] }
  | 46 => { own := [], keep := [(5, [1, 3, 4]), (10, [1, 3, 5]), (14, [1, 3, 5, 6, 7])] }
  | 47 => { own := [], keep := [(6, [1, 3, 4, 5])] }
  | 57 => { own := [], keep := [(2, [0, 1, 7, 8])] }
  | 58 => { own := [], keep := [(3, [2, 8, 13, 14, 15])] }
  | 59 => { own := [], keep := [(2, [0, 1, 7, 8])] }
  | 79 => { own := [], keep := [(2, [1, 2, 10, 11, 12])] }
  | 84 => { own := [], keep := [(5, [1, 3, 23, 24, 25])] }
  | 85 => { own := [((1, 0), [(0, 3)])], keep := [(3, [1, 7, 11, 12, 13])] }
  | 92 => { own := [], keep := [(8, [7, 8])] }
  | 100 => { own := [], keep := [(3, [1, 5, 13, 14, 15])] }
  | 105 => { own := [], keep := [(8, [0, 3, 4, 18, 19])] }
  | 106 => { own := [], keep := [(3, [0, 1, 5, 11, 12])] }
  | 107 => { own := [((9, 1), [(2000, 3)])], keep := [(3, [0, 3, 9, 10, 11]), (11, [6, 25, 26, 27])] }
  | _ => {}
def env : Env where
  summ := fun _ => none
  hint := hintOf
  pure := fun f => f != 30 && f != 38 && f != 39 && f != 44 && f != 77 && f != 79 && f != 81 && f != 83 && f != 85 && f != 86 && f != 88 && f != 101 && f != 108 && f != 109
  split := fun f => f == 30

end Go.Proofs.Tryd
namespace Go.Proofs.Tryd
open Go Go.Pm
set_option linter.unusedVariables false
set_option maxRecDepth 2000
structure T_ref14_Core where
  kind : Int
  shape : (List Int)
  buffer : Int
  starts : (List Int)
  axis : Int
  amount : Int
  perm : (List Int)
  kids : (List T_ref14_Core)
mutual
def T_ref14_Core.toD : T_ref14_Core → Dat
  | ⟨kind, shape, buffer, starts, axis, amount, perm, kids⟩ => .agg [(intD kind), (.lst ((List.map intD) shape)), (intD buffer), (.lst ((List.map intD) starts)), (intD axis), (intD amount), (.lst ((List.map intD) perm)), (.lst (T_ref14_Core.toDs kids))]
def T_ref14_Core.toDs : List T_ref14_Core → List Dat
  | [] => []
  | k :: ks => T_ref14_Core.toD k :: T_ref14_Core.toDs ks
end
theorem T_ref14_Core.toDs_eq : ∀ l : List T_ref14_Core, T_ref14_Core.toDs l = l.map T_ref14_Core.toD
  | [] => rfl
  | k :: ks => by rw [T_ref14_Core.toDs, T_ref14_Core.toDs_eq ks]; rfl
def T_ref14_Core.ex (x : T_ref14_Core) : Dat := .agg [(intD x.kind), (.lst ((List.map intD) x.shape)), (intD x.buffer), (.lst ((List.map intD) x.starts)), (intD x.axis), (intD x.amount), (.lst ((List.map intD) x.perm)), (.lst (T_ref14_Core.toDs x.kids))]
theorem T_ref14_Core.toD_eq (x : T_ref14_Core) : x.toD = x.ex := by cases x; rfl
theorem T_ref14_Core.fit (x : T_ref14_Core) : Dat.fits 8 x.toD = true := by cases x; rfl
structure T_core_Core where
  kind : Int
  shape : (List Int)
  buffer : Int
  starts : (List Int)
  axis : Int
  amount : Int
  perm : (List Int)
  kids : (List T_core_Core)
mutual
def T_core_Core.toD : T_core_Core → Dat
  | ⟨kind, shape, buffer, starts, axis, amount, perm, kids⟩ => .agg [(intD kind), (.lst ((List.map intD) shape)), (intD buffer), (.lst ((List.map intD) starts)), (intD axis), (intD amount), (.lst ((List.map intD) perm)), (.lst (T_core_Core.toDs kids))]
def T_core_Core.toDs : List T_core_Core → List Dat
  | [] => []
  | k :: ks => T_core_Core.toD k :: T_core_Core.toDs ks
end
theorem T_core_Core.toDs_eq : ∀ l : List T_core_Core, T_core_Core.toDs l = l.map T_core_Core.toD
  | [] => rfl
  | k :: ks => by rw [T_core_Core.toDs, T_core_Core.toDs_eq ks]; rfl
def T_core_Core.ex (x : T_core_Core) : Dat := .agg [(intD x.kind), (.lst ((List.map intD) x.shape)), (intD x.buffer), (.lst ((List.map intD) x.starts)), (intD x.axis), (intD x.amount), (.lst ((List.map intD) x.perm)), (.lst (T_core_Core.toDs x.kids))]
theorem T_core_Core.toD_eq (x : T_core_Core) : x.toD = x.ex := by cases x; rfl
theorem T_core_Core.fit (x : T_core_Core) : Dat.fits 8 x.toD = true := by cases x; rfl
end Go.Proofs.Tryd
namespace Go.Proofs.Tryd
open Go Go.Pm
set_option linter.unusedVariables false
set_option maxRecDepth 2000
def m_law14_awake (x : Unit) : Option Bool := some true
def P_law14_awake : Unit → Bool → Prop := fun x r => ∀ H, PC prog env 7 ([].map .dat) H (boolPV r) H
theorem w_law14_awake : ∀ x r, m_law14_awake x = some r → P_law14_awake x r := by
  intro x r hm
  cases hm
  intro H
  exact PC_of (n := 200) (by kernel_rfl)
end Go.Proofs.Tryd
namespace Go.Proofs.Tryd
open Go Go.Pm
set_option linter.unusedVariables false
set_option maxRecDepth 2000
mutual
def m_ref14_left_L1 (x : (T_ref14_Core × Int × Int)) : Option (Int) :=
  match x with
  | (p0, v202, v203) =>
  (if v203 < (p0.kids.length : Int) then
    some (decide (v202 ≥ 0))
  else
  some false
  ) >>= fun (v603 : Bool) =>
  if v603 = true then
    idx p0.kids v203 >>= fun v604 =>
    m_ref14_left (v604, v202) >>= fun (v605 : Int) =>
    m_ref14_left_L1 (p0, v605, (W (v203 + 1)))
  else
  some v202
  partial_fixpoint
def m_ref14_left (x : (T_ref14_Core × Int)) : Option Int :=
  match x with
  | (p0, p1) =>
  (if (p0.shape.length : Int) > 40 then
    some true
  else
  if (p0.starts.length : Int) > 40 then
    some true
  else
  some (decide ((p0.perm.length : Int) > 40))
  ) >>= fun (v1 : Bool) =>
  if v1 = true then
    some (-1)
  else
  m_ref14_left_L1 (p0, (W (p1 - 1)), 0) >>= fun (v602 : Int) =>
  some v602
  partial_fixpoint
end
def P_ref14_left_L1 : (T_ref14_Core × Int × Int) → Int → Prop := fun x r => match x with
  | (p0, v202, v203) => ∀ st, prune 1 ((firstRegion (codeAt [1, 1, 1, 0, 1, 0, 0] (bodyOf f24))).bind (env.hint 24).keepAt) st = ⟨kp 43 [(1, (intPV v202)), (2, (.ptr 0 0)), (5, (intPV v203))], [(.box [(intPV p0.kind), (.dat (.lst ((List.map intD) p0.shape))), (intPV p0.buffer), (.dat (.lst ((List.map intD) p0.starts))), (intPV p0.axis), (intPV p0.amount), (.dat (.lst ((List.map intD) p0.perm))), (.dat (.lst (T_ref14_Core.toDs p0.kids)))])]⟩ →
    RL prog env (env.hint 24) true (codeAt [1, 1, 1, 0, 1, 0, 0] (bodyOf f24)) 1 st (fun e s => match r with | v602 => e = .exit 0 ∧ ∃ d, s = ⟨sl d 43 [(1, (intPV v602))], [(.box [(intPV p0.kind), (.dat (.lst ((List.map intD) p0.shape))), (intPV p0.buffer), (.dat (.lst ((List.map intD) p0.starts))), (intPV p0.axis), (intPV p0.amount), (.dat (.lst ((List.map intD) p0.perm))), (.dat (.lst (T_ref14_Core.toDs p0.kids)))])]⟩)
def P_ref14_left : (T_ref14_Core × Int) → Int → Prop := fun x r => match x, r with
  | (p0, p1), r0 => ∀ H, PC prog env 24 ([(T_ref14_Core.ex p0), (intD p1)].map .dat) H (intPV r0) H
theorem g_ref14_left_L1 : (∀ x r, m_ref14_left_L1 x = some r → P_ref14_left_L1 x r) ∧ (∀ x r, m_ref14_left x = some r → P_ref14_left x r) := by
  refine m_ref14_left_L1.mutual_partial_correctness P_ref14_left_L1 P_ref14_left ?_ ?_
  · intro m_ref14_left_L1 m_ref14_left w_ref14_left_L1 w_ref14_left x r hm
    unfold P_ref14_left_L1
    obtain ⟨p0, v202, v203⟩ := x
    intro st hst
    refine RL_at hst ?_
    clear hst
    refine R_seq ?_
    refine R_seq ?_
    obtain ⟨v603, hs, hm⟩ := bind_inv hm
    refine R_cut (fun d => ⟨sl d 43 [(1, (intPV v202)), (2, (.ptr 0 0)), (5, (intPV v203)), (32, (boolPV v603))], [(.box [(intPV p0.kind), (.dat (.lst ((List.map intD) p0.shape))), (intPV p0.buffer), (.dat (.lst ((List.map intD) p0.starts))), (intPV p0.axis), (intPV p0.amount), (.dat (.lst ((List.map intD) p0.perm))), (.dat (.lst (T_ref14_Core.toDs p0.kids)))])]⟩) ?_ (fun d => ?_)
    · replace hm := hs
      clear hs
      refine R_G ?_
      refine G_run 3 ?_
      refine I_len T_ref14_Core.toD p0.kids (es := T_ref14_Core.toDs p0.kids) (T_ref14_Core.toDs_eq _) ?_
      refine G_run 2 ?_
      refine G_split (p := v203 < (p0.kids.length : Int)) 29 (rfl) (fun hc => ?_) (fun hc => ?_)
      · replace hm := pos_inv hc hm
        refine G_run 3 ?_
        refine G_end ?_
        obtain rfl := inj1 hm
        exact cut_leaf (by kernel_rfl)
      replace hm := neg_inv hc hm
      refine G_run 3 ?_
      refine G_end ?_
      obtain rfl := inj1 hm
      exact cut_leaf (by kernel_rfl)
    clear hs
    refine R_ifp (p := v603 = true) (bool_dec _) (fun hc => ?_) (fun hc => ?_)
    · replace hm := pos_inv hc hm
      refine R_skip ?_
      refine R_seq ?_
      refine R_block ?_
      refine R_G ?_
      refine G_run 3 ?_
      obtain ⟨v604, hx, hm⟩ := bind_inv hm
      refine I_idx 8 T_ref14_Core.toD p0.kids v203 v604 (es := T_ref14_Core.toDs p0.kids) (d := (T_ref14_Core.ex v604)) (T_ref14_Core.toDs_eq _) hx (T_ref14_Core.toD_eq v604) rfl ?_
      refine G_run 2 ?_
      obtain ⟨v605, hx, hm⟩ := bind_inv hm
      have hq := w_ref14_left _ _ hx []
      refine G_callP hq ?_
      refine G_run 1 ?_
      refine G_end ?_
      refine R_G ?_
      refine G_run 3 ?_
      refine G_end ?_
      exact w_ref14_left_L1 _ _ hm _ (by kernel_rfl)
    replace hm := neg_inv hc hm
    refine R_exit ?_
    obtain rfl := inj1 hm
    exact ⟨rfl, cut_leaf (by kernel_rfl)⟩
  · intro m_ref14_left_L1 w_ref14_left_L1 x r0 hm
    unfold P_ref14_left
    obtain ⟨p0, p1⟩ := x
    intro H
    refine PC_sx (ds := [(T_ref14_Core.ex p0), (intD p1)]) (fn := f24) (by kernel_rfl) (by kernel_rfl) rfl ?_ (by kernel_rfl)
    refine R_seq ?_
    refine R_G ?_
    refine G_run 2 ?_
    refine G_end ?_
    refine R_seq ?_
    refine R_G ?_
    refine G_run 3 ?_
    refine G_end ?_
    refine R_seq ?_
    refine R_seq ?_
    obtain ⟨v1, hs, hm⟩ := bind_inv hm
    refine R_cut (fun d => ⟨sl d 43 [(1, (intPV (W (p1 - 1)))), (2, (.ptr 0 0)), (23, (boolPV v1))], [(.box [(intPV p0.kind), (.dat (.lst ((List.map intD) p0.shape))), (intPV p0.buffer), (.dat (.lst ((List.map intD) p0.starts))), (intPV p0.axis), (intPV p0.amount), (.dat (.lst ((List.map intD) p0.perm))), (.dat (.lst (T_ref14_Core.toDs p0.kids)))])]⟩) ?_ (fun d => ?_)
    · replace hm := hs
      clear hs
      refine R_G ?_
      refine G_run 2 ?_
      refine I_len intD p0.shape (es := (List.map intD) p0.shape) rfl ?_
      refine G_run 2 ?_
      refine G_split (p := (p0.shape.length : Int) > 40) 12 (rfl) (fun hc => ?_) (fun hc => ?_)
      · replace hm := pos_inv hc hm
        refine G_run 11 ?_
        refine G_end ?_
        obtain rfl := inj1 hm
        exact cut_leaf (by kernel_rfl)
      replace hm := neg_inv hc hm
      refine G_run 2 ?_
      refine I_len intD p0.starts (es := (List.map intD) p0.starts) rfl ?_
      refine G_run 3 ?_
      refine G_split (p := (p0.starts.length : Int) > 40) 18 (rfl) (fun hc => ?_) (fun hc => ?_)
      · replace hm := pos_inv hc hm
        refine G_run 5 ?_
        refine G_end ?_
        obtain rfl := inj1 hm
        exact cut_leaf (by kernel_rfl)
      replace hm := neg_inv hc hm
      refine G_run 2 ?_
      refine I_len intD p0.perm (es := (List.map intD) p0.perm) rfl ?_
      refine G_run 2 ?_
      refine G_end ?_
      obtain rfl := inj1 hm
      exact cut_leaf (by kernel_rfl)
    clear hs
    refine R_ifp (p := v1 = true) (bool_dec _) (fun hc => ?_) (fun hc => ?_)
    · replace hm := pos_inv hc hm
      refine R_seq ?_
      refine R_G ?_
      refine G_run 1 ?_
      refine G_end ?_
      refine R_ret ?_
      obtain rfl := inj1 hm
      exact ⟨trivial, fin_pure (by kernel_rfl)⟩
    replace hm := neg_inv hc hm
    refine R_skip ?_
    refine R_seq ?_
    refine R_seq ?_
    refine R_G ?_
    refine G_run 1 ?_
    refine G_end ?_
    refine R_block ?_
    obtain ⟨v602, hs, hm⟩ := bind_inv hm
    refine R_loop ?_
    refine RL_use (w_ref14_left_L1 _ _ hs) (by kernel_rfl) ?_
    clear hs
    intro e s hp
    obtain ⟨rfl, d, rfl⟩ := hp
    refine R_seq ?_
    refine R_G ?_
    refine G_run 2 ?_
    refine G_end ?_
    refine R_ret ?_
    obtain rfl := inj1 hm
    exact ⟨trivial, fin_pure (by kernel_rfl)⟩
theorem w_ref14_left_L1 : ∀ x r, m_ref14_left_L1 x = some r → P_ref14_left_L1 x r := g_ref14_left_L1.1
theorem w_ref14_left : ∀ x r, m_ref14_left x = some r → P_ref14_left x r := g_ref14_left_L1.2
end Go.Proofs.Tryd
namespace Go.Proofs.Tryd
open Go Go.Pm
set_option linter.unusedVariables false
set_option maxRecDepth 2000
def m_ref14_Few (x : (T_ref14_Core × Int)) : Option Bool :=
  match x with
  | (p0, p1) =>
  m_ref14_left (p0, p1) >>= fun (v1 : Int) =>
  some (decide (v1 ≥ 0))
def P_ref14_Few : (T_ref14_Core × Int) → Bool → Prop := fun x r => match x, r with
  | (p0, p1), r0 => ∀ H, PC prog env 8 ([(T_ref14_Core.ex p0), (intD p1)].map .dat) H (boolPV r0) H
theorem w_ref14_Few : ∀ x r, m_ref14_Few x = some r → P_ref14_Few x r := by
  intro x r0 hm
  unfold m_ref14_Few at hm
  unfold P_ref14_Few
  obtain ⟨p0, p1⟩ := x
  intro H
  refine PC_sx (ds := [(T_ref14_Core.ex p0), (intD p1)]) (fn := f8) (by kernel_rfl) (by kernel_rfl) rfl ?_ (by kernel_rfl)
  refine R_seq ?_
  refine R_G ?_
  refine G_run 2 ?_
  refine G_end ?_
  refine R_seq ?_
  refine R_G ?_
  refine G_run 2 ?_
  obtain ⟨v1, hx, hm⟩ := bind_inv hm
  have hq := w_ref14_left _ _ hx []
  refine G_callP hq ?_
  refine G_run 2 ?_
  refine G_end ?_
  refine R_ret ?_
  obtain rfl := inj1 hm
  exact ⟨trivial, fin_pure (by kernel_rfl)⟩
end Go.Proofs.Tryd
namespace Go.Proofs.Tryd
open Go Go.Pm
set_option linter.unusedVariables false
set_option maxRecDepth 2000
mutual
def m_law14_Core_L1 (x : (T_ref14_Core × (List T_core_Core) × Int)) : Option ((List T_core_Core)) :=
  match x with
  | (p0, v201, v202) =>
  if v202 < (p0.kids.length : Int) then
    idx p0.kids v202 >>= fun v602 =>
    m_law14_Core v602 >>= fun (v603 : T_core_Core) =>
    app 128 v201 ([v603] : List T_core_Core) >>= fun v604 =>
    m_law14_Core_L1 (p0, v604, (W (v202 + 1)))
  else
  some v201
  partial_fixpoint
def m_law14_Core (x : T_ref14_Core) : Option T_core_Core :=
  match x with
  | p0 =>
  m_law14_Core_L1 (p0, ([] : List T_core_Core), 0) >>= fun (v601 : (List T_core_Core)) =>
  some (⟨p0.kind, p0.shape, p0.buffer, p0.starts, p0.axis, p0.amount, p0.perm, v601⟩ : T_core_Core)
  partial_fixpoint
end
def P_law14_Core_L1 : (T_ref14_Core × (List T_core_Core) × Int) → (List T_core_Core) → Prop := fun x r => match x with
  | (p0, v201, v202) => ∀ st, prune 5 ((firstRegion (codeAt [1, 1, 0, 1, 0, 0] (bodyOf f10))).bind (env.hint 10).keepAt) st = ⟨kp 39 [(1, (.ptr 0 0)), (2, (.ptr 1 0)), (3, (.ptr 3 0)), (4, (intPV v202))], [(.box [(intPV p0.kind), (.dat (.lst ((List.map intD) p0.shape))), (intPV p0.buffer), (.dat (.lst ((List.map intD) p0.starts))), (intPV p0.axis), (intPV p0.amount), (.dat (.lst ((List.map intD) p0.perm))), (.dat (.lst (T_ref14_Core.toDs p0.kids)))]), (.box [(intPV 0), (.dat (.lst ((List.map intD) []))), (intPV 0), (.dat (.lst ((List.map intD) []))), (intPV 0), (intPV 0), (.dat (.lst ((List.map intD) []))), (.dat (.lst (T_core_Core.toDs [])))]), (.tok 32 v201.length), (.box [(intPV p0.kind), (.dat (.lst ((List.map intD) p0.shape))), (intPV p0.buffer), (.dat (.lst ((List.map intD) p0.starts))), (intPV p0.axis), (intPV p0.amount), (.dat (.lst ((List.map intD) p0.perm))), (.vec 2 (T_core_Core.toDs v201))]), (.tok 32 (([] : List T_core_Core).length))]⟩ →
    RL prog env (env.hint 10) true (codeAt [1, 1, 0, 1, 0, 0] (bodyOf f10)) 5 st (fun e s => match r with | v601 => e = .exit 0 ∧ ∃ d, s = ⟨sl d 39 [(2, (.ptr 1 0)), (3, (.ptr 3 0))], [(.box [(intPV p0.kind), (.dat (.lst ((List.map intD) p0.shape))), (intPV p0.buffer), (.dat (.lst ((List.map intD) p0.starts))), (intPV p0.axis), (intPV p0.amount), (.dat (.lst ((List.map intD) p0.perm))), (.dat (.lst (T_ref14_Core.toDs p0.kids)))]), (.box [(intPV 0), (.dat (.lst ((List.map intD) []))), (intPV 0), (.dat (.lst ((List.map intD) []))), (intPV 0), (intPV 0), (.dat (.lst ((List.map intD) []))), (.dat (.lst (T_core_Core.toDs [])))]), (.tok 32 v601.length), (.box [(intPV p0.kind), (.dat (.lst ((List.map intD) p0.shape))), (intPV p0.buffer), (.dat (.lst ((List.map intD) p0.starts))), (intPV p0.axis), (intPV p0.amount), (.dat (.lst ((List.map intD) p0.perm))), (.vec 2 (T_core_Core.toDs v601))]), (.tok 32 (([] : List T_core_Core).length))]⟩)
def P_law14_Core : T_ref14_Core → T_core_Core → Prop := fun x r => match x, r with
  | p0, r0 => ∀ H, PC prog env 10 ([(T_ref14_Core.ex p0)].map .dat) H (.dat (T_core_Core.ex r0)) H
theorem g_law14_Core_L1 : (∀ x r, m_law14_Core_L1 x = some r → P_law14_Core_L1 x r) ∧ (∀ x r, m_law14_Core x = some r → P_law14_Core x r) := by
  refine m_law14_Core_L1.mutual_partial_correctness P_law14_Core_L1 P_law14_Core ?_ ?_
  · intro m_law14_Core_L1 m_law14_Core w_law14_Core_L1 w_law14_Core x r hm
    unfold P_law14_Core_L1
    obtain ⟨p0, v201, v202⟩ := x
    intro st hst
    refine RL_at hst ?_
    clear hst
    refine R_seq ?_
    refine R_seq ?_
    refine R_G ?_
    refine G_run 3 ?_
    refine I_len T_ref14_Core.toD p0.kids (es := T_ref14_Core.toDs p0.kids) (T_ref14_Core.toDs_eq _) ?_
    refine G_run 1 ?_
    refine G_end ?_
    refine R_ifp (p := v202 < (p0.kids.length : Int)) (rfl) (fun hc => ?_) (fun hc => ?_)
    · replace hm := pos_inv hc hm
      refine R_skip ?_
      refine R_seq ?_
      refine R_block ?_
      refine R_GD ?_
      refine G_run 5 ?_
      obtain ⟨v602, hx, hm⟩ := bind_inv hm
      refine I_idx 8 T_ref14_Core.toD p0.kids v202 v602 (es := T_ref14_Core.toDs p0.kids) (d := (T_ref14_Core.ex v602)) (T_ref14_Core.toDs_eq _) hx (T_ref14_Core.toD_eq v602) rfl ?_
      refine G_run 1 ?_
      obtain ⟨v603, hx, hm⟩ := bind_inv hm
      have hq := w_law14_Core _ _ hx []
      refine G_callP hq ?_
      refine G_run 1 ?_
      obtain ⟨v604, hx, hm⟩ := bind_inv hm
      refine I_app 32 8 128 2 T_core_Core.toD v201 ([v603] : List T_core_Core) v604 (xs := T_core_Core.toDs v201) (es := [(T_core_Core.ex v603)]) (L := T_core_Core.toDs) T_core_Core.toDs_eq rfl (by simp only [T_core_Core.toDs, T_core_Core.toD_eq]) T_core_Core.fit hx ?_
      refine G_run 2 ?_
      refine G_end ⟨by kernel_rfl, ?_⟩
      refine R_G ?_
      refine G_run 3 ?_
      refine G_end ?_
      exact w_law14_Core_L1 _ _ hm _ (by kernel_rfl)
    replace hm := neg_inv hc hm
    refine R_exit ?_
    obtain rfl := inj1 hm
    exact ⟨rfl, cut_leaf (by kernel_rfl)⟩
  · intro m_law14_Core_L1 w_law14_Core_L1 p0 r0 hm
    unfold P_law14_Core
    intro H
    refine PC_sx (ds := [(T_ref14_Core.ex p0)]) (fn := f10) (by kernel_rfl) (by kernel_rfl) rfl ?_ (by kernel_rfl)
    refine R_seq ?_
    refine R_G ?_
    refine G_run 2 ?_
    refine G_end ?_
    refine R_seq ?_
    refine R_G ?_
    refine G_run 17 ?_
    refine G_end ?_
    refine R_seq ?_
    refine R_seq ?_
    refine R_G ?_
    refine G_run 1 ?_
    refine G_end ?_
    refine R_block ?_
    obtain ⟨v601, hs, hm⟩ := bind_inv hm
    refine R_loop ?_
    refine RL_use (w_law14_Core_L1 _ _ hs) (by kernel_rfl) ?_
    clear hs
    intro e s hp
    obtain ⟨rfl, d, rfl⟩ := hp
    refine R_seq ?_
    refine R_G ?_
    refine G_run 2 ?_
    refine G_end ?_
    refine R_ret ?_
    obtain rfl := inj1 hm
    exact ⟨trivial, fin_pure (by kernel_rfl)⟩
theorem w_law14_Core_L1 : ∀ x r, m_law14_Core_L1 x = some r → P_law14_Core_L1 x r := g_law14_Core_L1.1
theorem w_law14_Core : ∀ x r, m_law14_Core x = some r → P_law14_Core x r := g_law14_Core_L1.2
end Go.Proofs.Tryd
namespace Go.Proofs.Tryd
open Go Go.Pm
set_option linter.unusedVariables false
set_option maxRecDepth 2000
def m_slices_Equal_int_int_L1 (x : ((List Int) × (List Int) × Int)) : Option (Unit ⊕ Unit) :=
  match x with
  | (p0, p1, v201) =>
  if v201 < (p0.length : Int) then
    idx p0 v201 >>= fun v601 =>
    idx p1 v201 >>= fun v602 =>
    if v601 ≠ v602 then
      some (Sum.inl ())
    else
    m_slices_Equal_int_int_L1 (p0, p1, (W (v201 + 1)))
  else
  some (Sum.inr ())
  partial_fixpoint
def P_slices_Equal_int_int_L1 : ((List Int) × (List Int) × Int) → (Unit ⊕ Unit) → Prop := fun x r => match x with
  | (p0, p1, v201) => ∀ st, prune 0 ((firstRegion (codeAt [1, 1, 0, 1, 0, 0] (bodyOf f33))).bind (env.hint 33).keepAt) st = ⟨kp 26 [(0, (.dat (.lst ((List.map intD) p0)))), (1, (.dat (.lst ((List.map intD) p1)))), (12, (intPV (p0.length : Int))), (13, (intPV v201))], []⟩ →
    RL prog env (env.hint 33) true (codeAt [1, 1, 0, 1, 0, 0] (bodyOf f33)) 0 st (fun e s => match r with | .inl _ => e = .ret ∧ ∃ d, s = ⟨sl d 26 [(4, (boolPV false))], []⟩ | .inr (_) => e = .exit 0 ∧ ∃ d, s = ⟨sl d 26 [], []⟩)
theorem w_slices_Equal_int_int_L1 : ∀ x r, m_slices_Equal_int_int_L1 x = some r → P_slices_Equal_int_int_L1 x r := by
  refine m_slices_Equal_int_int_L1.partial_correctness _ (fun m_slices_Equal_int_int_L1 w_slices_Equal_int_int_L1 x r hm => ?_)
  unfold P_slices_Equal_int_int_L1
  obtain ⟨p0, p1, v201⟩ := x
  intro st hst
  refine RL_at hst ?_
  clear hst
  refine R_seq ?_
  refine R_G ?_
  refine G_run 1 ?_
  refine G_end ?_
  refine R_seq ?_
  refine R_ifp (p := v201 < (p0.length : Int)) (rfl) (fun hc => ?_) (fun hc => ?_)
  · replace hm := pos_inv hc hm
    refine R_skip ?_
    refine R_seq ?_
    refine R_block ?_
    refine R_seq ?_
    refine R_G ?_
    refine G_run 2 ?_
    refine G_end ?_
    refine R_seq ?_
    refine R_GD ?_
    refine G_run 2 ?_
    obtain ⟨v601, hx, hm⟩ := bind_inv hm
    refine I_idx 1 intD p0 v201 v601 (es := (List.map intD) p0) (d := (intD v601)) rfl hx rfl rfl ?_
    refine G_run 3 ?_
    obtain ⟨v602, hx, hm⟩ := bind_inv hm
    refine I_idx 1 intD p1 v201 v602 (es := (List.map intD) p1) (d := (intD v602)) rfl hx rfl rfl ?_
    refine G_run 2 ?_
    refine G_end ⟨by kernel_rfl, ?_⟩
    refine R_ifp (p := v601 ≠ v602) (ne_dec _ _) (fun hc => ?_) (fun hc => ?_)
    · replace hm := pos_inv hc hm
      refine R_seq ?_
      refine R_G ?_
      refine G_run 1 ?_
      refine G_end ?_
      refine R_ret ?_
      obtain rfl := inj1 hm
      exact ⟨rfl, cut_leaf (by kernel_rfl)⟩
    replace hm := neg_inv hc hm
    refine R_skip ?_
    refine R_G ?_
    refine G_run 2 ?_
    refine G_end ?_
    exact w_slices_Equal_int_int_L1 _ _ hm _ (by kernel_rfl)
  replace hm := neg_inv hc hm
  refine R_exit ?_
  obtain rfl := inj1 hm
  exact ⟨rfl, cut_leaf (by kernel_rfl)⟩
def m_slices_Equal_int_int (x : ((List Int) × (List Int))) : Option Bool :=
  match x with
  | (p0, p1) =>
  if (p0.length : Int) ≠ (p1.length : Int) then
    some false
  else
  (
  m_slices_Equal_int_int_L1 (p0, p1, 0) >>= fun (out : Unit ⊕ Unit) =>
  match out with
  | .inl _ =>
    some false
  | .inr (_) =>
    some true
  )
def P_slices_Equal_int_int : ((List Int) × (List Int)) → Bool → Prop := fun x r => match x, r with
  | (p0, p1), r0 => ∀ H, PC prog env 33 ([(.lst ((List.map intD) p0)), (.lst ((List.map intD) p1))].map .dat) H (boolPV r0) H
theorem w_slices_Equal_int_int : ∀ x r, m_slices_Equal_int_int x = some r → P_slices_Equal_int_int x r := by
  intro x r0 hm
  unfold m_slices_Equal_int_int at hm
  unfold P_slices_Equal_int_int
  obtain ⟨p0, p1⟩ := x
  intro H
  refine PC_sx (ds := [(.lst ((List.map intD) p0)), (.lst ((List.map intD) p1))]) (fn := f33) (by kernel_rfl) (by kernel_rfl) rfl ?_ (by kernel_rfl)
  refine R_seq ?_
  refine R_G ?_
  refine G_run 1 ?_
  refine G_end ?_
  refine R_seq ?_
  refine R_seq ?_
  refine R_G ?_
  refine G_run 1 ?_
  refine I_len intD p0 (es := (List.map intD) p0) rfl ?_
  refine G_run 1 ?_
  refine I_len intD p1 (es := (List.map intD) p1) rfl ?_
  refine G_run 1 ?_
  refine G_end ?_
  refine R_ifp (p := (p0.length : Int) ≠ (p1.length : Int)) (ne_dec _ _) (fun hc => ?_) (fun hc => ?_)
  · replace hm := pos_inv hc hm
    refine R_seq ?_
    refine R_G ?_
    refine G_run 1 ?_
    refine G_end ?_
    refine R_ret ?_
    obtain rfl := inj1 hm
    exact ⟨trivial, fin_pure (by kernel_rfl)⟩
  replace hm := neg_inv hc hm
  refine R_skip ?_
  refine R_seq ?_
  refine R_seq ?_
  refine R_G ?_
  refine G_run 1 ?_
  refine I_len intD p0 (es := (List.map intD) p0) rfl ?_
  refine G_run 1 ?_
  refine G_end ?_
  refine R_block ?_
  obtain ⟨out, hs, hm⟩ := bind_inv hm
  refine R_loop ?_
  rcases out with _ | _
  · refine RL_use (w_slices_Equal_int_int_L1 _ _ hs) (by kernel_rfl) ?_
    clear hs
    intro e s hp
    obtain ⟨rfl, d, rfl⟩ := hp
    obtain rfl := inj1 hm
    exact ⟨trivial, fin_pure (by kernel_rfl)⟩
  · refine RL_use (w_slices_Equal_int_int_L1 _ _ hs) (by kernel_rfl) ?_
    clear hs
    intro e s hp
    obtain ⟨rfl, d, rfl⟩ := hp
    refine R_seq ?_
    refine R_G ?_
    refine G_run 1 ?_
    refine G_end ?_
    refine R_ret ?_
    obtain rfl := inj1 hm
    exact ⟨trivial, fin_pure (by kernel_rfl)⟩
end Go.Proofs.Tryd
namespace Go.Proofs.Tryd
open Go Go.Pm
set_option linter.unusedVariables false
set_option maxRecDepth 2000
def m_shape_Equal (x : ((List Int) × (List Int))) : Option Bool :=
  match x with
  | (p0, p1) =>
  m_slices_Equal_int_int (p0, p1) >>= fun (v1 : Bool) =>
  some v1
def P_shape_Equal : ((List Int) × (List Int)) → Bool → Prop := fun x r => match x, r with
  | (p0, p1), r0 => ∀ H, PC prog env 32 ([(.lst ((List.map intD) p0)), (.lst ((List.map intD) p1))].map .dat) H (boolPV r0) H
theorem w_shape_Equal : ∀ x r, m_shape_Equal x = some r → P_shape_Equal x r := by
  intro x r0 hm
  unfold m_shape_Equal at hm
  unfold P_shape_Equal
  obtain ⟨p0, p1⟩ := x
  intro H
  refine PC_sx (ds := [(.lst ((List.map intD) p0)), (.lst ((List.map intD) p1))]) (fn := f32) (by kernel_rfl) (by kernel_rfl) rfl ?_ (by kernel_rfl)
  refine R_seq ?_
  refine R_G ?_
  refine G_run 1 ?_
  refine G_end ?_
  refine R_seq ?_
  refine R_G ?_
  refine G_run 2 ?_
  obtain ⟨v1, hx, hm⟩ := bind_inv hm
  have hq := w_slices_Equal_int_int _ _ hx []
  refine G_callP hq ?_
  refine G_run 1 ?_
  refine G_end ?_
  refine R_ret ?_
  obtain rfl := inj1 hm
  exact ⟨trivial, fin_pure (by kernel_rfl)⟩
end Go.Proofs.Tryd
namespace Go.Proofs.Tryd
open Go Go.Pm
set_option linter.unusedVariables false
set_option maxRecDepth 2000
mutual
def m_slices_EqualFunc_core_Core_core_Core_core_Core_core_Core_core_Same_L1 (x : ((List T_core_Core) × (List T_core_Core) × Int)) : Option ((Int × (List Int) × Int × (List Int) × Int × Int × (List Int) × (List T_core_Core) × Int × (List Int) × Int × (List Int) × Int × Int × (List Int) × (List T_core_Core)) ⊕ Unit) :=
  match x with
  | (p0, p1, v201) =>
  if v201 < (p0.length : Int) then
    idx p0 v201 >>= fun v617 =>
    idx p1 v201 >>= fun v618 =>
    m_core_Same (v617, v618) >>= fun (v619 : Bool) =>
    if v619 = false then
      some (Sum.inl (v617.kind, v617.shape, v617.buffer, v617.starts, v617.axis, v617.amount, v617.perm, v617.kids, v618.kind, v618.shape, v618.buffer, v618.starts, v618.axis, v618.amount, v618.perm, v618.kids))
    else
    m_slices_EqualFunc_core_Core_core_Core_core_Core_core_Core_core_Same_L1 (p0, p1, (W (v201 + 1)))
  else
  some (Sum.inr ())
  partial_fixpoint
def m_slices_EqualFunc_core_Core_core_Core_core_Core_core_Core_core_Same (x : ((List T_core_Core) × (List T_core_Core))) : Option Bool :=
  match x with
  | (p0, p1) =>
  if (p0.length : Int) ≠ (p1.length : Int) then
    some false
  else
  (
  m_slices_EqualFunc_core_Core_core_Core_core_Core_core_Core_core_Same_L1 (p0, p1, 0) >>= fun (out : (Int × (List Int) × Int × (List Int) × Int × Int × (List Int) × (List T_core_Core) × Int × (List Int) × Int × (List Int) × Int × Int × (List Int) × (List T_core_Core)) ⊕ Unit) =>
  match out with
  | .inl (v601, v602, v603, v604, v605, v606, v607, v608, v609, v610, v611, v612, v613, v614, v615, v616) =>
    some false
  | .inr (_) =>
    some true
  )
  partial_fixpoint
def m_core_Same (x : (T_core_Core × T_core_Core)) : Option Bool :=
  match x with
  | (p0, p1) =>
  if p0.kind = p1.kind then
    m_shape_Equal (p0.shape, p1.shape) >>= fun (v1 : Bool) =>
    if v1 = true then
      if p0.buffer = p1.buffer then
        m_slices_Equal_int_int (p0.starts, p1.starts) >>= fun (v2 : Bool) =>
        if v2 = true then
          if p0.axis = p1.axis then
            if p0.amount = p1.amount then
              m_slices_Equal_int_int (p0.perm, p1.perm) >>= fun (v3 : Bool) =>
              if v3 = true then
                m_slices_EqualFunc_core_Core_core_Core_core_Core_core_Core_core_Same (p0.kids, p1.kids) >>= fun (v4 : Bool) =>
                some v4
              else
              some false
            else
            some false
          else
          some false
        else
        some false
      else
      some false
    else
    some false
  else
  some false
  partial_fixpoint
end
def P_slices_EqualFunc_core_Core_core_Core_core_Core_core_Core_core_Same_L1 : ((List T_core_Core) × (List T_core_Core) × Int) → ((Int × (List Int) × Int × (List Int) × Int × Int × (List Int) × (List T_core_Core) × Int × (List Int) × Int × (List Int) × Int × Int × (List Int) × (List T_core_Core)) ⊕ Unit) → Prop := fun x r => match x with
  | (p0, p1, v201) => ∀ st, prune 0 ((firstRegion (codeAt [1, 1, 0, 1, 0, 0] (bodyOf f34))).bind (env.hint 34).keepAt) st = ⟨kp 32 [(1, (.dat (.lst (T_core_Core.toDs p1)))), (2, (.dat (.raw (.func (.func 19) #[] #[])))), (15, (.dat (.lst (T_core_Core.toDs p0)))), (16, (intPV (p0.length : Int))), (17, (intPV v201))], []⟩ →
    RL prog env (env.hint 34) true (codeAt [1, 1, 0, 1, 0, 0] (bodyOf f34)) 0 st (fun e s => match r with | .inl (v601, v602, v603, v604, v605, v606, v607, v608, v609, v610, v611, v612, v613, v614, v615, v616) => e = .ret ∧ ∃ d, s = ⟨sl d 32 [(6, (boolPV false))], [(.box [(intPV v601), (.dat (.lst ((List.map intD) v602))), (intPV v603), (.dat (.lst ((List.map intD) v604))), (intPV v605), (intPV v606), (.dat (.lst ((List.map intD) v607))), (.dat (.lst (T_core_Core.toDs v608)))]), (.box [(intPV v609), (.dat (.lst ((List.map intD) v610))), (intPV v611), (.dat (.lst ((List.map intD) v612))), (intPV v613), (intPV v614), (.dat (.lst ((List.map intD) v615))), (.dat (.lst (T_core_Core.toDs v616)))])]⟩ | .inr (_) => e = .exit 0 ∧ ∃ d, s = ⟨sl d 32 [], []⟩)
def P_slices_EqualFunc_core_Core_core_Core_core_Core_core_Core_core_Same : ((List T_core_Core) × (List T_core_Core)) → Bool → Prop := fun x r => match x, r with
  | (p0, p1), r0 => ∀ H, PC prog env 34 ([(.lst (T_core_Core.toDs p0)), (.lst (T_core_Core.toDs p1)), (.raw (.func (.func 19) #[] #[]))].map .dat) H (boolPV r0) H
def P_core_Same : (T_core_Core × T_core_Core) → Bool → Prop := fun x r => match x, r with
  | (p0, p1), r0 => ∀ H, PC prog env 19 ([(T_core_Core.ex p0), (T_core_Core.ex p1)].map .dat) H (boolPV r0) H
theorem g_slices_EqualFunc_core_Core_core_Core_core_Core_core_Core_core_Same_L1 : (∀ x r, m_slices_EqualFunc_core_Core_core_Core_core_Core_core_Core_core_Same_L1 x = some r → P_slices_EqualFunc_core_Core_core_Core_core_Core_core_Core_core_Same_L1 x r) ∧ (∀ x r, m_core_Same x = some r → P_core_Same x r) ∧ (∀ x r, m_slices_EqualFunc_core_Core_core_Core_core_Core_core_Core_core_Same x = some r → P_slices_EqualFunc_core_Core_core_Core_core_Core_core_Core_core_Same x r) := by
  refine m_slices_EqualFunc_core_Core_core_Core_core_Core_core_Core_core_Same_L1.mutual_partial_correctness P_slices_EqualFunc_core_Core_core_Core_core_Core_core_Core_core_Same_L1 P_core_Same P_slices_EqualFunc_core_Core_core_Core_core_Core_core_Core_core_Same ?_ ?_ ?_
  · intro m_slices_EqualFunc_core_Core_core_Core_core_Core_core_Core_core_Same_L1 m_core_Same w_slices_EqualFunc_core_Core_core_Core_core_Core_core_Core_core_Same_L1 w_core_Same x r hm
    unfold P_slices_EqualFunc_core_Core_core_Core_core_Core_core_Core_core_Same_L1
    obtain ⟨p0, p1, v201⟩ := x
    intro st hst
    refine RL_at hst ?_
    clear hst
    refine R_seq ?_
    refine R_G ?_
    refine G_run 1 ?_
    refine G_end ?_
    refine R_seq ?_
    refine R_ifp (p := v201 < (p0.length : Int)) (rfl) (fun hc => ?_) (fun hc => ?_)
    · replace hm := pos_inv hc hm
      refine R_skip ?_
      refine R_seq ?_
      refine R_block ?_
      refine R_seq ?_
      refine R_G ?_
      refine G_run 1 ?_
      obtain ⟨v617, hx, hm⟩ := bind_inv hm
      refine I_idx 8 T_core_Core.toD p0 v201 v617 (es := T_core_Core.toDs p0) (d := (T_core_Core.ex v617)) (T_core_Core.toDs_eq _) hx (T_core_Core.toD_eq v617) rfl ?_
      refine G_run 4 ?_
      refine G_end ?_
      refine R_seq ?_
      refine R_G ?_
      refine G_run 2 ?_
      obtain ⟨v618, hx, hm⟩ := bind_inv hm
      refine I_idx 8 T_core_Core.toD p1 v201 v618 (es := T_core_Core.toDs p1) (d := (T_core_Core.ex v618)) (T_core_Core.toDs_eq _) hx (T_core_Core.toD_eq v618) rfl ?_
      refine G_run 3 ?_
      refine G_end ?_
      refine R_seq ?_
      refine R_G ?_
      refine G_run 3 ?_
      obtain ⟨v619, hx, hm⟩ := bind_inv hm
      have hq := w_core_Same _ _ hx []
      refine G_callP hq ?_
      refine G_run 1 ?_
      refine G_end ?_
      refine R_ifp (p := v619 = false) (not_dec _) (fun hc => ?_) (fun hc => ?_)
      · replace hm := pos_inv hc hm
        refine R_seq ?_
        refine R_G ?_
        refine G_run 1 ?_
        refine G_end ?_
        refine R_ret ?_
        obtain rfl := inj1 hm
        exact ⟨rfl, cut_leaf (by kernel_rfl)⟩
      replace hm := neg_inv hc hm
      refine R_skip ?_
      refine R_G ?_
      refine G_run 2 ?_
      refine G_end ?_
      exact w_slices_EqualFunc_core_Core_core_Core_core_Core_core_Core_core_Same_L1 _ _ hm _ (by kernel_rfl)
    replace hm := neg_inv hc hm
    refine R_exit ?_
    obtain rfl := inj1 hm
    exact ⟨rfl, cut_leaf (by kernel_rfl)⟩
  · intro m_slices_EqualFunc_core_Core_core_Core_core_Core_core_Core_core_Same w_slices_EqualFunc_core_Core_core_Core_core_Core_core_Core_core_Same x r0 hm
    unfold P_core_Same
    obtain ⟨p0, p1⟩ := x
    intro H
    refine PC_sx (ds := [(T_core_Core.ex p0), (T_core_Core.ex p1)]) (fn := f19) (by kernel_rfl) (by kernel_rfl) rfl ?_ (by kernel_rfl)
    refine R_seq ?_
    refine R_G ?_
    refine G_run 3 ?_
    refine G_end ?_
    refine R_seq ?_
    refine R_G ?_
    refine G_run 6 ?_
    refine G_split (p := p0.kind = p1.kind) 10 (eq_dec _ _) (fun hc => ?_) (fun hc => ?_)
    · replace hm := pos_inv hc hm
      refine G_run 4 ?_
      obtain ⟨v1, hx, hm⟩ := bind_inv hm
      have hq := w_shape_Equal _ _ hx []
      refine G_callP hq ?_
      refine G_run 2 ?_
      refine G_split (p := v1 = true) 17 (bool_dec _) (fun hc => ?_) (fun hc => ?_)
      · replace hm := pos_inv hc hm
        refine G_run 7 ?_
        refine G_split (p := p0.buffer = p1.buffer) 24 (eq_dec _ _) (fun hc => ?_) (fun hc => ?_)
        · replace hm := pos_inv hc hm
          refine G_run 4 ?_
          obtain ⟨v2, hx, hm⟩ := bind_inv hm
          have hq := w_slices_Equal_int_int _ _ hx []
          refine G_callP hq ?_
          refine G_run 2 ?_
          refine G_split (p := v2 = true) 31 (bool_dec _) (fun hc => ?_) (fun hc => ?_)
          · replace hm := pos_inv hc hm
            refine G_run 7 ?_
            refine G_split (p := p0.axis = p1.axis) 38 (eq_dec _ _) (fun hc => ?_) (fun hc => ?_)
            · replace hm := pos_inv hc hm
              refine G_run 7 ?_
              refine G_split (p := p0.amount = p1.amount) 45 (eq_dec _ _) (fun hc => ?_) (fun hc => ?_)
              · replace hm := pos_inv hc hm
                refine G_run 4 ?_
                obtain ⟨v3, hx, hm⟩ := bind_inv hm
                have hq := w_slices_Equal_int_int _ _ hx []
                refine G_callP hq ?_
                refine G_run 2 ?_
                refine G_split (p := v3 = true) 52 (bool_dec _) (fun hc => ?_) (fun hc => ?_)
                · replace hm := pos_inv hc hm
                  refine G_run 4 ?_
                  obtain ⟨v4, hx, hm⟩ := bind_inv hm
                  have hq := w_slices_EqualFunc_core_Core_core_Core_core_Core_core_Core_core_Same _ _ hx []
                  refine G_callP hq ?_
                  refine G_run 2 ?_
                  refine G_end ?_
                  refine R_ret ?_
                  obtain rfl := inj1 hm
                  exact ⟨trivial, fin_pure (by kernel_rfl)⟩
                replace hm := neg_inv hc hm
                refine G_run 7 ?_
                refine G_end ?_
                refine R_ret ?_
                obtain rfl := inj1 hm
                exact ⟨trivial, fin_pure (by kernel_rfl)⟩
              replace hm := neg_inv hc hm
              refine G_run 14 ?_
              refine G_end ?_
              refine R_ret ?_
              obtain rfl := inj1 hm
              exact ⟨trivial, fin_pure (by kernel_rfl)⟩
            replace hm := neg_inv hc hm
            refine G_run 21 ?_
            refine G_end ?_
            refine R_ret ?_
            obtain rfl := inj1 hm
            exact ⟨trivial, fin_pure (by kernel_rfl)⟩
          replace hm := neg_inv hc hm
          refine G_run 28 ?_
          refine G_end ?_
          refine R_ret ?_
          obtain rfl := inj1 hm
          exact ⟨trivial, fin_pure (by kernel_rfl)⟩
        replace hm := neg_inv hc hm
        refine G_run 35 ?_
        refine G_end ?_
        refine R_ret ?_
        obtain rfl := inj1 hm
        exact ⟨trivial, fin_pure (by kernel_rfl)⟩
      replace hm := neg_inv hc hm
      refine G_run 42 ?_
      refine G_end ?_
      refine R_ret ?_
      obtain rfl := inj1 hm
      exact ⟨trivial, fin_pure (by kernel_rfl)⟩
    replace hm := neg_inv hc hm
    refine G_run 49 ?_
    refine G_end ?_
    refine R_ret ?_
    obtain rfl := inj1 hm
    exact ⟨trivial, fin_pure (by kernel_rfl)⟩
  · intro m_slices_EqualFunc_core_Core_core_Core_core_Core_core_Core_core_Same_L1 w_slices_EqualFunc_core_Core_core_Core_core_Core_core_Core_core_Same_L1 x r0 hm
    unfold P_slices_EqualFunc_core_Core_core_Core_core_Core_core_Core_core_Same
    obtain ⟨p0, p1⟩ := x
    intro H
    refine PC_sx (ds := [(.lst (T_core_Core.toDs p0)), (.lst (T_core_Core.toDs p1)), (.raw (.func (.func 19) #[] #[]))]) (fn := f34) (by kernel_rfl) (by kernel_rfl) rfl ?_ (by kernel_rfl)
    refine R_seq ?_
    refine R_G ?_
    refine G_run 1 ?_
    refine G_end ?_
    refine R_seq ?_
    refine R_seq ?_
    refine R_G ?_
    refine G_run 1 ?_
    refine I_len T_core_Core.toD p0 (es := T_core_Core.toDs p0) (T_core_Core.toDs_eq _) ?_
    refine G_run 1 ?_
    refine I_len T_core_Core.toD p1 (es := T_core_Core.toDs p1) (T_core_Core.toDs_eq _) ?_
    refine G_run 1 ?_
    refine G_end ?_
    refine R_ifp (p := (p0.length : Int) ≠ (p1.length : Int)) (ne_dec _ _) (fun hc => ?_) (fun hc => ?_)
    · replace hm := pos_inv hc hm
      refine R_seq ?_
      refine R_G ?_
      refine G_run 1 ?_
      refine G_end ?_
      refine R_ret ?_
      obtain rfl := inj1 hm
      exact ⟨trivial, fin_pure (by kernel_rfl)⟩
    replace hm := neg_inv hc hm
    refine R_skip ?_
    refine R_seq ?_
    refine R_seq ?_
    refine R_G ?_
    refine G_run 1 ?_
    refine I_len T_core_Core.toD p0 (es := T_core_Core.toDs p0) (T_core_Core.toDs_eq _) ?_
    refine G_run 1 ?_
    refine G_end ?_
    refine R_block ?_
    obtain ⟨out, hs, hm⟩ := bind_inv hm
    refine R_loop ?_
    rcases out with ⟨v601, v602, v603, v604, v605, v606, v607, v608, v609, v610, v611, v612, v613, v614, v615, v616⟩ | _
    · refine RL_use (w_slices_EqualFunc_core_Core_core_Core_core_Core_core_Core_core_Same_L1 _ _ hs) (by kernel_rfl) ?_
      clear hs
      intro e s hp
      obtain ⟨rfl, d, rfl⟩ := hp
      obtain rfl := inj1 hm
      exact ⟨trivial, fin_pure (by kernel_rfl)⟩
    · refine RL_use (w_slices_EqualFunc_core_Core_core_Core_core_Core_core_Core_core_Same_L1 _ _ hs) (by kernel_rfl) ?_
      clear hs
      intro e s hp
      obtain ⟨rfl, d, rfl⟩ := hp
      refine R_seq ?_
      refine R_G ?_
      refine G_run 1 ?_
      refine G_end ?_
      refine R_ret ?_
      obtain rfl := inj1 hm
      exact ⟨trivial, fin_pure (by kernel_rfl)⟩
theorem w_slices_EqualFunc_core_Core_core_Core_core_Core_core_Core_core_Same_L1 : ∀ x r, m_slices_EqualFunc_core_Core_core_Core_core_Core_core_Core_core_Same_L1 x = some r → P_slices_EqualFunc_core_Core_core_Core_core_Core_core_Core_core_Same_L1 x r := g_slices_EqualFunc_core_Core_core_Core_core_Core_core_Core_core_Same_L1.1
theorem w_core_Same : ∀ x r, m_core_Same x = some r → P_core_Same x r := g_slices_EqualFunc_core_Core_core_Core_core_Core_core_Core_core_Same_L1.2.1
theorem w_slices_EqualFunc_core_Core_core_Core_core_Core_core_Core_core_Same : ∀ x r, m_slices_EqualFunc_core_Core_core_Core_core_Core_core_Core_core_Same x = some r → P_slices_EqualFunc_core_Core_core_Core_core_Core_core_Core_core_Same x r := g_slices_EqualFunc_core_Core_core_Core_core_Core_core_Core_core_Same_L1.2.2
end Go.Proofs.Tryd
namespace Go.Proofs.Tryd
open Go Go.Pm
set_option linter.unusedVariables false
set_option maxRecDepth 2000
def m_ref02_Equal_L1 (x : ((List Int) × (List Int) × Int)) : Option (Unit ⊕ Unit) :=
  match x with
  | (p0, p1, v201) =>
  if v201 < (p0.length : Int) then
    idx p0 v201 >>= fun v601 =>
    idx p1 v201 >>= fun v602 =>
    if v601 ≠ v602 then
      some (Sum.inl ())
    else
    m_ref02_Equal_L1 (p0, p1, (W (v201 + 1)))
  else
  some (Sum.inr ())
  partial_fixpoint
def P_ref02_Equal_L1 : ((List Int) × (List Int) × Int) → (Unit ⊕ Unit) → Prop := fun x r => match x with
  | (p0, p1, v201) => ∀ st, prune 0 ((firstRegion (codeAt [1, 1, 0, 1, 0, 0] (bodyOf f17))).bind (env.hint 17).keepAt) st = ⟨kp 26 [(0, (.dat (.lst ((List.map intD) p0)))), (1, (.dat (.lst ((List.map intD) p1)))), (5, (intPV v201))], []⟩ →
    RL prog env (env.hint 17) true (codeAt [1, 1, 0, 1, 0, 0] (bodyOf f17)) 0 st (fun e s => match r with | .inl _ => e = .ret ∧ ∃ d, s = ⟨sl d 26 [(4, (boolPV false))], []⟩ | .inr (_) => e = .exit 0 ∧ ∃ d, s = ⟨sl d 26 [], []⟩)
theorem w_ref02_Equal_L1 : ∀ x r, m_ref02_Equal_L1 x = some r → P_ref02_Equal_L1 x r := by
  refine m_ref02_Equal_L1.partial_correctness _ (fun m_ref02_Equal_L1 w_ref02_Equal_L1 x r hm => ?_)
  unfold P_ref02_Equal_L1
  obtain ⟨p0, p1, v201⟩ := x
  intro st hst
  refine RL_at hst ?_
  clear hst
  refine R_seq ?_
  refine R_seq ?_
  refine R_G ?_
  refine G_run 2 ?_
  refine I_len intD p0 (es := (List.map intD) p0) rfl ?_
  refine G_run 1 ?_
  refine G_end ?_
  refine R_ifp (p := v201 < (p0.length : Int)) (rfl) (fun hc => ?_) (fun hc => ?_)
  · replace hm := pos_inv hc hm
    refine R_skip ?_
    refine R_seq ?_
    refine R_block ?_
    refine R_seq ?_
    refine R_GD ?_
    refine G_run 2 ?_
    obtain ⟨v601, hx, hm⟩ := bind_inv hm
    refine I_idx 1 intD p0 v201 v601 (es := (List.map intD) p0) (d := (intD v601)) rfl hx rfl rfl ?_
    refine G_run 3 ?_
    obtain ⟨v602, hx, hm⟩ := bind_inv hm
    refine I_idx 1 intD p1 v201 v602 (es := (List.map intD) p1) (d := (intD v602)) rfl hx rfl rfl ?_
    refine G_run 2 ?_
    refine G_end ⟨by kernel_rfl, ?_⟩
    refine R_ifp (p := v601 ≠ v602) (ne_dec _ _) (fun hc => ?_) (fun hc => ?_)
    · replace hm := pos_inv hc hm
      refine R_seq ?_
      refine R_G ?_
      refine G_run 1 ?_
      refine G_end ?_
      refine R_ret ?_
      obtain rfl := inj1 hm
      exact ⟨rfl, cut_leaf (by kernel_rfl)⟩
    replace hm := neg_inv hc hm
    refine R_skip ?_
    refine R_G ?_
    refine G_run 3 ?_
    refine G_end ?_
    exact w_ref02_Equal_L1 _ _ hm _ (by kernel_rfl)
  replace hm := neg_inv hc hm
  refine R_exit ?_
  obtain rfl := inj1 hm
  exact ⟨rfl, cut_leaf (by kernel_rfl)⟩
def m_ref02_Equal (x : ((List Int) × (List Int))) : Option Bool :=
  match x with
  | (p0, p1) =>
  if (p0.length : Int) ≠ (p1.length : Int) then
    some false
  else
  (
  m_ref02_Equal_L1 (p0, p1, 0) >>= fun (out : Unit ⊕ Unit) =>
  match out with
  | .inl _ =>
    some false
  | .inr (_) =>
    some true
  )
def P_ref02_Equal : ((List Int) × (List Int)) → Bool → Prop := fun x r => match x, r with
  | (p0, p1), r0 => ∀ H, PC prog env 17 ([(.lst ((List.map intD) p0)), (.lst ((List.map intD) p1))].map .dat) H (boolPV r0) H
theorem w_ref02_Equal : ∀ x r, m_ref02_Equal x = some r → P_ref02_Equal x r := by
  intro x r0 hm
  unfold m_ref02_Equal at hm
  unfold P_ref02_Equal
  obtain ⟨p0, p1⟩ := x
  intro H
  refine PC_sx (ds := [(.lst ((List.map intD) p0)), (.lst ((List.map intD) p1))]) (fn := f17) (by kernel_rfl) (by kernel_rfl) rfl ?_ (by kernel_rfl)
  refine R_seq ?_
  refine R_G ?_
  refine G_run 1 ?_
  refine G_end ?_
  refine R_seq ?_
  refine R_seq ?_
  refine R_G ?_
  refine G_run 1 ?_
  refine I_len intD p0 (es := (List.map intD) p0) rfl ?_
  refine G_run 1 ?_
  refine I_len intD p1 (es := (List.map intD) p1) rfl ?_
  refine G_run 1 ?_
  refine G_end ?_
  refine R_ifp (p := (p0.length : Int) ≠ (p1.length : Int)) (ne_dec _ _) (fun hc => ?_) (fun hc => ?_)
  · replace hm := pos_inv hc hm
    refine R_seq ?_
    refine R_G ?_
    refine G_run 1 ?_
    refine G_end ?_
    refine R_ret ?_
    obtain rfl := inj1 hm
    exact ⟨trivial, fin_pure (by kernel_rfl)⟩
  replace hm := neg_inv hc hm
  refine R_skip ?_
  refine R_seq ?_
  refine R_seq ?_
  refine R_G ?_
  refine G_run 1 ?_
  refine G_end ?_
  refine R_block ?_
  obtain ⟨out, hs, hm⟩ := bind_inv hm
  refine R_loop ?_
  rcases out with _ | _
  · refine RL_use (w_ref02_Equal_L1 _ _ hs) (by kernel_rfl) ?_
    clear hs
    intro e s hp
    obtain ⟨rfl, d, rfl⟩ := hp
    obtain rfl := inj1 hm
    exact ⟨trivial, fin_pure (by kernel_rfl)⟩
  · refine RL_use (w_ref02_Equal_L1 _ _ hs) (by kernel_rfl) ?_
    clear hs
    intro e s hp
    obtain ⟨rfl, d, rfl⟩ := hp
    refine R_seq ?_
    refine R_G ?_
    refine G_run 1 ?_
    refine G_end ?_
    refine R_ret ?_
    obtain rfl := inj1 hm
    exact ⟨trivial, fin_pure (by kernel_rfl)⟩
end Go.Proofs.Tryd
namespace Go.Proofs.Tryd
open Go Go.Pm
set_option linter.unusedVariables false
set_option maxRecDepth 2000
mutual
def m_ref14_Same_L1 (x : (T_ref14_Core × T_ref14_Core × Int)) : Option (Unit ⊕ Unit) :=
  match x with
  | (p0, p1, v205) =>
  if v205 < (p0.kids.length : Int) then
    idx p0.kids v205 >>= fun v605 =>
    idx p1.kids v205 >>= fun v606 =>
    m_ref14_Same (v605, v606) >>= fun (v607 : Bool) =>
    if v607 = false then
      some (Sum.inl ())
    else
    m_ref14_Same_L1 (p0, p1, (W (v205 + 1)))
  else
  some (Sum.inr ())
  partial_fixpoint
def m_ref14_Same (x : (T_ref14_Core × T_ref14_Core)) : Option Bool :=
  match x with
  | (p0, p1) =>
  (if p0.kind ≠ p1.kind then
    some true
  else
  if p0.buffer ≠ p1.buffer then
    some true
  else
  if p0.axis ≠ p1.axis then
    some true
  else
  if p0.amount ≠ p1.amount then
    some true
  else
  if (p0.kids.length : Int) ≠ (p1.kids.length : Int) then
    some true
  else
  m_ref02_Equal (p0.shape, p1.shape) >>= fun (v2 : Bool) =>
  if v2 = false then
    some true
  else
  m_ref02_Equal (p0.starts, p1.starts) >>= fun (v3 : Bool) =>
  if v3 = false then
    some true
  else
  m_ref02_Equal (p0.perm, p1.perm) >>= fun (v4 : Bool) =>
  some (!v4)
  ) >>= fun (v1 : Bool) =>
  if v1 = true then
    some false
  else
  (
  m_ref14_Same_L1 (p0, p1, 0) >>= fun (out : Unit ⊕ Unit) =>
  match out with
  | .inl _ =>
    some false
  | .inr (_) =>
    some true
  )
  partial_fixpoint
end
def P_ref14_Same_L1 : (T_ref14_Core × T_ref14_Core × Int) → (Unit ⊕ Unit) → Prop := fun x r => match x with
  | (p0, p1, v205) => ∀ st, prune 2 ((firstRegion (codeAt [1, 1, 0, 1, 0, 0] (bodyOf f20))).bind (env.hint 20).keepAt) st = ⟨kp 84 [(2, (.ptr 0 0)), (3, (.ptr 1 0)), (5, (intPV v205))], [(.box [(intPV p0.kind), (.dat (.lst ((List.map intD) p0.shape))), (intPV p0.buffer), (.dat (.lst ((List.map intD) p0.starts))), (intPV p0.axis), (intPV p0.amount), (.dat (.lst ((List.map intD) p0.perm))), (.dat (.lst (T_ref14_Core.toDs p0.kids)))]), (.box [(intPV p1.kind), (.dat (.lst ((List.map intD) p1.shape))), (intPV p1.buffer), (.dat (.lst ((List.map intD) p1.starts))), (intPV p1.axis), (intPV p1.amount), (.dat (.lst ((List.map intD) p1.perm))), (.dat (.lst (T_ref14_Core.toDs p1.kids)))])]⟩ →
    RL prog env (env.hint 20) true (codeAt [1, 1, 0, 1, 0, 0] (bodyOf f20)) 2 st (fun e s => match r with | .inl _ => e = .ret ∧ ∃ d, s = ⟨sl d 84 [(4, (boolPV false))], [(.box [(intPV p0.kind), (.dat (.lst ((List.map intD) p0.shape))), (intPV p0.buffer), (.dat (.lst ((List.map intD) p0.starts))), (intPV p0.axis), (intPV p0.amount), (.dat (.lst ((List.map intD) p0.perm))), (.dat (.lst (T_ref14_Core.toDs p0.kids)))]), (.box [(intPV p1.kind), (.dat (.lst ((List.map intD) p1.shape))), (intPV p1.buffer), (.dat (.lst ((List.map intD) p1.starts))), (intPV p1.axis), (intPV p1.amount), (.dat (.lst ((List.map intD) p1.perm))), (.dat (.lst (T_ref14_Core.toDs p1.kids)))])]⟩ | .inr (_) => e = .exit 0 ∧ ∃ d, s = ⟨sl d 84 [], [(.box [(intPV p0.kind), (.dat (.lst ((List.map intD) p0.shape))), (intPV p0.buffer), (.dat (.lst ((List.map intD) p0.starts))), (intPV p0.axis), (intPV p0.amount), (.dat (.lst ((List.map intD) p0.perm))), (.dat (.lst (T_ref14_Core.toDs p0.kids)))]), (.box [(intPV p1.kind), (.dat (.lst ((List.map intD) p1.shape))), (intPV p1.buffer), (.dat (.lst ((List.map intD) p1.starts))), (intPV p1.axis), (intPV p1.amount), (.dat (.lst ((List.map intD) p1.perm))), (.dat (.lst (T_ref14_Core.toDs p1.kids)))])]⟩)
def P_ref14_Same : (T_ref14_Core × T_ref14_Core) → Bool → Prop := fun x r => match x, r with
  | (p0, p1), r0 => ∀ H, PC prog env 20 ([(T_ref14_Core.ex p0), (T_ref14_Core.ex p1)].map .dat) H (boolPV r0) H
theorem g_ref14_Same_L1 : (∀ x r, m_ref14_Same_L1 x = some r → P_ref14_Same_L1 x r) ∧ (∀ x r, m_ref14_Same x = some r → P_ref14_Same x r) := by
  refine m_ref14_Same_L1.mutual_partial_correctness P_ref14_Same_L1 P_ref14_Same ?_ ?_
  · intro m_ref14_Same_L1 m_ref14_Same w_ref14_Same_L1 w_ref14_Same x r hm
    unfold P_ref14_Same_L1
    obtain ⟨p0, p1, v205⟩ := x
    intro st hst
    refine RL_at hst ?_
    clear hst
    refine R_seq ?_
    refine R_seq ?_
    refine R_G ?_
    refine G_run 3 ?_
    refine I_len T_ref14_Core.toD p0.kids (es := T_ref14_Core.toDs p0.kids) (T_ref14_Core.toDs_eq _) ?_
    refine G_run 1 ?_
    refine G_end ?_
    refine R_ifp (p := v205 < (p0.kids.length : Int)) (rfl) (fun hc => ?_) (fun hc => ?_)
    · replace hm := pos_inv hc hm
      refine R_skip ?_
      refine R_seq ?_
      refine R_block ?_
      refine R_seq ?_
      refine R_GD ?_
      refine G_run 3 ?_
      obtain ⟨v605, hx, hm⟩ := bind_inv hm
      refine I_idx 8 T_ref14_Core.toD p0.kids v205 v605 (es := T_ref14_Core.toDs p0.kids) (d := (T_ref14_Core.ex v605)) (T_ref14_Core.toDs_eq _) hx (T_ref14_Core.toD_eq v605) rfl ?_
      refine G_run 4 ?_
      obtain ⟨v606, hx, hm⟩ := bind_inv hm
      refine I_idx 8 T_ref14_Core.toD p1.kids v205 v606 (es := T_ref14_Core.toDs p1.kids) (d := (T_ref14_Core.ex v606)) (T_ref14_Core.toDs_eq _) hx (T_ref14_Core.toD_eq v606) rfl ?_
      refine G_run 1 ?_
      obtain ⟨v607, hx, hm⟩ := bind_inv hm
      have hq := w_ref14_Same _ _ hx []
      refine G_callP hq ?_
      refine G_run 1 ?_
      refine G_end ⟨by kernel_rfl, ?_⟩
      refine R_ifp (p := v607 = false) (not_dec _) (fun hc => ?_) (fun hc => ?_)
      · replace hm := pos_inv hc hm
        refine R_seq ?_
        refine R_G ?_
        refine G_run 1 ?_
        refine G_end ?_
        refine R_ret ?_
        obtain rfl := inj1 hm
        exact ⟨rfl, cut_leaf (by kernel_rfl)⟩
      replace hm := neg_inv hc hm
      refine R_skip ?_
      refine R_G ?_
      refine G_run 3 ?_
      refine G_end ?_
      exact w_ref14_Same_L1 _ _ hm _ (by kernel_rfl)
    replace hm := neg_inv hc hm
    refine R_exit ?_
    obtain rfl := inj1 hm
    exact ⟨rfl, cut_leaf (by kernel_rfl)⟩
  · intro m_ref14_Same_L1 w_ref14_Same_L1 x r0 hm
    unfold P_ref14_Same
    obtain ⟨p0, p1⟩ := x
    intro H
    refine PC_sx (ds := [(T_ref14_Core.ex p0), (T_ref14_Core.ex p1)]) (fn := f20) (by kernel_rfl) (by kernel_rfl) rfl ?_ (by kernel_rfl)
    refine R_seq ?_
    refine R_G ?_
    refine G_run 3 ?_
    refine G_end ?_
    refine R_seq ?_
    refine R_seq ?_
    obtain ⟨v1, hs, hm⟩ := bind_inv hm
    refine R_cut (fun d => ⟨sl d 84 [(2, (.ptr 0 0)), (3, (.ptr 1 0)), (64, (boolPV v1))], [(.box [(intPV p0.kind), (.dat (.lst ((List.map intD) p0.shape))), (intPV p0.buffer), (.dat (.lst ((List.map intD) p0.starts))), (intPV p0.axis), (intPV p0.amount), (.dat (.lst ((List.map intD) p0.perm))), (.dat (.lst (T_ref14_Core.toDs p0.kids)))]), (.box [(intPV p1.kind), (.dat (.lst ((List.map intD) p1.shape))), (intPV p1.buffer), (.dat (.lst ((List.map intD) p1.starts))), (intPV p1.axis), (intPV p1.amount), (.dat (.lst ((List.map intD) p1.perm))), (.dat (.lst (T_ref14_Core.toDs p1.kids)))])]⟩) ?_ (fun d => ?_)
    · replace hm := hs
      clear hs
      refine R_G ?_
      refine G_run 6 ?_
      refine G_split (p := p0.kind ≠ p1.kind) 11 (ne_dec _ _) (fun hc => ?_) (fun hc => ?_)
      · replace hm := pos_inv hc hm
        refine G_run 53 ?_
        refine G_end ?_
        obtain rfl := inj1 hm
        exact cut_leaf (by kernel_rfl)
      replace hm := neg_inv hc hm
      refine G_run 7 ?_
      refine G_split (p := p0.buffer ≠ p1.buffer) 18 (ne_dec _ _) (fun hc => ?_) (fun hc => ?_)
      · replace hm := pos_inv hc hm
        refine G_run 46 ?_
        refine G_end ?_
        obtain rfl := inj1 hm
        exact cut_leaf (by kernel_rfl)
      replace hm := neg_inv hc hm
      refine G_run 7 ?_
      refine G_split (p := p0.axis ≠ p1.axis) 25 (ne_dec _ _) (fun hc => ?_) (fun hc => ?_)
      · replace hm := pos_inv hc hm
        refine G_run 39 ?_
        refine G_end ?_
        obtain rfl := inj1 hm
        exact cut_leaf (by kernel_rfl)
      replace hm := neg_inv hc hm
      refine G_run 7 ?_
      refine G_split (p := p0.amount ≠ p1.amount) 32 (ne_dec _ _) (fun hc => ?_) (fun hc => ?_)
      · replace hm := pos_inv hc hm
        refine G_run 32 ?_
        refine G_end ?_
        obtain rfl := inj1 hm
        exact cut_leaf (by kernel_rfl)
      replace hm := neg_inv hc hm
      refine G_run 2 ?_
      refine I_len T_ref14_Core.toD p0.kids (es := T_ref14_Core.toDs p0.kids) (T_ref14_Core.toDs_eq _) ?_
      refine G_run 2 ?_
      refine I_len T_ref14_Core.toD p1.kids (es := T_ref14_Core.toDs p1.kids) (T_ref14_Core.toDs_eq _) ?_
      refine G_run 3 ?_
      refine G_split (p := (p0.kids.length : Int) ≠ (p1.kids.length : Int)) 41 (ne_dec _ _) (fun hc => ?_) (fun hc => ?_)
      · replace hm := pos_inv hc hm
        refine G_run 23 ?_
        refine G_end ?_
        obtain rfl := inj1 hm
        exact cut_leaf (by kernel_rfl)
      replace hm := neg_inv hc hm
      refine G_run 4 ?_
      obtain ⟨v2, hx, hm⟩ := bind_inv hm
      have hq := w_ref02_Equal _ _ hx []
      refine G_callP hq ?_
      refine G_run 3 ?_
      refine G_split (p := v2 = false) 49 (not_dec _) (fun hc => ?_) (fun hc => ?_)
      · replace hm := pos_inv hc hm
        refine G_run 15 ?_
        refine G_end ?_
        obtain rfl := inj1 hm
        exact cut_leaf (by kernel_rfl)
      replace hm := neg_inv hc hm
      refine G_run 4 ?_
      obtain ⟨v3, hx, hm⟩ := bind_inv hm
      have hq := w_ref02_Equal _ _ hx []
      refine G_callP hq ?_
      refine G_run 3 ?_
      refine G_split (p := v3 = false) 57 (not_dec _) (fun hc => ?_) (fun hc => ?_)
      · replace hm := pos_inv hc hm
        refine G_run 7 ?_
        refine G_end ?_
        obtain rfl := inj1 hm
        exact cut_leaf (by kernel_rfl)
      replace hm := neg_inv hc hm
      refine G_run 4 ?_
      obtain ⟨v4, hx, hm⟩ := bind_inv hm
      have hq := w_ref02_Equal _ _ hx []
      refine G_callP hq ?_
      refine G_run 2 ?_
      refine G_end ?_
      obtain rfl := inj1 hm
      exact cut_leaf (by kernel_rfl)
    clear hs
    refine R_ifp (p := v1 = true) (bool_dec _) (fun hc => ?_) (fun hc => ?_)
    · replace hm := pos_inv hc hm
      refine R_seq ?_
      refine R_G ?_
      refine G_run 1 ?_
      refine G_end ?_
      refine R_ret ?_
      obtain rfl := inj1 hm
      exact ⟨trivial, fin_pure (by kernel_rfl)⟩
    replace hm := neg_inv hc hm
    refine R_skip ?_
    refine R_seq ?_
    refine R_seq ?_
    refine R_G ?_
    refine G_run 1 ?_
    refine G_end ?_
    refine R_block ?_
    obtain ⟨out, hs, hm⟩ := bind_inv hm
    refine R_loop ?_
    rcases out with _ | _
    · refine RL_use (w_ref14_Same_L1 _ _ hs) (by kernel_rfl) ?_
      clear hs
      intro e s hp
      obtain ⟨rfl, d, rfl⟩ := hp
      obtain rfl := inj1 hm
      exact ⟨trivial, fin_pure (by kernel_rfl)⟩
    · refine RL_use (w_ref14_Same_L1 _ _ hs) (by kernel_rfl) ?_
      clear hs
      intro e s hp
      obtain ⟨rfl, d, rfl⟩ := hp
      refine R_seq ?_
      refine R_G ?_
      refine G_run 1 ?_
      refine G_end ?_
      refine R_ret ?_
      obtain rfl := inj1 hm
      exact ⟨trivial, fin_pure (by kernel_rfl)⟩
theorem w_ref14_Same_L1 : ∀ x r, m_ref14_Same_L1 x = some r → P_ref14_Same_L1 x r := g_ref14_Same_L1.1
theorem w_ref14_Same : ∀ x r, m_ref14_Same x = some r → P_ref14_Same x r := g_ref14_Same_L1.2
end Go.Proofs.Tryd
namespace Go.Proofs.Tryd
open Go Go.Pm
set_option linter.unusedVariables false
set_option maxRecDepth 2000
def m_law14_CoreSame (x : (T_ref14_Core × T_ref14_Core)) : Option Bool :=
  match x with
  | (p0, p1) =>
  (m_law14_awake () >>= fun (v2 : Bool) =>
  if v2 = false then
    some true
  else
  m_ref14_Few (p0, 300) >>= fun (v3 : Bool) =>
  if v3 = false then
    some true
  else
  m_ref14_Few ((⟨p1.kind, p1.shape, p1.buffer, p1.starts, p1.axis, p1.amount, p1.perm, p1.kids⟩ : T_ref14_Core), 300) >>= fun (v4 : Bool) =>
  some (!v4)
  ) >>= fun (v1 : Bool) =>
  if v1 = true then
    m_law14_awake () >>= fun (v5 : Bool) =>
    some v5
  else
  m_law14_Core p0 >>= fun (v6 : T_core_Core) =>
  m_law14_Core (⟨p1.kind, p1.shape, p1.buffer, p1.starts, p1.axis, p1.amount, p1.perm, p1.kids⟩ : T_ref14_Core) >>= fun (v7 : T_core_Core) =>
  m_core_Same (v6, v7) >>= fun (v8 : Bool) =>
  m_ref14_Same ((⟨p0.kind, p0.shape, p0.buffer, p0.starts, p0.axis, p0.amount, p0.perm, p0.kids⟩ : T_ref14_Core), (⟨p1.kind, p1.shape, p1.buffer, p1.starts, p1.axis, p1.amount, p1.perm, p1.kids⟩ : T_ref14_Core)) >>= fun (v9 : Bool) =>
  if (v8 == v9) = true then
    m_law14_Core (⟨p0.kind, p0.shape, p0.buffer, p0.starts, p0.axis, p0.amount, p0.perm, p0.kids⟩ : T_ref14_Core) >>= fun (v10 : T_core_Core) =>
    m_law14_Core (⟨p0.kind, p0.shape, p0.buffer, p0.starts, p0.axis, p0.amount, p0.perm, p0.kids⟩ : T_ref14_Core) >>= fun (v11 : T_core_Core) =>
    m_core_Same (v10, v11) >>= fun (v12 : Bool) =>
    some v12
  else
  some false
def P_law14_CoreSame : (T_ref14_Core × T_ref14_Core) → Bool → Prop := fun x r => match x, r with
  | (p0, p1), r0 => ∀ H, PC prog env 5 ([(T_ref14_Core.ex p0), (T_ref14_Core.ex p1)].map .dat) H (boolPV r0) H
theorem w_law14_CoreSame : ∀ x r, m_law14_CoreSame x = some r → P_law14_CoreSame x r := by
  intro x r0 hm
  unfold m_law14_CoreSame at hm
  unfold P_law14_CoreSame
  obtain ⟨p0, p1⟩ := x
  intro H
  refine PC_sx (ds := [(T_ref14_Core.ex p0), (T_ref14_Core.ex p1)]) (fn := f5) (by kernel_rfl) (by kernel_rfl) rfl ?_ (by kernel_rfl)
  refine R_seq ?_
  refine R_G ?_
  refine G_run 3 ?_
  refine G_end ?_
  refine R_seq ?_
  refine R_seq ?_
  obtain ⟨v1, hs, hm⟩ := bind_inv hm
  refine R_cut (fun d => ⟨sl d 34 [(2, (.ptr 0 0)), (3, (.ptr 1 0)), (16, (boolPV v1))], [(.box [(intPV p0.kind), (.dat (.lst ((List.map intD) p0.shape))), (intPV p0.buffer), (.dat (.lst ((List.map intD) p0.starts))), (intPV p0.axis), (intPV p0.amount), (.dat (.lst ((List.map intD) p0.perm))), (.dat (.lst (T_ref14_Core.toDs p0.kids)))]), (.box [(intPV p1.kind), (.dat (.lst ((List.map intD) p1.shape))), (intPV p1.buffer), (.dat (.lst ((List.map intD) p1.starts))), (intPV p1.axis), (intPV p1.amount), (.dat (.lst ((List.map intD) p1.perm))), (.dat (.lst (T_ref14_Core.toDs p1.kids)))])]⟩) ?_ (fun d => ?_)
  · replace hm := hs
    clear hs
    refine R_G ?_
    obtain ⟨v2, hx, hm⟩ := bind_inv hm
    have hq := w_law14_awake _ _ hx []
    refine G_callP hq ?_
    refine G_run 2 ?_
    refine G_split (p := v2 = false) 7 (not_dec _) (fun hc => ?_) (fun hc => ?_)
    · replace hm := pos_inv hc hm
      refine G_run 9 ?_
      refine G_end ?_
      obtain rfl := inj1 hm
      exact cut_leaf (by kernel_rfl)
    replace hm := neg_inv hc hm
    refine G_run 1 ?_
    obtain ⟨v3, hx, hm⟩ := bind_inv hm
    have hq := w_ref14_Few _ _ hx []
    refine G_callP hq ?_
    refine G_run 3 ?_
    refine G_split (p := v3 = false) 12 (not_dec _) (fun hc => ?_) (fun hc => ?_)
    · replace hm := pos_inv hc hm
      refine G_run 4 ?_
      refine G_end ?_
      obtain rfl := inj1 hm
      exact cut_leaf (by kernel_rfl)
    replace hm := neg_inv hc hm
    refine G_run 1 ?_
    obtain ⟨v4, hx, hm⟩ := bind_inv hm
    have hq := w_ref14_Few _ _ hx []
    refine G_callP hq ?_
    refine G_run 2 ?_
    refine G_end ?_
    obtain rfl := inj1 hm
    exact cut_leaf (by kernel_rfl)
  clear hs
  refine R_ifp (p := v1 = true) (bool_dec _) (fun hc => ?_) (fun hc => ?_)
  · replace hm := pos_inv hc hm
    refine R_seq ?_
    refine R_G ?_
    obtain ⟨v5, hx, hm⟩ := bind_inv hm
    have hq := w_law14_awake _ _ hx []
    refine G_callP hq ?_
    refine G_run 1 ?_
    refine G_end ?_
    refine R_ret ?_
    obtain rfl := inj1 hm
    exact ⟨trivial, fin_pure (by kernel_rfl)⟩
  replace hm := neg_inv hc hm
  refine R_skip ?_
  refine R_seq ?_
  refine R_GD ?_
  refine G_run 1 ?_
  obtain ⟨v6, hx, hm⟩ := bind_inv hm
  have hq := w_law14_Core _ _ hx []
  refine G_callP hq ?_
  refine G_run 1 ?_
  obtain ⟨v7, hx, hm⟩ := bind_inv hm
  have hq := w_law14_Core _ _ hx []
  refine G_callP hq ?_
  obtain ⟨v8, hx, hm⟩ := bind_inv hm
  have hq := w_core_Same _ _ hx []
  refine G_callP hq ?_
  refine G_run 2 ?_
  obtain ⟨v9, hx, hm⟩ := bind_inv hm
  have hq := w_ref14_Same _ _ hx []
  refine G_callP hq ?_
  refine G_semN rfl (by kernel_rfl) (fun _ => E_eqlB (a := v8) (b := v9) (by kernel_rfl) rfl (by kernel_rfl) (by kernel_rfl)) ?_
  refine G_run 1 ?_
  refine G_split (p := (v8 == v9) = true) 27 (bool_dec _) (fun hc => ?_) (fun hc => ?_)
  · replace hm := pos_inv hc hm
    refine G_run 1 ?_
    obtain ⟨v10, hx, hm⟩ := bind_inv hm
    have hq := w_law14_Core _ _ hx []
    refine G_callP hq ?_
    refine G_run 1 ?_
    obtain ⟨v11, hx, hm⟩ := bind_inv hm
    have hq := w_law14_Core _ _ hx []
    refine G_callP hq ?_
    obtain ⟨v12, hx, hm⟩ := bind_inv hm
    have hq := w_core_Same _ _ hx []
    refine G_callP hq ?_
    refine G_run 2 ?_
    refine G_end ⟨by kernel_rfl, ?_⟩
    refine R_ret ?_
    obtain rfl := inj1 hm
    exact ⟨trivial, fin_pure (by kernel_rfl)⟩
  replace hm := neg_inv hc hm
  refine G_run 7 ?_
  refine G_end ⟨by kernel_rfl, ?_⟩
  refine R_ret ?_
  obtain rfl := inj1 hm
  exact ⟨trivial, fin_pure (by kernel_rfl)⟩
end Go.Proofs.Tryd
namespace Go.Proofs.Tryd
open Go Go.Pm
set_option linter.unusedVariables false
set_option linter.unusedSimpArgs false
set_option maxRecDepth 2000
mutual
def szC : T_ref14_Core → Nat
  | ⟨_, _, _, _, _, _, _, kids⟩ => 1 + szCs kids
def szCs : List T_ref14_Core → Nat
  | [] => 0
  | k :: ks => szC k + szCs ks
end
mutual
def smC : T_ref14_Core → Prop
  | ⟨_, shape, _, starts, _, _, perm, kids⟩ => shape.length ≤ 40 ∧ starts.length ≤ 40 ∧ perm.length ≤ 40 ∧ kids.length ≤ 300 ∧ smCs kids
def smCs : List T_ref14_Core → Prop
  | [] => True
  | k :: ks => smC k ∧ smCs ks
end
theorem szC_pos : ∀ c : T_ref14_Core, 1 ≤ szC c
  | ⟨_, _, _, _, _, _, _, kids⟩ => by rw [szC]; omega
theorem szCs_len : ∀ l : List T_ref14_Core, l.length ≤ szCs l
  | [] => Nat.zero_le _
  | k :: ks => by have := szCs_len ks; have := szC_pos k; rw [szCs]; simp only [List.length_cons]; omega
mutual
theorem left_ok : ∀ (c : T_ref14_Core) (n : Int), 0 ≤ n → n ≤ 300 → ∃ r, m_ref14_left (c, n) = some r ∧ -1 ≤ r ∧ r ≤ n - 1 ∧ (0 ≤ r → r + szC c ≤ n ∧ smC c)
  | ⟨k, sh, b, st, ax, am, pe, ks⟩, n, h1, h2 => by
    rw [m_ref14_left]
    simp only []
    have w : W (n - 1) = n - 1 := W_ok (by omega) (by omega)
    obtain ⟨r, e, i1, i2, i3⟩ := left_loop ks [] (n - 1) k sh b st ax am pe (by omega) (by simp; omega)
    simp only [List.nil_append, List.length_nil, Int.natCast_zero] at e
    by_cases c1 : (sh.length : Int) > 40
    · rw [if_pos c1]; exact ⟨-1, rfl, by omega, by omega, by omega⟩
    · rw [if_neg c1]
      by_cases c2 : (st.length : Int) > 40
      · rw [if_pos c2]; exact ⟨-1, rfl, by omega, by omega, by omega⟩
      · rw [if_neg c2]
        by_cases c3 : (pe.length : Int) > 40
        · rw [decide_eq_true c3]; exact ⟨-1, rfl, by omega, by omega, by omega⟩
        · rw [decide_eq_false c3, bind_ok, if_neg (by decide), w, e, bind_ok]
          refine ⟨r, rfl, i1, i2, fun h => ?_⟩
          have := i3 h
          have hl := szCs_len ks
          rw [szC, smC]
          exact ⟨by omega, by omega, by omega, by omega, by omega, this.2⟩
theorem left_loop : ∀ (s p : List T_ref14_Core) (n : Int) (k : Int) (sh : List Int) (b : Int) (st : List Int) (ax am : Int) (pe : List Int), -1 ≤ n → (p.length : Int) + n ≤ 300 →
    ∃ r, m_ref14_left_L1 (⟨k, sh, b, st, ax, am, pe, p ++ s⟩, n, (p.length : Int)) = some r ∧ -1 ≤ r ∧ r ≤ n ∧ (0 ≤ r → r + szCs s ≤ n ∧ smCs s)
  | [], p, n, k, sh, b, st, ax, am, pe, h1, h2 => by
    rw [m_ref14_left_L1]
    simp only [end_lt, if_false, bind_ok, Bool.false_eq_true]
    exact ⟨n, rfl, h1, by omega, fun h => ⟨by rw [szCs]; omega, trivial⟩⟩
  | x :: s, p, n, k, sh, b, st, ax, am, pe, h1, h2 => by
    rw [m_ref14_left_L1]
    simp only [mid_lt, if_true, bind_ok]
    by_cases hn : n ≥ 0
    · rw [decide_eq_true hn]
      obtain ⟨r, e, i1, i2, i3⟩ := left_ok x n hn (by omega)
      obtain ⟨r', e', j1, j2, j3⟩ := left_loop s (p ++ [x]) r k sh b st ax am pe i1 (by simp; omega)
      rw [← mid_app] at e'
      have w : W ((p.length : Int) + 1) = ((p ++ [x]).length : Int) := by rw [W_ok (by omega) (by omega)]; simp
      simp only [if_true, mid_idx, bind_ok, e, w, e']
      refine ⟨r', rfl, j1, by omega, fun h => ?_⟩
      have a := j3 h
      have b := i3 (by omega)
      rw [szCs, smCs]
      exact ⟨by omega, b.2, a.2⟩
    · rw [decide_eq_false hn]
      simp only [Bool.false_eq_true, if_false]
      exact ⟨n, rfl, h1, by omega, fun h => by omega⟩
end
theorem Few_ok (c : T_ref14_Core) : ∃ b, m_ref14_Few (c, 300) = some b ∧ (b = true → smC c) := by
  obtain ⟨r, e, _, _, h⟩ := left_ok c 300 (by omega) (by omega)
  refine ⟨decide (r ≥ 0), by simp only [m_ref14_Few, e, bind_ok], fun hb => (h (by simpa using hb)).2⟩
mutual
def conv : T_ref14_Core → T_core_Core
  | ⟨k, sh, b, st, ax, am, pe, ks⟩ => ⟨k, sh, b, st, ax, am, pe, convs ks⟩
def convs : List T_ref14_Core → List T_core_Core
  | [] => []
  | k :: ks => conv k :: convs ks
end
theorem convs_len : ∀ l : List T_ref14_Core, (convs l).length = l.length
  | [] => rfl
  | k :: ks => by rw [convs, List.length_cons, List.length_cons, convs_len ks]
mutual
theorem Core_ok : ∀ (c : T_ref14_Core), smC c → m_law14_Core c = some (conv c)
  | ⟨k, sh, b, st, ax, am, pe, ks⟩, h => by
    rw [smC] at h
    rw [m_law14_Core]
    have e := Core_loop ks [] [] k sh b st ax am pe h.2.2.2.2 rfl (by simp; omega)
    simp only [List.nil_append, List.length_nil, Int.natCast_zero] at e
    simp only [e, bind_ok, conv]
theorem Core_loop : ∀ (s p : List T_ref14_Core) (q : List T_core_Core) (k : Int) (sh : List Int) (b : Int) (st : List Int) (ax am : Int) (pe : List Int), smCs s → q.length = p.length → p.length + s.length ≤ 300 →
    m_law14_Core_L1 (⟨k, sh, b, st, ax, am, pe, p ++ s⟩, q, (p.length : Int)) = some (q ++ convs s)
  | [], p, q, k, sh, b, st, ax, am, pe, h1, h2, h3 => by
    rw [m_law14_Core_L1]
    simp only [end_lt, if_false, convs]
    rw [List.append_nil]
  | x :: s, p, q, k, sh, b, st, ax, am, pe, h1, h2, h3 => by
    rw [m_law14_Core_L1]
    rw [smCs] at h1
    have e := Core_ok x h1.1
    simp only [List.length_cons] at h3
    have e' := Core_loop s (p ++ [x]) (q ++ [conv x]) k sh b st ax am pe h1.2 (by simp [h2]) (by simp; omega)
    rw [← mid_app] at e'
    have w : W ((p.length : Int) + 1) = ((p ++ [x]).length : Int) := by rw [W_ok (by omega) (by omega)]; simp
    have ha : app 128 q [conv x] = some (q ++ [conv x]) := app_ok (by simp only [List.length_cons, List.length_nil]; have : 302 * 128 ≤ room := by decide +kernel
                                                                      omega)
    simp only [mid_lt, if_true, mid_idx, bind_ok, e, ha, w, e', convs, List.append_assoc, List.singleton_append]
end
mutual
def eqC : T_ref14_Core → T_ref14_Core → Bool
  | ⟨k, sh, b, st, ax, am, pe, ks⟩, d => decide (k = d.kind) && decide (sh = d.shape) && decide (b = d.buffer) && decide (st = d.starts) && decide (ax = d.axis) && decide (am = d.amount) && decide (pe = d.perm) && eqCs ks d.kids
def eqCs : List T_ref14_Core → List T_ref14_Core → Bool
  | [], [] => true
  | x :: xs, y :: ys => eqC x y && eqCs xs ys
  | _, _ => false
end
mutual
theorem eqC_self : ∀ c : T_ref14_Core, eqC c c = true
  | ⟨k, sh, b, st, ax, am, pe, ks⟩ => by rw [eqC]; simp [eqCs_self ks]
theorem eqCs_self : ∀ l : List T_ref14_Core, eqCs l l = true
  | [] => rfl
  | x :: xs => by rw [eqCs, eqC_self x, eqCs_self xs]; rfl
end
theorem eqCs_len : ∀ (l m : List T_ref14_Core), l.length ≠ m.length → eqCs l m = false
  | [], [], h => absurd rfl h
  | x :: xs, y :: ys, h => by rw [eqCs, eqCs_len xs ys (fun e => h (by simp [e])), Bool.and_false]
  | [], _ :: _, _ => rfl
  | _ :: _, [], _ => rfl
theorem rEqual_L1 : ∀ (s t p q : List Int), s.length = t.length → p.length = q.length → Sm (p ++ s).length → m_ref02_Equal_L1 (p ++ s, q ++ t, (p.length : Int)) = some (if s = t then .inr () else .inl ())
  | [], [], p, q, _, _, hs => by
    rw [m_ref02_Equal_L1]; simp only [end_lt, if_false, if_true]
  | x :: s, y :: t, p, q, h1, h2, hs => by
    rw [m_ref02_Equal_L1]
    have ih := rEqual_L1 s t (p ++ [x]) (q ++ [y]) (by simpa using h1) (by simp [h2]) (by rw [← mid_app]; exact hs)
    rw [← mid_app, ← mid_app] at ih
    simp only [mid_lt, if_true, mid_idx, bind_ok, mid_W hs, ih]
    rw [h2, mid_idx]
    by_cases he : x = y <;> simp [he, bind_ok]
  | [], _ :: _, _, _, h, _, _ => by cases h
  | _ :: _, [], _, _, h, _, _ => by cases h
theorem rEqual_ok (a b : List Int) (hs : Sm a.length) : m_ref02_Equal (a, b) = some (decide (a = b)) := by
  simp only [m_ref02_Equal]
  by_cases h : a.length = b.length
  · have e := rEqual_L1 a b [] [] h rfl hs
    have e2 : ¬ ((a.length : Int) ≠ (b.length : Int)) := by omega
    simp only [e2, if_false]
    have e3 : m_ref02_Equal_L1 (a, b, 0) = _ := e
    rw [e3]
    by_cases hab : a = b
    · subst hab; simp
    · rw [if_neg hab, decide_eq_false hab]; rfl
  · have e2 : ((a.length : Int) ≠ (b.length : Int)) := by omega
    have e3 : a ≠ b := fun e => h (by rw [e])
    rw [if_pos e2, decide_eq_false e3]
theorem gEqual_L1 : ∀ (s t p q : List Int), s.length = t.length → p.length = q.length → Sm (p ++ s).length → m_slices_Equal_int_int_L1 (p ++ s, q ++ t, (p.length : Int)) = some (if s = t then .inr () else .inl ())
  | [], [], p, q, _, _, hs => by
    rw [m_slices_Equal_int_int_L1]; simp only [end_lt, if_false, if_true]
  | x :: s, y :: t, p, q, h1, h2, hs => by
    rw [m_slices_Equal_int_int_L1]
    have ih := gEqual_L1 s t (p ++ [x]) (q ++ [y]) (by simpa using h1) (by simp [h2]) (by rw [← mid_app]; exact hs)
    rw [← mid_app, ← mid_app] at ih
    simp only [mid_lt, if_true, mid_idx, bind_ok, mid_W hs, ih]
    rw [h2, mid_idx]
    by_cases he : x = y <;> simp [he, bind_ok]
  | [], _ :: _, _, _, h, _, _ => by cases h
  | _ :: _, [], _, _, h, _, _ => by cases h
theorem gEqual_ok (a b : List Int) (hs : Sm a.length) : m_slices_Equal_int_int (a, b) = some (decide (a = b)) := by
  simp only [m_slices_Equal_int_int]
  by_cases h : a.length = b.length
  · have e := gEqual_L1 a b [] [] h rfl hs
    have e2 : ¬ ((a.length : Int) ≠ (b.length : Int)) := by omega
    simp only [e2, if_false]
    have e3 : m_slices_Equal_int_int_L1 (a, b, 0) = _ := e
    rw [e3]
    by_cases hab : a = b
    · subst hab; simp
    · rw [if_neg hab, decide_eq_false hab]; rfl
  · have e2 : ((a.length : Int) ≠ (b.length : Int)) := by omega
    have e3 : a ≠ b := fun e => h (by rw [e])
    rw [if_pos e2, decide_eq_false e3]
theorem sEqual_ok (a b : List Int) (hs : Sm a.length) : m_shape_Equal (a, b) = some (decide (a = b)) := by
  simp only [m_shape_Equal, gEqual_ok a b hs, bind_ok]
mutual
theorem rSame_ok : ∀ (c d : T_ref14_Core), smC c → m_ref14_Same (c, d) = some (eqC c d)
  | ⟨k, sh, b, st, ax, am, pe, ks⟩, ⟨k', sh', b', st', ax', am', pe', ks'⟩, h => by
    rw [smC] at h
    rw [m_ref14_Same, eqC]
    simp only [rEqual_ok sh sh' (Sm_of h.1), rEqual_ok st st' (Sm_of h.2.1), rEqual_ok pe pe' (Sm_of h.2.2.1), bind_ok]
    by_cases c1 : k = k'
    case neg => simp [c1]
    by_cases c2 : b = b'
    case neg => simp [c1, c2]
    by_cases c3 : ax = ax'
    case neg => simp [c1, c2, c3]
    by_cases c4 : am = am'
    case neg => simp [c1, c2, c3, c4]
    by_cases c5 : ks.length = ks'.length
    case neg => simp [c1, c2, c3, c4, c5, eqCs_len ks ks' c5, show ¬ ((ks.length : Int) = (ks'.length : Int)) by omega]
    by_cases c6 : sh = sh'
    case neg => simp [c1, c2, c3, c4, c5, c6]
    by_cases c7 : st = st'
    case neg => simp [c1, c2, c3, c4, c5, c6, c7]
    by_cases c8 : pe = pe'
    case neg => simp [c1, c2, c3, c4, c5, c6, c7, c8]
    have e := rSame_loop ks ks' [] [] k sh b st ax am pe k' sh' b' st' ax' am' pe' h.2.2.2.2 c5 rfl (by simp; omega)
    simp only [List.nil_append, List.length_nil, Int.natCast_zero] at e
    subst c1 c2 c3 c4 c6 c7 c8
    simp [c5, e]
    cases eqCs ks ks' <;> rfl
theorem rSame_loop : ∀ (s t p q : List T_ref14_Core) (k : Int) (sh : List Int) (b : Int) (st : List Int) (ax am : Int) (pe : List Int) (k' : Int) (sh' : List Int) (b' : Int) (st' : List Int) (ax' am' : Int) (pe' : List Int), smCs s → s.length = t.length → p.length = q.length → p.length + s.length ≤ 300 →
    m_ref14_Same_L1 (⟨k, sh, b, st, ax, am, pe, p ++ s⟩, ⟨k', sh', b', st', ax', am', pe', q ++ t⟩, (p.length : Int)) = some (if eqCs s t = true then .inr () else .inl ())
  | [], [], p, q, k, sh, b, st, ax, am, pe, k', sh', b', st', ax', am', pe', h1, h2, h3, h4 => by
    rw [m_ref14_Same_L1]
    simp only [end_lt, if_false, eqCs, if_true]
  | x :: s, y :: t, p, q, k, sh, b, st, ax, am, pe, k', sh', b', st', ax', am', pe', h1, h2, h3, h4 => by
    rw [m_ref14_Same_L1]
    rw [smCs] at h1
    have e := rSame_ok x y h1.1
    simp only [List.length_cons] at h4
    have e' := rSame_loop s t (p ++ [x]) (q ++ [y]) k sh b st ax am pe k' sh' b' st' ax' am' pe' h1.2 (by simpa using h2) (by simp [h3]) (by simp; omega)
    rw [← mid_app, ← mid_app] at e'
    have w : W ((p.length : Int) + 1) = ((p ++ [x]).length : Int) := by rw [W_ok (by omega) (by omega)]; simp
    simp only [mid_lt, if_true, mid_idx, bind_ok, w, e', eqCs]
    rw [h3, mid_idx]
    simp only [bind_ok, e]
    by_cases hb : eqC x y = true
    · simp [hb]
    · simp [hb]
  | [], _ :: _, _, _, _, _, _, _, _, _, _, _, _, _, _, _, _, _, _, h, _, _ => by cases h
  | _ :: _, [], _, _, _, _, _, _, _, _, _, _, _, _, _, _, _, _, _, h, _, _ => by cases h
end
mutual
theorem cSame_ok : ∀ (c d : T_ref14_Core), smC c → m_core_Same (conv c, conv d) = some (eqC c d)
  | ⟨k, sh, b, st, ax, am, pe, ks⟩, ⟨k', sh', b', st', ax', am', pe', ks'⟩, h => by
    rw [smC] at h
    rw [m_core_Same, eqC, conv, conv]
    simp only [gEqual_ok st st' (Sm_of h.2.1), sEqual_ok sh sh' (Sm_of h.1), gEqual_ok pe pe' (Sm_of h.2.2.1), bind_ok]
    by_cases c1 : k = k'
    case neg => simp [c1]
    by_cases c6 : sh = sh'
    case neg => simp [c1, c6]
    by_cases c2 : b = b'
    case neg => simp [c1, c6, c2]
    by_cases c7 : st = st'
    case neg => simp [c1, c6, c2, c7]
    by_cases c3 : ax = ax'
    case neg => simp [c1, c6, c2, c7, c3]
    by_cases c4 : am = am'
    case neg => simp [c1, c6, c2, c7, c3, c4]
    by_cases c8 : pe = pe'
    case neg => simp [c1, c6, c2, c7, c3, c4, c8]
    have e : m_slices_EqualFunc_core_Core_core_Core_core_Core_core_Core_core_Same (convs ks, convs ks') = some (eqCs ks ks') := by
      rw [m_slices_EqualFunc_core_Core_core_Core_core_Core_core_Core_core_Same]
      by_cases c5 : ks.length = ks'.length
      · have e2 : ¬ (((convs ks).length : Int) ≠ ((convs ks').length : Int)) := by rw [convs_len, convs_len]; omega
        simp only [e2, if_false]
        obtain ⟨o, e3, e4⟩ := cSame_loop ks ks' [] [] h.2.2.2.2 c5 rfl (by simp; omega)
        simp only [List.nil_append, List.length_nil, Int.natCast_zero] at e3
        rw [e3, bind_ok]
        cases o with
        | inl z => rw [← e4]; rfl
        | inr z => rw [← e4]; rfl
      · have e2 : (((convs ks).length : Int) ≠ ((convs ks').length : Int)) := by rw [convs_len, convs_len]; omega
        rw [if_pos e2, eqCs_len ks ks' c5]
    subst c1 c2 c3 c4 c6 c7 c8
    simp [e]
theorem cSame_loop : ∀ (s t : List T_ref14_Core) (p q : List T_core_Core), smCs s → s.length = t.length → p.length = q.length → p.length + s.length ≤ 300 →
    ∃ o, m_slices_EqualFunc_core_Core_core_Core_core_Core_core_Core_core_Same_L1 (p ++ convs s, q ++ convs t, (p.length : Int)) = some o ∧ o.isRight = eqCs s t
  | [], [], p, q, h1, h2, h3, h4 => by
    rw [m_slices_EqualFunc_core_Core_core_Core_core_Core_core_Core_core_Same_L1]
    simp only [convs, end_lt, if_false]
    exact ⟨_, rfl, rfl⟩
  | x :: s, y :: t, p, q, h1, h2, h3, h4 => by
    rw [m_slices_EqualFunc_core_Core_core_Core_core_Core_core_Core_core_Same_L1]
    rw [smCs] at h1
    have e := cSame_ok x y h1.1
    simp only [List.length_cons] at h4
    obtain ⟨o, e', i⟩ := cSame_loop s t (p ++ [conv x]) (q ++ [conv y]) h1.2 (by simpa using h2) (by simp [h3]) (by simp; omega)
    rw [← mid_app, ← mid_app] at e'
    have w : W ((p.length : Int) + 1) = ((p ++ [conv x]).length : Int) := by rw [W_ok (by omega) (by omega)]; simp
    simp only [convs, mid_lt, if_true, mid_idx, bind_ok, w, e', eqCs]
    rw [h3, mid_idx]
    simp only [bind_ok, e]
    cases eqC x y
    · exact ⟨_, rfl, rfl⟩
    · exact ⟨o, rfl, by simpa using i⟩
  | [], _ :: _, _, _, _, h, _, _ => by cases h
  | _ :: _, [], _, _, _, h, _, _ => by cases h
end
theorem CoreSame_ok (a b : T_ref14_Core) : m_law14_CoreSame (a, b) = some true := by
  obtain ⟨ba, ea, ha⟩ := Few_ok a
  obtain ⟨bb, eb, hb⟩ := Few_ok b
  cases a; cases b
  simp only [m_law14_CoreSame, m_law14_awake, bind_ok, Bool.true_eq_false, if_false, ea, eb]
  cases ba
  · rfl
  · cases bb
    · rfl
    · simp only [Bool.true_eq_false, if_false, bind_ok, Bool.not_true, Bool.false_eq_true, Core_ok _ (ha rfl), Core_ok _ (hb rfl), cSame_ok _ _ (ha rfl), rSame_ok _ _ (ha rfl), beq_self_eq_true, if_true, eqC_self]
end Go.Proofs.Tryd
namespace Go.Proofs.Tryd
open Go Go.Pm
set_option linter.unusedVariables false
set_option linter.unusedSimpArgs false
set_option maxRecDepth 2000
theorem ua3 : prog.underlying 3 = some (TypeDesc.int IntKind.i64) := by kernel_rfl
theorem ua22 : prog.underlying 22 = some (TypeDesc.slice 3) := by kernel_rfl
theorem ua25 : prog.underlying 25 = some (TypeDesc.struct { toList := [{ name := "Kind", type := 3, offset := 0, embedded := false, tag := "", pkgPath := "", byteOffset := 0 }, { name := "Shape", type := 22, offset := 1, embedded := false, tag := "", pkgPath := "", byteOffset := 8 }, { name := "Buffer", type := 3, offset := 2, embedded := false, tag := "", pkgPath := "", byteOffset := 32 }, { name := "Starts", type := 22, offset := 3, embedded := false, tag := "", pkgPath := "", byteOffset := 40 }, { name := "Axis", type := 3, offset := 4, embedded := false, tag := "", pkgPath := "", byteOffset := 64 }, { name := "Amount", type := 3, offset := 5, embedded := false, tag := "", pkgPath := "", byteOffset := 72 }, { name := "Perm", type := 22, offset := 6, embedded := false, tag := "", pkgPath := "", byteOffset := 80 }, { name := "Kids", type := 23, offset := 7, embedded := false, tag := "", pkgPath := "", byteOffset := 104 }] }) := by kernel_rfl
theorem ua23 : prog.underlying 23 = some (TypeDesc.slice 25) := by kernel_rfl
theorem ua4 : prog.underlying 4 = some TypeDesc.bool := by kernel_rfl
theorem exists_map {α β : Type} {f : β → α} {p : β → Prop} : ∀ {L : List α}, (∀ x ∈ L, ∃ y, x = f y ∧ p y) → ∃ l : List β, L = l.map f ∧ ∀ y ∈ l, p y
  | [], _ => ⟨[], rfl, fun y h => by cases h⟩
  | x :: L, h => by
    obtain ⟨y, rfl, hy⟩ := h x (List.mem_cons_self ..)
    obtain ⟨l, rfl, hl⟩ := exists_map (fun x hx => h x (List.mem_cons_of_mem _ hx))
    exact ⟨y :: l, rfl, fun z hz => by
      rcases List.mem_cons.1 hz with rfl | hz
      · exact hy
      · exact hl z hz⟩
variable {B : Nat} {n : Nat} {cs : List Dat}
theorem tc3 (h : TyC prog B n 3 cs) : ∃ m : Int, cs = [(intD m)] ∧ ((-9223372036854775808) ≤ m ∧ m ≤ 9223372036854775807) := by
  cases n with
  | zero => exact h.elim
  | succ n =>
    simp only [TyC, ua3] at h
    obtain ⟨m, rfl, hm⟩ := h
    refine ⟨m, rfl, ?_⟩
    simpa [Lit.wf, IntKind.min, IntKind.max, IntKind.signed, IntKind.bits] using hm
def ok22 (B : Nat) (x : (List Int)) : Prop := x.length ≤ B ∧ ∀ m ∈ x, ((-9223372036854775808) ≤ m ∧ m ≤ 9223372036854775807)
theorem tc22 (h : TyC prog B n 22 cs) : ∃ l : (List Int), cs = [.lst ((List.map intD) l)] ∧ ok22 B l := by
  cases n with
  | zero => exact h.elim
  | succ n =>
    simp only [TyC, ua22] at h
    obtain ⟨L, rfl, hl, hx⟩ := h
    obtain ⟨l, rfl, hm⟩ := exists_map (f := fun m => [(intD m)]) (p := fun m => ((-9223372036854775808) ≤ m ∧ m ≤ 9223372036854775807)) (fun x hx' => tc3 (hx x hx'))
    refine ⟨l, ?_, by simpa using hl, hm⟩
    have e : (l.map (fun m => [(intD m)])).map (elemD prog 3) = l.map intD := by
      rw [List.map_map]; exact List.map_congr_left (fun m _ => by simp only [Function.comp_apply]; simp [elemD, aggB, ua3])
    rw [e]
def ok25 (B : Nat) (x : T_ref14_Core) : Prop := True
theorem ts25 (ih : ∀ cs, TyC prog B n 23 cs → ∃ l : List T_ref14_Core, cs = [.lst (T_ref14_Core.toDs l)]) (h : TyC prog B (n + 1) 25 cs) : ∃ x : T_ref14_Core, cs = [(intD x.kind), (.lst ((List.map intD) x.shape)), (intD x.buffer), (.lst ((List.map intD) x.starts)), (intD x.axis), (intD x.amount), (.lst ((List.map intD) x.perm)), (.lst (T_ref14_Core.toDs x.kids))] := by
  simp only [TyC, ua25, List.foldr] at h
  obtain ⟨_, _, rfl, h0, _, _, rfl, h1, _, _, rfl, h2, _, _, rfl, h3, _, _, rfl, h4, _, _, rfl, h5, _, _, rfl, h6, _, _, rfl, h7, rfl⟩ := h
  obtain ⟨m0, rfl, _⟩ := tc3 h0
  obtain ⟨m1, rfl, _⟩ := tc22 h1
  obtain ⟨m2, rfl, _⟩ := tc3 h2
  obtain ⟨m3, rfl, _⟩ := tc22 h3
  obtain ⟨m4, rfl, _⟩ := tc3 h4
  obtain ⟨m5, rfl, _⟩ := tc3 h5
  obtain ⟨m6, rfl, _⟩ := tc22 h6
  obtain ⟨m7, rfl⟩ := ih _ h7
  exact ⟨⟨m0, m1, m2, m3, m4, m5, m6, m7⟩, rfl⟩
theorem tl25 (ih : ∀ cs, TyC prog B n 25 cs → ∃ x : T_ref14_Core, cs = [(intD x.kind), (.lst ((List.map intD) x.shape)), (intD x.buffer), (.lst ((List.map intD) x.starts)), (intD x.axis), (intD x.amount), (.lst ((List.map intD) x.perm)), (.lst (T_ref14_Core.toDs x.kids))]) (h : TyC prog B (n + 1) 23 cs) : ∃ l : List T_ref14_Core, cs = [.lst (T_ref14_Core.toDs l)] := by
  simp only [TyC, ua23] at h
  obtain ⟨L, rfl, hl, hx⟩ := h
  obtain ⟨l, rfl, _⟩ := exists_map (f := fun (x : T_ref14_Core) => [(intD x.kind), (.lst ((List.map intD) x.shape)), (intD x.buffer), (.lst ((List.map intD) x.starts)), (intD x.axis), (intD x.amount), (.lst ((List.map intD) x.perm)), (.lst (T_ref14_Core.toDs x.kids))]) (p := fun _ => True) (fun c hc => by obtain ⟨x, e⟩ := ih c (hx c hc); exact ⟨x, e, trivial⟩)
  refine ⟨l, ?_⟩
  have e : (l.map (fun (x : T_ref14_Core) => [(intD x.kind), (.lst ((List.map intD) x.shape)), (intD x.buffer), (.lst ((List.map intD) x.starts)), (intD x.axis), (intD x.amount), (.lst ((List.map intD) x.perm)), (.lst (T_ref14_Core.toDs x.kids))])).map (elemD prog 25) = T_ref14_Core.toDs l := by
    rw [T_ref14_Core.toDs_eq, List.map_map]; exact List.map_congr_left (fun m _ => by rw [T_ref14_Core.toD_eq]; simp only [Function.comp_apply]; simp [elemD, aggB, ua25]; rfl)
  rw [e]
theorem tr25 : ∀ n, (∀ cs, TyC prog B n 25 cs → ∃ x : T_ref14_Core, cs = [(intD x.kind), (.lst ((List.map intD) x.shape)), (intD x.buffer), (.lst ((List.map intD) x.starts)), (intD x.axis), (intD x.amount), (.lst ((List.map intD) x.perm)), (.lst (T_ref14_Core.toDs x.kids))]) ∧ (∀ cs, TyC prog B n 23 cs → ∃ l : List T_ref14_Core, cs = [.lst (T_ref14_Core.toDs l)])
  | 0 => ⟨fun _ h => h.elim, fun _ h => h.elim⟩
  | n + 1 => ⟨fun _ h => ts25 (tr25 n).2 h, fun _ h => tl25 (tr25 n).1 h⟩
theorem tc25 (h : TyC prog B n 25 cs) : ∃ x : T_ref14_Core, cs = [(intD x.kind), (.lst ((List.map intD) x.shape)), (intD x.buffer), (.lst ((List.map intD) x.starts)), (intD x.axis), (intD x.amount), (.lst ((List.map intD) x.perm)), (.lst (T_ref14_Core.toDs x.kids))] ∧ ok25 B x := by
  obtain ⟨x, e⟩ := (tr25 n).1 cs h
  exact ⟨x, e, trivial⟩
theorem ty25 {d : Dat} (h : TyA prog B 25 d) : ∃ m : T_ref14_Core, d = (T_ref14_Core.ex m) ∧ (ok25 B m) := by
  obtain ⟨n, cs, h, hd⟩ := h
  obtain ⟨m, rfl, hm⟩ := tc25 h
  exact ⟨m, by rw [hd]; simp [elemD, aggB, ua25]; rfl, hm⟩
def argTs : List TypeId := [3, 22, 25, 23, 4]
theorem argTs_closed : closedTs prog argTs = true := by kernel_rfl
theorem laidOut : laidOutB prog = true := by kernel_rfl
theorem summ : SummOK prog env := fun f s h => by cases h
theorem mixed : prog.follows .mixedOrders = true := by kernel_rfl
/-- a call that comes to a value keeps it in the model -/
theorem pure_of {f : FuncId} {dss : List Dat} {p : PV} (ho : p.out = true) (h : PC prog env f (dss.map .dat) [] p []) : PureCall prog f dss p := by
  obtain ⟨N, hN⟩ := h
  exact pure_sound summ mixed (hN N (Nat.le_refl _)) ho
end Go.Proofs.Tryd
