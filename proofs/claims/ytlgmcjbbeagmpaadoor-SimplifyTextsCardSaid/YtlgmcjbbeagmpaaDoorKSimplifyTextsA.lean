/-
  Models of functions, their walks, and plain laws.
-/
import Derived.Test.YtlgmcjbbeagmpaaDoorPmSx
import Derived.Test.YtlgmcjbbeagmpaaDoorProg
import Derived.Test.YtlgmcjbbeagmpaaDoorPmStr
namespace Go.Proofs.Tryd
open Go Go.Pm
set_option linter.unusedVariables false
set_option linter.unusedSimpArgs false
set_option maxRecDepth 2000
/-- lists that a machine can hold -/
def Sm (n : Nat) : Prop := n ≤ 9223372036854775807
theorem Sm_of {n m : Nat} (h : n ≤ m) (hm : m ≤ 9223372036854775807 := by decide) : Sm n := Nat.le_trans h hm
theorem idx_ok {α : Type} {l : List α} {j : Nat} (h : j < l.length) : idx l (j : Int) = some l[j] := by simp [idx, h]
theorem app_ok {α : Type} {b : Nat} {l es : List α} (h : (l.length + es.length) * b ≤ room) : app b l es = some (l ++ es) := if_pos h
theorem W_ok {n : Int} (h1 : -9223372036854775808 ≤ n) (h2 : n < 9223372036854775808) : W n = n := by
  simp only [W, IntKind.wrap, IntKind.bits, IntKind.signed]; simp; split <;> omega
theorem W_succ {j : Nat} (h : j < 9223372036854775807) : W ((j : Int) + 1) = ((j + 1 : Nat) : Int) := by rw [W_ok (by omega) (by omega)]; omega
/-! a loop over a list: what lies behind, what lies ahead -/
section
variable {α : Type} {p s : List α} {x : α}
theorem mid_lt : ((p.length : Int) < ((p ++ x :: s).length : Int)) := by simp; omega
theorem end_lt : ¬ ((p.length : Int) < ((p ++ ([] : List α)).length : Int)) := by simp
theorem mid_idx : idx (p ++ x :: s) (p.length : Int) = some x := by simp [idx]
theorem mid_app : p ++ x :: s = (p ++ [x]) ++ s := by simp
theorem mid_W (hs : Sm (p ++ x :: s).length) : W ((p.length : Int) + 1) = ((p ++ [x]).length : Int) := by
  unfold Sm at hs
  rw [W_ok (by omega) (by simp at hs; omega)]; simp
end
theorem bind_ok {α β : Type} (a : α) (f : α → Option β) : (some a >>= f) = f a := rfl
end Go.Proofs.Tryd
namespace Go.Proofs.Tryd
open Go Go.Pm
set_option linter.unusedVariables false
set_option maxHeartbeats 2000000
set_option maxRecDepth 2000
def hintOf : FuncId → Hint
  | 8 => { own := [], keep := [(12, [1, 4, 5])] }
  | 9 => { own := [], keep := [(4, [2, 3, 5]), (9, [2, 3, 6])] }
  | 10 => { own := [((3, 0), [(0, 45)])], keep := [(5, [0, 4, 5]), (26, [0, 4, 5, 12, 13, 14])] }
  | 14 => { own := [((2, 0), [(0, 25)]), ((10, 2), [(0, 25)])], keep := [(4, [1, 2, 4, 5, 13, 14, 15]), (11, [1, 2, 4])] }
  | 15 => { own := [((1, 2), [(0, 2)]), ((2, 0), [(0, 25)])], keep := [(4, [1, 2, 3, 11, 12, 13])] }
  | 21 => { own := [], keep := [(1, [0, 1])] }
  | 23 => { own := [], keep := [(5, [0, 1, 6, 7])] }
  | 25 => { own := [], keep := [(2, [0, 2, 4, 5, 6])] }
  | 26 => { own := [], keep := [(3, [1, 3, 4])] }
  | 27 => { own := [], keep := [(2, [1, 2, 8, 9])] }
  | 28 => { own := [((2, 0), [(1000, 2)]), ((3, 0), [(1000, 2)])], keep := [] }
  | 29 => { own := [], keep := [(3, [1, 2, 5])] }
  | 30 => { own := [], keep := [(3, [1, 3, 4])] }
  | 31 => { own := [], keep := [(4, [1, 3])] }
  | 34 => { own := [((10, 5), [(0, 2)])], keep := [(9, [0, 1, 4, 7])] }
  | 38 => { own := [], keep := [(3, [0, 5, 6])] }
  | 39 => { own := [], keep := [(3, [1, 3, 4])] }
  | 65 => { own := [], keep := [(4, [3, 6, 34, 35, 36])] }
  | _ => {}
def env : Env where
  summ := fun _ => none
  hint := hintOf
  pure := fun f => f != 28
  split := fun f => f == 28

end Go.Proofs.Tryd
namespace Go.Proofs.Tryd
open Go Go.Pm
set_option linter.unusedVariables false
set_option maxHeartbeats 2000000
set_option maxRecDepth 2000
structure T_api_Tree where
  kind : Int
  fn : Int
  axis : Int
  name : ByteArray
  nums : (List Int)
  kids : (List T_api_Tree)
mutual
def T_api_Tree.toD : T_api_Tree → Dat
  | ⟨kind, fn, axis, name, nums, kids⟩ => .agg [(intD kind), (intD fn), (intD axis), (strD name), (.lst ((List.map intD) nums)), (.lst (T_api_Tree.toDs kids))]
def T_api_Tree.toDs : List T_api_Tree → List Dat
  | [] => []
  | k :: ks => T_api_Tree.toD k :: T_api_Tree.toDs ks
end
theorem T_api_Tree.toDs_eq : ∀ l : List T_api_Tree, T_api_Tree.toDs l = l.map T_api_Tree.toD
  | [] => rfl
  | k :: ks => by rw [T_api_Tree.toDs, T_api_Tree.toDs_eq ks]; rfl
def T_api_Tree.ex (x : T_api_Tree) : Dat := .agg [(intD x.kind), (intD x.fn), (intD x.axis), (strD x.name), (.lst ((List.map intD) x.nums)), (.lst (T_api_Tree.toDs x.kids))]
theorem T_api_Tree.toD_eq (x : T_api_Tree) : x.toD = x.ex := by cases x; rfl
theorem T_api_Tree.fit (x : T_api_Tree) : Dat.fits 6 x.toD = true := by cases x; rfl
structure T_ref07_Token where
  kind : Int
  text : ByteArray
  n : Int
def T_ref07_Token.toD (x : T_ref07_Token) : Dat := .agg [(intD x.kind), (strD x.text), (intD x.n)]
theorem T_ref07_Token.fit (x : T_ref07_Token) : Dat.fits 3 x.toD = true := rfl
end Go.Proofs.Tryd
namespace Go.Proofs.Tryd
open Go Go.Pm
set_option linter.unusedVariables false
set_option maxHeartbeats 2000000
set_option maxRecDepth 2000
def m_ref07_letter (x : Int) : Option Bool :=
  match x with
  | p0 =>
  (if p0 ≥ 65 then
    some (decide (p0 ≤ 90))
  else
  some false
  ) >>= fun (v1 : Bool) =>
  (if v1 = true then
    some true
  else
  if p0 ≥ 97 then
    some (decide (p0 ≤ 122))
  else
  some false
  ) >>= fun (v2 : Bool) =>
  if v2 = true then
    some true
  else
  some (p0 == 95)
def P_ref07_letter : Int → Bool → Prop := fun x r => match x, r with
  | p0, r0 => ∀ H, PC prog env 20 ([(numD .u8 p0)].map .dat) H (boolPV r0) H
theorem w_ref07_letter : ∀ x r, m_ref07_letter x = some r → P_ref07_letter x r := by
  intro p0 r0 hm
  unfold m_ref07_letter at hm
  unfold P_ref07_letter
  intro H
  refine PC_sx (ds := [(numD .u8 p0)]) (fn := f20) (by kernel_rfl) (by kernel_rfl) rfl ?_ (by kernel_rfl)
  refine R_seq ?_
  refine R_G ?_
  refine G_run 1 ?_
  refine G_end ?_
  refine R_seq ?_
  refine R_GN ?_
  refine G_run 3 ?_
  obtain ⟨v1, hs, hm⟩ := bind_inv hm
  refine G_cut (j := 6) (fun d => ⟨sl d 21 [(0, (.dat (numD .u8 p0))), (2, (boolPV false)), (3, (.dat (numD .u8 p0))), (4, (boolPV (decide (p0 ≥ 65)))), (8, (boolPV v1))], []⟩) (fun d => ?_) (fun hJ => ?_)
  · clear hs
    refine G_run 1 ?_
    obtain ⟨v2, hs, hm⟩ := bind_inv hm
    refine G_cut (j := 14) (fun d => ⟨sl d 21 [(0, (.dat (numD .u8 p0))), (2, (boolPV false)), (3, (.dat (numD .u8 p0))), (4, (boolPV (decide (p0 ≥ 65)))), (8, (boolPV v1)), (16, (boolPV v2))], []⟩) (fun d => ?_) (fun hJ => ?_)
    · clear hs
      refine G_run 1 ?_
      refine G_split (p := v2 = true) 17 (bool_dec _) (fun hc => ?_) (fun hc => ?_)
      · replace hm := pos_inv hc hm
        refine G_run 4 ?_
        refine G_end ⟨by kernel_rfl, ?_⟩
        refine R_ret ?_
        obtain rfl := inj1 hm
        exact ⟨trivial, fin_pure (by kernel_rfl)⟩
      replace hm := neg_inv hc hm
      refine G_run 4 ?_
      refine G_end ⟨by kernel_rfl, ?_⟩
      refine R_ret ?_
      obtain rfl := inj1 hm
      exact ⟨trivial, fin_pure (by kernel_rfl)⟩
    replace hm := hs
    clear hs
    refine G_split (p := v1 = true) 9 (bool_dec _) (fun hc => ?_) (fun hc => ?_)
    · replace hm := pos_inv hc hm
      refine G_run 7 ?_
      obtain rfl := inj1 hm
      exact hJ _ _ (by kernel_rfl) (by kernel_rfl)
    replace hm := neg_inv hc hm
    refine G_run 3 ?_
    refine G_split (p := p0 ≥ 97) 12 (rfl) (fun hc => ?_) (fun hc => ?_)
    · replace hm := pos_inv hc hm
      refine G_run 4 ?_
      obtain rfl := inj1 hm
      exact hJ _ _ (by kernel_rfl) (by kernel_rfl)
    replace hm := neg_inv hc hm
    refine G_run 4 ?_
    obtain rfl := inj1 hm
    exact hJ _ _ (by kernel_rfl) (by kernel_rfl)
  replace hm := hs
  clear hs
  refine G_split (p := p0 ≥ 65) 5 (rfl) (fun hc => ?_) (fun hc => ?_)
  · replace hm := pos_inv hc hm
    refine G_run 3 ?_
    obtain rfl := inj1 hm
    exact hJ _ _ (by kernel_rfl) (by kernel_rfl)
  replace hm := neg_inv hc hm
  refine G_run 3 ?_
  obtain rfl := inj1 hm
  exact hJ _ _ (by kernel_rfl) (by kernel_rfl)
end Go.Proofs.Tryd
namespace Go.Proofs.Tryd
open Go Go.Pm
set_option linter.unusedVariables false
set_option maxHeartbeats 2000000
set_option maxRecDepth 2000
def m_ref07_digit (x : Int) : Option Bool :=
  match x with
  | p0 =>
  if p0 ≥ 48 then
    some (decide (p0 ≤ 57))
  else
  some false
def P_ref07_digit : Int → Bool → Prop := fun x r => match x, r with
  | p0, r0 => ∀ H, PC prog env 33 ([(numD .u8 p0)].map .dat) H (boolPV r0) H
theorem w_ref07_digit : ∀ x r, m_ref07_digit x = some r → P_ref07_digit x r := by
  intro p0 r0 hm
  unfold m_ref07_digit at hm
  unfold P_ref07_digit
  intro H
  refine PC_sx (ds := [(numD .u8 p0)]) (fn := f33) (by kernel_rfl) (by kernel_rfl) rfl ?_ (by kernel_rfl)
  refine R_seq ?_
  refine R_G ?_
  refine G_run 1 ?_
  refine G_end ?_
  refine R_seq ?_
  refine R_G ?_
  refine G_run 3 ?_
  refine G_split (p := p0 ≥ 48) 5 (rfl) (fun hc => ?_) (fun hc => ?_)
  · replace hm := pos_inv hc hm
    refine G_run 4 ?_
    refine G_end ?_
    refine R_ret ?_
    obtain rfl := inj1 hm
    exact ⟨trivial, fin_pure (by kernel_rfl)⟩
  replace hm := neg_inv hc hm
  refine G_run 4 ?_
  refine G_end ?_
  refine R_ret ?_
  obtain rfl := inj1 hm
  exact ⟨trivial, fin_pure (by kernel_rfl)⟩
end Go.Proofs.Tryd
namespace Go.Proofs.Tryd
open Go Go.Pm
set_option linter.unusedVariables false
set_option maxHeartbeats 2000000
set_option maxRecDepth 2000
def m_ref07_end_L1 (x : (ByteArray × Int)) : Option (Int) :=
  match x with
  | (p0, v201) =>
  (if v201 < (p0.size : Int) then
    sidx p0 v201 >>= fun v603 =>
    m_ref07_letter v603 >>= fun (v604 : Bool) =>
    if v604 = true then
      some true
    else
    sidx p0 v201 >>= fun v605 =>
    m_ref07_digit v605 >>= fun (v606 : Bool) =>
    some v606
  else
  some false
  ) >>= fun (v602 : Bool) =>
  if v602 = true then
    m_ref07_end_L1 (p0, (W (v201 + 1)))
  else
  some v201
  partial_fixpoint
def P_ref07_end_L1 : (ByteArray × Int) → Int → Prop := fun x r => match x with
  | (p0, v201) => ∀ st, prune 0 ((firstRegion (codeAt [1, 0, 0, 0] (bodyOf f21))).bind (env.hint 21).keepAt) st = ⟨kp 24 [(0, (.dat (strD p0))), (1, (intPV v201))], []⟩ →
    RL prog env (env.hint 21) true (codeAt [1, 0, 0, 0] (bodyOf f21)) 0 st (fun e s => match r with | v601 => e = .exit 0 ∧ ∃ d, s = ⟨sl d 24 [(1, (intPV v601))], []⟩)
theorem w_ref07_end_L1 : ∀ x r, m_ref07_end_L1 x = some r → P_ref07_end_L1 x r := by
  refine m_ref07_end_L1.partial_correctness _ (fun m_ref07_end_L1 w_ref07_end_L1 x r hm => ?_)
  unfold P_ref07_end_L1
  obtain ⟨p0, v201⟩ := x
  intro st hst
  refine RL_at hst ?_
  clear hst
  refine R_seq ?_
  refine R_seq ?_
  obtain ⟨v602, hs, hm⟩ := bind_inv hm
  refine R_cut (fun d => ⟨sl d 24 [(0, (.dat (strD p0))), (1, (intPV v201)), (20, (boolPV v602))], []⟩) ?_ (fun d => ?_)
  · replace hm := hs
    clear hs
    refine R_G ?_
    refine G_run 2 ?_
    refine G_semN rfl (by kernel_rfl) (fun _ => E_lenStr (b := p0) (by kernel_rfl) rfl (by kernel_rfl)) ?_
    refine G_run 2 ?_
    refine G_split (p := v201 < (p0.size : Int)) 9 (rfl) (fun hc => ?_) (fun hc => ?_)
    · replace hm := pos_inv hc hm
      refine G_run 2 ?_
      obtain ⟨v603, hx, hm⟩ := bind_inv hm
      refine G_semN rfl (by kernel_rfl) (fun _ => E_idxStr (b := p0) (n := v201) (v := v603) (k := .i64) hx (by kernel_rfl) rfl (by kernel_rfl) (by kernel_rfl)) ?_
      obtain ⟨v604, hx, hm⟩ := bind_inv hm
      have hq := w_ref07_letter _ _ hx []
      refine G_callP hq ?_
      refine G_run 1 ?_
      refine G_split (p := v604 = true) 14 (bool_dec _) (fun hc => ?_) (fun hc => ?_)
      · replace hm := pos_inv hc hm
        refine G_run 6 ?_
        refine G_end ?_
        obtain rfl := inj1 hm
        exact cut_leaf (by kernel_rfl)
      replace hm := neg_inv hc hm
      refine G_run 2 ?_
      obtain ⟨v605, hx, hm⟩ := bind_inv hm
      refine G_semN rfl (by kernel_rfl) (fun _ => E_idxStr (b := p0) (n := v201) (v := v605) (k := .i64) hx (by kernel_rfl) rfl (by kernel_rfl) (by kernel_rfl)) ?_
      obtain ⟨v606, hx, hm⟩ := bind_inv hm
      have hq := w_ref07_digit _ _ hx []
      refine G_callP hq ?_
      refine G_run 2 ?_
      refine G_end ?_
      obtain rfl := inj1 hm
      exact cut_leaf (by kernel_rfl)
    replace hm := neg_inv hc hm
    refine G_run 11 ?_
    refine G_end ?_
    obtain rfl := inj1 hm
    exact cut_leaf (by kernel_rfl)
  clear hs
  refine R_ifp (p := v602 = true) (bool_dec _) (fun hc => ?_) (fun hc => ?_)
  · replace hm := pos_inv hc hm
    refine R_skip ?_
    refine R_block ?_
    refine R_G ?_
    refine G_run 3 ?_
    refine G_end ?_
    exact w_ref07_end_L1 _ _ hm _ (by kernel_rfl)
  replace hm := neg_inv hc hm
  refine R_exit ?_
  obtain rfl := inj1 hm
  exact ⟨rfl, cut_leaf (by kernel_rfl)⟩
def m_ref07_end (x : (ByteArray × Int)) : Option Int :=
  match x with
  | (p0, p1) =>
  m_ref07_end_L1 (p0, p1) >>= fun (v601 : Int) =>
  some v601
def P_ref07_end : (ByteArray × Int) → Int → Prop := fun x r => match x, r with
  | (p0, p1), r0 => ∀ H, PC prog env 21 ([(strD p0), (intD p1)].map .dat) H (intPV r0) H
theorem w_ref07_end : ∀ x r, m_ref07_end x = some r → P_ref07_end x r := by
  intro x r0 hm
  unfold m_ref07_end at hm
  unfold P_ref07_end
  obtain ⟨p0, p1⟩ := x
  intro H
  refine PC_sx (ds := [(strD p0), (intD p1)]) (fn := f21) (by kernel_rfl) (by kernel_rfl) rfl ?_ (by kernel_rfl)
  refine R_seq ?_
  refine R_G ?_
  refine G_run 1 ?_
  refine G_end ?_
  refine R_seq ?_
  refine R_block ?_
  obtain ⟨v601, hs, hm⟩ := bind_inv hm
  refine R_loop ?_
  refine RL_use (w_ref07_end_L1 _ _ hs) (by kernel_rfl) ?_
  clear hs
  intro e s hp
  obtain ⟨rfl, d, rfl⟩ := hp
  refine R_seq ?_
  refine R_G ?_
  refine G_run 2 ?_
  refine G_end ?_
  refine R_ret ?_
  obtain rfl := inj1 hm
  exact ⟨trivial, fin_pure (by kernel_rfl)⟩
end Go.Proofs.Tryd
namespace Go.Proofs.Tryd
open Go Go.Pm
set_option linter.unusedVariables false
set_option maxHeartbeats 2000000
set_option maxRecDepth 2000
def m_ref07_begins (x : (ByteArray × Int × ByteArray)) : Option Bool :=
  match x with
  | (p0, p1, p2) =>
  if (W (p1 + (p2.size : Int))) ≤ (p0.size : Int) then
    ssub p0 p1 (W (p1 + (p2.size : Int))) >>= fun v1 =>
    some (decide (v1 = p2))
  else
  some false
def P_ref07_begins : (ByteArray × Int × ByteArray) → Bool → Prop := fun x r => match x, r with
  | (p0, p1, p2), r0 => ∀ H, PC prog env 22 ([(strD p0), (intD p1), (strD p2)].map .dat) H (boolPV r0) H
theorem w_ref07_begins : ∀ x r, m_ref07_begins x = some r → P_ref07_begins x r := by
  intro x r0 hm
  unfold m_ref07_begins at hm
  unfold P_ref07_begins
  obtain ⟨p0, p1, p2⟩ := x
  intro H
  refine PC_sx (ds := [(strD p0), (intD p1), (strD p2)]) (fn := f22) (by kernel_rfl) (by kernel_rfl) rfl ?_ (by kernel_rfl)
  refine R_seq ?_
  refine R_G ?_
  refine G_run 1 ?_
  refine G_end ?_
  refine R_seq ?_
  refine R_G ?_
  refine G_run 2 ?_
  refine G_semN rfl (by kernel_rfl) (fun _ => E_lenStr (b := p2) (by kernel_rfl) rfl (by kernel_rfl)) ?_
  refine G_run 2 ?_
  refine G_semN rfl (by kernel_rfl) (fun _ => E_lenStr (b := p0) (by kernel_rfl) rfl (by kernel_rfl)) ?_
  refine G_run 2 ?_
  refine G_split (p := (W (p1 + (p2.size : Int))) ≤ (p0.size : Int)) 14 (rfl) (fun hc => ?_) (fun hc => ?_)
  · replace hm := pos_inv hc hm
    refine G_run 4 ?_
    refine G_semN rfl (by kernel_rfl) (fun _ => E_lenStr (b := p2) (by kernel_rfl) rfl (by kernel_rfl)) ?_
    refine G_run 1 ?_
    obtain ⟨v1, hx, hm⟩ := bind_inv hm
    refine G_semN rfl (by kernel_rfl) (fun _ => E_subStr (b := p0) (l := p1) (h := (W (p1 + (p2.size : Int)))) hx (by kernel_rfl) rfl (by kernel_rfl) (Or.inr ⟨_, .i64, rfl, (by kernel_rfl)⟩) (Or.inr ⟨_, .i64, rfl, (by kernel_rfl)⟩)) ?_
    refine G_run 1 ?_
    refine G_semN rfl (by kernel_rfl) (fun _ => E_eqlStr (a := v1) (b := p2) rfl (by kernel_rfl) (by kernel_rfl)) ?_
    refine G_run 2 ?_
    refine G_end ?_
    refine R_ret ?_
    obtain rfl := inj1 hm
    exact ⟨trivial, fin_pure (by kernel_rfl)⟩
  replace hm := neg_inv hc hm
  refine G_run 11 ?_
  refine G_end ?_
  refine R_ret ?_
  obtain rfl := inj1 hm
  exact ⟨trivial, fin_pure (by kernel_rfl)⟩
end Go.Proofs.Tryd
namespace Go.Proofs.Tryd
open Go Go.Pm
set_option linter.unusedVariables false
set_option maxHeartbeats 2000000
set_option maxRecDepth 2000
def m_ref07_value_L1 (x : (ByteArray × Bool × Int × Int)) : Option (Unit ⊕ Int) :=
  match x with
  | (p0, p1, v204, v205) =>
  if v205 < (p0.size : Int) then
    sidx p0 v205 >>= fun v605 =>
    m_ref07_digit v605 >>= fun (v606 : Bool) =>
    if v606 = false then
      some (Sum.inl ())
    else
    sidx p0 v205 >>= fun v607 =>
    quoM (W ((-9223372036854775808) + (W ((W (v607)) - 48)))) 10 >>= fun v608 =>
    if v204 < v608 then
      some (Sum.inl ())
    else
    m_ref07_value_L1 (p0, p1, (W ((W (10 * v204)) - (W ((W (v607)) - 48)))), (W (v205 + 1)))
  else
  some (Sum.inr v204)
  partial_fixpoint
def P_ref07_value_L1 : (ByteArray × Bool × Int × Int) → (Unit ⊕ Int) → Prop := fun x r => match x with
  | (p0, p1, v204, v205) => ∀ st, prune 0 ((firstRegion (codeAt [1, 1, 1, 0, 1, 0, 0] (bodyOf f23))).bind (env.hint 23).keepAt) st = ⟨kp 56 [(0, (.dat (strD p0))), (1, (boolPV p1)), (6, (intPV v204)), (7, (intPV v205))], []⟩ →
    RL prog env (env.hint 23) true (codeAt [1, 1, 1, 0, 1, 0, 0] (bodyOf f23)) 0 st (fun e s => match r with | .inl _ => e = .ret ∧ ∃ d, s = ⟨sl d 56 [(4, (intPV 0)), (5, (boolPV false))], []⟩ | .inr (v604) => e = .exit 0 ∧ ∃ d, s = ⟨sl d 56 [(1, (boolPV p1)), (6, (intPV v604))], []⟩)
theorem w_ref07_value_L1 : ∀ x r, m_ref07_value_L1 x = some r → P_ref07_value_L1 x r := by
  refine m_ref07_value_L1.partial_correctness _ (fun m_ref07_value_L1 w_ref07_value_L1 x r hm => ?_)
  unfold P_ref07_value_L1
  obtain ⟨p0, p1, v204, v205⟩ := x
  intro st hst
  refine RL_at hst ?_
  clear hst
  refine R_seq ?_
  refine R_seq ?_
  refine R_G ?_
  refine G_run 2 ?_
  refine G_semN rfl (by kernel_rfl) (fun _ => E_lenStr (b := p0) (by kernel_rfl) rfl (by kernel_rfl)) ?_
  refine G_run 1 ?_
  refine G_end ?_
  refine R_ifp (p := v205 < (p0.size : Int)) (rfl) (fun hc => ?_) (fun hc => ?_)
  · replace hm := pos_inv hc hm
    refine R_skip ?_
    refine R_seq ?_
    refine R_block ?_
    refine R_seq ?_
    refine R_seq ?_
    refine R_G ?_
    refine G_run 2 ?_
    obtain ⟨v605, hx, hm⟩ := bind_inv hm
    refine G_semN rfl (by kernel_rfl) (fun _ => E_idxStr (b := p0) (n := v205) (v := v605) (k := .i64) hx (by kernel_rfl) rfl (by kernel_rfl) (by kernel_rfl)) ?_
    obtain ⟨v606, hx, hm⟩ := bind_inv hm
    have hq := w_ref07_digit _ _ hx []
    refine G_callP hq ?_
    refine G_run 1 ?_
    refine G_end ?_
    refine R_ifp (p := v606 = false) (not_dec _) (fun hc => ?_) (fun hc => ?_)
    · replace hm := pos_inv hc hm
      refine R_seq ?_
      refine R_G ?_
      refine G_run 2 ?_
      refine G_end ?_
      refine R_ret ?_
      obtain rfl := inj1 hm
      exact ⟨rfl, cut_leaf (by kernel_rfl)⟩
    replace hm := neg_inv hc hm
    refine R_skip ?_
    refine R_seq ?_
    refine R_G ?_
    refine G_run 2 ?_
    obtain ⟨v607, hx, hm⟩ := bind_inv hm
    refine G_semN rfl (by kernel_rfl) (fun _ => E_idxStr (b := p0) (n := v205) (v := v607) (k := .i64) hx (by kernel_rfl) rfl (by kernel_rfl) (by kernel_rfl)) ?_
    refine G_run 3 ?_
    refine G_end ?_
    refine R_seq ?_
    refine R_seq ?_
    refine R_G ?_
    refine G_run 3 ?_
    obtain ⟨v608, hx, hm⟩ := bind_inv hm
    refine G_semN rfl (by kernel_rfl) (fun _ => E_quo (a := (W ((-9223372036854775808) + (W ((W (v607)) - 48))))) (b := 10) hx rfl (by kernel_rfl) (by kernel_rfl)) ?_
    refine G_run 1 ?_
    refine G_end ?_
    refine R_ifp (p := v204 < v608) (rfl) (fun hc => ?_) (fun hc => ?_)
    · replace hm := pos_inv hc hm
      refine R_seq ?_
      refine R_G ?_
      refine G_run 2 ?_
      refine G_end ?_
      refine R_ret ?_
      obtain rfl := inj1 hm
      exact ⟨rfl, cut_leaf (by kernel_rfl)⟩
    replace hm := neg_inv hc hm
    refine R_skip ?_
    refine R_G ?_
    refine G_run 5 ?_
    refine G_end ?_
    refine R_G ?_
    refine G_run 3 ?_
    refine G_end ?_
    exact w_ref07_value_L1 _ _ hm _ (by kernel_rfl)
  replace hm := neg_inv hc hm
  refine R_exit ?_
  obtain rfl := inj1 hm
  exact ⟨rfl, cut_leaf (by kernel_rfl)⟩
def m_ref07_value (x : (ByteArray × Bool)) : Option (Int × Bool) :=
  match x with
  | (p0, p1) =>
  (if (p0.size : Int) = 0 then
    some true
  else
  sidx p0 0 >>= fun v2 =>
  if v2 = 48 then
    (if (p0.size : Int) > 1 then
      some true
    else
    some p1
    ) >>= fun (v3 : Bool) =>
    some v3
  else
  some false
  ) >>= fun (v1 : Bool) =>
  if v1 = true then
    some (0, false)
  else
  (
  m_ref07_value_L1 (p0, p1, 0, 0) >>= fun (out : Unit ⊕ Int) =>
  match out with
  | .inl _ =>
    some (0, false)
  | .inr (v604) =>
    if p1 = true then
      some (v604, true)
    else
    if v604 = (-9223372036854775808) then
      some (0, false)
    else
    some ((W (0 - v604)), true)
  )
def P_ref07_value : (ByteArray × Bool) → (Int × Bool) → Prop := fun x r => match x, r with
  | (p0, p1), (r0, r1) => ∀ H, PC prog env 23 ([(strD p0), (boolD p1)].map .dat) H (.tup [(intPV r0), (boolPV r1)]) H
theorem w_ref07_value : ∀ x r, m_ref07_value x = some r → P_ref07_value x r := by
  intro x r hm
  unfold m_ref07_value at hm
  unfold P_ref07_value
  obtain ⟨p0, p1⟩ := x
  obtain ⟨r0, r1⟩ := r
  intro H
  refine PC_sx (ds := [(strD p0), (boolD p1)]) (fn := f23) (by kernel_rfl) (by kernel_rfl) rfl ?_ (by kernel_rfl)
  refine R_seq ?_
  refine R_G ?_
  refine G_run 2 ?_
  refine G_end ?_
  refine R_seq ?_
  refine R_seq ?_
  obtain ⟨v1, hs, hm⟩ := bind_inv hm
  refine R_cut (fun d => ⟨sl d 56 [(0, (.dat (strD p0))), (1, (boolPV p1)), (24, (boolPV v1))], []⟩) ?_ (fun d => ?_)
  · replace hm := hs
    clear hs
    refine R_GN ?_
    refine G_run 1 ?_
    refine G_semN rfl (by kernel_rfl) (fun _ => E_lenStr (b := p0) (by kernel_rfl) rfl (by kernel_rfl)) ?_
    refine G_run 2 ?_
    refine G_split (p := (p0.size : Int) = 0) 12 (eq_dec _ _) (fun hc => ?_) (fun hc => ?_)
    · replace hm := pos_inv hc hm
      refine G_run 12 ?_
      refine G_end ⟨by kernel_rfl, ?_⟩
      obtain rfl := inj1 hm
      exact cut_leaf (by kernel_rfl)
    replace hm := neg_inv hc hm
    refine G_run 1 ?_
    obtain ⟨v2, hx, hm⟩ := bind_inv hm
    refine G_semN rfl (by kernel_rfl) (fun _ => E_idxStr (b := p0) (n := 0) (v := v2) (k := .i64) hx (by kernel_rfl) rfl (by kernel_rfl) (by kernel_rfl)) ?_
    refine G_run 2 ?_
    refine G_split (p := v2 = 48) 16 (eq_dec _ _) (fun hc => ?_) (fun hc => ?_)
    · replace hm := pos_inv hc hm
      refine G_run 1 ?_
      refine G_semN rfl (by kernel_rfl) (fun _ => E_lenStr (b := p0) (by kernel_rfl) rfl (by kernel_rfl)) ?_
      refine G_run 2 ?_
      obtain ⟨v3, hs, hm⟩ := bind_inv hm
      refine G_cut (j := 14) (fun d => ⟨sl d 56 [(0, (.dat (strD p0))), (1, (boolPV p1)), (4, (intPV 0)), (5, (boolPV false)), (9, (.dat (strD p0))), (10, (intPV (p0.size : Int))), (11, (boolPV ((p0.size : Int) == 0))), (12, (boolPV false)), (13, (.dat (strD p0))), (14, (.dat (numD .u8 v2))), (15, (boolPV (v2 == 48))), (16, (boolPV true)), (17, (.dat (strD p0))), (18, (intPV (p0.size : Int))), (19, (boolPV (decide ((p0.size : Int) > 1)))), (22, (boolPV v3))], []⟩) (fun d => ?_) (fun hJ => ?_)
      · clear hs
        refine G_run 2 ?_
        refine G_end ⟨by kernel_rfl, ?_⟩
        obtain rfl := inj1 hm
        exact cut_leaf (by kernel_rfl)
      replace hm := hs
      clear hs
      refine G_split (p := (p0.size : Int) > 1) 20 (rfl) (fun hc => ?_) (fun hc => ?_)
      · replace hm := pos_inv hc hm
        refine G_run 2 ?_
        obtain rfl := inj1 hm
        exact hJ _ _ (by kernel_rfl) (by kernel_rfl)
      replace hm := neg_inv hc hm
      refine G_run 2 ?_
      obtain rfl := inj1 hm
      exact hJ _ _ (by kernel_rfl) (by kernel_rfl)
    replace hm := neg_inv hc hm
    refine G_run 8 ?_
    refine G_end ⟨by kernel_rfl, ?_⟩
    obtain rfl := inj1 hm
    exact cut_leaf (by kernel_rfl)
  clear hs
  refine R_ifp (p := v1 = true) (bool_dec _) (fun hc => ?_) (fun hc => ?_)
  · replace hm := pos_inv hc hm
    refine R_seq ?_
    refine R_G ?_
    refine G_run 2 ?_
    refine G_end ?_
    refine R_ret ?_
    obtain ⟨rfl, rfl⟩ := inj2 hm
    exact ⟨trivial, fin_pure (by kernel_rfl)⟩
  replace hm := neg_inv hc hm
  refine R_skip ?_
  refine R_seq ?_
  refine R_G ?_
  refine G_run 1 ?_
  refine G_end ?_
  refine R_seq ?_
  refine R_seq ?_
  refine R_G ?_
  refine G_run 1 ?_
  refine G_end ?_
  refine R_block ?_
  obtain ⟨out, hs, hm⟩ := bind_inv hm
  refine R_loop ?_
  rcases out with _ | v604
  · refine RL_use (w_ref07_value_L1 _ _ hs) (by kernel_rfl) ?_
    clear hs
    intro e s hp
    obtain ⟨rfl, d, rfl⟩ := hp
    obtain ⟨rfl, rfl⟩ := inj2 hm
    exact ⟨trivial, fin_pure (by kernel_rfl)⟩
  · refine RL_use (w_ref07_value_L1 _ _ hs) (by kernel_rfl) ?_
    clear hs
    intro e s hp
    obtain ⟨rfl, d, rfl⟩ := hp
    refine R_seq ?_
    refine R_seq ?_
    refine R_G ?_
    refine G_run 1 ?_
    refine G_end ?_
    refine R_ifp (p := p1 = true) (bool_dec _) (fun hc => ?_) (fun hc => ?_)
    · replace hm := pos_inv hc hm
      refine R_seq ?_
      refine R_G ?_
      refine G_run 3 ?_
      refine G_end ?_
      refine R_ret ?_
      obtain ⟨rfl, rfl⟩ := inj2 hm
      exact ⟨trivial, fin_pure (by kernel_rfl)⟩
    replace hm := neg_inv hc hm
    refine R_skip ?_
    refine R_seq ?_
    refine R_seq ?_
    refine R_G ?_
    refine G_run 2 ?_
    refine G_end ?_
    refine R_ifp (p := v604 = (-9223372036854775808)) (eq_dec _ _) (fun hc => ?_) (fun hc => ?_)
    · replace hm := pos_inv hc hm
      refine R_seq ?_
      refine R_G ?_
      refine G_run 2 ?_
      refine G_end ?_
      refine R_ret ?_
      obtain ⟨rfl, rfl⟩ := inj2 hm
      exact ⟨trivial, fin_pure (by kernel_rfl)⟩
    replace hm := neg_inv hc hm
    refine R_skip ?_
    refine R_seq ?_
    refine R_G ?_
    refine G_run 4 ?_
    refine G_end ?_
    refine R_ret ?_
    obtain ⟨rfl, rfl⟩ := inj2 hm
    exact ⟨trivial, fin_pure (by kernel_rfl)⟩
end Go.Proofs.Tryd
namespace Go.Proofs.Tryd
open Go Go.Pm
set_option linter.unusedVariables false
set_option maxHeartbeats 2000000
set_option maxRecDepth 2000
def m_ref07_Glyphs (x : Unit) : Option (List ByteArray) :=
  match x with
  | _ =>
  some ([(⟨#[226, 134, 145]⟩ : ByteArray), (⟨#[226, 134, 147]⟩ : ByteArray), (⟨#[226, 140, 189]⟩ : ByteArray), (⟨#[226, 141, 137]⟩ : ByteArray), (⟨#[226, 141, 180]⟩ : ByteArray), (⟨#[226, 141, 172]⟩ : ByteArray), (⟨#[226, 134, 144]⟩ : ByteArray), (⟨#[44]⟩ : ByteArray), (⟨#[40]⟩ : ByteArray), (⟨#[41]⟩ : ByteArray), (⟨#[91]⟩ : ByteArray), (⟨#[93]⟩ : ByteArray)] : List ByteArray)
def P_ref07_Glyphs : Unit → (List ByteArray) → Prop := fun x r => match x, r with
  | _, r0 => ∀ H, PC prog env 24 ([].map .dat) H (.dat (.lst ((List.map strD) r0))) H
theorem w_ref07_Glyphs : ∀ x r, m_ref07_Glyphs x = some r → P_ref07_Glyphs x r := by
  intro x r0 hm
  unfold m_ref07_Glyphs at hm
  unfold P_ref07_Glyphs
  intro H
  refine PC_sx (ds := []) (fn := f24) (by kernel_rfl) (by kernel_rfl) rfl ?_ (by kernel_rfl)
  refine R_seq ?_
  refine R_G ?_
  refine G_run 1 ?_
  refine G_end ?_
  refine R_seq ?_
  refine R_G ?_
  refine G_run 2 ?_
  refine G_end ?_
  refine R_ret ?_
  obtain rfl := inj1 hm
  exact ⟨trivial, fin_pure (by kernel_rfl)⟩
end Go.Proofs.Tryd
namespace Go.Proofs.Tryd
open Go Go.Pm
set_option linter.unusedVariables false
set_option maxHeartbeats 2000000
set_option maxRecDepth 2000
def m_ref07_Tokens_L2 (x : ((List ByteArray) × ByteArray × Int × (List T_ref07_Token) × ByteArray × Int)) : Option (ByteArray) :=
  match x with
  | (v621, p0, v202, v201, v822, v823) =>
  if v823 < (v621.length : Int) then
    idx v621 v823 >>= fun v1223 =>
    m_ref07_begins (p0, v202, v1223) >>= fun (v1224 : Bool) =>
    if v1224 = true then
      idx v621 v823 >>= fun v1225 =>
      m_ref07_Tokens_L2 (v621, p0, v202, v201, v1225, (W (v823 + 1)))
    else
    m_ref07_Tokens_L2 (v621, p0, v202, v201, v822, (W (v823 + 1)))
  else
  some v822
  partial_fixpoint
def P_ref07_Tokens_L2 : ((List ByteArray) × ByteArray × Int × (List T_ref07_Token) × ByteArray × Int) → ByteArray → Prop := fun x r => match x with
  | (v621, p0, v202, v201, v822, v823) => ∀ st, prune 1 ((firstRegion (codeAt [1, 1, 1, 1, 0, 0, 0, 1, 0, 1, 1, 1, 1, 1, 1, 1, 1, 0, 1, 0, 0] (bodyOf f10))).bind (env.hint 10).keepAt) st = ⟨kp 120 [(0, (.dat (strD p0))), (4, (.vec 0 ((List.map T_ref07_Token.toD) v201))), (5, (intPV v202)), (12, (.dat (strD v822))), (13, (.dat (.lst ((List.map strD) v621)))), (14, (intPV v823))], [(.tok 45 v201.length)]⟩ →
    RL prog env (env.hint 10) true (codeAt [1, 1, 1, 1, 0, 0, 0, 1, 0, 1, 1, 1, 1, 1, 1, 1, 1, 0, 1, 0, 0] (bodyOf f10)) 1 st (fun e s => match r with | v1222 => e = .exit 2 ∧ ∃ d, s = ⟨sl d 120 [(0, (.dat (strD p0))), (4, (.vec 0 ((List.map T_ref07_Token.toD) v201))), (5, (intPV v202)), (12, (.dat (strD v1222)))], [(.tok 45 v201.length)]⟩)
theorem w_ref07_Tokens_L2 : ∀ x r, m_ref07_Tokens_L2 x = some r → P_ref07_Tokens_L2 x r := by
  refine m_ref07_Tokens_L2.partial_correctness _ (fun m_ref07_Tokens_L2 w_ref07_Tokens_L2 x r hm => ?_)
  unfold P_ref07_Tokens_L2
  obtain ⟨v621, p0, v202, v201, v822, v823⟩ := x
  intro st hst
  refine RL_at hst ?_
  clear hst
  refine R_seq ?_
  refine R_seq ?_
  refine R_G ?_
  refine G_run 2 ?_
  refine I_len strD v621 (es := (List.map strD) v621) rfl ?_
  refine G_run 1 ?_
  refine G_end ?_
  refine R_ifp (p := v823 < (v621.length : Int)) (rfl) (fun hc => ?_) (fun hc => ?_)
  · replace hm := pos_inv hc hm
    refine R_skip ?_
    refine R_seq ?_
    refine R_block ?_
    refine R_seq ?_
    refine R_G ?_
    refine G_run 4 ?_
    obtain ⟨v1223, hx, hm⟩ := bind_inv hm
    refine I_idx 1 strD v621 v823 v1223 (es := (List.map strD) v621) (d := (strD v1223)) rfl hx rfl rfl ?_
    refine G_run 1 ?_
    obtain ⟨v1224, hx, hm⟩ := bind_inv hm
    have hq := w_ref07_begins _ _ hx []
    refine G_callP hq ?_
    refine G_end ?_
    refine R_ifp (p := v1224 = true) (bool_dec _) (fun hc => ?_) (fun hc => ?_)
    · replace hm := pos_inv hc hm
      refine R_G ?_
      refine G_run 2 ?_
      obtain ⟨v1225, hx, hm⟩ := bind_inv hm
      refine I_idx 1 strD v621 v823 v1225 (es := (List.map strD) v621) (d := (strD v1225)) rfl hx rfl rfl ?_
      refine G_run 2 ?_
      refine G_end ?_
      refine R_G ?_
      refine G_run 3 ?_
      refine G_end ?_
      exact w_ref07_Tokens_L2 _ _ hm _ (by kernel_rfl)
    replace hm := neg_inv hc hm
    refine R_skip ?_
    refine R_G ?_
    refine G_run 3 ?_
    refine G_end ?_
    exact w_ref07_Tokens_L2 _ _ hm _ (by kernel_rfl)
  replace hm := neg_inv hc hm
  refine R_exit ?_
  obtain rfl := inj1 hm
  exact ⟨rfl, cut_leaf (by kernel_rfl)⟩
def m_ref07_Tokens_L1 (x : (ByteArray × (List T_ref07_Token) × Int)) : Option (Nat ⊕ (List T_ref07_Token)) :=
  match x with
  | (p0, v201, v202) =>
  if v202 < (p0.size : Int) then
    (sidx p0 v202 >>= fun v604 =>
    (if v604 = 32 then
      some true
    else
    sidx p0 v202 >>= fun v606 =>
    some (v606 == 9)
    ) >>= fun (v605 : Bool) =>
    if v605 = true then
      some true
    else
    sidx p0 v202 >>= fun v607 =>
    some (v607 == 13)
    ) >>= fun (v603 : Bool) =>
    if v603 = true then
      m_ref07_Tokens_L1 (p0, v201, (W (v202 + 1)))
    else
    sidx p0 v202 >>= fun v608 =>
    m_ref07_letter v608 >>= fun (v609 : Bool) =>
    if v609 = true then
      m_ref07_end (p0, v202) >>= fun (v610 : Int) =>
      ssub p0 v202 v610 >>= fun v611 =>
      app 32 v201 ([(⟨1, v611, 0⟩ : T_ref07_Token)] : List T_ref07_Token) >>= fun v612 =>
      m_ref07_Tokens_L1 (p0, v612, v610)
    else
    m_ref07_begins (p0, v202, (⟨#[194, 175]⟩ : ByteArray)) >>= fun (v613 : Bool) =>
    (if v613 = true then
      some (W (v202 + 2))
    else
    some v202
    ) >>= fun (v614 : Int) =>
    m_ref07_end (p0, v614) >>= fun (v615 : Int) =>
    if v615 > v614 then
      ssub p0 v614 v615 >>= fun v616 =>
      m_ref07_value (v616, v613) >>= fun ((v617, v618) : (Int × Bool)) =>
      if v618 = false then
        some (Sum.inl v201.length)
      else
      ssub p0 v202 v615 >>= fun v619 =>
      app 32 v201 ([(⟨2, v619, v617⟩ : T_ref07_Token)] : List T_ref07_Token) >>= fun v620 =>
      m_ref07_Tokens_L1 (p0, v620, v615)
    else
    m_ref07_Glyphs () >>= fun (v621 : (List ByteArray)) =>
    m_ref07_Tokens_L2 (v621, p0, v202, v201, ByteArray.empty, 0) >>= fun (v1222 : ByteArray) =>
    if v1222 = ByteArray.empty then
      some (Sum.inl v201.length)
    else
    app 32 v201 ([(⟨3, v1222, 0⟩ : T_ref07_Token)] : List T_ref07_Token) >>= fun v1226 =>
    m_ref07_Tokens_L1 (p0, v1226, (W (v202 + (v1222.size : Int))))
  else
  some (Sum.inr v201)
  partial_fixpoint
def P_ref07_Tokens_L1 : (ByteArray × (List T_ref07_Token) × Int) → (Nat ⊕ (List T_ref07_Token)) → Prop := fun x r => match x with
  | (p0, v201, v202) => ∀ st, prune 1 ((firstRegion (codeAt [1, 1, 1, 1, 0, 0, 0] (bodyOf f10))).bind (env.hint 10).keepAt) st = ⟨kp 120 [(0, (.dat (strD p0))), (4, (.vec 0 ((List.map T_ref07_Token.toD) v201))), (5, (intPV v202))], [(.tok 45 v201.length)]⟩ →
    RL prog env (env.hint 10) true (codeAt [1, 1, 1, 1, 0, 0, 0] (bodyOf f10)) 1 st (fun e s => match r with | .inl v601 => e = .ret ∧ ∃ d, s = ⟨sl d 120 [(2, (.dat (.lst ((List.map T_ref07_Token.toD) [])))), (3, (boolPV false))], [(.tok 45 v601)]⟩ | .inr (v602) => e = .exit 0 ∧ ∃ d, s = ⟨sl d 120 [(4, (.vec 0 ((List.map T_ref07_Token.toD) v602)))], [(.tok 45 v602.length)]⟩)
theorem w_ref07_Tokens_L1 : ∀ x r, m_ref07_Tokens_L1 x = some r → P_ref07_Tokens_L1 x r := by
  refine m_ref07_Tokens_L1.partial_correctness _ (fun m_ref07_Tokens_L1 w_ref07_Tokens_L1 x r hm => ?_)
  unfold P_ref07_Tokens_L1
  obtain ⟨p0, v201, v202⟩ := x
  intro st hst
  refine RL_at hst ?_
  clear hst
  refine R_seq ?_
  refine R_seq ?_
  refine R_G ?_
  refine G_run 2 ?_
  refine G_semN rfl (by kernel_rfl) (fun _ => E_lenStr (b := p0) (by kernel_rfl) rfl (by kernel_rfl)) ?_
  refine G_run 1 ?_
  refine G_end ?_
  refine R_ifp (p := v202 < (p0.size : Int)) (rfl) (fun hc => ?_) (fun hc => ?_)
  · replace hm := pos_inv hc hm
    refine R_skip ?_
    refine R_block ?_
    refine R_seq ?_
    refine R_seq ?_
    obtain ⟨v603, hs, hm⟩ := bind_inv hm
    refine R_cut (fun d => ⟨sl d 120 [(0, (.dat (strD p0))), (4, (.vec 0 ((List.map T_ref07_Token.toD) v201))), (5, (intPV v202)), (37, (boolPV v603))], [(.tok 45 v201.length)]⟩) ?_ (fun d => ?_)
    · replace hm := hs
      clear hs
      refine R_GN ?_
      refine G_run 2 ?_
      obtain ⟨v604, hx, hm⟩ := bind_inv hm
      refine G_semN rfl (by kernel_rfl) (fun _ => E_idxStr (b := p0) (n := v202) (v := v604) (k := .i64) hx (by kernel_rfl) rfl (by kernel_rfl) (by kernel_rfl)) ?_
      refine G_run 2 ?_
      obtain ⟨v605, hs, hm⟩ := bind_inv hm
      refine G_cut (j := 10) (fun d => ⟨sl d 120 [(0, (.dat (strD p0))), (4, (.vec 0 ((List.map T_ref07_Token.toD) v201))), (5, (intPV v202)), (18, (intPV v202)), (19, (.dat (strD p0))), (20, (intPV (p0.size : Int))), (21, (boolPV (decide (v202 < (p0.size : Int))))), (22, (.dat (strD p0))), (23, (intPV v202)), (24, (.dat (numD .u8 v604))), (25, (boolPV (v604 == 32))), (31, (boolPV v605))], [(.tok 45 v201.length)]⟩) (fun d => ?_) (fun hJ => ?_)
      · clear hs
        refine G_run 1 ?_
        refine G_split (p := v605 = true) 32 (bool_dec _) (fun hc => ?_) (fun hc => ?_)
        · replace hm := pos_inv hc hm
          refine G_run 5 ?_
          refine G_end ⟨by kernel_rfl, ?_⟩
          obtain rfl := inj1 hm
          exact cut_leaf (by kernel_rfl)
        replace hm := neg_inv hc hm
        refine G_run 2 ?_
        obtain ⟨v607, hx, hm⟩ := bind_inv hm
        refine G_semN rfl (by kernel_rfl) (fun _ => E_idxStr (b := p0) (n := v202) (v := v607) (k := .i64) hx (by kernel_rfl) rfl (by kernel_rfl) (by kernel_rfl)) ?_
        refine G_run 2 ?_
        refine G_end ⟨by kernel_rfl, ?_⟩
        obtain rfl := inj1 hm
        exact cut_leaf (by kernel_rfl)
      replace hm := hs
      clear hs
      refine G_split (p := v604 = 32) 26 (eq_dec _ _) (fun hc => ?_) (fun hc => ?_)
      · replace hm := pos_inv hc hm
        refine G_run 5 ?_
        obtain rfl := inj1 hm
        exact hJ _ _ (by kernel_rfl) (by kernel_rfl)
      replace hm := neg_inv hc hm
      refine G_run 2 ?_
      obtain ⟨v606, hx, hm⟩ := bind_inv hm
      refine G_semN rfl (by kernel_rfl) (fun _ => E_idxStr (b := p0) (n := v202) (v := v606) (k := .i64) hx (by kernel_rfl) rfl (by kernel_rfl) (by kernel_rfl)) ?_
      refine G_run 2 ?_
      obtain rfl := inj1 hm
      exact hJ _ _ (by kernel_rfl) (by kernel_rfl)
    clear hs
    refine R_ifp (p := v603 = true) (bool_dec _) (fun hc => ?_) (fun hc => ?_)
    · replace hm := pos_inv hc hm
      refine R_seq ?_
      refine R_G ?_
      refine G_run 3 ?_
      refine G_end ?_
      refine R_exit ?_
      exact w_ref07_Tokens_L1 _ _ hm _ (by kernel_rfl)
    replace hm := neg_inv hc hm
    refine R_skip ?_
    refine R_seq ?_
    refine R_seq ?_
    refine R_G ?_
    refine G_run 2 ?_
    obtain ⟨v608, hx, hm⟩ := bind_inv hm
    refine G_semN rfl (by kernel_rfl) (fun _ => E_idxStr (b := p0) (n := v202) (v := v608) (k := .i64) hx (by kernel_rfl) rfl (by kernel_rfl) (by kernel_rfl)) ?_
    obtain ⟨v609, hx, hm⟩ := bind_inv hm
    have hq := w_ref07_letter _ _ hx []
    refine G_callP hq ?_
    refine G_end ?_
    refine R_ifp (p := v609 = true) (bool_dec _) (fun hc => ?_) (fun hc => ?_)
    · replace hm := pos_inv hc hm
      refine R_seq ?_
      refine R_G ?_
      refine G_run 2 ?_
      obtain ⟨v610, hx, hm⟩ := bind_inv hm
      have hq := w_ref07_end _ _ hx []
      refine G_callP hq ?_
      refine G_run 1 ?_
      refine G_end ?_
      refine R_seq ?_
      refine R_G ?_
      refine G_run 4 ?_
      obtain ⟨v611, hx, hm⟩ := bind_inv hm
      refine G_semN rfl (by kernel_rfl) (fun _ => E_subStr (b := p0) (l := v202) (h := v610) hx (by kernel_rfl) rfl (by kernel_rfl) (Or.inr ⟨_, .i64, rfl, (by kernel_rfl)⟩) (Or.inr ⟨_, .i64, rfl, (by kernel_rfl)⟩)) ?_
      refine G_run 2 ?_
      obtain ⟨v612, hx, hm⟩ := bind_inv hm
      refine I_app 45 3 32 0 T_ref07_Token.toD v201 ([(⟨1, v611, 0⟩ : T_ref07_Token)] : List T_ref07_Token) v612 (xs := (List.map T_ref07_Token.toD) v201) (es := (List.map T_ref07_Token.toD) ([(⟨1, v611, 0⟩ : T_ref07_Token)] : List T_ref07_Token)) (L := (List.map T_ref07_Token.toD)) (fun _ => rfl) rfl rfl T_ref07_Token.fit hx ?_
      refine G_run 1 ?_
      refine G_end ?_
      refine R_seq ?_
      refine R_G ?_
      refine G_run 2 ?_
      refine G_end ?_
      refine R_exit ?_
      exact w_ref07_Tokens_L1 _ _ hm _ (by kernel_rfl)
    replace hm := neg_inv hc hm
    refine R_skip ?_
    refine R_seq ?_
    refine R_G ?_
    refine G_run 2 ?_
    refine G_end ?_
    refine R_seq ?_
    refine R_G ?_
    refine G_run 2 ?_
    obtain ⟨v613, hx, hm⟩ := bind_inv hm
    have hq := w_ref07_begins _ _ hx []
    refine G_callP hq ?_
    refine G_run 1 ?_
    refine G_end ?_
    refine R_seq ?_
    refine R_seq ?_
    refine R_G ?_
    refine G_run 1 ?_
    refine G_end ?_
    obtain ⟨v614, hs, hm⟩ := bind_inv hm
    refine R_cut (fun d => ⟨sl d 120 [(0, (.dat (strD p0))), (4, (.vec 0 ((List.map T_ref07_Token.toD) v201))), (5, (intPV v202)), (7, (intPV v614)), (8, (boolPV v613))], [(.tok 45 v201.length)]⟩) ?_ (fun d => ?_)
    · replace hm := hs
      clear hs
      refine R_ifp (p := v613 = true) (bool_dec _) (fun hc => ?_) (fun hc => ?_)
      · replace hm := pos_inv hc hm
        refine R_G ?_
        refine G_run 3 ?_
        refine G_end ?_
        obtain rfl := inj1 hm
        exact cut_leaf (by kernel_rfl)
      replace hm := neg_inv hc hm
      refine R_skip ?_
      obtain rfl := inj1 hm
      exact cut_leaf (by kernel_rfl)
    clear hs
    refine R_seq ?_
    refine R_seq ?_
    refine R_G ?_
    refine G_run 2 ?_
    obtain ⟨v615, hx, hm⟩ := bind_inv hm
    have hq := w_ref07_end _ _ hx []
    refine G_callP hq ?_
    refine G_run 1 ?_
    refine G_end ?_
    refine R_seq ?_
    refine R_G ?_
    refine G_run 3 ?_
    refine G_end ?_
    refine R_ifp (p := v615 > v614) (rfl) (fun hc => ?_) (fun hc => ?_)
    · replace hm := pos_inv hc hm
      refine R_seq ?_
      refine R_G ?_
      refine G_run 3 ?_
      obtain ⟨v616, hx, hm⟩ := bind_inv hm
      refine G_semN rfl (by kernel_rfl) (fun _ => E_subStr (b := p0) (l := v614) (h := v615) hx (by kernel_rfl) rfl (by kernel_rfl) (Or.inr ⟨_, .i64, rfl, (by kernel_rfl)⟩) (Or.inr ⟨_, .i64, rfl, (by kernel_rfl)⟩)) ?_
      refine G_run 1 ?_
      obtain ⟨⟨v617, v618⟩, hx, hm⟩ := bind_inv hm
      have hq := w_ref07_value _ _ hx []
      refine G_callP hq ?_
      refine G_run 5 ?_
      refine G_end ?_
      refine R_seq ?_
      refine R_seq ?_
      refine R_G ?_
      refine G_run 2 ?_
      refine G_end ?_
      refine R_ifp (p := v618 = false) (not_dec _) (fun hc => ?_) (fun hc => ?_)
      · replace hm := pos_inv hc hm
        refine R_seq ?_
        refine R_G ?_
        refine G_run 2 ?_
        refine G_end ?_
        refine R_ret ?_
        obtain rfl := inj1 hm
        exact ⟨rfl, cut_leaf (by kernel_rfl)⟩
      replace hm := neg_inv hc hm
      refine R_skip ?_
      refine R_seq ?_
      refine R_G ?_
      refine G_run 4 ?_
      obtain ⟨v619, hx, hm⟩ := bind_inv hm
      refine G_semN rfl (by kernel_rfl) (fun _ => E_subStr (b := p0) (l := v202) (h := v615) hx (by kernel_rfl) rfl (by kernel_rfl) (Or.inr ⟨_, .i64, rfl, (by kernel_rfl)⟩) (Or.inr ⟨_, .i64, rfl, (by kernel_rfl)⟩)) ?_
      refine G_run 3 ?_
      obtain ⟨v620, hx, hm⟩ := bind_inv hm
      refine I_app 45 3 32 0 T_ref07_Token.toD v201 ([(⟨2, v619, v617⟩ : T_ref07_Token)] : List T_ref07_Token) v620 (xs := (List.map T_ref07_Token.toD) v201) (es := (List.map T_ref07_Token.toD) ([(⟨2, v619, v617⟩ : T_ref07_Token)] : List T_ref07_Token)) (L := (List.map T_ref07_Token.toD)) (fun _ => rfl) rfl rfl T_ref07_Token.fit hx ?_
      refine G_run 1 ?_
      refine G_end ?_
      refine R_seq ?_
      refine R_G ?_
      refine G_run 2 ?_
      refine G_end ?_
      refine R_exit ?_
      exact w_ref07_Tokens_L1 _ _ hm _ (by kernel_rfl)
    replace hm := neg_inv hc hm
    refine R_skip ?_
    refine R_seq ?_
    refine R_G ?_
    refine G_run 1 ?_
    refine G_end ?_
    refine R_seq ?_
    refine R_G ?_
    obtain ⟨v621, hx, hm⟩ := bind_inv hm
    have hq := w_ref07_Glyphs _ _ hx []
    refine G_callP hq ?_
    refine G_run 1 ?_
    refine G_end ?_
    refine R_seq ?_
    refine R_seq ?_
    refine R_G ?_
    refine G_run 1 ?_
    refine G_end ?_
    refine R_block ?_
    obtain ⟨v1222, hs, hm⟩ := bind_inv hm
    refine R_loop ?_
    refine RL_use (w_ref07_Tokens_L2 _ _ hs) (by kernel_rfl) ?_
    clear hs
    intro e s hp
    obtain ⟨rfl, d, rfl⟩ := hp
    refine R_seq ?_
    refine R_seq ?_
    refine R_G ?_
    refine G_run 1 ?_
    refine G_semN rfl (by kernel_rfl) (fun _ => E_eqlStr (a := v1222) (b := ByteArray.empty) rfl (by kernel_rfl) (by kernel_rfl)) ?_
    refine G_end ?_
    refine R_ifp (p := v1222 = ByteArray.empty) (rfl) (fun hc => ?_) (fun hc => ?_)
    · replace hm := pos_inv hc hm
      refine R_seq ?_
      refine R_G ?_
      refine G_run 2 ?_
      refine G_end ?_
      refine R_ret ?_
      obtain rfl := inj1 hm
      exact ⟨rfl, cut_leaf (by kernel_rfl)⟩
    replace hm := neg_inv hc hm
    refine R_skip ?_
    refine R_seq ?_
    refine R_G ?_
    refine G_run 4 ?_
    obtain ⟨v1226, hx, hm⟩ := bind_inv hm
    refine I_app 45 3 32 0 T_ref07_Token.toD v201 ([(⟨3, v1222, 0⟩ : T_ref07_Token)] : List T_ref07_Token) v1226 (xs := (List.map T_ref07_Token.toD) v201) (es := (List.map T_ref07_Token.toD) ([(⟨3, v1222, 0⟩ : T_ref07_Token)] : List T_ref07_Token)) (L := (List.map T_ref07_Token.toD)) (fun _ => rfl) rfl rfl T_ref07_Token.fit hx ?_
    refine G_run 1 ?_
    refine G_end ?_
    refine R_G ?_
    refine G_run 2 ?_
    refine G_semN rfl (by kernel_rfl) (fun _ => E_lenStr (b := v1222) (by kernel_rfl) rfl (by kernel_rfl)) ?_
    refine G_run 2 ?_
    refine G_end ?_
    exact w_ref07_Tokens_L1 _ _ hm _ (by kernel_rfl)
  replace hm := neg_inv hc hm
  refine R_exit ?_
  obtain rfl := inj1 hm
  exact ⟨rfl, cut_leaf (by kernel_rfl)⟩
def m_ref07_Tokens (x : ByteArray) : Option ((List T_ref07_Token) × Bool) :=
  match x with
  | p0 =>
  if (p0.size : Int) > 65536 then
    some (([] : (List T_ref07_Token)), false)
  else
  (
  m_ref07_Tokens_L1 (p0, ([] : List T_ref07_Token), 0) >>= fun (out : Nat ⊕ (List T_ref07_Token)) =>
  match out with
  | .inl v601 =>
    some (([] : (List T_ref07_Token)), false)
  | .inr (v602) =>
    some (v602, true)
  )
def P_ref07_Tokens : ByteArray → ((List T_ref07_Token) × Bool) → Prop := fun x r => match x, r with
  | p0, (r0, r1) => ∀ H, PC prog env 10 ([(strD p0)].map .dat) H (.tup [(.dat (.lst ((List.map T_ref07_Token.toD) r0))), (boolPV r1)]) H
theorem w_ref07_Tokens : ∀ x r, m_ref07_Tokens x = some r → P_ref07_Tokens x r := by
  intro p0 r hm
  unfold m_ref07_Tokens at hm
  unfold P_ref07_Tokens
  obtain ⟨r0, r1⟩ := r
  intro H
  refine PC_sx (ds := [(strD p0)]) (fn := f10) (by kernel_rfl) (by kernel_rfl) rfl ?_ (by kernel_rfl)
  refine R_seq ?_
  refine R_G ?_
  refine G_run 2 ?_
  refine G_end ?_
  refine R_seq ?_
  refine R_seq ?_
  refine R_G ?_
  refine G_run 1 ?_
  refine G_semN rfl (by kernel_rfl) (fun _ => E_lenStr (b := p0) (by kernel_rfl) rfl (by kernel_rfl)) ?_
  refine G_run 1 ?_
  refine G_end ?_
  refine R_ifp (p := (p0.size : Int) > 65536) (rfl) (fun hc => ?_) (fun hc => ?_)
  · replace hm := pos_inv hc hm
    refine R_seq ?_
    refine R_G ?_
    refine G_run 2 ?_
    refine G_end ?_
    refine R_ret ?_
    obtain ⟨rfl, rfl⟩ := inj2 hm
    exact ⟨trivial, fin_pure (by kernel_rfl)⟩
  replace hm := neg_inv hc hm
  refine R_skip ?_
  refine R_seq ?_
  refine R_G ?_
  refine G_run 1 ?_
  refine G_end ?_
  refine R_seq ?_
  refine R_G ?_
  refine G_run 1 ?_
  refine G_end ?_
  refine R_seq ?_
  refine R_block ?_
  obtain ⟨out, hs, hm⟩ := bind_inv hm
  refine R_loop ?_
  rcases out with v601 | v602
  · refine RL_use (w_ref07_Tokens_L1 _ _ hs) (by kernel_rfl) ?_
    clear hs
    intro e s hp
    obtain ⟨rfl, d, rfl⟩ := hp
    obtain ⟨rfl, rfl⟩ := inj2 hm
    exact ⟨trivial, fin_pure (by kernel_rfl)⟩
  · refine RL_use (w_ref07_Tokens_L1 _ _ hs) (by kernel_rfl) ?_
    clear hs
    intro e s hp
    obtain ⟨rfl, d, rfl⟩ := hp
    refine R_seq ?_
    refine R_G ?_
    refine G_run 3 ?_
    refine G_end ?_
    refine R_ret ?_
    obtain ⟨rfl, rfl⟩ := inj2 hm
    exact ⟨trivial, fin_pure (by kernel_rfl)⟩
end Go.Proofs.Tryd
namespace Go.Proofs.Tryd
open Go Go.Pm
set_option linter.unusedVariables false
set_option maxHeartbeats 2000000
set_option maxRecDepth 2000
def m_ref09_glyph (x : ((List T_ref07_Token) × Int × ByteArray)) : Option Bool :=
  match x with
  | (p0, p1, p2) =>
  (if p1 ≥ 0 then
    some (decide (p1 < (p0.length : Int)))
  else
  some false
  ) >>= fun (v1 : Bool) =>
  (if v1 = true then
    idx p0 p1 >>= fun v3 =>
    some (v3.kind == 3)
  else
  some false
  ) >>= fun (v2 : Bool) =>
  if v2 = true then
    idx p0 p1 >>= fun v4 =>
    some (decide (v4.text = p2))
  else
  some false
def P_ref09_glyph : ((List T_ref07_Token) × Int × ByteArray) → Bool → Prop := fun x r => match x, r with
  | (p0, p1, p2), r0 => ∀ H, PC prog env 36 ([(.lst ((List.map T_ref07_Token.toD) p0)), (intD p1), (strD p2)].map .dat) H (boolPV r0) H
theorem w_ref09_glyph : ∀ x r, m_ref09_glyph x = some r → P_ref09_glyph x r := by
  intro x r0 hm
  unfold m_ref09_glyph at hm
  unfold P_ref09_glyph
  obtain ⟨p0, p1, p2⟩ := x
  intro H
  refine PC_sx (ds := [(.lst ((List.map T_ref07_Token.toD) p0)), (intD p1), (strD p2)]) (fn := f36) (by kernel_rfl) (by kernel_rfl) rfl ?_ (by kernel_rfl)
  refine R_seq ?_
  refine R_G ?_
  refine G_run 1 ?_
  refine G_end ?_
  refine R_seq ?_
  refine R_GN ?_
  refine G_run 3 ?_
  obtain ⟨v1, hs, hm⟩ := bind_inv hm
  refine G_cut (j := 8) (fun d => ⟨sl d 32 [(0, (.dat (.lst ((List.map T_ref07_Token.toD) p0)))), (1, (intPV p1)), (2, (.dat (strD p2))), (6, (boolPV false)), (7, (intPV p1)), (8, (boolPV (decide (p1 ≥ 0)))), (14, (boolPV v1))], []⟩) (fun d => ?_) (fun hJ => ?_)
  · clear hs
    refine G_run 1 ?_
    obtain ⟨v2, hs, hm⟩ := bind_inv hm
    refine G_cut (j := 16) (fun d => ⟨sl d 32 [(0, (.dat (.lst ((List.map T_ref07_Token.toD) p0)))), (1, (intPV p1)), (2, (.dat (strD p2))), (6, (boolPV false)), (7, (intPV p1)), (8, (boolPV (decide (p1 ≥ 0)))), (14, (boolPV v1)), (22, (boolPV v2))], []⟩) (fun d => ?_) (fun hJ => ?_)
    · clear hs
      refine G_run 1 ?_
      refine G_split (p := v2 = true) 23 (bool_dec _) (fun hc => ?_) (fun hc => ?_)
      · replace hm := pos_inv hc hm
        refine G_run 2 ?_
        obtain ⟨v4, hx, hm⟩ := bind_inv hm
        refine I_idx 3 T_ref07_Token.toD p0 p1 v4 (es := (List.map T_ref07_Token.toD) p0) (d := (T_ref07_Token.toD v4)) rfl hx rfl rfl ?_
        refine G_run 3 ?_
        refine G_semN rfl (by kernel_rfl) (fun _ => E_eqlStr (a := v4.text) (b := p2) rfl (by kernel_rfl) (by kernel_rfl)) ?_
        refine G_run 2 ?_
        refine G_end ⟨by kernel_rfl, ?_⟩
        refine R_ret ?_
        obtain rfl := inj1 hm
        exact ⟨trivial, fin_pure (by kernel_rfl)⟩
      replace hm := neg_inv hc hm
      refine G_run 9 ?_
      refine G_end ⟨by kernel_rfl, ?_⟩
      refine R_ret ?_
      obtain rfl := inj1 hm
      exact ⟨trivial, fin_pure (by kernel_rfl)⟩
    replace hm := hs
    clear hs
    refine G_split (p := v1 = true) 15 (bool_dec _) (fun hc => ?_) (fun hc => ?_)
    · replace hm := pos_inv hc hm
      refine G_run 2 ?_
      obtain ⟨v3, hx, hm⟩ := bind_inv hm
      refine I_idx 3 T_ref07_Token.toD p0 p1 v3 (es := (List.map T_ref07_Token.toD) p0) (d := (T_ref07_Token.toD v3)) rfl hx rfl rfl ?_
      refine G_run 4 ?_
      obtain rfl := inj1 hm
      exact hJ _ _ (by kernel_rfl) (by kernel_rfl)
    replace hm := neg_inv hc hm
    refine G_run 7 ?_
    obtain rfl := inj1 hm
    exact hJ _ _ (by kernel_rfl) (by kernel_rfl)
  replace hm := hs
  clear hs
  refine G_split (p := p1 ≥ 0) 9 (rfl) (fun hc => ?_) (fun hc => ?_)
  · replace hm := pos_inv hc hm
    refine G_run 2 ?_
    refine I_len T_ref07_Token.toD p0 (es := (List.map T_ref07_Token.toD) p0) rfl ?_
    refine G_run 2 ?_
    obtain rfl := inj1 hm
    exact hJ _ _ (by kernel_rfl) (by kernel_rfl)
  replace hm := neg_inv hc hm
  refine G_run 5 ?_
  obtain rfl := inj1 hm
  exact hJ _ _ (by kernel_rfl) (by kernel_rfl)
end Go.Proofs.Tryd
namespace Go.Proofs.Tryd
open Go Go.Pm
set_option linter.unusedVariables false
set_option maxHeartbeats 2000000
set_option maxRecDepth 2000
def m_ref09_open_L1 (x : ((List T_ref07_Token) × Int × Int)) : Option (Int ⊕ Unit) :=
  match x with
  | (p0, v201, v202) =>
  if v202 ≥ 0 then
    m_ref09_glyph (p0, v202, (⟨#[41]⟩ : ByteArray)) >>= fun (v602 : Bool) =>
    (if v602 = true then
      some (W (v201 + 1))
    else
    some v201
    ) >>= fun (v603 : Int) =>
    m_ref09_glyph (p0, v202, (⟨#[40]⟩ : ByteArray)) >>= fun (v604 : Bool) =>
    (if v604 = true then
      some (W (v603 - 1))
    else
    some v603
    ) >>= fun (v605 : Int) =>
    if v605 = 0 then
      some (Sum.inl v202)
    else
    m_ref09_open_L1 (p0, v605, (W (v202 - 1)))
  else
  some (Sum.inr ())
  partial_fixpoint
def P_ref09_open_L1 : ((List T_ref07_Token) × Int × Int) → (Int ⊕ Unit) → Prop := fun x r => match x with
  | (p0, v201, v202) => ∀ st, prune 0 ((firstRegion (codeAt [1, 1, 0, 1, 0, 0] (bodyOf f38))).bind (env.hint 38).keepAt) st = ⟨kp 25 [(0, (.dat (.lst ((List.map T_ref07_Token.toD) p0)))), (5, (intPV v201)), (6, (intPV v202))], []⟩ →
    RL prog env (env.hint 38) true (codeAt [1, 1, 0, 1, 0, 0] (bodyOf f38)) 0 st (fun e s => match r with | .inl v601 => e = .ret ∧ ∃ d, s = ⟨sl d 25 [(4, (intPV v601))], []⟩ | .inr (_) => e = .exit 0 ∧ ∃ d, s = ⟨sl d 25 [], []⟩)
theorem w_ref09_open_L1 : ∀ x r, m_ref09_open_L1 x = some r → P_ref09_open_L1 x r := by
  refine m_ref09_open_L1.partial_correctness _ (fun m_ref09_open_L1 w_ref09_open_L1 x r hm => ?_)
  unfold P_ref09_open_L1
  obtain ⟨p0, v201, v202⟩ := x
  intro st hst
  refine RL_at hst ?_
  clear hst
  refine R_seq ?_
  refine R_seq ?_
  refine R_G ?_
  refine G_run 2 ?_
  refine G_end ?_
  refine R_ifp (p := v202 ≥ 0) (rfl) (fun hc => ?_) (fun hc => ?_)
  · replace hm := pos_inv hc hm
    refine R_skip ?_
    refine R_seq ?_
    refine R_block ?_
    refine R_seq ?_
    refine R_seq ?_
    refine R_G ?_
    refine G_run 2 ?_
    obtain ⟨v602, hx, hm⟩ := bind_inv hm
    have hq := w_ref09_glyph _ _ hx []
    refine G_callP hq ?_
    refine G_end ?_
    obtain ⟨v603, hs, hm⟩ := bind_inv hm
    refine R_cut (fun d => ⟨sl d 25 [(0, (.dat (.lst ((List.map T_ref07_Token.toD) p0)))), (5, (intPV v603)), (6, (intPV v202))], []⟩) ?_ (fun d => ?_)
    · replace hm := hs
      clear hs
      refine R_ifp (p := v602 = true) (bool_dec _) (fun hc => ?_) (fun hc => ?_)
      · replace hm := pos_inv hc hm
        refine R_G ?_
        refine G_run 3 ?_
        refine G_end ?_
        obtain rfl := inj1 hm
        exact cut_leaf (by kernel_rfl)
      replace hm := neg_inv hc hm
      refine R_skip ?_
      obtain rfl := inj1 hm
      exact cut_leaf (by kernel_rfl)
    clear hs
    refine R_seq ?_
    refine R_seq ?_
    refine R_G ?_
    refine G_run 2 ?_
    obtain ⟨v604, hx, hm⟩ := bind_inv hm
    have hq := w_ref09_glyph _ _ hx []
    refine G_callP hq ?_
    refine G_end ?_
    obtain ⟨v605, hs, hm⟩ := bind_inv hm
    refine R_cut (fun d => ⟨sl d 25 [(0, (.dat (.lst ((List.map T_ref07_Token.toD) p0)))), (5, (intPV v605)), (6, (intPV v202))], []⟩) ?_ (fun d => ?_)
    · replace hm := hs
      clear hs
      refine R_ifp (p := v604 = true) (bool_dec _) (fun hc => ?_) (fun hc => ?_)
      · replace hm := pos_inv hc hm
        refine R_G ?_
        refine G_run 3 ?_
        refine G_end ?_
        obtain rfl := inj1 hm
        exact cut_leaf (by kernel_rfl)
      replace hm := neg_inv hc hm
      refine R_skip ?_
      obtain rfl := inj1 hm
      exact cut_leaf (by kernel_rfl)
    clear hs
    refine R_seq ?_
    refine R_G ?_
    refine G_run 2 ?_
    refine G_end ?_
    refine R_ifp (p := v605 = 0) (eq_dec _ _) (fun hc => ?_) (fun hc => ?_)
    · replace hm := pos_inv hc hm
      refine R_seq ?_
      refine R_G ?_
      refine G_run 2 ?_
      refine G_end ?_
      refine R_ret ?_
      obtain rfl := inj1 hm
      exact ⟨rfl, cut_leaf (by kernel_rfl)⟩
    replace hm := neg_inv hc hm
    refine R_skip ?_
    refine R_G ?_
    refine G_run 3 ?_
    refine G_end ?_
    exact w_ref09_open_L1 _ _ hm _ (by kernel_rfl)
  replace hm := neg_inv hc hm
  refine R_exit ?_
  obtain rfl := inj1 hm
  exact ⟨rfl, cut_leaf (by kernel_rfl)⟩
def m_ref09_open (x : ((List T_ref07_Token) × Int)) : Option Int :=
  match x with
  | (p0, p1) =>
  (
  m_ref09_open_L1 (p0, 0, p1) >>= fun (out : Int ⊕ Unit) =>
  match out with
  | .inl v601 =>
    some v601
  | .inr (_) =>
    some (-1)
  )
def P_ref09_open : ((List T_ref07_Token) × Int) → Int → Prop := fun x r => match x, r with
  | (p0, p1), r0 => ∀ H, PC prog env 38 ([(.lst ((List.map T_ref07_Token.toD) p0)), (intD p1)].map .dat) H (intPV r0) H
theorem w_ref09_open : ∀ x r, m_ref09_open x = some r → P_ref09_open x r := by
  intro x r0 hm
  unfold m_ref09_open at hm
  unfold P_ref09_open
  obtain ⟨p0, p1⟩ := x
  intro H
  refine PC_sx (ds := [(.lst ((List.map T_ref07_Token.toD) p0)), (intD p1)]) (fn := f38) (by kernel_rfl) (by kernel_rfl) rfl ?_ (by kernel_rfl)
  refine R_seq ?_
  refine R_G ?_
  refine G_run 1 ?_
  refine G_end ?_
  refine R_seq ?_
  refine R_G ?_
  refine G_run 1 ?_
  refine G_end ?_
  refine R_seq ?_
  refine R_seq ?_
  refine R_G ?_
  refine G_run 2 ?_
  refine G_end ?_
  refine R_block ?_
  obtain ⟨out, hs, hm⟩ := bind_inv hm
  refine R_loop ?_
  rcases out with v601 | _
  · refine RL_use (w_ref09_open_L1 _ _ hs) (by kernel_rfl) ?_
    clear hs
    intro e s hp
    obtain ⟨rfl, d, rfl⟩ := hp
    obtain rfl := inj1 hm
    exact ⟨trivial, fin_pure (by kernel_rfl)⟩
  · refine RL_use (w_ref09_open_L1 _ _ hs) (by kernel_rfl) ?_
    clear hs
    intro e s hp
    obtain ⟨rfl, d, rfl⟩ := hp
    refine R_seq ?_
    refine R_G ?_
    refine G_run 1 ?_
    refine G_end ?_
    refine R_ret ?_
    obtain rfl := inj1 hm
    exact ⟨trivial, fin_pure (by kernel_rfl)⟩
end Go.Proofs.Tryd
namespace Go.Proofs.Tryd
open Go Go.Pm
set_option linter.unusedVariables false
set_option maxHeartbeats 2000000
set_option maxRecDepth 2000
def m_ref09_fn_L1 (x : (T_ref07_Token × Int)) : Option (Int ⊕ Unit) :=
  match x with
  | (p0, v201) =>
  if v201 < (([(⟨#[226, 134, 145]⟩ : ByteArray), (⟨#[226, 134, 147]⟩ : ByteArray), (⟨#[226, 140, 189]⟩ : ByteArray), (⟨#[226, 141, 137]⟩ : ByteArray), (⟨#[226, 141, 180]⟩ : ByteArray), (⟨#[44]⟩ : ByteArray)] : List ByteArray).length : Int) then
    (if p0.kind = 3 then
      idx ([(⟨#[226, 134, 145]⟩ : ByteArray), (⟨#[226, 134, 147]⟩ : ByteArray), (⟨#[226, 140, 189]⟩ : ByteArray), (⟨#[226, 141, 137]⟩ : ByteArray), (⟨#[226, 141, 180]⟩ : ByteArray), (⟨#[44]⟩ : ByteArray)] : List ByteArray) v201 >>= fun v603 =>
      some (decide (p0.text = v603))
    else
    some false
    ) >>= fun (v602 : Bool) =>
    if v602 = true then
      some (Sum.inl (W (v201 + 1)))
    else
    m_ref09_fn_L1 (p0, (W (v201 + 1)))
  else
  some (Sum.inr ())
  partial_fixpoint
def P_ref09_fn_L1 : (T_ref07_Token × Int) → (Int ⊕ Unit) → Prop := fun x r => match x with
  | (p0, v201) => ∀ st, prune 1 ((firstRegion (codeAt [1, 1, 0, 1, 0, 0] (bodyOf f39))).bind (env.hint 39).keepAt) st = ⟨kp 26 [(1, (.ptr 0 0)), (3, (.dat (.lst ((List.map strD) ([(⟨#[226, 134, 145]⟩ : ByteArray), (⟨#[226, 134, 147]⟩ : ByteArray), (⟨#[226, 140, 189]⟩ : ByteArray), (⟨#[226, 141, 137]⟩ : ByteArray), (⟨#[226, 141, 180]⟩ : ByteArray), (⟨#[44]⟩ : ByteArray)] : List ByteArray))))), (4, (intPV v201))], [(.box [(intPV p0.kind), (.dat (strD p0.text)), (intPV p0.n)])]⟩ →
    RL prog env (env.hint 39) true (codeAt [1, 1, 0, 1, 0, 0] (bodyOf f39)) 1 st (fun e s => match r with | .inl v601 => e = .ret ∧ ∃ d, s = ⟨sl d 26 [(2, (intPV v601))], [(.box [(intPV p0.kind), (.dat (strD p0.text)), (intPV p0.n)])]⟩ | .inr (_) => e = .exit 0 ∧ ∃ d, s = ⟨sl d 26 [], [(.box [(intPV p0.kind), (.dat (strD p0.text)), (intPV p0.n)])]⟩)
theorem w_ref09_fn_L1 : ∀ x r, m_ref09_fn_L1 x = some r → P_ref09_fn_L1 x r := by
  refine m_ref09_fn_L1.partial_correctness _ (fun m_ref09_fn_L1 w_ref09_fn_L1 x r hm => ?_)
  unfold P_ref09_fn_L1
  obtain ⟨p0, v201⟩ := x
  intro st hst
  refine RL_at hst ?_
  clear hst
  refine R_seq ?_
  refine R_seq ?_
  refine R_G ?_
  refine G_run 2 ?_
  refine I_len strD ([(⟨#[226, 134, 145]⟩ : ByteArray), (⟨#[226, 134, 147]⟩ : ByteArray), (⟨#[226, 140, 189]⟩ : ByteArray), (⟨#[226, 141, 137]⟩ : ByteArray), (⟨#[226, 141, 180]⟩ : ByteArray), (⟨#[44]⟩ : ByteArray)] : List ByteArray) (es := (List.map strD) ([(⟨#[226, 134, 145]⟩ : ByteArray), (⟨#[226, 134, 147]⟩ : ByteArray), (⟨#[226, 140, 189]⟩ : ByteArray), (⟨#[226, 141, 137]⟩ : ByteArray), (⟨#[226, 141, 180]⟩ : ByteArray), (⟨#[44]⟩ : ByteArray)] : List ByteArray)) rfl ?_
  refine G_run 1 ?_
  refine G_end ?_
  refine R_ifp (p := v201 < (([(⟨#[226, 134, 145]⟩ : ByteArray), (⟨#[226, 134, 147]⟩ : ByteArray), (⟨#[226, 140, 189]⟩ : ByteArray), (⟨#[226, 141, 137]⟩ : ByteArray), (⟨#[226, 141, 180]⟩ : ByteArray), (⟨#[44]⟩ : ByteArray)] : List ByteArray).length : Int)) (rfl) (fun hc => ?_) (fun hc => ?_)
  · replace hm := pos_inv hc hm
    refine R_skip ?_
    refine R_seq ?_
    refine R_block ?_
    refine R_seq ?_
    obtain ⟨v602, hs, hm⟩ := bind_inv hm
    refine R_cut (fun d => ⟨sl d 26 [(1, (.ptr 0 0)), (3, (.dat (.lst ((List.map strD) ([(⟨#[226, 134, 145]⟩ : ByteArray), (⟨#[226, 134, 147]⟩ : ByteArray), (⟨#[226, 140, 189]⟩ : ByteArray), (⟨#[226, 141, 137]⟩ : ByteArray), (⟨#[226, 141, 180]⟩ : ByteArray), (⟨#[44]⟩ : ByteArray)] : List ByteArray))))), (4, (intPV v201)), (23, (boolPV v602))], [(.box [(intPV p0.kind), (.dat (strD p0.text)), (intPV p0.n)])]⟩) ?_ (fun d => ?_)
    · replace hm := hs
      clear hs
      refine R_GD ?_
      refine G_run 4 ?_
      refine G_split (p := p0.kind = 3) 15 (eq_dec _ _) (fun hc => ?_) (fun hc => ?_)
      · replace hm := pos_inv hc hm
        refine G_run 4 ?_
        obtain ⟨v603, hx, hm⟩ := bind_inv hm
        refine I_idx 1 strD ([(⟨#[226, 134, 145]⟩ : ByteArray), (⟨#[226, 134, 147]⟩ : ByteArray), (⟨#[226, 140, 189]⟩ : ByteArray), (⟨#[226, 141, 137]⟩ : ByteArray), (⟨#[226, 141, 180]⟩ : ByteArray), (⟨#[44]⟩ : ByteArray)] : List ByteArray) v201 v603 (es := (List.map strD) ([(⟨#[226, 134, 145]⟩ : ByteArray), (⟨#[226, 134, 147]⟩ : ByteArray), (⟨#[226, 140, 189]⟩ : ByteArray), (⟨#[226, 141, 137]⟩ : ByteArray), (⟨#[226, 141, 180]⟩ : ByteArray), (⟨#[44]⟩ : ByteArray)] : List ByteArray)) (d := (strD v603)) rfl hx rfl rfl ?_
        refine G_run 1 ?_
        refine G_semN rfl (by kernel_rfl) (fun _ => E_eqlStr (a := p0.text) (b := v603) rfl (by kernel_rfl) (by kernel_rfl)) ?_
        refine G_run 1 ?_
        refine G_end ⟨by kernel_rfl, ?_⟩
        obtain rfl := inj1 hm
        exact cut_leaf (by kernel_rfl)
      replace hm := neg_inv hc hm
      refine G_run 8 ?_
      refine G_end ⟨by kernel_rfl, ?_⟩
      obtain rfl := inj1 hm
      exact cut_leaf (by kernel_rfl)
    clear hs
    refine R_ifp (p := v602 = true) (bool_dec _) (fun hc => ?_) (fun hc => ?_)
    · replace hm := pos_inv hc hm
      refine R_seq ?_
      refine R_G ?_
      refine G_run 3 ?_
      refine G_end ?_
      refine R_ret ?_
      obtain rfl := inj1 hm
      exact ⟨rfl, cut_leaf (by kernel_rfl)⟩
    replace hm := neg_inv hc hm
    refine R_skip ?_
    refine R_G ?_
    refine G_run 3 ?_
    refine G_end ?_
    exact w_ref09_fn_L1 _ _ hm _ (by kernel_rfl)
  replace hm := neg_inv hc hm
  refine R_exit ?_
  obtain rfl := inj1 hm
  exact ⟨rfl, cut_leaf (by kernel_rfl)⟩
def m_ref09_fn (x : T_ref07_Token) : Option Int :=
  match x with
  | p0 =>
  (
  m_ref09_fn_L1 (p0, 0) >>= fun (out : Int ⊕ Unit) =>
  match out with
  | .inl v601 =>
    some v601
  | .inr (_) =>
    some 0
  )
def P_ref09_fn : T_ref07_Token → Int → Prop := fun x r => match x, r with
  | p0, r0 => ∀ H, PC prog env 39 ([(T_ref07_Token.toD p0)].map .dat) H (intPV r0) H
theorem w_ref09_fn : ∀ x r, m_ref09_fn x = some r → P_ref09_fn x r := by
  intro p0 r0 hm
  unfold m_ref09_fn at hm
  unfold P_ref09_fn
  intro H
  refine PC_sx (ds := [(T_ref07_Token.toD p0)]) (fn := f39) (by kernel_rfl) (by kernel_rfl) rfl ?_ (by kernel_rfl)
  refine R_seq ?_
  refine R_G ?_
  refine G_run 2 ?_
  refine G_end ?_
  refine R_seq ?_
  refine R_G ?_
  refine G_run 2 ?_
  refine G_end ?_
  refine R_seq ?_
  refine R_seq ?_
  refine R_G ?_
  refine G_run 1 ?_
  refine G_end ?_
  refine R_block ?_
  obtain ⟨out, hs, hm⟩ := bind_inv hm
  refine R_loop ?_
  rcases out with v601 | _
  · refine RL_use (w_ref09_fn_L1 _ _ hs) (by kernel_rfl) ?_
    clear hs
    intro e s hp
    obtain ⟨rfl, d, rfl⟩ := hp
    obtain rfl := inj1 hm
    exact ⟨trivial, fin_pure (by kernel_rfl)⟩
  · refine RL_use (w_ref09_fn_L1 _ _ hs) (by kernel_rfl) ?_
    clear hs
    intro e s hp
    obtain ⟨rfl, d, rfl⟩ := hp
    refine R_seq ?_
    refine R_G ?_
    refine G_run 1 ?_
    refine G_end ?_
    refine R_ret ?_
    obtain rfl := inj1 hm
    exact ⟨trivial, fin_pure (by kernel_rfl)⟩
end Go.Proofs.Tryd
namespace Go.Proofs.Tryd
open Go Go.Pm
set_option linter.unusedVariables false
set_option maxHeartbeats 2000000
set_option maxRecDepth 2000
def m_ref09_function (x : ((List T_ref07_Token) × Int)) : Option (Int × Int × Int × Bool) :=
  match x with
  | (p0, p1) =>
  m_ref09_glyph (p0, p1, (⟨#[93]⟩ : ByteArray)) >>= fun (v1 : Bool) =>
  if v1 = true then
    ((if p1 < 3 then
      some true
    else
    idx p0 (W (p1 - 1)) >>= fun v4 =>
    some (v4.kind != 2)
    ) >>= fun (v3 : Bool) =>
    (if v3 = true then
      some true
    else
    idx p0 (W (p1 - 1)) >>= fun v6 =>
    some (decide (v6.n < 0))
    ) >>= fun (v5 : Bool) =>
    (if v5 = true then
      some true
    else
    idx p0 (W (p1 - 1)) >>= fun v8 =>
    some (decide (v8.n > 15))
    ) >>= fun (v7 : Bool) =>
    if v7 = true then
      some true
    else
    m_ref09_glyph (p0, (W (p1 - 2)), (⟨#[91]⟩ : ByteArray)) >>= fun (v9 : Bool) =>
    some (!v9)
    ) >>= fun (v2 : Bool) =>
    if v2 = true then
      some (0, 0, p1, false)
    else
    idx p0 (W (p1 - 1)) >>= fun v10 =>
    ((if (W (p1 - 3)) < 0 then
      some true
    else
    idx p0 (W (p1 - 3)) >>= fun v13 =>
    m_ref09_fn v13 >>= fun (v14 : Int) =>
    some (v14 == 0)
    ) >>= fun (v12 : Bool) =>
    if v12 = true then
      some true
    else
    (if v10.n ≥ 0 then
      idx p0 (W (p1 - 3)) >>= fun v16 =>
      m_ref09_fn v16 >>= fun (v17 : Int) =>
      some (v17 != 3)
    else
    some false
    ) >>= fun (v15 : Bool) =>
    if v15 = true then
      idx p0 (W (p1 - 3)) >>= fun v18 =>
      m_ref09_fn v18 >>= fun (v19 : Int) =>
      some (v19 != 6)
    else
    some false
    ) >>= fun (v11 : Bool) =>
    if v11 = true then
      some (0, 0, (W (p1 - 3)), false)
    else
    idx p0 (W (p1 - 3)) >>= fun v20 =>
    m_ref09_fn v20 >>= fun (v21 : Int) =>
    some (v21, v10.n, (W ((W (p1 - 3)) - 1)), true)
  else
  ((if p1 < 0 then
    some true
  else
  idx p0 p1 >>= fun v24 =>
  m_ref09_fn v24 >>= fun (v25 : Int) =>
  some (v25 == 0)
  ) >>= fun (v23 : Bool) =>
  if v23 = true then
    some true
  else
  some false
  ) >>= fun (v22 : Bool) =>
  if v22 = true then
    some (0, 0, p1, false)
  else
  idx p0 p1 >>= fun v26 =>
  m_ref09_fn v26 >>= fun (v27 : Int) =>
  some (v27, (-1), (W (p1 - 1)), true)
def P_ref09_function : ((List T_ref07_Token) × Int) → (Int × Int × Int × Bool) → Prop := fun x r => match x, r with
  | (p0, p1), (r0, r1, r2, r3) => ∀ H, PC prog env 35 ([(.lst ((List.map T_ref07_Token.toD) p0)), (intD p1)].map .dat) H (.tup [(intPV r0), (intPV r1), (intPV r2), (boolPV r3)]) H
theorem w_ref09_function : ∀ x r, m_ref09_function x = some r → P_ref09_function x r := by
  intro x r hm
  unfold m_ref09_function at hm
  unfold P_ref09_function
  obtain ⟨p0, p1⟩ := x
  obtain ⟨r0, r1, r2, r3⟩ := r
  intro H
  refine PC_sx (ds := [(.lst ((List.map T_ref07_Token.toD) p0)), (intD p1)]) (fn := f35) (by kernel_rfl) (by kernel_rfl) rfl ?_ (by kernel_rfl)
  refine R_seq ?_
  refine R_G ?_
  refine G_run 4 ?_
  refine G_end ?_
  refine R_seq ?_
  refine R_G ?_
  refine G_run 1 ?_
  refine G_end ?_
  refine R_seq ?_
  refine R_seq ?_
  refine R_G ?_
  refine G_run 2 ?_
  obtain ⟨v1, hx, hm⟩ := bind_inv hm
  have hq := w_ref09_glyph _ _ hx []
  refine G_callP hq ?_
  refine G_end ?_
  refine R_ifp (p := v1 = true) (bool_dec _) (fun hc => ?_) (fun hc => ?_)
  · replace hm := pos_inv hc hm
    refine R_seq ?_
    refine R_seq ?_
    obtain ⟨v2, hs, hm⟩ := bind_inv hm
    refine R_cut (fun d => ⟨sl d 96 [(0, (.dat (.lst ((List.map T_ref07_Token.toD) p0)))), (1, (intPV p1)), (47, (boolPV v2))], []⟩) ?_ (fun d => ?_)
    · replace hm := hs
      clear hs
      refine R_GN ?_
      refine G_run 3 ?_
      obtain ⟨v3, hs, hm⟩ := bind_inv hm
      refine G_cut (j := 11) (fun d => ⟨sl d 96 [(0, (.dat (.lst ((List.map T_ref07_Token.toD) p0)))), (1, (intPV p1)), (4, (intPV 0)), (5, (intPV 0)), (6, (intPV 0)), (7, (boolPV false)), (8, (intPV (-1))), (9, (.dat (.lst ((List.map T_ref07_Token.toD) p0)))), (10, (intPV p1)), (11, (boolPV v1)), (12, (intPV p1)), (13, (boolPV (decide (p1 < 3)))), (22, (boolPV v3))], []⟩) (fun d => ?_) (fun hJ => ?_)
      · clear hs
        refine G_run 1 ?_
        obtain ⟨v5, hs, hm⟩ := bind_inv hm
        refine G_cut (j := 20) (fun d => ⟨sl d 96 [(0, (.dat (.lst ((List.map T_ref07_Token.toD) p0)))), (1, (intPV p1)), (4, (intPV 0)), (5, (intPV 0)), (6, (intPV 0)), (7, (boolPV false)), (8, (intPV (-1))), (9, (.dat (.lst ((List.map T_ref07_Token.toD) p0)))), (10, (intPV p1)), (11, (boolPV v1)), (12, (intPV p1)), (13, (boolPV (decide (p1 < 3)))), (22, (boolPV v3)), (31, (boolPV v5))], []⟩) (fun d => ?_) (fun hJ => ?_)
        · clear hs
          refine G_run 1 ?_
          obtain ⟨v7, hs, hm⟩ := bind_inv hm
          refine G_cut (j := 29) (fun d => ⟨sl d 96 [(0, (.dat (.lst ((List.map T_ref07_Token.toD) p0)))), (1, (intPV p1)), (4, (intPV 0)), (5, (intPV 0)), (6, (intPV 0)), (7, (boolPV false)), (8, (intPV (-1))), (9, (.dat (.lst ((List.map T_ref07_Token.toD) p0)))), (10, (intPV p1)), (11, (boolPV v1)), (12, (intPV p1)), (13, (boolPV (decide (p1 < 3)))), (22, (boolPV v3)), (31, (boolPV v5)), (40, (boolPV v7))], []⟩) (fun d => ?_) (fun hJ => ?_)
          · clear hs
            refine G_run 1 ?_
            refine G_split (p := v7 = true) 41 (bool_dec _) (fun hc => ?_) (fun hc => ?_)
            · replace hm := pos_inv hc hm
              refine G_run 6 ?_
              refine G_end ⟨by kernel_rfl, ?_⟩
              obtain rfl := inj1 hm
              exact cut_leaf (by kernel_rfl)
            replace hm := neg_inv hc hm
            refine G_run 3 ?_
            obtain ⟨v9, hx, hm⟩ := bind_inv hm
            have hq := w_ref09_glyph _ _ hx []
            refine G_callP hq ?_
            refine G_run 2 ?_
            refine G_end ⟨by kernel_rfl, ?_⟩
            obtain rfl := inj1 hm
            exact cut_leaf (by kernel_rfl)
          replace hm := hs
          clear hs
          refine G_split (p := v5 = true) 32 (bool_dec _) (fun hc => ?_) (fun hc => ?_)
          · replace hm := pos_inv hc hm
            refine G_run 8 ?_
            obtain rfl := inj1 hm
            exact hJ _ _ (by kernel_rfl) (by kernel_rfl)
          replace hm := neg_inv hc hm
          refine G_run 3 ?_
          obtain ⟨v8, hx, hm⟩ := bind_inv hm
          refine I_idx 3 T_ref07_Token.toD p0 (W (p1 - 1)) v8 (es := (List.map T_ref07_Token.toD) p0) (d := (T_ref07_Token.toD v8)) rfl hx rfl rfl ?_
          refine G_run 4 ?_
          obtain rfl := inj1 hm
          exact hJ _ _ (by kernel_rfl) (by kernel_rfl)
        replace hm := hs
        clear hs
        refine G_split (p := v3 = true) 23 (bool_dec _) (fun hc => ?_) (fun hc => ?_)
        · replace hm := pos_inv hc hm
          refine G_run 8 ?_
          obtain rfl := inj1 hm
          exact hJ _ _ (by kernel_rfl) (by kernel_rfl)
        replace hm := neg_inv hc hm
        refine G_run 3 ?_
        obtain ⟨v6, hx, hm⟩ := bind_inv hm
        refine I_idx 3 T_ref07_Token.toD p0 (W (p1 - 1)) v6 (es := (List.map T_ref07_Token.toD) p0) (d := (T_ref07_Token.toD v6)) rfl hx rfl rfl ?_
        refine G_run 4 ?_
        obtain rfl := inj1 hm
        exact hJ _ _ (by kernel_rfl) (by kernel_rfl)
      replace hm := hs
      clear hs
      refine G_split (p := p1 < 3) 14 (rfl) (fun hc => ?_) (fun hc => ?_)
      · replace hm := pos_inv hc hm
        refine G_run 8 ?_
        obtain rfl := inj1 hm
        exact hJ _ _ (by kernel_rfl) (by kernel_rfl)
      replace hm := neg_inv hc hm
      refine G_run 3 ?_
      obtain ⟨v4, hx, hm⟩ := bind_inv hm
      refine I_idx 3 T_ref07_Token.toD p0 (W (p1 - 1)) v4 (es := (List.map T_ref07_Token.toD) p0) (d := (T_ref07_Token.toD v4)) rfl hx rfl rfl ?_
      refine G_run 4 ?_
      obtain rfl := inj1 hm
      exact hJ _ _ (by kernel_rfl) (by kernel_rfl)
    clear hs
    refine R_ifp (p := v2 = true) (bool_dec _) (fun hc => ?_) (fun hc => ?_)
    · replace hm := pos_inv hc hm
      refine R_seq ?_
      refine R_G ?_
      refine G_run 5 ?_
      refine G_end ?_
      refine R_ret ?_
      obtain ⟨rfl, rfl, rfl, rfl⟩ := inj4 hm
      exact ⟨trivial, fin_pure (by kernel_rfl)⟩
    replace hm := neg_inv hc hm
    refine R_skip ?_
    refine R_seq ?_
    refine R_G ?_
    refine G_run 3 ?_
    obtain ⟨v10, hx, hm⟩ := bind_inv hm
    refine I_idx 3 T_ref07_Token.toD p0 (W (p1 - 1)) v10 (es := (List.map T_ref07_Token.toD) p0) (d := (T_ref07_Token.toD v10)) rfl hx rfl rfl ?_
    refine G_run 3 ?_
    refine G_end ?_
    refine R_G ?_
    refine G_run 3 ?_
    refine G_end ?_
    refine R_seq ?_
    refine R_seq ?_
    obtain ⟨v11, hs, hm⟩ := bind_inv hm
    refine R_cut (fun d => ⟨sl d 96 [(0, (.dat (.lst ((List.map T_ref07_Token.toD) p0)))), (1, (intPV (W (p1 - 3)))), (8, (intPV v10.n)), (86, (boolPV v11))], []⟩) ?_ (fun d => ?_)
    · replace hm := hs
      clear hs
      refine R_GN ?_
      refine G_run 3 ?_
      obtain ⟨v12, hs, hm⟩ := bind_inv hm
      refine G_cut (j := 10) (fun d => ⟨sl d 96 [(0, (.dat (.lst ((List.map T_ref07_Token.toD) p0)))), (1, (intPV (W (p1 - 3)))), (8, (intPV v10.n)), (47, (boolPV v2)), (49, (.dat (.lst ((List.map T_ref07_Token.toD) p0)))), (50, (intPV p1)), (51, (intPV (W (p1 - 1)))), (52, (.iptr [(intD v10.kind), (strD v10.text), (intD v10.n)])), (53, (.iptr [(intD v10.n)])), (54, (intPV v10.n)), (55, (intPV p1)), (56, (intPV (W (p1 - 3)))), (57, (intPV (W (p1 - 3)))), (58, (boolPV (decide ((W (p1 - 3)) < 0)))), (66, (boolPV v12))], []⟩) (fun d => ?_) (fun hJ => ?_)
      · clear hs
        refine G_run 1 ?_
        refine G_split (p := v12 = true) 67 (bool_dec _) (fun hc => ?_) (fun hc => ?_)
        · replace hm := pos_inv hc hm
          refine G_run 19 ?_
          refine G_end ⟨by kernel_rfl, ?_⟩
          obtain rfl := inj1 hm
          exact cut_leaf (by kernel_rfl)
        replace hm := neg_inv hc hm
        refine G_run 3 ?_
        obtain ⟨v15, hs, hm⟩ := bind_inv hm
        refine G_cut (j := 21) (fun d => ⟨sl d 96 [(0, (.dat (.lst ((List.map T_ref07_Token.toD) p0)))), (1, (intPV (W (p1 - 3)))), (8, (intPV v10.n)), (47, (boolPV v2)), (49, (.dat (.lst ((List.map T_ref07_Token.toD) p0)))), (50, (intPV p1)), (51, (intPV (W (p1 - 1)))), (52, (.iptr [(intD v10.kind), (strD v10.text), (intD v10.n)])), (53, (.iptr [(intD v10.n)])), (54, (intPV v10.n)), (55, (intPV p1)), (56, (intPV (W (p1 - 3)))), (57, (intPV (W (p1 - 3)))), (58, (boolPV (decide ((W (p1 - 3)) < 0)))), (66, (boolPV v12)), (67, (boolPV false)), (68, (intPV v10.n)), (69, (boolPV (decide (v10.n ≥ 0)))), (77, (boolPV v15))], []⟩) (fun d => ?_) (fun hJ => ?_)
        · clear hs
          refine G_run 1 ?_
          refine G_split (p := v15 = true) 78 (bool_dec _) (fun hc => ?_) (fun hc => ?_)
          · replace hm := pos_inv hc hm
            refine G_run 2 ?_
            obtain ⟨v18, hx, hm⟩ := bind_inv hm
            refine I_idx 3 T_ref07_Token.toD p0 (W (p1 - 3)) v18 (es := (List.map T_ref07_Token.toD) p0) (d := (T_ref07_Token.toD v18)) rfl hx rfl rfl ?_
            refine G_run 1 ?_
            obtain ⟨v19, hx, hm⟩ := bind_inv hm
            have hq := w_ref09_fn _ _ hx []
            refine G_callP hq ?_
            refine G_run 3 ?_
            refine G_end ⟨by kernel_rfl, ?_⟩
            obtain rfl := inj1 hm
            exact cut_leaf (by kernel_rfl)
          replace hm := neg_inv hc hm
          refine G_run 8 ?_
          refine G_end ⟨by kernel_rfl, ?_⟩
          obtain rfl := inj1 hm
          exact cut_leaf (by kernel_rfl)
        replace hm := hs
        clear hs
        refine G_split (p := v10.n ≥ 0) 70 (rfl) (fun hc => ?_) (fun hc => ?_)
        · replace hm := pos_inv hc hm
          refine G_run 2 ?_
          obtain ⟨v16, hx, hm⟩ := bind_inv hm
          refine I_idx 3 T_ref07_Token.toD p0 (W (p1 - 3)) v16 (es := (List.map T_ref07_Token.toD) p0) (d := (T_ref07_Token.toD v16)) rfl hx rfl rfl ?_
          refine G_run 1 ?_
          obtain ⟨v17, hx, hm⟩ := bind_inv hm
          have hq := w_ref09_fn _ _ hx []
          refine G_callP hq ?_
          refine G_run 2 ?_
          obtain rfl := inj1 hm
          exact hJ _ _ (by kernel_rfl) (by kernel_rfl)
        replace hm := neg_inv hc hm
        refine G_run 7 ?_
        obtain rfl := inj1 hm
        exact hJ _ _ (by kernel_rfl) (by kernel_rfl)
      replace hm := hs
      clear hs
      refine G_split (p := (W (p1 - 3)) < 0) 59 (rfl) (fun hc => ?_) (fun hc => ?_)
      · replace hm := pos_inv hc hm
        refine G_run 7 ?_
        obtain rfl := inj1 hm
        exact hJ _ _ (by kernel_rfl) (by kernel_rfl)
      replace hm := neg_inv hc hm
      refine G_run 2 ?_
      obtain ⟨v13, hx, hm⟩ := bind_inv hm
      refine I_idx 3 T_ref07_Token.toD p0 (W (p1 - 3)) v13 (es := (List.map T_ref07_Token.toD) p0) (d := (T_ref07_Token.toD v13)) rfl hx rfl rfl ?_
      refine G_run 1 ?_
      obtain ⟨v14, hx, hm⟩ := bind_inv hm
      have hq := w_ref09_fn _ _ hx []
      refine G_callP hq ?_
      refine G_run 2 ?_
      obtain rfl := inj1 hm
      exact hJ _ _ (by kernel_rfl) (by kernel_rfl)
    clear hs
    refine R_ifp (p := v11 = true) (bool_dec _) (fun hc => ?_) (fun hc => ?_)
    · replace hm := pos_inv hc hm
      refine R_seq ?_
      refine R_G ?_
      refine G_run 5 ?_
      refine G_end ?_
      refine R_ret ?_
      obtain ⟨rfl, rfl, rfl, rfl⟩ := inj4 hm
      exact ⟨trivial, fin_pure (by kernel_rfl)⟩
    replace hm := neg_inv hc hm
    refine R_skip ?_
    refine R_seq ?_
    refine R_G ?_
    refine G_run 2 ?_
    obtain ⟨v20, hx, hm⟩ := bind_inv hm
    refine I_idx 3 T_ref07_Token.toD p0 (W (p1 - 3)) v20 (es := (List.map T_ref07_Token.toD) p0) (d := (T_ref07_Token.toD v20)) rfl hx rfl rfl ?_
    refine G_run 1 ?_
    obtain ⟨v21, hx, hm⟩ := bind_inv hm
    have hq := w_ref09_fn _ _ hx []
    refine G_callP hq ?_
    refine G_run 7 ?_
    refine G_end ?_
    refine R_ret ?_
    obtain ⟨rfl, rfl, rfl, rfl⟩ := inj4 hm
    exact ⟨trivial, fin_pure (by kernel_rfl)⟩
  replace hm := neg_inv hc hm
  refine R_skip ?_
  refine R_seq ?_
  refine R_seq ?_
  obtain ⟨v22, hs, hm⟩ := bind_inv hm
  refine R_cut (fun d => ⟨sl d 96 [(0, (.dat (.lst ((List.map T_ref07_Token.toD) p0)))), (1, (intPV p1)), (8, (intPV (-1))), (86, (boolPV v22))], []⟩) ?_ (fun d => ?_)
  · replace hm := hs
    clear hs
    refine R_GN ?_
    refine G_run 3 ?_
    obtain ⟨v23, hs, hm⟩ := bind_inv hm
    refine G_cut (j := 10) (fun d => ⟨sl d 96 [(0, (.dat (.lst ((List.map T_ref07_Token.toD) p0)))), (1, (intPV p1)), (4, (intPV 0)), (5, (intPV 0)), (6, (intPV 0)), (7, (boolPV false)), (8, (intPV (-1))), (9, (.dat (.lst ((List.map T_ref07_Token.toD) p0)))), (10, (intPV p1)), (11, (boolPV v1)), (57, (intPV p1)), (58, (boolPV (decide (p1 < 0)))), (66, (boolPV v23))], []⟩) (fun d => ?_) (fun hJ => ?_)
    · clear hs
      refine G_run 1 ?_
      refine G_split (p := v23 = true) 67 (bool_dec _) (fun hc => ?_) (fun hc => ?_)
      · replace hm := pos_inv hc hm
        refine G_run 19 ?_
        refine G_end ⟨by kernel_rfl, ?_⟩
        obtain rfl := inj1 hm
        exact cut_leaf (by kernel_rfl)
      replace hm := neg_inv hc hm
      refine G_run 19 ?_
      refine G_end ⟨by kernel_rfl, ?_⟩
      obtain rfl := inj1 hm
      exact cut_leaf (by kernel_rfl)
    replace hm := hs
    clear hs
    refine G_split (p := p1 < 0) 59 (rfl) (fun hc => ?_) (fun hc => ?_)
    · replace hm := pos_inv hc hm
      refine G_run 7 ?_
      obtain rfl := inj1 hm
      exact hJ _ _ (by kernel_rfl) (by kernel_rfl)
    replace hm := neg_inv hc hm
    refine G_run 2 ?_
    obtain ⟨v24, hx, hm⟩ := bind_inv hm
    refine I_idx 3 T_ref07_Token.toD p0 p1 v24 (es := (List.map T_ref07_Token.toD) p0) (d := (T_ref07_Token.toD v24)) rfl hx rfl rfl ?_
    refine G_run 1 ?_
    obtain ⟨v25, hx, hm⟩ := bind_inv hm
    have hq := w_ref09_fn _ _ hx []
    refine G_callP hq ?_
    refine G_run 2 ?_
    obtain rfl := inj1 hm
    exact hJ _ _ (by kernel_rfl) (by kernel_rfl)
  clear hs
  refine R_ifp (p := v22 = true) (bool_dec _) (fun hc => ?_) (fun hc => ?_)
  · replace hm := pos_inv hc hm
    refine R_seq ?_
    refine R_G ?_
    refine G_run 5 ?_
    refine G_end ?_
    refine R_ret ?_
    obtain ⟨rfl, rfl, rfl, rfl⟩ := inj4 hm
    exact ⟨trivial, fin_pure (by kernel_rfl)⟩
  replace hm := neg_inv hc hm
  refine R_skip ?_
  refine R_seq ?_
  refine R_G ?_
  refine G_run 2 ?_
  obtain ⟨v26, hx, hm⟩ := bind_inv hm
  refine I_idx 3 T_ref07_Token.toD p0 p1 v26 (es := (List.map T_ref07_Token.toD) p0) (d := (T_ref07_Token.toD v26)) rfl hx rfl rfl ?_
  refine G_run 1 ?_
  obtain ⟨v27, hx, hm⟩ := bind_inv hm
  have hq := w_ref09_fn _ _ hx []
  refine G_callP hq ?_
  refine G_run 7 ?_
  refine G_end ?_
  refine R_ret ?_
  obtain ⟨rfl, rfl, rfl, rfl⟩ := inj4 hm
  exact ⟨trivial, fin_pure (by kernel_rfl)⟩
end Go.Proofs.Tryd
namespace Go.Proofs.Tryd
open Go Go.Pm
set_option linter.unusedVariables false
set_option maxHeartbeats 2000000
set_option maxRecDepth 2000
def m_ref09_operand_L1 (x : ((List T_ref07_Token) × (List Int) × Int)) : Option (((List Int) × Int)) :=
  match x with
  | (p0, v205, v206) =>
  (if v206 ≥ 0 then
    idx p0 v206 >>= fun v608 =>
    some (v608.kind == 2)
  else
  some false
  ) >>= fun (v607 : Bool) =>
  if v607 = true then
    idx p0 v206 >>= fun v609 =>
    app 8 ([v609.n] : List Int) v205 >>= fun v610 =>
    m_ref09_operand_L1 (p0, v610, (W (v206 - 1)))
  else
  some (v205, v206)
  partial_fixpoint
def P_ref09_operand_L1 : ((List T_ref07_Token) × (List Int) × Int) → ((List Int) × Int) → Prop := fun x r => match x with
  | (p0, v205, v206) => ∀ st, prune 2 ((firstRegion (codeAt [1, 1, 1, 1, 0, 1, 0, 1, 0, 0, 0] (bodyOf f34))).bind (env.hint 34).keepAt) st = ⟨kp 91 [(0, (.dat (.lst ((List.map T_ref07_Token.toD) p0)))), (1, (intPV v206)), (4, (.ptr 0 0)), (7, (.ptr 1 0))], [(.box [(intPV 0), (intPV 0), (intPV 0), (.dat (strD ByteArray.empty)), (.dat (.lst ((List.map intD) []))), (.dat (.lst (T_api_Tree.toDs [])))]), (.box [(intPV 1), (intPV 0), (intPV (-1)), (.dat (strD ByteArray.empty)), (.dat (.lst ((List.map intD) v205))), (.dat (.lst (T_api_Tree.toDs [])))])]⟩ →
    RL prog env (env.hint 34) true (codeAt [1, 1, 1, 1, 0, 1, 0, 1, 0, 0, 0] (bodyOf f34)) 2 st (fun e s => match r with | (v605, v606) => e = .exit 0 ∧ ∃ d, s = ⟨sl d 91 [(1, (intPV v606)), (4, (.ptr 0 0)), (7, (.ptr 1 0))], [(.box [(intPV 0), (intPV 0), (intPV 0), (.dat (strD ByteArray.empty)), (.dat (.lst ((List.map intD) []))), (.dat (.lst (T_api_Tree.toDs [])))]), (.box [(intPV 1), (intPV 0), (intPV (-1)), (.dat (strD ByteArray.empty)), (.dat (.lst ((List.map intD) v605))), (.dat (.lst (T_api_Tree.toDs [])))])]⟩)
theorem w_ref09_operand_L1 : ∀ x r, m_ref09_operand_L1 x = some r → P_ref09_operand_L1 x r := by
  refine m_ref09_operand_L1.partial_correctness _ (fun m_ref09_operand_L1 w_ref09_operand_L1 x r hm => ?_)
  unfold P_ref09_operand_L1
  obtain ⟨p0, v205, v206⟩ := x
  intro st hst
  refine RL_at hst ?_
  clear hst
  refine R_seq ?_
  refine R_seq ?_
  obtain ⟨v607, hs, hm⟩ := bind_inv hm
  refine R_cut (fun d => ⟨sl d 91 [(0, (.dat (.lst ((List.map T_ref07_Token.toD) p0)))), (1, (intPV v206)), (4, (.ptr 0 0)), (7, (.ptr 1 0)), (51, (boolPV v607))], [(.box [(intPV 0), (intPV 0), (intPV 0), (.dat (strD ByteArray.empty)), (.dat (.lst ((List.map intD) []))), (.dat (.lst (T_api_Tree.toDs [])))]), (.box [(intPV 1), (intPV 0), (intPV (-1)), (.dat (strD ByteArray.empty)), (.dat (.lst ((List.map intD) v205))), (.dat (.lst (T_api_Tree.toDs [])))])]⟩) ?_ (fun d => ?_)
  · replace hm := hs
    clear hs
    refine R_G ?_
    refine G_run 3 ?_
    refine G_split (p := v206 ≥ 0) 44 (rfl) (fun hc => ?_) (fun hc => ?_)
    · replace hm := pos_inv hc hm
      refine G_run 2 ?_
      obtain ⟨v608, hx, hm⟩ := bind_inv hm
      refine I_idx 3 T_ref07_Token.toD p0 v206 v608 (es := (List.map T_ref07_Token.toD) p0) (d := (T_ref07_Token.toD v608)) rfl hx rfl rfl ?_
      refine G_run 4 ?_
      refine G_end ?_
      obtain rfl := inj1 hm
      exact cut_leaf (by kernel_rfl)
    replace hm := neg_inv hc hm
    refine G_run 7 ?_
    refine G_end ?_
    obtain rfl := inj1 hm
    exact cut_leaf (by kernel_rfl)
  clear hs
  refine R_ifp (p := v607 = true) (bool_dec _) (fun hc => ?_) (fun hc => ?_)
  · replace hm := pos_inv hc hm
    refine R_skip ?_
    refine R_block ?_
    refine R_seq ?_
    refine R_GD ?_
    refine G_run 2 ?_
    obtain ⟨v609, hx, hm⟩ := bind_inv hm
    refine I_idx 3 T_ref07_Token.toD p0 v206 v609 (es := (List.map T_ref07_Token.toD) p0) (d := (T_ref07_Token.toD v609)) rfl hx rfl rfl ?_
    refine G_run 5 ?_
    obtain ⟨v610, hx, hm⟩ := bind_inv hm
    refine I_app 2 1 8 2 intD ([v609.n] : List Int) v205 v610 (xs := (List.map intD) ([v609.n] : List Int)) (es := (List.map intD) v205) (L := (List.map intD)) (fun _ => rfl) rfl rfl (fun _ => rfl) hx ?_
    refine G_run 2 ?_
    refine G_end ⟨by kernel_rfl, ?_⟩
    refine R_G ?_
    refine G_run 3 ?_
    refine G_end ?_
    exact w_ref09_operand_L1 _ _ hm _ (by kernel_rfl)
  replace hm := neg_inv hc hm
  refine R_exit ?_
  obtain rfl := inj1 hm
  exact ⟨rfl, cut_leaf (by kernel_rfl)⟩
mutual
def m_ref09_operand (x : ((List T_ref07_Token) × Int)) : Option (T_api_Tree × Int × Bool) :=
  match x with
  | (p0, p1) =>
  if p1 < 0 then
    some ((⟨0, 0, 0, ByteArray.empty, ([] : (List Int)), ([] : (List T_api_Tree))⟩ : T_api_Tree), p1, false)
  else
  idx p0 p1 >>= fun v1 =>
  if v1.kind = 1 then
    idx p0 p1 >>= fun v2 =>
    some ((⟨2, 0, (-1), v2.text, ([] : (List Int)), ([] : (List T_api_Tree))⟩ : T_api_Tree), (W (p1 - 1)), true)
  else
  m_ref09_glyph (p0, p1, (⟨#[226, 141, 172]⟩ : ByteArray)) >>= fun (v3 : Bool) =>
  if v3 = true then
    some ((⟨1, 0, (-1), ByteArray.empty, ([] : (List Int)), ([] : (List T_api_Tree))⟩ : T_api_Tree), (W (p1 - 1)), true)
  else
  idx p0 p1 >>= fun v4 =>
  if v4.kind = 2 then
    m_ref09_operand_L1 (p0, ([] : List Int), p1) >>= fun ((v605, v606) : ((List Int) × Int)) =>
    some ((⟨1, 0, (-1), ByteArray.empty, v605, ([] : (List T_api_Tree))⟩ : T_api_Tree), v606, true)
  else
  m_ref09_glyph (p0, p1, (⟨#[41]⟩ : ByteArray)) >>= fun (v611 : Bool) =>
  if v611 = true then
    m_ref09_open (p0, p1) >>= fun (v612 : Int) =>
    if v612 < 0 then
      some ((⟨0, 0, 0, ByteArray.empty, ([] : (List Int)), ([] : (List T_api_Tree))⟩ : T_api_Tree), p1, false)
    else
    sub p0 (W (v612 + 1)) p1 >>= fun v613 =>
    m_ref09_Expr v613 >>= fun ((v614, v615) : (T_api_Tree × Bool)) =>
    some (v614, (W (v612 - 1)), v615)
  else
  some ((⟨0, 0, 0, ByteArray.empty, ([] : (List Int)), ([] : (List T_api_Tree))⟩ : T_api_Tree), p1, false)
  partial_fixpoint
def m_ref09_Expr_L1 (x : (Bool × (List T_ref07_Token) × Int × Int × Int × ByteArray × (List Int) × (List T_api_Tree) × Int)) : Option ((Int × Int × Int × ByteArray × (List Int) × (List T_api_Tree)) ⊕ (Int × Int × Int × ByteArray × (List Int) × (List T_api_Tree) × Int × Int × Int × ByteArray × (List Int) × (List T_api_Tree)) ⊕ (Int × Int × Int × ByteArray × (List Int) × (List T_api_Tree))) :=
  match x with
  | (v3, p0, v204, v205, v206, v207, v208, v209, v210) =>
  (if v3 = true then
    some (decide (v210 ≥ 0))
  else
  some false
  ) >>= fun (v628 : Bool) =>
  if v628 = true then
    m_ref09_function (p0, v210) >>= fun ((v629, v630, v631, v632) : (Int × Int × Int × Bool)) =>
    if v632 = false then
      some (Sum.inl (v204, v205, v206, v207, v208, v209))
    else
    m_ref09_operand (p0, v631) >>= fun ((v633, v634, v635) : (T_api_Tree × Int × Bool)) =>
    if v635 = true then
      (if v629 ≠ 6 then
        some (decide (v633.kind > 2))
      else
      some false
      ) >>= fun (v636 : Bool) =>
      if v636 = true then
        some (Sum.inr (Sum.inl (v204, v205, v206, v207, v208, v209, v633.kind, v633.fn, v633.axis, v633.name, v633.nums, v633.kids)))
      else
      m_ref09_Expr_L1 (v3, p0, 4, v629, v630, ByteArray.empty, ([] : List Int), ([(⟨v633.kind, v633.fn, v633.axis, v633.name, v633.nums, v633.kids⟩ : T_api_Tree), (⟨v204, v205, v206, v207, v208, v209⟩ : T_api_Tree)] : List T_api_Tree), v634)
    else
    ((if v631 ≥ 0 then
      m_ref09_glyph (p0, v631, (⟨#[41]⟩ : ByteArray)) >>= fun (v639 : Bool) =>
      if v639 = true then
        some true
      else
      idx p0 v631 >>= fun v640 =>
      some (v640.kind != 3)
    else
    some false
    ) >>= fun (v638 : Bool) =>
    (if v638 = true then
      some true
    else
    (if v629 ≠ 3 then
      some (v629 != 4)
    else
    some false
    ) >>= fun (v642 : Bool) =>
    if v642 = true then
      some (v629 != 6)
    else
    some false
    ) >>= fun (v641 : Bool) =>
    if v641 = true then
      some true
    else
    if v629 = 6 then
      some (decide (v630 ≥ 0))
    else
    some false
    ) >>= fun (v637 : Bool) =>
    if v637 = true then
      some (Sum.inr (Sum.inl (v204, v205, v206, v207, v208, v209, v633.kind, v633.fn, v633.axis, v633.name, v633.nums, v633.kids)))
    else
    m_ref09_Expr_L1 (v3, p0, 3, v629, v630, ByteArray.empty, ([] : List Int), ([(⟨v204, v205, v206, v207, v208, v209⟩ : T_api_Tree)] : List T_api_Tree), v631)
  else
  some (Sum.inr (Sum.inr (v204, v205, v206, v207, v208, v209)))
  partial_fixpoint
def m_ref09_Expr (x : (List T_ref07_Token)) : Option (T_api_Tree × Bool) :=
  match x with
  | p0 =>
  m_ref09_operand (p0, (W ((p0.length : Int) - 1))) >>= fun ((v1, v2, v3) : (T_api_Tree × Int × Bool)) =>
  (
  m_ref09_Expr_L1 (v3, p0, v1.kind, v1.fn, v1.axis, v1.name, v1.nums, v1.kids, v2) >>= fun (out : (Int × Int × Int × ByteArray × (List Int) × (List T_api_Tree)) ⊕ (Int × Int × Int × ByteArray × (List Int) × (List T_api_Tree) × Int × Int × Int × ByteArray × (List Int) × (List T_api_Tree)) ⊕ (Int × Int × Int × ByteArray × (List Int) × (List T_api_Tree))) =>
  match out with
  | .inl (v604, v605, v606, v607, v608, v609) =>
    some ((⟨0, 0, 0, ByteArray.empty, ([] : (List Int)), ([] : (List T_api_Tree))⟩ : T_api_Tree), false)
  | .inr (.inl (v610, v611, v612, v613, v614, v615, v616, v617, v618, v619, v620, v621)) =>
    some ((⟨0, 0, 0, ByteArray.empty, ([] : (List Int)), ([] : (List T_api_Tree))⟩ : T_api_Tree), false)
  | .inr (.inr ((v622, v623, v624, v625, v626, v627))) =>
    some ((⟨v622, v623, v624, v625, v626, v627⟩ : T_api_Tree), v3)
  )
  partial_fixpoint
end
def P_ref09_operand : ((List T_ref07_Token) × Int) → (T_api_Tree × Int × Bool) → Prop := fun x r => match x, r with
  | (p0, p1), (r0, r1, r2) => ∀ H, PC prog env 34 ([(.lst ((List.map T_ref07_Token.toD) p0)), (intD p1)].map .dat) H (.tup [(.dat (T_api_Tree.ex r0)), (intPV r1), (boolPV r2)]) H
def P_ref09_Expr_L1 : (Bool × (List T_ref07_Token) × Int × Int × Int × ByteArray × (List Int) × (List T_api_Tree) × Int) → ((Int × Int × Int × ByteArray × (List Int) × (List T_api_Tree)) ⊕ (Int × Int × Int × ByteArray × (List Int) × (List T_api_Tree) × Int × Int × Int × ByteArray × (List Int) × (List T_api_Tree)) ⊕ (Int × Int × Int × ByteArray × (List Int) × (List T_api_Tree))) → Prop := fun x r => match x with
  | (v3, p0, v204, v205, v206, v207, v208, v209, v210) => ∀ st, prune 2 ((firstRegion (codeAt [1, 1, 0, 0, 0] (bodyOf f25))).bind (env.hint 25).keepAt) st = ⟨kp 106 [(0, (.dat (.lst ((List.map T_ref07_Token.toD) p0)))), (2, (.ptr 0 0)), (4, (.ptr 1 0)), (5, (intPV v210)), (6, (boolPV v3))], [(.box [(intPV 0), (intPV 0), (intPV 0), (.dat (strD ByteArray.empty)), (.dat (.lst ((List.map intD) []))), (.dat (.lst (T_api_Tree.toDs [])))]), (.box [(intPV v204), (intPV v205), (intPV v206), (.dat (strD v207)), (.dat (.lst ((List.map intD) v208))), (.dat (.lst (T_api_Tree.toDs v209)))])]⟩ →
    RL prog env (env.hint 25) true (codeAt [1, 1, 0, 0, 0] (bodyOf f25)) 2 st (fun e s => match r with | .inl (v604, v605, v606, v607, v608, v609) => e = .ret ∧ ∃ d, s = ⟨sl d 106 [(2, (.ptr 0 0)), (3, (boolPV false))], [(.box [(intPV 0), (intPV 0), (intPV 0), (.dat (strD ByteArray.empty)), (.dat (.lst ((List.map intD) []))), (.dat (.lst (T_api_Tree.toDs [])))]), (.box [(intPV v604), (intPV v605), (intPV v606), (.dat (strD v607)), (.dat (.lst ((List.map intD) v608))), (.dat (.lst (T_api_Tree.toDs v609)))])]⟩ | .inr (.inl (v610, v611, v612, v613, v614, v615, v616, v617, v618, v619, v620, v621)) => e = .ret ∧ ∃ d, s = ⟨sl d 106 [(2, (.ptr 0 0)), (3, (boolPV false))], [(.box [(intPV 0), (intPV 0), (intPV 0), (.dat (strD ByteArray.empty)), (.dat (.lst ((List.map intD) []))), (.dat (.lst (T_api_Tree.toDs [])))]), (.box [(intPV v610), (intPV v611), (intPV v612), (.dat (strD v613)), (.dat (.lst ((List.map intD) v614))), (.dat (.lst (T_api_Tree.toDs v615)))]), (.box [(intPV v616), (intPV v617), (intPV v618), (.dat (strD v619)), (.dat (.lst ((List.map intD) v620))), (.dat (.lst (T_api_Tree.toDs v621)))])]⟩ | .inr (.inr ((v622, v623, v624, v625, v626, v627))) => e = .exit 0 ∧ ∃ d, s = ⟨sl d 106 [(2, (.ptr 0 0)), (4, (.ptr 1 0)), (6, (boolPV v3))], [(.box [(intPV 0), (intPV 0), (intPV 0), (.dat (strD ByteArray.empty)), (.dat (.lst ((List.map intD) []))), (.dat (.lst (T_api_Tree.toDs [])))]), (.box [(intPV v622), (intPV v623), (intPV v624), (.dat (strD v625)), (.dat (.lst ((List.map intD) v626))), (.dat (.lst (T_api_Tree.toDs v627)))])]⟩)
def P_ref09_Expr : (List T_ref07_Token) → (T_api_Tree × Bool) → Prop := fun x r => match x, r with
  | p0, (r0, r1) => ∀ H, PC prog env 25 ([(.lst ((List.map T_ref07_Token.toD) p0))].map .dat) H (.tup [(.dat (T_api_Tree.ex r0)), (boolPV r1)]) H
theorem g_ref09_operand : (∀ x r, m_ref09_operand x = some r → P_ref09_operand x r) ∧ (∀ x r, m_ref09_Expr x = some r → P_ref09_Expr x r) ∧ (∀ x r, m_ref09_Expr_L1 x = some r → P_ref09_Expr_L1 x r) := by
  refine m_ref09_operand.mutual_partial_correctness P_ref09_operand P_ref09_Expr P_ref09_Expr_L1 ?_ ?_ ?_
  · intro m_ref09_Expr w_ref09_Expr x r hm
    unfold P_ref09_operand
    obtain ⟨p0, p1⟩ := x
    obtain ⟨r0, r1, r2⟩ := r
    intro H
    refine PC_sx (ds := [(.lst ((List.map T_ref07_Token.toD) p0)), (intD p1)]) (fn := f34) (by kernel_rfl) (by kernel_rfl) rfl ?_ (by kernel_rfl)
    refine R_seq ?_
    refine R_G ?_
    refine G_run 3 ?_
    refine G_end ?_
    refine R_seq ?_
    refine R_seq ?_
    refine R_G ?_
    refine G_run 2 ?_
    refine G_end ?_
    refine R_ifp (p := p1 < 0) (rfl) (fun hc => ?_) (fun hc => ?_)
    · replace hm := pos_inv hc hm
      refine R_seq ?_
      refine R_G ?_
      refine G_run 5 ?_
      refine G_end ?_
      refine R_ret ?_
      obtain ⟨rfl, rfl, rfl⟩ := inj3 hm
      exact ⟨trivial, fin_pure (by kernel_rfl)⟩
    replace hm := neg_inv hc hm
    refine R_skip ?_
    refine R_seq ?_
    refine R_seq ?_
    refine R_G ?_
    refine G_run 2 ?_
    obtain ⟨v1, hx, hm⟩ := bind_inv hm
    refine I_idx 3 T_ref07_Token.toD p0 p1 v1 (es := (List.map T_ref07_Token.toD) p0) (d := (T_ref07_Token.toD v1)) rfl hx rfl rfl ?_
    refine G_run 3 ?_
    refine G_end ?_
    refine R_ifp (p := v1.kind = 1) (eq_dec _ _) (fun hc => ?_) (fun hc => ?_)
    · replace hm := pos_inv hc hm
      refine R_seq ?_
      refine R_G ?_
      refine G_run 2 ?_
      obtain ⟨v2, hx, hm⟩ := bind_inv hm
      refine I_idx 3 T_ref07_Token.toD p0 p1 v2 (es := (List.map T_ref07_Token.toD) p0) (d := (T_ref07_Token.toD v2)) rfl hx rfl rfl ?_
      refine G_run 8 ?_
      refine G_end ?_
      refine R_ret ?_
      obtain ⟨rfl, rfl, rfl⟩ := inj3 hm
      exact ⟨trivial, fin_pure (by kernel_rfl)⟩
    replace hm := neg_inv hc hm
    refine R_skip ?_
    refine R_seq ?_
    refine R_seq ?_
    refine R_G ?_
    refine G_run 2 ?_
    obtain ⟨v3, hx, hm⟩ := bind_inv hm
    have hq := w_ref09_glyph _ _ hx []
    refine G_callP hq ?_
    refine G_end ?_
    refine R_ifp (p := v3 = true) (bool_dec _) (fun hc => ?_) (fun hc => ?_)
    · replace hm := pos_inv hc hm
      refine R_seq ?_
      refine R_G ?_
      refine G_run 6 ?_
      refine G_end ?_
      refine R_ret ?_
      obtain ⟨rfl, rfl, rfl⟩ := inj3 hm
      exact ⟨trivial, fin_pure (by kernel_rfl)⟩
    replace hm := neg_inv hc hm
    refine R_skip ?_
    refine R_seq ?_
    refine R_seq ?_
    refine R_G ?_
    refine G_run 2 ?_
    obtain ⟨v4, hx, hm⟩ := bind_inv hm
    refine I_idx 3 T_ref07_Token.toD p0 p1 v4 (es := (List.map T_ref07_Token.toD) p0) (d := (T_ref07_Token.toD v4)) rfl hx rfl rfl ?_
    refine G_run 3 ?_
    refine G_end ?_
    refine R_ifp (p := v4.kind = 2) (eq_dec _ _) (fun hc => ?_) (fun hc => ?_)
    · replace hm := pos_inv hc hm
      refine R_seq ?_
      refine R_G ?_
      refine G_run 3 ?_
      refine G_end ?_
      refine R_seq ?_
      refine R_block ?_
      obtain ⟨⟨v605, v606⟩, hs, hm⟩ := bind_inv hm
      refine R_loop ?_
      refine RL_use (w_ref09_operand_L1 _ _ hs) (by kernel_rfl) ?_
      clear hs
      intro e s hp
      obtain ⟨rfl, d, rfl⟩ := hp
      refine R_seq ?_
      refine R_G ?_
      refine G_run 5 ?_
      refine G_end ?_
      refine R_ret ?_
      obtain ⟨rfl, rfl, rfl⟩ := inj3 hm
      exact ⟨trivial, fin_pure (by kernel_rfl)⟩
    replace hm := neg_inv hc hm
    refine R_skip ?_
    refine R_seq ?_
    refine R_seq ?_
    refine R_G ?_
    refine G_run 2 ?_
    obtain ⟨v611, hx, hm⟩ := bind_inv hm
    have hq := w_ref09_glyph _ _ hx []
    refine G_callP hq ?_
    refine G_end ?_
    refine R_ifp (p := v611 = true) (bool_dec _) (fun hc => ?_) (fun hc => ?_)
    · replace hm := pos_inv hc hm
      refine R_seq ?_
      refine R_G ?_
      refine G_run 2 ?_
      obtain ⟨v612, hx, hm⟩ := bind_inv hm
      have hq := w_ref09_open _ _ hx []
      refine G_callP hq ?_
      refine G_run 1 ?_
      refine G_end ?_
      refine R_seq ?_
      refine R_seq ?_
      refine R_G ?_
      refine G_run 2 ?_
      refine G_end ?_
      refine R_ifp (p := v612 < 0) (rfl) (fun hc => ?_) (fun hc => ?_)
      · replace hm := pos_inv hc hm
        refine R_seq ?_
        refine R_G ?_
        refine G_run 5 ?_
        refine G_end ?_
        refine R_ret ?_
        obtain ⟨rfl, rfl, rfl⟩ := inj3 hm
        exact ⟨trivial, fin_pure (by kernel_rfl)⟩
      replace hm := neg_inv hc hm
      refine R_skip ?_
      refine R_seq ?_
      refine R_G ?_
      refine G_run 4 ?_
      obtain ⟨v613, hx, hm⟩ := bind_inv hm
      refine I_sub 3 T_ref07_Token.toD p0 v613 (W (v612 + 1)) p1 (es := (List.map T_ref07_Token.toD) p0) (L := (List.map T_ref07_Token.toD)) (a := natI (W (v612 + 1))) (b := natI p1) (fun _ => rfl) rfl (fun _ => by first | rfl | exact num_of_fit (T_ref07_Token.fit _)) hx rfl (Or.inl rfl) ?_
      obtain ⟨⟨v614, v615⟩, hx, hm⟩ := bind_inv hm
      have hq := w_ref09_Expr _ _ hx []
      refine G_callP hq ?_
      refine G_run 6 ?_
      refine G_end ?_
      refine R_seq ?_
      refine R_G ?_
      refine G_run 7 ?_
      refine G_end ?_
      refine R_ret ?_
      obtain ⟨rfl, rfl, rfl⟩ := inj3 hm
      exact ⟨trivial, fin_pure (by kernel_rfl)⟩
    replace hm := neg_inv hc hm
    refine R_skip ?_
    refine R_seq ?_
    refine R_G ?_
    refine G_run 5 ?_
    refine G_end ?_
    refine R_ret ?_
    obtain ⟨rfl, rfl, rfl⟩ := inj3 hm
    exact ⟨trivial, fin_pure (by kernel_rfl)⟩
  · intro m_ref09_operand m_ref09_Expr_L1 w_ref09_operand w_ref09_Expr_L1 p0 r hm
    unfold P_ref09_Expr
    obtain ⟨r0, r1⟩ := r
    intro H
    refine PC_sx (ds := [(.lst ((List.map T_ref07_Token.toD) p0))]) (fn := f25) (by kernel_rfl) (by kernel_rfl) rfl ?_ (by kernel_rfl)
    refine R_seq ?_
    refine R_G ?_
    refine G_run 2 ?_
    refine G_end ?_
    refine R_seq ?_
    refine R_G ?_
    refine G_run 2 ?_
    refine I_len T_ref07_Token.toD p0 (es := (List.map T_ref07_Token.toD) p0) rfl ?_
    refine G_run 1 ?_
    obtain ⟨⟨v1, v2, v3⟩, hx, hm⟩ := bind_inv hm
    have hq := w_ref09_operand _ _ hx []
    refine G_callP hq ?_
    refine G_run 8 ?_
    refine G_end ?_
    refine R_seq ?_
    refine R_block ?_
    obtain ⟨out, hs, hm⟩ := bind_inv hm
    refine R_loop ?_
    rcases out with ⟨v604, v605, v606, v607, v608, v609⟩ | ⟨v610, v611, v612, v613, v614, v615, v616, v617, v618, v619, v620, v621⟩ | ⟨v622, v623, v624, v625, v626, v627⟩
    · refine RL_use (w_ref09_Expr_L1 _ _ hs) (by kernel_rfl) ?_
      clear hs
      intro e s hp
      obtain ⟨rfl, d, rfl⟩ := hp
      obtain ⟨rfl, rfl⟩ := inj2 hm
      exact ⟨trivial, fin_pure (by kernel_rfl)⟩
    · refine RL_use (w_ref09_Expr_L1 _ _ hs) (by kernel_rfl) ?_
      clear hs
      intro e s hp
      obtain ⟨rfl, d, rfl⟩ := hp
      obtain ⟨rfl, rfl⟩ := inj2 hm
      exact ⟨trivial, fin_pure (by kernel_rfl)⟩
    · refine RL_use (w_ref09_Expr_L1 _ _ hs) (by kernel_rfl) ?_
      clear hs
      intro e s hp
      obtain ⟨rfl, d, rfl⟩ := hp
      refine R_seq ?_
      refine R_G ?_
      refine G_run 4 ?_
      refine G_end ?_
      refine R_ret ?_
      obtain ⟨rfl, rfl⟩ := inj2 hm
      exact ⟨trivial, fin_pure (by kernel_rfl)⟩
  · intro m_ref09_operand m_ref09_Expr_L1 w_ref09_operand w_ref09_Expr_L1 x r hm
    unfold P_ref09_Expr_L1
    obtain ⟨v3, p0, v204, v205, v206, v207, v208, v209, v210⟩ := x
    intro st hst
    refine RL_at hst ?_
    clear hst
    refine R_seq ?_
    refine R_seq ?_
    obtain ⟨v628, hs, hm⟩ := bind_inv hm
    refine R_cut (fun d => ⟨sl d 106 [(0, (.dat (.lst ((List.map T_ref07_Token.toD) p0)))), (2, (.ptr 0 0)), (4, (.ptr 1 0)), (5, (intPV v210)), (6, (boolPV v3)), (27, (boolPV v628))], [(.box [(intPV 0), (intPV 0), (intPV 0), (.dat (strD ByteArray.empty)), (.dat (.lst ((List.map intD) []))), (.dat (.lst (T_api_Tree.toDs [])))]), (.box [(intPV v204), (intPV v205), (intPV v206), (.dat (strD v207)), (.dat (.lst ((List.map intD) v208))), (.dat (.lst (T_api_Tree.toDs v209)))])]⟩) ?_ (fun d => ?_)
    · replace hm := hs
      clear hs
      refine R_G ?_
      refine G_run 2 ?_
      refine G_split (p := v3 = true) 24 (bool_dec _) (fun hc => ?_) (fun hc => ?_)
      · replace hm := pos_inv hc hm
        refine G_run 3 ?_
        refine G_end ?_
        obtain rfl := inj1 hm
        exact cut_leaf (by kernel_rfl)
      replace hm := neg_inv hc hm
      refine G_run 3 ?_
      refine G_end ?_
      obtain rfl := inj1 hm
      exact cut_leaf (by kernel_rfl)
    clear hs
    refine R_ifp (p := v628 = true) (bool_dec _) (fun hc => ?_) (fun hc => ?_)
    · replace hm := pos_inv hc hm
      refine R_skip ?_
      refine R_block ?_
      refine R_seq ?_
      refine R_G ?_
      refine G_run 2 ?_
      obtain ⟨⟨v629, v630, v631, v632⟩, hx, hm⟩ := bind_inv hm
      have hq := w_ref09_function _ _ hx []
      refine G_callP hq ?_
      refine G_run 9 ?_
      refine G_end ?_
      refine R_seq ?_
      refine R_seq ?_
      refine R_G ?_
      refine G_run 2 ?_
      refine G_end ?_
      refine R_ifp (p := v632 = false) (not_dec _) (fun hc => ?_) (fun hc => ?_)
      · replace hm := pos_inv hc hm
        refine R_seq ?_
        refine R_G ?_
        refine G_run 3 ?_
        refine G_end ?_
        refine R_ret ?_
        obtain rfl := inj1 hm
        exact ⟨rfl, cut_leaf (by kernel_rfl)⟩
      replace hm := neg_inv hc hm
      refine R_skip ?_
      refine R_seq ?_
      refine R_G ?_
      refine G_run 2 ?_
      obtain ⟨⟨v633, v634, v635⟩, hx, hm⟩ := bind_inv hm
      have hq := w_ref09_operand _ _ hx []
      refine G_callP hq ?_
      refine G_run 8 ?_
      refine G_end ?_
      refine R_seq ?_
      refine R_seq ?_
      refine R_G ?_
      refine G_run 1 ?_
      refine G_end ?_
      refine R_ifp (p := v635 = true) (bool_dec _) (fun hc => ?_) (fun hc => ?_)
      · replace hm := pos_inv hc hm
        refine R_seq ?_
        refine R_seq ?_
        obtain ⟨v636, hs, hm⟩ := bind_inv hm
        refine R_cut (fun d => ⟨sl d 106 [(0, (.dat (.lst ((List.map T_ref07_Token.toD) p0)))), (2, (.ptr 0 0)), (4, (.ptr 1 0)), (6, (boolPV v3)), (7, (intPV v629)), (8, (intPV v630)), (11, (.ptr 2 0)), (12, (intPV v634)), (53, (boolPV v636))], [(.box [(intPV 0), (intPV 0), (intPV 0), (.dat (strD ByteArray.empty)), (.dat (.lst ((List.map intD) []))), (.dat (.lst (T_api_Tree.toDs [])))]), (.box [(intPV v204), (intPV v205), (intPV v206), (.dat (strD v207)), (.dat (.lst ((List.map intD) v208))), (.dat (.lst (T_api_Tree.toDs v209)))]), (.box [(intPV v633.kind), (intPV v633.fn), (intPV v633.axis), (.dat (strD v633.name)), (.dat (.lst ((List.map intD) v633.nums))), (.dat (.lst (T_api_Tree.toDs v633.kids)))])]⟩) ?_ (fun d => ?_)
        · replace hm := hs
          clear hs
          refine R_G ?_
          refine G_run 3 ?_
          refine G_split (p := v629 ≠ 6) 49 (ne_dec _ _) (fun hc => ?_) (fun hc => ?_)
          · replace hm := pos_inv hc hm
            refine G_run 4 ?_
            refine G_end ?_
            obtain rfl := inj1 hm
            exact cut_leaf (by kernel_rfl)
          replace hm := neg_inv hc hm
          refine G_run 4 ?_
          refine G_end ?_
          obtain rfl := inj1 hm
          exact cut_leaf (by kernel_rfl)
        clear hs
        refine R_ifp (p := v636 = true) (bool_dec _) (fun hc => ?_) (fun hc => ?_)
        · replace hm := pos_inv hc hm
          refine R_seq ?_
          refine R_G ?_
          refine G_run 3 ?_
          refine G_end ?_
          refine R_ret ?_
          obtain rfl := inj1 hm
          exact ⟨rfl, cut_leaf (by kernel_rfl)⟩
        replace hm := neg_inv hc hm
        refine R_skip ?_
        refine R_seq ?_
        refine R_G ?_
        refine G_run 7 ?_
        refine G_end ?_
        refine R_seq ?_
        refine R_G ?_
        refine G_run 2 ?_
        refine G_end ?_
        refine R_exit ?_
        exact w_ref09_Expr_L1 _ _ hm _ (by kernel_rfl)
      replace hm := neg_inv hc hm
      refine R_skip ?_
      refine R_seq ?_
      refine R_seq ?_
      obtain ⟨v637, hs, hm⟩ := bind_inv hm
      refine R_cut (fun d => ⟨sl d 106 [(0, (.dat (.lst ((List.map T_ref07_Token.toD) p0)))), (2, (.ptr 0 0)), (4, (.ptr 1 0)), (6, (boolPV v3)), (7, (intPV v629)), (8, (intPV v630)), (9, (intPV v631)), (96, (boolPV v637))], [(.box [(intPV 0), (intPV 0), (intPV 0), (.dat (strD ByteArray.empty)), (.dat (.lst ((List.map intD) []))), (.dat (.lst (T_api_Tree.toDs [])))]), (.box [(intPV v204), (intPV v205), (intPV v206), (.dat (strD v207)), (.dat (.lst ((List.map intD) v208))), (.dat (.lst (T_api_Tree.toDs v209)))]), (.box [(intPV v633.kind), (intPV v633.fn), (intPV v633.axis), (.dat (strD v633.name)), (.dat (.lst ((List.map intD) v633.nums))), (.dat (.lst (T_api_Tree.toDs v633.kids)))])]⟩) ?_ (fun d => ?_)
      · replace hm := hs
        clear hs
        refine R_GN ?_
        refine G_run 3 ?_
        obtain ⟨v638, hs, hm⟩ := bind_inv hm
        refine G_cut (j := 15) (fun d => ⟨sl d 106 [(0, (.dat (.lst ((List.map T_ref07_Token.toD) p0)))), (2, (.ptr 0 0)), (4, (.ptr 1 0)), (5, (intPV v210)), (6, (boolPV v3)), (7, (intPV v629)), (8, (intPV v630)), (9, (intPV v631)), (10, (boolPV v632)), (11, (.ptr 2 0)), (12, (intPV v634)), (13, (boolPV v635)), (27, (boolPV v628)), (28, (.tup [(intPV v629), (intPV v630), (intPV v631), (boolPV v632)])), (29, (.dat (.lst ((List.map T_ref07_Token.toD) p0)))), (30, (intPV v210)), (31, (.tup [(intPV v629), (intPV v630), (intPV v631), (boolPV v632)])), (32, (intPV v629)), (33, (intPV v630)), (34, (intPV v631)), (35, (boolPV v632)), (36, (boolPV v632)), (37, (boolPV (!v632))), (39, (.tup [(.dat (.agg [(intD v633.kind), (intD v633.fn), (intD v633.axis), (strD v633.name), (.lst ((List.map intD) v633.nums)), (.lst (T_api_Tree.toDs v633.kids))])), (intPV v634), (boolPV v635)])), (40, (.dat (.lst ((List.map T_ref07_Token.toD) p0)))), (41, (intPV v631)), (42, (.tup [(.dat (.agg [(intD v633.kind), (intD v633.fn), (intD v633.axis), (strD v633.name), (.lst ((List.map intD) v633.nums)), (.lst (T_api_Tree.toDs v633.kids))])), (intPV v634), (boolPV v635)])), (43, (.dat (.agg [(intD v633.kind), (intD v633.fn), (intD v633.axis), (strD v633.name), (.lst ((List.map intD) v633.nums)), (.lst (T_api_Tree.toDs v633.kids))]))), (44, (intPV v634)), (45, (boolPV v635)), (46, (boolPV v635)), (62, (intPV v631)), (63, (boolPV (decide (v631 ≥ 0)))), (76, (boolPV v638))], [(.box [(intPV 0), (intPV 0), (intPV 0), (.dat (strD ByteArray.empty)), (.dat (.lst ((List.map intD) []))), (.dat (.lst (T_api_Tree.toDs [])))]), (.box [(intPV v204), (intPV v205), (intPV v206), (.dat (strD v207)), (.dat (.lst ((List.map intD) v208))), (.dat (.lst (T_api_Tree.toDs v209)))]), (.box [(intPV v633.kind), (intPV v633.fn), (intPV v633.axis), (.dat (strD v633.name)), (.dat (.lst ((List.map intD) v633.nums))), (.dat (.lst (T_api_Tree.toDs v633.kids)))])]⟩) (fun d => ?_) (fun hJ => ?_)
        · clear hs
          refine G_run 1 ?_
          obtain ⟨v641, hs, hm⟩ := bind_inv hm
          refine G_cut (j := 27) (fun d => ⟨sl d 106 [(0, (.dat (.lst ((List.map T_ref07_Token.toD) p0)))), (2, (.ptr 0 0)), (4, (.ptr 1 0)), (5, (intPV v210)), (6, (boolPV v3)), (7, (intPV v629)), (8, (intPV v630)), (9, (intPV v631)), (10, (boolPV v632)), (11, (.ptr 2 0)), (12, (intPV v634)), (13, (boolPV v635)), (27, (boolPV v628)), (28, (.tup [(intPV v629), (intPV v630), (intPV v631), (boolPV v632)])), (29, (.dat (.lst ((List.map T_ref07_Token.toD) p0)))), (30, (intPV v210)), (31, (.tup [(intPV v629), (intPV v630), (intPV v631), (boolPV v632)])), (32, (intPV v629)), (33, (intPV v630)), (34, (intPV v631)), (35, (boolPV v632)), (36, (boolPV v632)), (37, (boolPV (!v632))), (39, (.tup [(.dat (.agg [(intD v633.kind), (intD v633.fn), (intD v633.axis), (strD v633.name), (.lst ((List.map intD) v633.nums)), (.lst (T_api_Tree.toDs v633.kids))])), (intPV v634), (boolPV v635)])), (40, (.dat (.lst ((List.map T_ref07_Token.toD) p0)))), (41, (intPV v631)), (42, (.tup [(.dat (.agg [(intD v633.kind), (intD v633.fn), (intD v633.axis), (strD v633.name), (.lst ((List.map intD) v633.nums)), (.lst (T_api_Tree.toDs v633.kids))])), (intPV v634), (boolPV v635)])), (43, (.dat (.agg [(intD v633.kind), (intD v633.fn), (intD v633.axis), (strD v633.name), (.lst ((List.map intD) v633.nums)), (.lst (T_api_Tree.toDs v633.kids))]))), (44, (intPV v634)), (45, (boolPV v635)), (46, (boolPV v635)), (62, (intPV v631)), (63, (boolPV (decide (v631 ≥ 0)))), (76, (boolPV v638)), (88, (boolPV v641))], [(.box [(intPV 0), (intPV 0), (intPV 0), (.dat (strD ByteArray.empty)), (.dat (.lst ((List.map intD) []))), (.dat (.lst (T_api_Tree.toDs [])))]), (.box [(intPV v204), (intPV v205), (intPV v206), (.dat (strD v207)), (.dat (.lst ((List.map intD) v208))), (.dat (.lst (T_api_Tree.toDs v209)))]), (.box [(intPV v633.kind), (intPV v633.fn), (intPV v633.axis), (.dat (strD v633.name)), (.dat (.lst ((List.map intD) v633.nums))), (.dat (.lst (T_api_Tree.toDs v633.kids)))])]⟩) (fun d => ?_) (fun hJ => ?_)
          · clear hs
            refine G_run 1 ?_
            refine G_split (p := v641 = true) 89 (bool_dec _) (fun hc => ?_) (fun hc => ?_)
            · replace hm := pos_inv hc hm
              refine G_run 7 ?_
              refine G_end ⟨by kernel_rfl, ?_⟩
              obtain rfl := inj1 hm
              exact cut_leaf (by kernel_rfl)
            replace hm := neg_inv hc hm
            refine G_run 3 ?_
            refine G_split (p := v629 = 6) 92 (eq_dec _ _) (fun hc => ?_) (fun hc => ?_)
            · replace hm := pos_inv hc hm
              refine G_run 4 ?_
              refine G_end ⟨by kernel_rfl, ?_⟩
              obtain rfl := inj1 hm
              exact cut_leaf (by kernel_rfl)
            replace hm := neg_inv hc hm
            refine G_run 4 ?_
            refine G_end ⟨by kernel_rfl, ?_⟩
            obtain rfl := inj1 hm
            exact cut_leaf (by kernel_rfl)
          replace hm := hs
          clear hs
          refine G_split (p := v638 = true) 77 (bool_dec _) (fun hc => ?_) (fun hc => ?_)
          · replace hm := pos_inv hc hm
            refine G_run 11 ?_
            obtain rfl := inj1 hm
            exact hJ _ _ (by kernel_rfl) (by kernel_rfl)
          replace hm := neg_inv hc hm
          refine G_run 3 ?_
          obtain ⟨v642, hs, hm⟩ := bind_inv hm
          refine G_cut (j := 22) (fun d => ⟨sl d 106 [(0, (.dat (.lst ((List.map T_ref07_Token.toD) p0)))), (2, (.ptr 0 0)), (4, (.ptr 1 0)), (5, (intPV v210)), (6, (boolPV v3)), (7, (intPV v629)), (8, (intPV v630)), (9, (intPV v631)), (10, (boolPV v632)), (11, (.ptr 2 0)), (12, (intPV v634)), (13, (boolPV v635)), (27, (boolPV v628)), (28, (.tup [(intPV v629), (intPV v630), (intPV v631), (boolPV v632)])), (29, (.dat (.lst ((List.map T_ref07_Token.toD) p0)))), (30, (intPV v210)), (31, (.tup [(intPV v629), (intPV v630), (intPV v631), (boolPV v632)])), (32, (intPV v629)), (33, (intPV v630)), (34, (intPV v631)), (35, (boolPV v632)), (36, (boolPV v632)), (37, (boolPV (!v632))), (39, (.tup [(.dat (.agg [(intD v633.kind), (intD v633.fn), (intD v633.axis), (strD v633.name), (.lst ((List.map intD) v633.nums)), (.lst (T_api_Tree.toDs v633.kids))])), (intPV v634), (boolPV v635)])), (40, (.dat (.lst ((List.map T_ref07_Token.toD) p0)))), (41, (intPV v631)), (42, (.tup [(.dat (.agg [(intD v633.kind), (intD v633.fn), (intD v633.axis), (strD v633.name), (.lst ((List.map intD) v633.nums)), (.lst (T_api_Tree.toDs v633.kids))])), (intPV v634), (boolPV v635)])), (43, (.dat (.agg [(intD v633.kind), (intD v633.fn), (intD v633.axis), (strD v633.name), (.lst ((List.map intD) v633.nums)), (.lst (T_api_Tree.toDs v633.kids))]))), (44, (intPV v634)), (45, (boolPV v635)), (46, (boolPV v635)), (62, (intPV v631)), (63, (boolPV (decide (v631 ≥ 0)))), (76, (boolPV v638)), (77, (boolPV false)), (78, (intPV v629)), (79, (boolPV (v629 != 3))), (83, (boolPV v642))], [(.box [(intPV 0), (intPV 0), (intPV 0), (.dat (strD ByteArray.empty)), (.dat (.lst ((List.map intD) []))), (.dat (.lst (T_api_Tree.toDs [])))]), (.box [(intPV v204), (intPV v205), (intPV v206), (.dat (strD v207)), (.dat (.lst ((List.map intD) v208))), (.dat (.lst (T_api_Tree.toDs v209)))]), (.box [(intPV v633.kind), (intPV v633.fn), (intPV v633.axis), (.dat (strD v633.name)), (.dat (.lst ((List.map intD) v633.nums))), (.dat (.lst (T_api_Tree.toDs v633.kids)))])]⟩) (fun d => ?_) (fun hJ => ?_)
          · clear hs
            refine G_run 1 ?_
            refine G_split (p := v642 = true) 84 (bool_dec _) (fun hc => ?_) (fun hc => ?_)
            · replace hm := pos_inv hc hm
              refine G_run 4 ?_
              obtain rfl := inj1 hm
              exact hJ _ _ (by kernel_rfl) (by kernel_rfl)
            replace hm := neg_inv hc hm
            refine G_run 4 ?_
            obtain rfl := inj1 hm
            exact hJ _ _ (by kernel_rfl) (by kernel_rfl)
          replace hm := hs
          clear hs
          refine G_split (p := v629 ≠ 3) 80 (ne_dec _ _) (fun hc => ?_) (fun hc => ?_)
          · replace hm := pos_inv hc hm
            refine G_run 3 ?_
            obtain rfl := inj1 hm
            exact hJ _ _ (by kernel_rfl) (by kernel_rfl)
          replace hm := neg_inv hc hm
          refine G_run 3 ?_
          obtain rfl := inj1 hm
          exact hJ _ _ (by kernel_rfl) (by kernel_rfl)
        replace hm := hs
        clear hs
        refine G_split (p := v631 ≥ 0) 64 (rfl) (fun hc => ?_) (fun hc => ?_)
        · replace hm := pos_inv hc hm
          refine G_run 2 ?_
          obtain ⟨v639, hx, hm⟩ := bind_inv hm
          have hq := w_ref09_glyph _ _ hx []
          refine G_callP hq ?_
          refine G_run 1 ?_
          refine G_split (p := v639 = true) 68 (bool_dec _) (fun hc => ?_) (fun hc => ?_)
          · replace hm := pos_inv hc hm
            refine G_run 8 ?_
            obtain rfl := inj1 hm
            exact hJ _ _ (by kernel_rfl) (by kernel_rfl)
          replace hm := neg_inv hc hm
          refine G_run 2 ?_
          obtain ⟨v640, hx, hm⟩ := bind_inv hm
          refine I_idx 3 T_ref07_Token.toD p0 v631 v640 (es := (List.map T_ref07_Token.toD) p0) (d := (T_ref07_Token.toD v640)) rfl hx rfl rfl ?_
          refine G_run 5 ?_
          obtain rfl := inj1 hm
          exact hJ _ _ (by kernel_rfl) (by kernel_rfl)
        replace hm := neg_inv hc hm
        refine G_run 12 ?_
        obtain rfl := inj1 hm
        exact hJ _ _ (by kernel_rfl) (by kernel_rfl)
      clear hs
      refine R_ifp (p := v637 = true) (bool_dec _) (fun hc => ?_) (fun hc => ?_)
      · replace hm := pos_inv hc hm
        refine R_seq ?_
        refine R_G ?_
        refine G_run 3 ?_
        refine G_end ?_
        refine R_ret ?_
        obtain rfl := inj1 hm
        exact ⟨rfl, cut_leaf (by kernel_rfl)⟩
      replace hm := neg_inv hc hm
      refine R_skip ?_
      refine R_seq ?_
      refine R_G ?_
      refine G_run 6 ?_
      refine G_end ?_
      refine R_G ?_
      refine G_run 2 ?_
      refine G_end ?_
      exact w_ref09_Expr_L1 _ _ hm _ (by kernel_rfl)
    replace hm := neg_inv hc hm
    refine R_exit ?_
    obtain rfl := inj1 hm
    exact ⟨rfl, cut_leaf (by kernel_rfl)⟩
theorem w_ref09_operand : ∀ x r, m_ref09_operand x = some r → P_ref09_operand x r := g_ref09_operand.1
theorem w_ref09_Expr : ∀ x r, m_ref09_Expr x = some r → P_ref09_Expr x r := g_ref09_operand.2.1
theorem w_ref09_Expr_L1 : ∀ x r, m_ref09_Expr_L1 x = some r → P_ref09_Expr_L1 x r := g_ref09_operand.2.2
end Go.Proofs.Tryd
namespace Go.Proofs.Tryd
open Go Go.Pm
set_option linter.unusedVariables false
set_option maxHeartbeats 2000000
set_option maxRecDepth 2000
mutual
def m_ref08_Depth_L1 (x : (T_api_Tree × Int × Int)) : Option (Int) :=
  match x with
  | (p0, v201, v202) =>
  if v202 < (p0.kids.length : Int) then
    idx p0.kids v202 >>= fun v602 =>
    m_ref08_Depth v602 >>= fun (v603 : Int) =>
    m_ref08_Depth_L1 (p0, (if v201 < v603 then v603 else v201), (W (v202 + 1)))
  else
  some v201
  partial_fixpoint
def m_ref08_Depth (x : T_api_Tree) : Option Int :=
  match x with
  | p0 =>
  m_ref08_Depth_L1 (p0, 0, 0) >>= fun (v601 : Int) =>
  some (W (v601 + 1))
  partial_fixpoint
end
def P_ref08_Depth_L1 : (T_api_Tree × Int × Int) → Int → Prop := fun x r => match x with
  | (p0, v201, v202) => ∀ st, prune 1 ((firstRegion (codeAt [1, 1, 0, 1, 0, 0] (bodyOf f26))).bind (env.hint 26).keepAt) st = ⟨kp 22 [(1, (.ptr 0 0)), (3, (intPV v201)), (4, (intPV v202))], [(.box [(intPV p0.kind), (intPV p0.fn), (intPV p0.axis), (.dat (strD p0.name)), (.dat (.lst ((List.map intD) p0.nums))), (.dat (.lst (T_api_Tree.toDs p0.kids)))])]⟩ →
    RL prog env (env.hint 26) true (codeAt [1, 1, 0, 1, 0, 0] (bodyOf f26)) 1 st (fun e s => match r with | v601 => e = .exit 0 ∧ ∃ d, s = ⟨sl d 22 [(3, (intPV v601))], [(.box [(intPV p0.kind), (intPV p0.fn), (intPV p0.axis), (.dat (strD p0.name)), (.dat (.lst ((List.map intD) p0.nums))), (.dat (.lst (T_api_Tree.toDs p0.kids)))])]⟩)
def P_ref08_Depth : T_api_Tree → Int → Prop := fun x r => match x, r with
  | p0, r0 => ∀ H, PC prog env 26 ([(T_api_Tree.ex p0)].map .dat) H (intPV r0) H
theorem g_ref08_Depth_L1 : (∀ x r, m_ref08_Depth_L1 x = some r → P_ref08_Depth_L1 x r) ∧ (∀ x r, m_ref08_Depth x = some r → P_ref08_Depth x r) := by
  refine m_ref08_Depth_L1.mutual_partial_correctness P_ref08_Depth_L1 P_ref08_Depth ?_ ?_
  · intro m_ref08_Depth_L1 m_ref08_Depth w_ref08_Depth_L1 w_ref08_Depth x r hm
    unfold P_ref08_Depth_L1
    obtain ⟨p0, v201, v202⟩ := x
    intro st hst
    refine RL_at hst ?_
    clear hst
    refine R_seq ?_
    refine R_seq ?_
    refine R_G ?_
    refine G_run 3 ?_
    refine I_len T_api_Tree.toD p0.kids (es := T_api_Tree.toDs p0.kids) (T_api_Tree.toDs_eq _) ?_
    refine G_run 1 ?_
    refine G_end ?_
    refine R_ifp (p := v202 < (p0.kids.length : Int)) (rfl) (fun hc => ?_) (fun hc => ?_)
    · replace hm := pos_inv hc hm
      refine R_skip ?_
      refine R_seq ?_
      refine R_block ?_
      refine R_G ?_
      refine G_run 4 ?_
      obtain ⟨v602, hx, hm⟩ := bind_inv hm
      refine I_idx 6 T_api_Tree.toD p0.kids v202 v602 (es := T_api_Tree.toDs p0.kids) (d := (T_api_Tree.ex v602)) (T_api_Tree.toDs_eq _) hx (T_api_Tree.toD_eq v602) rfl ?_
      refine G_run 1 ?_
      obtain ⟨v603, hx, hm⟩ := bind_inv hm
      have hq := w_ref08_Depth _ _ hx []
      refine G_callP hq ?_
      refine G_semN rfl (by kernel_rfl) (fun _ => E_max (k := .i64) (m := v201) (n := v603) rfl (by kernel_rfl) (by kernel_rfl)) ?_
      refine G_run 1 ?_
      refine G_end ?_
      refine R_G ?_
      refine G_run 3 ?_
      refine G_end ?_
      exact w_ref08_Depth_L1 _ _ hm _ (by kernel_rfl)
    replace hm := neg_inv hc hm
    refine R_exit ?_
    obtain rfl := inj1 hm
    exact ⟨rfl, cut_leaf (by kernel_rfl)⟩
  · intro m_ref08_Depth_L1 w_ref08_Depth_L1 p0 r0 hm
    unfold P_ref08_Depth
    intro H
    refine PC_sx (ds := [(T_api_Tree.ex p0)]) (fn := f26) (by kernel_rfl) (by kernel_rfl) rfl ?_ (by kernel_rfl)
    refine R_seq ?_
    refine R_G ?_
    refine G_run 2 ?_
    refine G_end ?_
    refine R_seq ?_
    refine R_G ?_
    refine G_run 1 ?_
    refine G_end ?_
    refine R_seq ?_
    refine R_seq ?_
    refine R_G ?_
    refine G_run 1 ?_
    refine G_end ?_
    refine R_block ?_
    obtain ⟨v601, hs, hm⟩ := bind_inv hm
    refine R_loop ?_
    refine RL_use (w_ref08_Depth_L1 _ _ hs) (by kernel_rfl) ?_
    clear hs
    intro e s hp
    obtain ⟨rfl, d, rfl⟩ := hp
    refine R_seq ?_
    refine R_G ?_
    refine G_run 3 ?_
    refine G_end ?_
    refine R_ret ?_
    obtain rfl := inj1 hm
    exact ⟨trivial, fin_pure (by kernel_rfl)⟩
theorem w_ref08_Depth_L1 : ∀ x r, m_ref08_Depth_L1 x = some r → P_ref08_Depth_L1 x r := g_ref08_Depth_L1.1
theorem w_ref08_Depth : ∀ x r, m_ref08_Depth x = some r → P_ref08_Depth x r := g_ref08_Depth_L1.2
end Go.Proofs.Tryd
namespace Go.Proofs.Tryd
open Go Go.Pm
set_option linter.unusedVariables false
set_option maxHeartbeats 2000000
set_option maxRecDepth 2000
def m_ref09_tokens (x : ((List T_ref07_Token) × Bool)) : Option (T_api_Tree × Int) :=
  match x with
  | (p0, p1) =>
  if p1 = false then
    some ((⟨0, 0, 0, ByteArray.empty, ([] : (List Int)), ([] : (List T_api_Tree))⟩ : T_api_Tree), 1)
  else
  m_ref09_Expr p0 >>= fun ((v1, v2) : (T_api_Tree × Bool)) =>
  if v2 = false then
    some ((⟨0, 0, 0, ByteArray.empty, ([] : (List Int)), ([] : (List T_api_Tree))⟩ : T_api_Tree), 1)
  else
  m_ref08_Depth v1 >>= fun (v3 : Int) =>
  if v3 > 100 then
    some ((⟨0, 0, 0, ByteArray.empty, ([] : (List Int)), ([] : (List T_api_Tree))⟩ : T_api_Tree), 7)
  else
  some (v1, 0)
def P_ref09_tokens : ((List T_ref07_Token) × Bool) → (T_api_Tree × Int) → Prop := fun x r => match x, r with
  | (p0, p1), (r0, r1) => ∀ H, PC prog env 11 ([(.lst ((List.map T_ref07_Token.toD) p0)), (boolD p1)].map .dat) H (.tup [(.dat (T_api_Tree.ex r0)), (intPV r1)]) H
theorem w_ref09_tokens : ∀ x r, m_ref09_tokens x = some r → P_ref09_tokens x r := by
  intro x r hm
  unfold m_ref09_tokens at hm
  unfold P_ref09_tokens
  obtain ⟨p0, p1⟩ := x
  obtain ⟨r0, r1⟩ := r
  intro H
  refine PC_sx (ds := [(.lst ((List.map T_ref07_Token.toD) p0)), (boolD p1)]) (fn := f11) (by kernel_rfl) (by kernel_rfl) rfl ?_ (by kernel_rfl)
  refine R_seq ?_
  refine R_G ?_
  refine G_run 2 ?_
  refine G_end ?_
  refine R_seq ?_
  refine R_seq ?_
  refine R_G ?_
  refine G_run 2 ?_
  refine G_end ?_
  refine R_ifp (p := p1 = false) (not_dec _) (fun hc => ?_) (fun hc => ?_)
  · replace hm := pos_inv hc hm
    refine R_seq ?_
    refine R_G ?_
    refine G_run 3 ?_
    refine G_end ?_
    refine R_ret ?_
    obtain ⟨rfl, rfl⟩ := inj2 hm
    exact ⟨trivial, fin_pure (by kernel_rfl)⟩
  replace hm := neg_inv hc hm
  refine R_skip ?_
  refine R_seq ?_
  refine R_G ?_
  refine G_run 1 ?_
  obtain ⟨⟨v1, v2⟩, hx, hm⟩ := bind_inv hm
  have hq := w_ref09_Expr _ _ hx []
  refine G_callP hq ?_
  refine G_run 6 ?_
  refine G_end ?_
  refine R_seq ?_
  refine R_seq ?_
  refine R_G ?_
  refine G_run 2 ?_
  refine G_end ?_
  refine R_ifp (p := v2 = false) (not_dec _) (fun hc => ?_) (fun hc => ?_)
  · replace hm := pos_inv hc hm
    refine R_seq ?_
    refine R_G ?_
    refine G_run 3 ?_
    refine G_end ?_
    refine R_ret ?_
    obtain ⟨rfl, rfl⟩ := inj2 hm
    exact ⟨trivial, fin_pure (by kernel_rfl)⟩
  replace hm := neg_inv hc hm
  refine R_skip ?_
  refine R_seq ?_
  refine R_seq ?_
  refine R_G ?_
  refine G_run 1 ?_
  obtain ⟨v3, hx, hm⟩ := bind_inv hm
  have hq := w_ref08_Depth _ _ hx []
  refine G_callP hq ?_
  refine G_run 1 ?_
  refine G_end ?_
  refine R_ifp (p := v3 > 100) (rfl) (fun hc => ?_) (fun hc => ?_)
  · replace hm := pos_inv hc hm
    refine R_seq ?_
    refine R_G ?_
    refine G_run 3 ?_
    refine G_end ?_
    refine R_ret ?_
    obtain ⟨rfl, rfl⟩ := inj2 hm
    exact ⟨trivial, fin_pure (by kernel_rfl)⟩
  replace hm := neg_inv hc hm
  refine R_skip ?_
  refine R_seq ?_
  refine R_G ?_
  refine G_run 3 ?_
  refine G_end ?_
  refine R_ret ?_
  obtain ⟨rfl, rfl⟩ := inj2 hm
  exact ⟨trivial, fin_pure (by kernel_rfl)⟩
end Go.Proofs.Tryd
namespace Go.Proofs.Tryd
open Go Go.Pm
set_option linter.unusedVariables false
set_option maxHeartbeats 2000000
set_option maxRecDepth 2000
def m_ref09_Text (x : ByteArray) : Option (T_api_Tree × Int) :=
  match x with
  | p0 =>
  m_ref07_Tokens p0 >>= fun ((v1, v2) : ((List T_ref07_Token) × Bool)) =>
  m_ref09_tokens (v1, v2) >>= fun ((v3, v4) : (T_api_Tree × Int)) =>
  some (v3, v4)
def P_ref09_Text : ByteArray → (T_api_Tree × Int) → Prop := fun x r => match x, r with
  | p0, (r0, r1) => ∀ H, PC prog env 4 ([(strD p0)].map .dat) H (.tup [(.dat (T_api_Tree.ex r0)), (intPV r1)]) H
theorem w_ref09_Text : ∀ x r, m_ref09_Text x = some r → P_ref09_Text x r := by
  intro p0 r hm
  unfold m_ref09_Text at hm
  unfold P_ref09_Text
  obtain ⟨r0, r1⟩ := r
  intro H
  refine PC_sx (ds := [(strD p0)]) (fn := f4) (by kernel_rfl) (by kernel_rfl) rfl ?_ (by kernel_rfl)
  refine R_seq ?_
  refine R_G ?_
  refine G_run 2 ?_
  refine G_end ?_
  refine R_seq ?_
  refine R_G ?_
  refine G_run 1 ?_
  obtain ⟨⟨v1, v2⟩, hx, hm⟩ := bind_inv hm
  have hq := w_ref07_Tokens _ _ hx []
  refine G_callP hq ?_
  refine G_run 5 ?_
  refine G_end ?_
  refine R_seq ?_
  refine R_G ?_
  refine G_run 2 ?_
  obtain ⟨⟨v3, v4⟩, hx, hm⟩ := bind_inv hm
  have hq := w_ref09_tokens _ _ hx []
  refine G_callP hq ?_
  refine G_run 4 ?_
  refine G_end ?_
  refine R_ret ?_
  obtain ⟨rfl, rfl⟩ := inj2 hm
  exact ⟨trivial, fin_pure (by kernel_rfl)⟩
end Go.Proofs.Tryd
namespace Go.Proofs.Tryd
open Go Go.Pm
set_option linter.unusedVariables false
set_option maxHeartbeats 2000000
set_option maxRecDepth 2000
def m_simplify_is (x : (T_api_Tree × Int × Int)) : Option Bool :=
  match x with
  | (p0, p1, p2) =>
  if p0.kind = p1 then
    some (p0.fn == p2)
  else
  some false
def P_simplify_is : (T_api_Tree × Int × Int) → Bool → Prop := fun x r => match x, r with
  | (p0, p1, p2), r0 => ∀ H, PC prog env 64 ([(T_api_Tree.ex p0), (intD p1), (intD p2)].map .dat) H (boolPV r0) H
theorem w_simplify_is : ∀ x r, m_simplify_is x = some r → P_simplify_is x r := by
  intro x r0 hm
  unfold m_simplify_is at hm
  unfold P_simplify_is
  obtain ⟨p0, p1, p2⟩ := x
  intro H
  refine PC_sx (ds := [(T_api_Tree.ex p0), (intD p1), (intD p2)]) (fn := f64) (by kernel_rfl) (by kernel_rfl) rfl ?_ (by kernel_rfl)
  refine R_seq ?_
  refine R_G ?_
  refine G_run 2 ?_
  refine G_end ?_
  refine R_seq ?_
  refine R_G ?_
  refine G_run 5 ?_
  refine G_split (p := p0.kind = p1) 11 (eq_dec _ _) (fun hc => ?_) (fun hc => ?_)
  · replace hm := pos_inv hc hm
    refine G_run 6 ?_
    refine G_end ?_
    refine R_ret ?_
    obtain rfl := inj1 hm
    exact ⟨trivial, fin_pure (by kernel_rfl)⟩
  replace hm := neg_inv hc hm
  refine G_run 6 ?_
  refine G_end ?_
  refine R_ret ?_
  obtain rfl := inj1 hm
  exact ⟨trivial, fin_pure (by kernel_rfl)⟩
end Go.Proofs.Tryd
namespace Go.Proofs.Tryd
open Go Go.Pm
set_option linter.unusedVariables false
set_option maxHeartbeats 2000000
set_option maxRecDepth 2000
def m_simplify_twice (x : (T_api_Tree × Int)) : Option (T_api_Tree × Bool) :=
  match x with
  | (p0, p1) =>
  (m_simplify_is (p0, 3, p1) >>= fun (v2 : Bool) =>
  (if v2 = false then
    some true
  else
  idx p0.kids 0 >>= fun v4 =>
  m_simplify_is (v4, 3, p1) >>= fun (v5 : Bool) =>
  some (!v5)
  ) >>= fun (v3 : Bool) =>
  if v3 = true then
    some true
  else
  idx p0.kids 0 >>= fun v6 =>
  some (p0.axis != v6.axis)
  ) >>= fun (v1 : Bool) =>
  if v1 = true then
    some (p0, false)
  else
  idx p0.kids 0 >>= fun v7 =>
  idx v7.kids 0 >>= fun v8 =>
  some (v8, true)
def P_simplify_twice : (T_api_Tree × Int) → (T_api_Tree × Bool) → Prop := fun x r => match x, r with
  | (p0, p1), (r0, r1) => ∀ H, PC prog env 63 ([(T_api_Tree.ex p0), (intD p1)].map .dat) H (.tup [(.dat (T_api_Tree.ex r0)), (boolPV r1)]) H
theorem w_simplify_twice : ∀ x r, m_simplify_twice x = some r → P_simplify_twice x r := by
  intro x r hm
  unfold m_simplify_twice at hm
  unfold P_simplify_twice
  obtain ⟨p0, p1⟩ := x
  obtain ⟨r0, r1⟩ := r
  intro H
  refine PC_sx (ds := [(T_api_Tree.ex p0), (intD p1)]) (fn := f63) (by kernel_rfl) (by kernel_rfl) rfl ?_ (by kernel_rfl)
  refine R_seq ?_
  refine R_G ?_
  refine G_run 3 ?_
  refine G_end ?_
  refine R_seq ?_
  refine R_seq ?_
  obtain ⟨v1, hs, hm⟩ := bind_inv hm
  refine R_cut (fun d => ⟨sl d 37 [(2, (.ptr 0 0)), (4, (.ptr 1 0)), (28, (boolPV v1))], [(.box [(intPV p0.kind), (intPV p0.fn), (intPV p0.axis), (.dat (strD p0.name)), (.dat (.lst ((List.map intD) p0.nums))), (.dat (.lst (T_api_Tree.toDs p0.kids)))]), (.box [(intPV 0), (intPV 0), (intPV 0), (.dat (strD ByteArray.empty)), (.dat (.lst ((List.map intD) []))), (.dat (.lst (T_api_Tree.toDs [])))])]⟩) ?_ (fun d => ?_)
  · replace hm := hs
    clear hs
    refine R_GW ?_
    refine G_run 2 ?_
    obtain ⟨v2, hx, hm⟩ := bind_inv hm
    have hq := w_simplify_is _ _ hx []
    refine G_callP hq ?_
    refine G_run 2 ?_
    obtain ⟨v3, hs, hm⟩ := bind_inv hm
    refine G_cut (j := 13) (fun d => ⟨sl d 37 [(0, (.dat (.agg [(intD p0.kind), (intD p0.fn), (intD p0.axis), (strD p0.name), (.lst ((List.map intD) p0.nums)), (.lst (T_api_Tree.toDs p0.kids))]))), (1, (intPV p1)), (2, (.ptr 0 0)), (4, (.ptr 1 0)), (5, (boolPV false)), (6, (.dat (.agg [(intD p0.kind), (intD p0.fn), (intD p0.axis), (strD p0.name), (.lst ((List.map intD) p0.nums)), (.lst (T_api_Tree.toDs p0.kids))]))), (7, (intPV p1)), (8, (boolPV v2)), (9, (boolPV (!v2))), (18, (boolPV v3))], [(.box [(intPV p0.kind), (intPV p0.fn), (intPV p0.axis), (.dat (strD p0.name)), (.dat (.lst ((List.map intD) p0.nums))), (.dat (.lst (T_api_Tree.toDs p0.kids)))]), (.box [(intPV 0), (intPV 0), (intPV 0), (.dat (strD ByteArray.empty)), (.dat (.lst ((List.map intD) []))), (.dat (.lst (T_api_Tree.toDs [])))])]⟩) (fun d => ?_) (fun hJ => ?_)
    · clear hs
      refine G_run 1 ?_
      refine G_split (p := v3 = true) 19 (bool_dec _) (fun hc => ?_) (fun hc => ?_)
      · replace hm := pos_inv hc hm
        refine G_run 9 ?_
        refine G_end ⟨by kernel_rfl, ?_⟩
        obtain rfl := inj1 hm
        exact cut_leaf (by kernel_rfl)
      replace hm := neg_inv hc hm
      refine G_run 4 ?_
      obtain ⟨v6, hx, hm⟩ := bind_inv hm
      refine I_idx 6 T_api_Tree.toD p0.kids 0 v6 (es := T_api_Tree.toDs p0.kids) (d := (T_api_Tree.ex v6)) (T_api_Tree.toDs_eq _) hx (T_api_Tree.toD_eq v6) rfl ?_
      refine G_run 4 ?_
      refine G_end ⟨by kernel_rfl, ?_⟩
      obtain rfl := inj1 hm
      exact cut_leaf (by kernel_rfl)
    replace hm := hs
    clear hs
    refine G_split (p := v2 = false) 10 (not_dec _) (fun hc => ?_) (fun hc => ?_)
    · replace hm := pos_inv hc hm
      refine G_run 8 ?_
      obtain rfl := inj1 hm
      exact hJ _ _ (by kernel_rfl) (by kernel_rfl)
    replace hm := neg_inv hc hm
    refine G_run 2 ?_
    obtain ⟨v4, hx, hm⟩ := bind_inv hm
    refine I_idx 6 T_api_Tree.toD p0.kids 0 v4 (es := T_api_Tree.toDs p0.kids) (d := (T_api_Tree.ex v4)) (T_api_Tree.toDs_eq _) hx (T_api_Tree.toD_eq v4) rfl ?_
    refine G_run 2 ?_
    obtain ⟨v5, hx, hm⟩ := bind_inv hm
    have hq := w_simplify_is _ _ hx []
    refine G_callP hq ?_
    refine G_run 2 ?_
    obtain rfl := inj1 hm
    exact hJ _ _ (by kernel_rfl) (by kernel_rfl)
  clear hs
  refine R_ifp (p := v1 = true) (bool_dec _) (fun hc => ?_) (fun hc => ?_)
  · replace hm := pos_inv hc hm
    refine R_seq ?_
    refine R_G ?_
    refine G_run 3 ?_
    refine G_end ?_
    refine R_ret ?_
    obtain ⟨rfl, rfl⟩ := inj2 hm
    exact ⟨trivial, fin_pure (by kernel_rfl)⟩
  replace hm := neg_inv hc hm
  refine R_skip ?_
  refine R_seq ?_
  refine R_G ?_
  refine G_run 2 ?_
  obtain ⟨v7, hx, hm⟩ := bind_inv hm
  refine I_idx 6 T_api_Tree.toD p0.kids 0 v7 (es := T_api_Tree.toDs p0.kids) (d := (T_api_Tree.ex v7)) (T_api_Tree.toDs_eq _) hx (T_api_Tree.toD_eq v7) rfl ?_
  refine G_run 2 ?_
  obtain ⟨v8, hx, hm⟩ := bind_inv hm
  refine I_idx 6 T_api_Tree.toD v7.kids 0 v8 (es := T_api_Tree.toDs v7.kids) (d := (T_api_Tree.ex v8)) (T_api_Tree.toDs_eq _) hx (T_api_Tree.toD_eq v8) rfl ?_
  refine G_run 3 ?_
  refine G_end ?_
  refine R_ret ?_
  obtain ⟨rfl, rfl⟩ := inj2 hm
  exact ⟨trivial, fin_pure (by kernel_rfl)⟩
end Go.Proofs.Tryd
namespace Go.Proofs.Tryd
open Go Go.Pm
set_option linter.unusedVariables false
set_option maxHeartbeats 2000000
set_option maxRecDepth 2000
def m_simplify_reversed (x : T_api_Tree) : Option (T_api_Tree × Bool) :=
  match x with
  | p0 =>
  m_simplify_twice (p0, 3) >>= fun ((v1, v2) : (T_api_Tree × Bool)) =>
  some (v1, v2)
def P_simplify_reversed : T_api_Tree → (T_api_Tree × Bool) → Prop := fun x r => match x, r with
  | p0, (r0, r1) => ∀ H, PC prog env 57 ([(T_api_Tree.ex p0)].map .dat) H (.tup [(.dat (T_api_Tree.ex r0)), (boolPV r1)]) H
theorem w_simplify_reversed : ∀ x r, m_simplify_reversed x = some r → P_simplify_reversed x r := by
  intro p0 r hm
  unfold m_simplify_reversed at hm
  unfold P_simplify_reversed
  obtain ⟨r0, r1⟩ := r
  intro H
  refine PC_sx (ds := [(T_api_Tree.ex p0)]) (fn := f57) (by kernel_rfl) (by kernel_rfl) rfl ?_ (by kernel_rfl)
  refine R_seq ?_
  refine R_G ?_
  refine G_run 3 ?_
  refine G_end ?_
  refine R_seq ?_
  refine R_G ?_
  refine G_run 1 ?_
  obtain ⟨⟨v1, v2⟩, hx, hm⟩ := bind_inv hm
  have hq := w_simplify_twice _ _ hx []
  refine G_callP hq ?_
  refine G_run 4 ?_
  refine G_end ?_
  refine R_ret ?_
  obtain ⟨rfl, rfl⟩ := inj2 hm
  exact ⟨trivial, fin_pure (by kernel_rfl)⟩
end Go.Proofs.Tryd
namespace Go.Proofs.Tryd
open Go Go.Pm
set_option linter.unusedVariables false
set_option maxHeartbeats 2000000
set_option maxRecDepth 2000
def m_simplify_transposed (x : T_api_Tree) : Option (T_api_Tree × Bool) :=
  match x with
  | p0 =>
  m_simplify_twice (p0, 4) >>= fun ((v1, v2) : (T_api_Tree × Bool)) =>
  some (v1, v2)
def P_simplify_transposed : T_api_Tree → (T_api_Tree × Bool) → Prop := fun x r => match x, r with
  | p0, (r0, r1) => ∀ H, PC prog env 58 ([(T_api_Tree.ex p0)].map .dat) H (.tup [(.dat (T_api_Tree.ex r0)), (boolPV r1)]) H
theorem w_simplify_transposed : ∀ x r, m_simplify_transposed x = some r → P_simplify_transposed x r := by
  intro p0 r hm
  unfold m_simplify_transposed at hm
  unfold P_simplify_transposed
  obtain ⟨r0, r1⟩ := r
  intro H
  refine PC_sx (ds := [(T_api_Tree.ex p0)]) (fn := f58) (by kernel_rfl) (by kernel_rfl) rfl ?_ (by kernel_rfl)
  refine R_seq ?_
  refine R_G ?_
  refine G_run 3 ?_
  refine G_end ?_
  refine R_seq ?_
  refine R_G ?_
  refine G_run 1 ?_
  obtain ⟨⟨v1, v2⟩, hx, hm⟩ := bind_inv hm
  have hq := w_simplify_twice _ _ hx []
  refine G_callP hq ?_
  refine G_run 4 ?_
  refine G_end ?_
  refine R_ret ?_
  obtain ⟨rfl, rfl⟩ := inj2 hm
  exact ⟨trivial, fin_pure (by kernel_rfl)⟩
end Go.Proofs.Tryd
namespace Go.Proofs.Tryd
open Go Go.Pm
set_option linter.unusedVariables false
set_option maxHeartbeats 2000000
set_option maxRecDepth 2000
def m_simplify_raveled (x : T_api_Tree) : Option (T_api_Tree × Bool) :=
  match x with
  | p0 =>
  m_simplify_twice (p0, 6) >>= fun ((v1, v2) : (T_api_Tree × Bool)) =>
  if v2 = false then
    some (p0, false)
  else
  idx p0.kids 0 >>= fun v3 =>
  some (v3, true)
def P_simplify_raveled : T_api_Tree → (T_api_Tree × Bool) → Prop := fun x r => match x, r with
  | p0, (r0, r1) => ∀ H, PC prog env 59 ([(T_api_Tree.ex p0)].map .dat) H (.tup [(.dat (T_api_Tree.ex r0)), (boolPV r1)]) H
theorem w_simplify_raveled : ∀ x r, m_simplify_raveled x = some r → P_simplify_raveled x r := by
  intro p0 r hm
  unfold m_simplify_raveled at hm
  unfold P_simplify_raveled
  obtain ⟨r0, r1⟩ := r
  intro H
  refine PC_sx (ds := [(T_api_Tree.ex p0)]) (fn := f59) (by kernel_rfl) (by kernel_rfl) rfl ?_ (by kernel_rfl)
  refine R_seq ?_
  refine R_G ?_
  refine G_run 3 ?_
  refine G_end ?_
  refine R_seq ?_
  refine R_seq ?_
  refine R_G ?_
  refine G_run 1 ?_
  obtain ⟨⟨v1, v2⟩, hx, hm⟩ := bind_inv hm
  have hq := w_simplify_twice _ _ hx []
  refine G_callP hq ?_
  refine G_run 6 ?_
  refine G_end ?_
  refine R_seq ?_
  refine R_G ?_
  refine G_run 2 ?_
  refine G_end ?_
  refine R_ifp (p := v2 = false) (not_dec _) (fun hc => ?_) (fun hc => ?_)
  · replace hm := pos_inv hc hm
    refine R_seq ?_
    refine R_G ?_
    refine G_run 3 ?_
    refine G_end ?_
    refine R_ret ?_
    obtain ⟨rfl, rfl⟩ := inj2 hm
    exact ⟨trivial, fin_pure (by kernel_rfl)⟩
  replace hm := neg_inv hc hm
  refine R_skip ?_
  refine R_seq ?_
  refine R_G ?_
  refine G_run 2 ?_
  obtain ⟨v3, hx, hm⟩ := bind_inv hm
  refine I_idx 6 T_api_Tree.toD p0.kids 0 v3 (es := T_api_Tree.toDs p0.kids) (d := (T_api_Tree.ex v3)) (T_api_Tree.toDs_eq _) hx (T_api_Tree.toD_eq v3) rfl ?_
  refine G_run 3 ?_
  refine G_end ?_
  refine R_ret ?_
  obtain ⟨rfl, rfl⟩ := inj2 hm
  exact ⟨trivial, fin_pure (by kernel_rfl)⟩
end Go.Proofs.Tryd
namespace Go.Proofs.Tryd
open Go Go.Pm
set_option linter.unusedVariables false
set_option maxHeartbeats 2000000
set_option maxRecDepth 2000
def m_simplify_reshaped (x : T_api_Tree) : Option (T_api_Tree × Bool) :=
  match x with
  | p0 =>
  (m_simplify_is (p0, 4, 5) >>= fun (v2 : Bool) =>
  if v2 = false then
    some true
  else
  idx p0.kids 1 >>= fun v3 =>
  m_simplify_is (v3, 3, 6) >>= fun (v4 : Bool) =>
  some (!v4)
  ) >>= fun (v1 : Bool) =>
  if v1 = true then
    some (p0, false)
  else
  idx p0.kids 0 >>= fun v5 =>
  idx p0.kids 1 >>= fun v6 =>
  idx v6.kids 0 >>= fun v7 =>
  some ((⟨p0.kind, p0.fn, p0.axis, p0.name, p0.nums, ([(⟨v5.kind, v5.fn, v5.axis, v5.name, v5.nums, v5.kids⟩ : T_api_Tree), (⟨v7.kind, v7.fn, v7.axis, v7.name, v7.nums, v7.kids⟩ : T_api_Tree)] : (List T_api_Tree))⟩ : T_api_Tree), true)
def P_simplify_reshaped : T_api_Tree → (T_api_Tree × Bool) → Prop := fun x r => match x, r with
  | p0, (r0, r1) => ∀ H, PC prog env 60 ([(T_api_Tree.ex p0)].map .dat) H (.tup [(.dat (T_api_Tree.ex r0)), (boolPV r1)]) H
theorem w_simplify_reshaped : ∀ x r, m_simplify_reshaped x = some r → P_simplify_reshaped x r := by
  intro p0 r hm
  unfold m_simplify_reshaped at hm
  unfold P_simplify_reshaped
  obtain ⟨r0, r1⟩ := r
  intro H
  refine PC_sx (ds := [(T_api_Tree.ex p0)]) (fn := f60) (by kernel_rfl) (by kernel_rfl) rfl ?_ (by kernel_rfl)
  refine R_seq ?_
  refine R_G ?_
  refine G_run 3 ?_
  refine G_end ?_
  refine R_seq ?_
  refine R_seq ?_
  obtain ⟨v1, hs, hm⟩ := bind_inv hm
  refine R_cut (fun d => ⟨sl d 30 [(1, (.ptr 0 0)), (2, (.ptr 1 0)), (14, (boolPV v1))], [(.box [(intPV p0.kind), (intPV p0.fn), (intPV p0.axis), (.dat (strD p0.name)), (.dat (.lst ((List.map intD) p0.nums))), (.dat (.lst (T_api_Tree.toDs p0.kids)))]), (.box [(intPV 0), (intPV 0), (intPV 0), (.dat (strD ByteArray.empty)), (.dat (.lst ((List.map intD) []))), (.dat (.lst (T_api_Tree.toDs [])))])]⟩) ?_ (fun d => ?_)
  · replace hm := hs
    clear hs
    refine R_G ?_
    refine G_run 1 ?_
    obtain ⟨v2, hx, hm⟩ := bind_inv hm
    have hq := w_simplify_is _ _ hx []
    refine G_callP hq ?_
    refine G_run 2 ?_
    refine G_split (p := v2 = false) 7 (not_dec _) (fun hc => ?_) (fun hc => ?_)
    · replace hm := pos_inv hc hm
      refine G_run 7 ?_
      refine G_end ?_
      obtain rfl := inj1 hm
      exact cut_leaf (by kernel_rfl)
    replace hm := neg_inv hc hm
    refine G_run 2 ?_
    obtain ⟨v3, hx, hm⟩ := bind_inv hm
    refine I_idx 6 T_api_Tree.toD p0.kids 1 v3 (es := T_api_Tree.toDs p0.kids) (d := (T_api_Tree.ex v3)) (T_api_Tree.toDs_eq _) hx (T_api_Tree.toD_eq v3) rfl ?_
    refine G_run 1 ?_
    obtain ⟨v4, hx, hm⟩ := bind_inv hm
    have hq := w_simplify_is _ _ hx []
    refine G_callP hq ?_
    refine G_run 2 ?_
    refine G_end ?_
    obtain rfl := inj1 hm
    exact cut_leaf (by kernel_rfl)
  clear hs
  refine R_ifp (p := v1 = true) (bool_dec _) (fun hc => ?_) (fun hc => ?_)
  · replace hm := pos_inv hc hm
    refine R_seq ?_
    refine R_G ?_
    refine G_run 3 ?_
    refine G_end ?_
    refine R_ret ?_
    obtain ⟨rfl, rfl⟩ := inj2 hm
    exact ⟨trivial, fin_pure (by kernel_rfl)⟩
  replace hm := neg_inv hc hm
  refine R_skip ?_
  refine R_seq ?_
  refine R_GD ?_
  refine G_run 2 ?_
  obtain ⟨v5, hx, hm⟩ := bind_inv hm
  refine I_idx 6 T_api_Tree.toD p0.kids 0 v5 (es := T_api_Tree.toDs p0.kids) (d := (T_api_Tree.ex v5)) (T_api_Tree.toDs_eq _) hx (T_api_Tree.toD_eq v5) rfl ?_
  refine G_run 3 ?_
  obtain ⟨v6, hx, hm⟩ := bind_inv hm
  refine I_idx 6 T_api_Tree.toD p0.kids 1 v6 (es := T_api_Tree.toDs p0.kids) (d := (T_api_Tree.ex v6)) (T_api_Tree.toDs_eq _) hx (T_api_Tree.toD_eq v6) rfl ?_
  refine G_run 2 ?_
  obtain ⟨v7, hx, hm⟩ := bind_inv hm
  refine I_idx 6 T_api_Tree.toD v6.kids 0 v7 (es := T_api_Tree.toDs v6.kids) (d := (T_api_Tree.ex v7)) (T_api_Tree.toDs_eq _) hx (T_api_Tree.toD_eq v7) rfl ?_
  refine G_run 4 ?_
  refine G_end ⟨by kernel_rfl, ?_⟩
  refine R_seq ?_
  refine R_G ?_
  refine G_run 3 ?_
  refine G_end ?_
  refine R_ret ?_
  obtain ⟨rfl, rfl⟩ := inj2 hm
  exact ⟨trivial, fin_pure (by kernel_rfl)⟩
end Go.Proofs.Tryd
namespace Go.Proofs.Tryd
open Go Go.Pm
set_option linter.unusedVariables false
set_option maxHeartbeats 2000000
set_option maxRecDepth 2000
def m_simplify_plain_L1 (x : ((List Int) × T_api_Tree × Int)) : Option (Unit ⊕ Unit) :=
  match x with
  | (p2, p0, v206) =>
  if v206 < (p2.length : Int) then
    idx p2 v206 >>= fun v606 =>
    idx p0.kids 0 >>= fun v607 =>
    idx v607.nums v206 >>= fun v608 =>
    if v608 ≠ v606 then
      some (Sum.inl ())
    else
    m_simplify_plain_L1 (p2, p0, (W (v206 + 1)))
  else
  some (Sum.inr ())
  partial_fixpoint
def P_simplify_plain_L1 : ((List Int) × T_api_Tree × Int) → (Unit ⊕ Unit) → Prop := fun x r => match x with
  | (p2, p0, v206) => ∀ st, prune 2 ((firstRegion (codeAt [1, 1, 0, 1, 0, 0] (bodyOf f65))).bind (env.hint 65).keepAt) st = ⟨kp 57 [(3, (.ptr 0 0)), (6, (.ptr 1 0)), (34, (.dat (.lst ((List.map intD) p2)))), (35, (intPV (p2.length : Int))), (36, (intPV v206))], [(.box [(intPV p0.kind), (intPV p0.fn), (intPV p0.axis), (.dat (strD p0.name)), (.dat (.lst ((List.map intD) p0.nums))), (.dat (.lst (T_api_Tree.toDs p0.kids)))]), (.box [(intPV 0), (intPV 0), (intPV 0), (.dat (strD ByteArray.empty)), (.dat (.lst ((List.map intD) []))), (.dat (.lst (T_api_Tree.toDs [])))])]⟩ →
    RL prog env (env.hint 65) true (codeAt [1, 1, 0, 1, 0, 0] (bodyOf f65)) 2 st (fun e s => match r with | .inl _ => e = .ret ∧ ∃ d, s = ⟨sl d 57 [(6, (.ptr 1 0)), (7, (boolPV false))], [(.box [(intPV p0.kind), (intPV p0.fn), (intPV p0.axis), (.dat (strD p0.name)), (.dat (.lst ((List.map intD) p0.nums))), (.dat (.lst (T_api_Tree.toDs p0.kids)))]), (.box [(intPV p0.kind), (intPV p0.fn), (intPV p0.axis), (.dat (strD p0.name)), (.dat (.lst ((List.map intD) p0.nums))), (.dat (.lst (T_api_Tree.toDs p0.kids)))])]⟩ | .inr (_) => e = .exit 0 ∧ ∃ d, s = ⟨sl d 57 [(3, (.ptr 0 0)), (6, (.ptr 1 0))], [(.box [(intPV p0.kind), (intPV p0.fn), (intPV p0.axis), (.dat (strD p0.name)), (.dat (.lst ((List.map intD) p0.nums))), (.dat (.lst (T_api_Tree.toDs p0.kids)))]), (.box [(intPV 0), (intPV 0), (intPV 0), (.dat (strD ByteArray.empty)), (.dat (.lst ((List.map intD) []))), (.dat (.lst (T_api_Tree.toDs [])))])]⟩)
theorem w_simplify_plain_L1 : ∀ x r, m_simplify_plain_L1 x = some r → P_simplify_plain_L1 x r := by
  refine m_simplify_plain_L1.partial_correctness _ (fun m_simplify_plain_L1 w_simplify_plain_L1 x r hm => ?_)
  unfold P_simplify_plain_L1
  obtain ⟨p2, p0, v206⟩ := x
  intro st hst
  refine RL_at hst ?_
  clear hst
  refine R_seq ?_
  refine R_G ?_
  refine G_run 1 ?_
  refine G_end ?_
  refine R_seq ?_
  refine R_ifp (p := v206 < (p2.length : Int)) (rfl) (fun hc => ?_) (fun hc => ?_)
  · replace hm := pos_inv hc hm
    refine R_skip ?_
    refine R_seq ?_
    refine R_block ?_
    refine R_seq ?_
    refine R_G ?_
    refine G_run 1 ?_
    obtain ⟨v606, hx, hm⟩ := bind_inv hm
    refine I_idx 1 intD p2 v206 v606 (es := (List.map intD) p2) (d := (intD v606)) rfl hx rfl rfl ?_
    refine G_run 3 ?_
    refine G_end ?_
    refine R_seq ?_
    refine R_G ?_
    refine G_run 2 ?_
    obtain ⟨v607, hx, hm⟩ := bind_inv hm
    refine I_idx 6 T_api_Tree.toD p0.kids 0 v607 (es := T_api_Tree.toDs p0.kids) (d := (T_api_Tree.ex v607)) (T_api_Tree.toDs_eq _) hx (T_api_Tree.toD_eq v607) rfl ?_
    refine G_run 3 ?_
    obtain ⟨v608, hx, hm⟩ := bind_inv hm
    refine I_idx 1 intD v607.nums v206 v608 (es := (List.map intD) v607.nums) (d := (intD v608)) rfl hx rfl rfl ?_
    refine G_run 3 ?_
    refine G_end ?_
    refine R_ifp (p := v608 ≠ v606) (ne_dec _ _) (fun hc => ?_) (fun hc => ?_)
    · replace hm := pos_inv hc hm
      refine R_seq ?_
      refine R_G ?_
      refine G_run 3 ?_
      refine G_end ?_
      refine R_ret ?_
      obtain rfl := inj1 hm
      exact ⟨rfl, cut_leaf (by kernel_rfl)⟩
    replace hm := neg_inv hc hm
    refine R_skip ?_
    refine R_G ?_
    refine G_run 2 ?_
    refine G_end ?_
    exact w_simplify_plain_L1 _ _ hm _ (by kernel_rfl)
  replace hm := neg_inv hc hm
  refine R_exit ?_
  obtain rfl := inj1 hm
  exact ⟨rfl, cut_leaf (by kernel_rfl)⟩
def m_simplify_plain (x : (T_api_Tree × Int × (List Int))) : Option (T_api_Tree × Bool) :=
  match x with
  | (p0, p1, p2) =>
  (m_simplify_is (p0, 4, p1) >>= fun (v2 : Bool) =>
  (if v2 = false then
    some true
  else
  idx p0.kids 0 >>= fun v4 =>
  some (v4.kind != 1)
  ) >>= fun (v3 : Bool) =>
  if v3 = true then
    some true
  else
  idx p0.kids 0 >>= fun v5 =>
  some ((v5.nums.length : Int) != (p2.length : Int))
  ) >>= fun (v1 : Bool) =>
  if v1 = true then
    some (p0, false)
  else
  (
  m_simplify_plain_L1 (p2, p0, 0) >>= fun (out : Unit ⊕ Unit) =>
  match out with
  | .inl _ =>
    some (p0, false)
  | .inr (_) =>
    idx p0.kids 1 >>= fun v609 =>
    some (v609, true)
  )
def P_simplify_plain : (T_api_Tree × Int × (List Int)) → (T_api_Tree × Bool) → Prop := fun x r => match x, r with
  | (p0, p1, p2), (r0, r1) => ∀ H, PC prog env 65 ([(T_api_Tree.ex p0), (intD p1), (.lst ((List.map intD) p2))].map .dat) H (.tup [(.dat (T_api_Tree.ex r0)), (boolPV r1)]) H
theorem w_simplify_plain : ∀ x r, m_simplify_plain x = some r → P_simplify_plain x r := by
  intro x r hm
  unfold m_simplify_plain at hm
  unfold P_simplify_plain
  obtain ⟨p0, p1, p2⟩ := x
  obtain ⟨r0, r1⟩ := r
  intro H
  refine PC_sx (ds := [(T_api_Tree.ex p0), (intD p1), (.lst ((List.map intD) p2))]) (fn := f65) (by kernel_rfl) (by kernel_rfl) rfl ?_ (by kernel_rfl)
  refine R_seq ?_
  refine R_G ?_
  refine G_run 3 ?_
  refine G_end ?_
  refine R_seq ?_
  refine R_seq ?_
  obtain ⟨v1, hs, hm⟩ := bind_inv hm
  refine R_cut (fun d => ⟨sl d 57 [(2, (.dat (.lst ((List.map intD) p2)))), (3, (.ptr 0 0)), (6, (.ptr 1 0)), (32, (boolPV v1))], [(.box [(intPV p0.kind), (intPV p0.fn), (intPV p0.axis), (.dat (strD p0.name)), (.dat (.lst ((List.map intD) p0.nums))), (.dat (.lst (T_api_Tree.toDs p0.kids)))]), (.box [(intPV 0), (intPV 0), (intPV 0), (.dat (strD ByteArray.empty)), (.dat (.lst ((List.map intD) []))), (.dat (.lst (T_api_Tree.toDs [])))])]⟩) ?_ (fun d => ?_)
  · replace hm := hs
    clear hs
    refine R_GN ?_
    refine G_run 2 ?_
    obtain ⟨v2, hx, hm⟩ := bind_inv hm
    have hq := w_simplify_is _ _ hx []
    refine G_callP hq ?_
    refine G_run 2 ?_
    obtain ⟨v3, hs, hm⟩ := bind_inv hm
    refine G_cut (j := 12) (fun d => ⟨sl d 57 [(0, (.dat (.agg [(intD p0.kind), (intD p0.fn), (intD p0.axis), (strD p0.name), (.lst ((List.map intD) p0.nums)), (.lst (T_api_Tree.toDs p0.kids))]))), (1, (intPV p1)), (2, (.dat (.lst ((List.map intD) p2)))), (3, (.ptr 0 0)), (6, (.ptr 1 0)), (7, (boolPV false)), (10, (.dat (.agg [(intD p0.kind), (intD p0.fn), (intD p0.axis), (strD p0.name), (.lst ((List.map intD) p0.nums)), (.lst (T_api_Tree.toDs p0.kids))]))), (11, (intPV p1)), (12, (boolPV v2)), (13, (boolPV (!v2))), (21, (boolPV v3))], [(.box [(intPV p0.kind), (intPV p0.fn), (intPV p0.axis), (.dat (strD p0.name)), (.dat (.lst ((List.map intD) p0.nums))), (.dat (.lst (T_api_Tree.toDs p0.kids)))]), (.box [(intPV 0), (intPV 0), (intPV 0), (.dat (strD ByteArray.empty)), (.dat (.lst ((List.map intD) []))), (.dat (.lst (T_api_Tree.toDs [])))])]⟩) (fun d => ?_) (fun hJ => ?_)
    · clear hs
      refine G_run 1 ?_
      refine G_split (p := v3 = true) 22 (bool_dec _) (fun hc => ?_) (fun hc => ?_)
      · replace hm := pos_inv hc hm
        refine G_run 10 ?_
        refine G_end ⟨by kernel_rfl, ?_⟩
        obtain rfl := inj1 hm
        exact cut_leaf (by kernel_rfl)
      replace hm := neg_inv hc hm
      refine G_run 2 ?_
      obtain ⟨v5, hx, hm⟩ := bind_inv hm
      refine I_idx 6 T_api_Tree.toD p0.kids 0 v5 (es := T_api_Tree.toDs p0.kids) (d := (T_api_Tree.ex v5)) (T_api_Tree.toDs_eq _) hx (T_api_Tree.toD_eq v5) rfl ?_
      refine G_run 2 ?_
      refine I_len intD v5.nums (es := (List.map intD) v5.nums) rfl ?_
      refine G_run 1 ?_
      refine I_len intD p2 (es := (List.map intD) p2) rfl ?_
      refine G_run 2 ?_
      refine G_end ⟨by kernel_rfl, ?_⟩
      obtain rfl := inj1 hm
      exact cut_leaf (by kernel_rfl)
    replace hm := hs
    clear hs
    refine G_split (p := v2 = false) 14 (not_dec _) (fun hc => ?_) (fun hc => ?_)
    · replace hm := pos_inv hc hm
      refine G_run 7 ?_
      obtain rfl := inj1 hm
      exact hJ _ _ (by kernel_rfl) (by kernel_rfl)
    replace hm := neg_inv hc hm
    refine G_run 2 ?_
    obtain ⟨v4, hx, hm⟩ := bind_inv hm
    refine I_idx 6 T_api_Tree.toD p0.kids 0 v4 (es := T_api_Tree.toDs p0.kids) (d := (T_api_Tree.ex v4)) (T_api_Tree.toDs_eq _) hx (T_api_Tree.toD_eq v4) rfl ?_
    refine G_run 4 ?_
    obtain rfl := inj1 hm
    exact hJ _ _ (by kernel_rfl) (by kernel_rfl)
  clear hs
  refine R_ifp (p := v1 = true) (bool_dec _) (fun hc => ?_) (fun hc => ?_)
  · replace hm := pos_inv hc hm
    refine R_seq ?_
    refine R_G ?_
    refine G_run 3 ?_
    refine G_end ?_
    refine R_ret ?_
    obtain ⟨rfl, rfl⟩ := inj2 hm
    exact ⟨trivial, fin_pure (by kernel_rfl)⟩
  replace hm := neg_inv hc hm
  refine R_skip ?_
  refine R_seq ?_
  refine R_seq ?_
  refine R_G ?_
  refine G_run 1 ?_
  refine I_len intD p2 (es := (List.map intD) p2) rfl ?_
  refine G_run 1 ?_
  refine G_end ?_
  refine R_block ?_
  obtain ⟨out, hs, hm⟩ := bind_inv hm
  refine R_loop ?_
  rcases out with _ | _
  · refine RL_use (w_simplify_plain_L1 _ _ hs) (by kernel_rfl) ?_
    clear hs
    intro e s hp
    obtain ⟨rfl, d, rfl⟩ := hp
    obtain ⟨rfl, rfl⟩ := inj2 hm
    exact ⟨trivial, fin_pure (by kernel_rfl)⟩
  · refine RL_use (w_simplify_plain_L1 _ _ hs) (by kernel_rfl) ?_
    clear hs
    intro e s hp
    obtain ⟨rfl, d, rfl⟩ := hp
    refine R_seq ?_
    refine R_G ?_
    refine G_run 2 ?_
    obtain ⟨v609, hx, hm⟩ := bind_inv hm
    refine I_idx 6 T_api_Tree.toD p0.kids 1 v609 (es := T_api_Tree.toDs p0.kids) (d := (T_api_Tree.ex v609)) (T_api_Tree.toDs_eq _) hx (T_api_Tree.toD_eq v609) rfl ?_
    refine G_run 3 ?_
    refine G_end ?_
    refine R_ret ?_
    obtain ⟨rfl, rfl⟩ := inj2 hm
    exact ⟨trivial, fin_pure (by kernel_rfl)⟩
end Go.Proofs.Tryd
namespace Go.Proofs.Tryd
open Go Go.Pm
set_option linter.unusedVariables false
set_option maxHeartbeats 2000000
set_option maxRecDepth 2000
def m_simplify_rotated (x : T_api_Tree) : Option (T_api_Tree × Bool) :=
  match x with
  | p0 =>
  m_simplify_plain (p0, 3, ([0] : List Int)) >>= fun ((v1, v2) : (T_api_Tree × Bool)) =>
  some (v1, v2)
def P_simplify_rotated : T_api_Tree → (T_api_Tree × Bool) → Prop := fun x r => match x, r with
  | p0, (r0, r1) => ∀ H, PC prog env 61 ([(T_api_Tree.ex p0)].map .dat) H (.tup [(.dat (T_api_Tree.ex r0)), (boolPV r1)]) H
theorem w_simplify_rotated : ∀ x r, m_simplify_rotated x = some r → P_simplify_rotated x r := by
  intro p0 r hm
  unfold m_simplify_rotated at hm
  unfold P_simplify_rotated
  obtain ⟨r0, r1⟩ := r
  intro H
  refine PC_sx (ds := [(T_api_Tree.ex p0)]) (fn := f61) (by kernel_rfl) (by kernel_rfl) rfl ?_ (by kernel_rfl)
  refine R_seq ?_
  refine R_G ?_
  refine G_run 3 ?_
  refine G_end ?_
  refine R_seq ?_
  refine R_G ?_
  refine G_run 2 ?_
  obtain ⟨⟨v1, v2⟩, hx, hm⟩ := bind_inv hm
  have hq := w_simplify_plain _ _ hx []
  refine G_callP hq ?_
  refine G_run 4 ?_
  refine G_end ?_
  refine R_ret ?_
  obtain ⟨rfl, rfl⟩ := inj2 hm
  exact ⟨trivial, fin_pure (by kernel_rfl)⟩
end Go.Proofs.Tryd
namespace Go.Proofs.Tryd
open Go Go.Pm
set_option linter.unusedVariables false
set_option maxHeartbeats 2000000
set_option maxRecDepth 2000
def m_simplify_dropped (x : T_api_Tree) : Option (T_api_Tree × Bool) :=
  match x with
  | p0 =>
  m_simplify_plain (p0, 2, ([] : (List Int))) >>= fun ((v1, v2) : (T_api_Tree × Bool)) =>
  some (v1, v2)
def P_simplify_dropped : T_api_Tree → (T_api_Tree × Bool) → Prop := fun x r => match x, r with
  | p0, (r0, r1) => ∀ H, PC prog env 62 ([(T_api_Tree.ex p0)].map .dat) H (.tup [(.dat (T_api_Tree.ex r0)), (boolPV r1)]) H
theorem w_simplify_dropped : ∀ x r, m_simplify_dropped x = some r → P_simplify_dropped x r := by
  intro p0 r hm
  unfold m_simplify_dropped at hm
  unfold P_simplify_dropped
  obtain ⟨r0, r1⟩ := r
  intro H
  refine PC_sx (ds := [(T_api_Tree.ex p0)]) (fn := f62) (by kernel_rfl) (by kernel_rfl) rfl ?_ (by kernel_rfl)
  refine R_seq ?_
  refine R_G ?_
  refine G_run 3 ?_
  refine G_end ?_
  refine R_seq ?_
  refine R_G ?_
  refine G_run 1 ?_
  obtain ⟨⟨v1, v2⟩, hx, hm⟩ := bind_inv hm
  have hq := w_simplify_plain _ _ hx []
  refine G_callP hq ?_
  refine G_run 4 ?_
  refine G_end ?_
  refine R_ret ?_
  obtain ⟨rfl, rfl⟩ := inj2 hm
  exact ⟨trivial, fin_pure (by kernel_rfl)⟩
end Go.Proofs.Tryd
namespace Go.Proofs.Tryd
open Go Go.Pm
set_option linter.unusedVariables false
set_option maxHeartbeats 2000000
set_option maxRecDepth 2000
def m_simplify_once (x : T_api_Tree) : Option (T_api_Tree × Int) :=
  match x with
  | p0 =>
  m_simplify_reversed p0 >>= fun ((v1, v2) : (T_api_Tree × Bool)) =>
  if v2 = true then
    some (v1, 1)
  else
  m_simplify_transposed p0 >>= fun ((v3, v4) : (T_api_Tree × Bool)) =>
  if v4 = true then
    some (v3, 2)
  else
  m_simplify_raveled p0 >>= fun ((v5, v6) : (T_api_Tree × Bool)) =>
  if v6 = true then
    some (v5, 3)
  else
  m_simplify_reshaped p0 >>= fun ((v7, v8) : (T_api_Tree × Bool)) =>
  if v8 = true then
    some (v7, 4)
  else
  m_simplify_rotated p0 >>= fun ((v9, v10) : (T_api_Tree × Bool)) =>
  if v10 = true then
    some (v9, 5)
  else
  m_simplify_dropped p0 >>= fun ((v11, v12) : (T_api_Tree × Bool)) =>
  if v12 = true then
    some (v11, 6)
  else
  some (p0, 0)
def P_simplify_once : T_api_Tree → (T_api_Tree × Int) → Prop := fun x r => match x, r with
  | p0, (r0, r1) => ∀ H, PC prog env 27 ([(T_api_Tree.ex p0)].map .dat) H (.tup [(.dat (T_api_Tree.ex r0)), (intPV r1)]) H
theorem w_simplify_once : ∀ x r, m_simplify_once x = some r → P_simplify_once x r := by
  intro p0 r hm
  unfold m_simplify_once at hm
  unfold P_simplify_once
  obtain ⟨r0, r1⟩ := r
  intro H
  refine PC_sx (ds := [(T_api_Tree.ex p0)]) (fn := f27) (by kernel_rfl) (by kernel_rfl) rfl ?_ (by kernel_rfl)
  refine R_seq ?_
  refine R_G ?_
  refine G_run 3 ?_
  refine G_end ?_
  refine R_seq ?_
  refine R_seq ?_
  refine R_G ?_
  refine G_run 2 ?_
  refine G_end ?_
  refine R_block ?_
  refine R_loop ?_
  refine RL_at (st' := ⟨kp 26 [(1, (.ptr 0 0)), (2, (.ptr 1 0)), (8, (.dat (.agg [(.raw (.func (.func 57) #[] #[])), (.raw (.func (.func 58) #[] #[])), (.raw (.func (.func 59) #[] #[])), (.raw (.func (.func 60) #[] #[])), (.raw (.func (.func 61) #[] #[])), (.raw (.func (.func 62) #[] #[]))]))), (9, (intPV 0))], [(.box [(intPV p0.kind), (intPV p0.fn), (intPV p0.axis), (.dat (strD p0.name)), (.dat (.lst ((List.map intD) p0.nums))), (.dat (.lst (T_api_Tree.toDs p0.kids)))]), (.box [(intPV 0), (intPV 0), (intPV 0), (.dat (strD ByteArray.empty)), (.dat (.lst ((List.map intD) []))), (.dat (.lst (T_api_Tree.toDs [])))])]⟩) (by kernel_rfl) ?_
  refine R_seq ?_
  refine R_G ?_
  refine G_run 1 ?_
  refine G_end ?_
  refine R_seq ?_
  refine R_true (by kernel_rfl) ?_
  refine R_skip ?_
  refine R_seq ?_
  refine R_block ?_
  refine R_seq ?_
  refine R_G ?_
  refine G_run 1 ?_
  refine G_run 1 ?_
  refine G_run 3 ?_
  refine G_end ?_
  refine R_seq ?_
  refine R_G ?_
  refine G_run 3 ?_
  obtain ⟨⟨v1, v2⟩, hx, hm⟩ := bind_inv hm
  have hq := w_simplify_reversed _ _ hx []
  refine G_callP hq ?_
  refine G_run 6 ?_
  refine G_end ?_
  refine R_seq ?_
  refine R_G ?_
  refine G_run 1 ?_
  refine G_end ?_
  refine R_ifp (p := v2 = true) (bool_dec _) (fun hc => ?_) (fun hc => ?_)
  · replace hm := pos_inv hc hm
    refine R_seq ?_
    refine R_G ?_
    refine G_run 5 ?_
    refine G_end ?_
    refine R_ret ?_
    obtain ⟨rfl, rfl⟩ := inj2 hm
    exact ⟨trivial, fin_pure (by kernel_rfl)⟩
  replace hm := neg_inv hc hm
  refine R_skip ?_
  refine R_G ?_
  refine G_run 2 ?_
  refine G_end ?_
  refine RL_at (st' := ⟨kp 26 [(1, (.ptr 0 0)), (2, (.ptr 1 0)), (8, (.dat (.agg [(.raw (.func (.func 57) #[] #[])), (.raw (.func (.func 58) #[] #[])), (.raw (.func (.func 59) #[] #[])), (.raw (.func (.func 60) #[] #[])), (.raw (.func (.func 61) #[] #[])), (.raw (.func (.func 62) #[] #[]))]))), (9, (intPV 1))], [(.box [(intPV p0.kind), (intPV p0.fn), (intPV p0.axis), (.dat (strD p0.name)), (.dat (.lst ((List.map intD) p0.nums))), (.dat (.lst (T_api_Tree.toDs p0.kids)))]), (.box [(intPV 0), (intPV 0), (intPV 0), (.dat (strD ByteArray.empty)), (.dat (.lst ((List.map intD) []))), (.dat (.lst (T_api_Tree.toDs [])))])]⟩) (by kernel_rfl) ?_
  refine R_seq ?_
  refine R_G ?_
  refine G_run 1 ?_
  refine G_end ?_
  refine R_seq ?_
  refine R_true (by kernel_rfl) ?_
  refine R_skip ?_
  refine R_seq ?_
  refine R_block ?_
  refine R_seq ?_
  refine R_G ?_
  refine G_run 1 ?_
  refine G_run 1 ?_
  refine G_run 3 ?_
  refine G_end ?_
  refine R_seq ?_
  refine R_G ?_
  refine G_run 3 ?_
  obtain ⟨⟨v3, v4⟩, hx, hm⟩ := bind_inv hm
  have hq := w_simplify_transposed _ _ hx []
  refine G_callP hq ?_
  refine G_run 6 ?_
  refine G_end ?_
  refine R_seq ?_
  refine R_G ?_
  refine G_run 1 ?_
  refine G_end ?_
  refine R_ifp (p := v4 = true) (bool_dec _) (fun hc => ?_) (fun hc => ?_)
  · replace hm := pos_inv hc hm
    refine R_seq ?_
    refine R_G ?_
    refine G_run 5 ?_
    refine G_end ?_
    refine R_ret ?_
    obtain ⟨rfl, rfl⟩ := inj2 hm
    exact ⟨trivial, fin_pure (by kernel_rfl)⟩
  replace hm := neg_inv hc hm
  refine R_skip ?_
  refine R_G ?_
  refine G_run 2 ?_
  refine G_end ?_
  refine RL_at (st' := ⟨kp 26 [(1, (.ptr 0 0)), (2, (.ptr 1 0)), (8, (.dat (.agg [(.raw (.func (.func 57) #[] #[])), (.raw (.func (.func 58) #[] #[])), (.raw (.func (.func 59) #[] #[])), (.raw (.func (.func 60) #[] #[])), (.raw (.func (.func 61) #[] #[])), (.raw (.func (.func 62) #[] #[]))]))), (9, (intPV 2))], [(.box [(intPV p0.kind), (intPV p0.fn), (intPV p0.axis), (.dat (strD p0.name)), (.dat (.lst ((List.map intD) p0.nums))), (.dat (.lst (T_api_Tree.toDs p0.kids)))]), (.box [(intPV 0), (intPV 0), (intPV 0), (.dat (strD ByteArray.empty)), (.dat (.lst ((List.map intD) []))), (.dat (.lst (T_api_Tree.toDs [])))])]⟩) (by kernel_rfl) ?_
  refine R_seq ?_
  refine R_G ?_
  refine G_run 1 ?_
  refine G_end ?_
  refine R_seq ?_
  refine R_true (by kernel_rfl) ?_
  refine R_skip ?_
  refine R_seq ?_
  refine R_block ?_
  refine R_seq ?_
  refine R_G ?_
  refine G_run 1 ?_
  refine G_run 1 ?_
  refine G_run 3 ?_
  refine G_end ?_
  refine R_seq ?_
  refine R_G ?_
  refine G_run 3 ?_
  obtain ⟨⟨v5, v6⟩, hx, hm⟩ := bind_inv hm
  have hq := w_simplify_raveled _ _ hx []
  refine G_callP hq ?_
  refine G_run 6 ?_
  refine G_end ?_
  refine R_seq ?_
  refine R_G ?_
  refine G_run 1 ?_
  refine G_end ?_
  refine R_ifp (p := v6 = true) (bool_dec _) (fun hc => ?_) (fun hc => ?_)
  · replace hm := pos_inv hc hm
    refine R_seq ?_
    refine R_G ?_
    refine G_run 5 ?_
    refine G_end ?_
    refine R_ret ?_
    obtain ⟨rfl, rfl⟩ := inj2 hm
    exact ⟨trivial, fin_pure (by kernel_rfl)⟩
  replace hm := neg_inv hc hm
  refine R_skip ?_
  refine R_G ?_
  refine G_run 2 ?_
  refine G_end ?_
  refine RL_at (st' := ⟨kp 26 [(1, (.ptr 0 0)), (2, (.ptr 1 0)), (8, (.dat (.agg [(.raw (.func (.func 57) #[] #[])), (.raw (.func (.func 58) #[] #[])), (.raw (.func (.func 59) #[] #[])), (.raw (.func (.func 60) #[] #[])), (.raw (.func (.func 61) #[] #[])), (.raw (.func (.func 62) #[] #[]))]))), (9, (intPV 3))], [(.box [(intPV p0.kind), (intPV p0.fn), (intPV p0.axis), (.dat (strD p0.name)), (.dat (.lst ((List.map intD) p0.nums))), (.dat (.lst (T_api_Tree.toDs p0.kids)))]), (.box [(intPV 0), (intPV 0), (intPV 0), (.dat (strD ByteArray.empty)), (.dat (.lst ((List.map intD) []))), (.dat (.lst (T_api_Tree.toDs [])))])]⟩) (by kernel_rfl) ?_
  refine R_seq ?_
  refine R_G ?_
  refine G_run 1 ?_
  refine G_end ?_
  refine R_seq ?_
  refine R_true (by kernel_rfl) ?_
  refine R_skip ?_
  refine R_seq ?_
  refine R_block ?_
  refine R_seq ?_
  refine R_G ?_
  refine G_run 1 ?_
  refine G_run 1 ?_
  refine G_run 3 ?_
  refine G_end ?_
  refine R_seq ?_
  refine R_G ?_
  refine G_run 3 ?_
  obtain ⟨⟨v7, v8⟩, hx, hm⟩ := bind_inv hm
  have hq := w_simplify_reshaped _ _ hx []
  refine G_callP hq ?_
  refine G_run 6 ?_
  refine G_end ?_
  refine R_seq ?_
  refine R_G ?_
  refine G_run 1 ?_
  refine G_end ?_
  refine R_ifp (p := v8 = true) (bool_dec _) (fun hc => ?_) (fun hc => ?_)
  · replace hm := pos_inv hc hm
    refine R_seq ?_
    refine R_G ?_
    refine G_run 5 ?_
    refine G_end ?_
    refine R_ret ?_
    obtain ⟨rfl, rfl⟩ := inj2 hm
    exact ⟨trivial, fin_pure (by kernel_rfl)⟩
  replace hm := neg_inv hc hm
  refine R_skip ?_
  refine R_G ?_
  refine G_run 2 ?_
  refine G_end ?_
  refine RL_at (st' := ⟨kp 26 [(1, (.ptr 0 0)), (2, (.ptr 1 0)), (8, (.dat (.agg [(.raw (.func (.func 57) #[] #[])), (.raw (.func (.func 58) #[] #[])), (.raw (.func (.func 59) #[] #[])), (.raw (.func (.func 60) #[] #[])), (.raw (.func (.func 61) #[] #[])), (.raw (.func (.func 62) #[] #[]))]))), (9, (intPV 4))], [(.box [(intPV p0.kind), (intPV p0.fn), (intPV p0.axis), (.dat (strD p0.name)), (.dat (.lst ((List.map intD) p0.nums))), (.dat (.lst (T_api_Tree.toDs p0.kids)))]), (.box [(intPV 0), (intPV 0), (intPV 0), (.dat (strD ByteArray.empty)), (.dat (.lst ((List.map intD) []))), (.dat (.lst (T_api_Tree.toDs [])))])]⟩) (by kernel_rfl) ?_
  refine R_seq ?_
  refine R_G ?_
  refine G_run 1 ?_
  refine G_end ?_
  refine R_seq ?_
  refine R_true (by kernel_rfl) ?_
  refine R_skip ?_
  refine R_seq ?_
  refine R_block ?_
  refine R_seq ?_
  refine R_G ?_
  refine G_run 1 ?_
  refine G_run 1 ?_
  refine G_run 3 ?_
  refine G_end ?_
  refine R_seq ?_
  refine R_G ?_
  refine G_run 3 ?_
  obtain ⟨⟨v9, v10⟩, hx, hm⟩ := bind_inv hm
  have hq := w_simplify_rotated _ _ hx []
  refine G_callP hq ?_
  refine G_run 6 ?_
  refine G_end ?_
  refine R_seq ?_
  refine R_G ?_
  refine G_run 1 ?_
  refine G_end ?_
  refine R_ifp (p := v10 = true) (bool_dec _) (fun hc => ?_) (fun hc => ?_)
  · replace hm := pos_inv hc hm
    refine R_seq ?_
    refine R_G ?_
    refine G_run 5 ?_
    refine G_end ?_
    refine R_ret ?_
    obtain ⟨rfl, rfl⟩ := inj2 hm
    exact ⟨trivial, fin_pure (by kernel_rfl)⟩
  replace hm := neg_inv hc hm
  refine R_skip ?_
  refine R_G ?_
  refine G_run 2 ?_
  refine G_end ?_
  refine RL_at (st' := ⟨kp 26 [(1, (.ptr 0 0)), (2, (.ptr 1 0)), (8, (.dat (.agg [(.raw (.func (.func 57) #[] #[])), (.raw (.func (.func 58) #[] #[])), (.raw (.func (.func 59) #[] #[])), (.raw (.func (.func 60) #[] #[])), (.raw (.func (.func 61) #[] #[])), (.raw (.func (.func 62) #[] #[]))]))), (9, (intPV 5))], [(.box [(intPV p0.kind), (intPV p0.fn), (intPV p0.axis), (.dat (strD p0.name)), (.dat (.lst ((List.map intD) p0.nums))), (.dat (.lst (T_api_Tree.toDs p0.kids)))]), (.box [(intPV 0), (intPV 0), (intPV 0), (.dat (strD ByteArray.empty)), (.dat (.lst ((List.map intD) []))), (.dat (.lst (T_api_Tree.toDs [])))])]⟩) (by kernel_rfl) ?_
  refine R_seq ?_
  refine R_G ?_
  refine G_run 1 ?_
  refine G_end ?_
  refine R_seq ?_
  refine R_true (by kernel_rfl) ?_
  refine R_skip ?_
  refine R_seq ?_
  refine R_block ?_
  refine R_seq ?_
  refine R_G ?_
  refine G_run 1 ?_
  refine G_run 1 ?_
  refine G_run 3 ?_
  refine G_end ?_
  refine R_seq ?_
  refine R_G ?_
  refine G_run 3 ?_
  obtain ⟨⟨v11, v12⟩, hx, hm⟩ := bind_inv hm
  have hq := w_simplify_dropped _ _ hx []
  refine G_callP hq ?_
  refine G_run 6 ?_
  refine G_end ?_
  refine R_seq ?_
  refine R_G ?_
  refine G_run 1 ?_
  refine G_end ?_
  refine R_ifp (p := v12 = true) (bool_dec _) (fun hc => ?_) (fun hc => ?_)
  · replace hm := pos_inv hc hm
    refine R_seq ?_
    refine R_G ?_
    refine G_run 5 ?_
    refine G_end ?_
    refine R_ret ?_
    obtain ⟨rfl, rfl⟩ := inj2 hm
    exact ⟨trivial, fin_pure (by kernel_rfl)⟩
  replace hm := neg_inv hc hm
  refine R_skip ?_
  refine R_G ?_
  refine G_run 2 ?_
  refine G_end ?_
  refine RL_at (st' := ⟨kp 26 [(1, (.ptr 0 0)), (2, (.ptr 1 0)), (8, (.dat (.agg [(.raw (.func (.func 57) #[] #[])), (.raw (.func (.func 58) #[] #[])), (.raw (.func (.func 59) #[] #[])), (.raw (.func (.func 60) #[] #[])), (.raw (.func (.func 61) #[] #[])), (.raw (.func (.func 62) #[] #[]))]))), (9, (intPV 6))], [(.box [(intPV p0.kind), (intPV p0.fn), (intPV p0.axis), (.dat (strD p0.name)), (.dat (.lst ((List.map intD) p0.nums))), (.dat (.lst (T_api_Tree.toDs p0.kids)))]), (.box [(intPV 0), (intPV 0), (intPV 0), (.dat (strD ByteArray.empty)), (.dat (.lst ((List.map intD) []))), (.dat (.lst (T_api_Tree.toDs [])))])]⟩) (by kernel_rfl) ?_
  refine R_seq ?_
  refine R_G ?_
  refine G_run 1 ?_
  refine G_end ?_
  refine R_seq ?_
  refine R_false (by kernel_rfl) ?_
  refine R_exit ?_
  refine R_seq ?_
  refine R_G ?_
  refine G_run 3 ?_
  refine G_end ?_
  refine R_ret ?_
  obtain ⟨rfl, rfl⟩ := inj2 hm
  exact ⟨trivial, fin_pure (by kernel_rfl)⟩
end Go.Proofs.Tryd
namespace Go.Proofs.Tryd
open Go Go.Pm
set_option linter.unusedVariables false
set_option maxHeartbeats 2000000
set_option maxRecDepth 2000
def m_slices_Clone_int64_int64 (x : List Int) : Option (List Int) := app 8 [] x
def cgm_slices_Clone_int64_int64 (l : List Int) : Nat := match l with | [] => 0 | _ => 1
def P_slices_Clone_int64_int64 : List Int → List Int → Prop := fun x r => PC prog env 28 [.dat (.lst ((List.map intD) x))] [] (.ms 0 (cgm_slices_Clone_int64_int64 r) 0 r.length r.length) [.mt 2 (cgm_slices_Clone_int64_int64 r) (cellsOf intD r)]
theorem w_slices_Clone_int64_int64 : ∀ x r, m_slices_Clone_int64_int64 x = some r → P_slices_Clone_int64_int64 x r := by
  intro x r hm
  obtain ⟨hroom, hr⟩ := app_some hm
  have hr : r = x := hr
  subst hr
  unfold P_slices_Clone_int64_int64
  cases r with
  | nil => exact PC_of (n := 20) (by kernel_rfl)
  | cons a l =>
    refine PC_sxB (fn := f28) (by kernel_rfl) (by kernel_rfl) rfl ?_
    refine R_seq ?_
    refine R_G ?_
    refine G_run 1 ?_
    refine G_end ?_
    refine R_seq ?_
    refine R_seq ?_
    refine R_G ?_
    refine G_run 1 ?_
    refine G_semN rfl (by kernel_rfl) (fun _ => E_lstNil (p := .dat (.lst ((List.map intD) (a :: l)))) (b := false) rfl (by kernel_rfl) (by kernel_rfl) (by kernel_rfl)) ?_
    refine G_end ?_
    refine R_false (by kernel_rfl) ?_
    refine R_skip ?_
    refine R_seq ?_
    refine R_G ?_
    refine G_run 2 ?_
    refine G_semH (v := .ms 0 1 0 (a :: l).length (a :: l).length) (fun H => H.set 0 (.mt 2 1 (cellsOf intD (a :: l)))) rfl (by kernel_rfl) (fun _ hk => E_apMs intD (l := []) (es := a :: l) (bytes := 8) (e := 2) (tt := 0) (g := 0) (m := 0) hm (fun _ => rfl) (by kernel_rfl) (by kernel_rfl) (by kernel_rfl) (by kernel_rfl) rfl rfl (by kernel_rfl) rfl (by kernel_rfl) (source_lst (fun _ => rfl)) hk) ?_
    refine G_run 1 ?_
    refine G_end ?_
    refine R_ret ?_
    exact ⟨trivial, fin_body (by kernel_rfl) (by kernel_rfl)⟩
end Go.Proofs.Tryd
namespace Go.Proofs.Tryd
open Go Go.Pm
set_option linter.unusedVariables false
set_option maxHeartbeats 2000000
set_option maxRecDepth 2000
mutual
def m_tree_Copy_L1 (x : (T_api_Tree × (List Int) × (List T_api_Tree) × Int)) : Option ((List T_api_Tree)) :=
  match x with
  | (p0, v1, v202, v203) =>
  if v203 < (p0.kids.length : Int) then
    idx p0.kids v203 >>= fun v603 =>
    m_tree_Copy v603 >>= fun (v604 : T_api_Tree) =>
    app 88 v202 ([v604] : List T_api_Tree) >>= fun v605 =>
    m_tree_Copy_L1 (p0, v1, v605, (W (v203 + 1)))
  else
  some v202
  partial_fixpoint
def m_tree_Copy (x : T_api_Tree) : Option T_api_Tree :=
  match x with
  | p0 =>
  m_slices_Clone_int64_int64 p0.nums >>= fun v1 =>
  m_tree_Copy_L1 (p0, v1, ([] : List T_api_Tree), 0) >>= fun (v602 : (List T_api_Tree)) =>
  some (⟨p0.kind, p0.fn, p0.axis, p0.name, v1, v602⟩ : T_api_Tree)
  partial_fixpoint
end
def P_tree_Copy_L1 : (T_api_Tree × (List Int) × (List T_api_Tree) × Int) → (List T_api_Tree) → Prop := fun x r => match x with
  | (p0, v1, v202, v203) => ∀ st, prune 4 ((firstRegion (codeAt [1, 1, 1, 0, 1, 0, 0] (bodyOf f15))).bind (env.hint 15).keepAt) st = ⟨kp 26 [(1, (.ptr 0 0)), (2, (.ptr 1 0)), (3, (.vec 3 (T_api_Tree.toDs v202))), (11, (.dat (.lst (T_api_Tree.toDs p0.kids)))), (12, (intPV (p0.kids.length : Int))), (13, (intPV v203))], [(.box [(intPV p0.kind), (intPV p0.fn), (intPV p0.axis), (.dat (strD p0.name)), (.ms 2 1 0 v1.length v1.length), (.dat (.lst (T_api_Tree.toDs p0.kids)))]), (.box [(intPV 0), (intPV 0), (intPV 0), (.dat (strD ByteArray.empty)), (.dat (.lst ((List.map intD) []))), (.dat (.lst (T_api_Tree.toDs [])))]), (.mt 2 1 (cellsOf intD v1)), (.tok 25 v202.length)]⟩ →
    RL prog env (env.hint 15) true (codeAt [1, 1, 1, 0, 1, 0, 0] (bodyOf f15)) 4 st (fun e s => match r with | v602 => e = .exit 0 ∧ ∃ d, s = ⟨sl d 26 [(1, (.ptr 0 0)), (2, (.ptr 1 0)), (3, (.vec 3 (T_api_Tree.toDs v602)))], [(.box [(intPV p0.kind), (intPV p0.fn), (intPV p0.axis), (.dat (strD p0.name)), (.ms 2 1 0 v1.length v1.length), (.dat (.lst (T_api_Tree.toDs p0.kids)))]), (.box [(intPV 0), (intPV 0), (intPV 0), (.dat (strD ByteArray.empty)), (.dat (.lst ((List.map intD) []))), (.dat (.lst (T_api_Tree.toDs [])))]), (.mt 2 1 (cellsOf intD v1)), (.tok 25 v602.length)]⟩)
def P_tree_Copy : T_api_Tree → T_api_Tree → Prop := fun x r => match x, r with
  | p0, r0 => ∀ H, PC prog env 15 ([(T_api_Tree.ex p0)].map .dat) H (.dat (T_api_Tree.ex r0)) H
theorem g_tree_Copy_L1 : (∀ x r, m_tree_Copy_L1 x = some r → P_tree_Copy_L1 x r) ∧ (∀ x r, m_tree_Copy x = some r → P_tree_Copy x r) := by
  refine m_tree_Copy_L1.mutual_partial_correctness P_tree_Copy_L1 P_tree_Copy ?_ ?_
  · intro m_tree_Copy_L1 m_tree_Copy w_tree_Copy_L1 w_tree_Copy x r hm
    unfold P_tree_Copy_L1
    obtain ⟨p0, v1, v202, v203⟩ := x
    intro st hst
    refine RL_at hst ?_
    clear hst
    refine R_seq ?_
    refine R_G ?_
    refine G_run 1 ?_
    refine G_end ?_
    refine R_seq ?_
    refine R_ifp (p := v203 < (p0.kids.length : Int)) (rfl) (fun hc => ?_) (fun hc => ?_)
    · replace hm := pos_inv hc hm
      refine R_skip ?_
      refine R_seq ?_
      refine R_block ?_
      refine R_seq ?_
      refine R_G ?_
      obtain ⟨v603, hx, hm⟩ := bind_inv hm
      refine I_idx 6 T_api_Tree.toD p0.kids v203 v603 (es := T_api_Tree.toDs p0.kids) (d := (T_api_Tree.ex v603)) (T_api_Tree.toDs_eq _) hx (T_api_Tree.toD_eq v603) rfl ?_
      refine G_run 3 ?_
      refine G_end ?_
      refine R_G ?_
      refine G_run 2 ?_
      obtain ⟨v604, hx, hm⟩ := bind_inv hm
      have hq := w_tree_Copy _ _ hx []
      refine G_callP hq ?_
      refine G_run 1 ?_
      obtain ⟨v605, hx, hm⟩ := bind_inv hm
      refine I_app 25 6 88 3 T_api_Tree.toD v202 ([v604] : List T_api_Tree) v605 (xs := T_api_Tree.toDs v202) (es := [(T_api_Tree.ex v604)]) (L := T_api_Tree.toDs) T_api_Tree.toDs_eq rfl (by simp only [T_api_Tree.toDs, T_api_Tree.toD_eq]) T_api_Tree.fit hx ?_
      refine G_run 1 ?_
      refine G_end ?_
      refine R_G ?_
      refine G_run 2 ?_
      refine G_end ?_
      exact w_tree_Copy_L1 _ _ hm _ (prune_of2 [(.box [(intPV p0.kind), (intPV p0.fn), (intPV p0.axis), (.dat (strD p0.name)), (.ms 2 1 0 v1.length v1.length), (.dat (.lst (T_api_Tree.toDs p0.kids)))]), (.box [(intPV 0), (intPV 0), (intPV 0), (.dat (strD ByteArray.empty)), (.dat (.lst ((List.map intD) []))), (.dat (.lst (T_api_Tree.toDs [])))]), (.mt 2 1 (cellsOf intD v1)), (.tok 25 v605.length)] (fun _ => (pg_cons (by kernel_rfl) (pg_cons (by kernel_rfl) (pg_cons (purge_mt intD _ _ _ _ _) (pg_cons (by kernel_rfl) pg_nil))))) rfl)
    replace hm := neg_inv hc hm
    refine R_exit ?_
    obtain rfl := inj1 hm
    exact ⟨rfl, cut_leaf (by kernel_rfl)⟩
  · intro m_tree_Copy_L1 w_tree_Copy_L1 p0 r0 hm
    unfold P_tree_Copy
    intro H
    refine PC_sx (ds := [(T_api_Tree.ex p0)]) (fn := f15) (by kernel_rfl) (by kernel_rfl) rfl ?_ (by kernel_rfl)
    refine R_seq ?_
    refine R_G ?_
    refine G_run 2 ?_
    refine G_end ?_
    refine R_seq ?_
    refine R_G ?_
    refine G_run 2 ?_
    obtain ⟨v1, hx, hm⟩ := bind_inv hm
    have hq := w_slices_Clone_int64_int64 _ _ hx
    dsimp only [P_slices_Clone_int64_int64] at hq
    have hl9 : mtOf [Blk.mt 2 (cgm_slices_Clone_int64_int64 v1) (cellsOf intD v1)] 0 = some (2, cgm_slices_Clone_int64_int64 v1, cellsOf intD v1) := mtOf_at (by kernel_rfl)
    refine G_semH (v := .ms 2 1 0 v1.length v1.length) (fun H => H ++ [.mt 2 1 (cellsOf intD v1)]) rfl (by kernel_rfl) ?_ ?_
    · intro K hk
      refine E_callOwnN 2 (first := #[]) (cap := #[]) (j := (0, 2)) (ow' := []) (f0 := intD) (l := v1) rfl ?_ ?_ ?_ (ds := [.lst ((List.map intD) p0.nums)]) ?_ hq hl9 ?_ ?_ ?_
      · kernel_rfl
      · kernel_rfl
      · kernel_rfl
      · kernel_rfl
      · exact hk
      · kernel_rfl
      · decide
    refine G_run 2 ?_
    refine G_end ?_
    refine R_seq ?_
    refine R_G ?_
    refine G_run 1 ?_
    refine G_end ?_
    refine R_seq ?_
    refine R_seq ?_
    refine R_G ?_
    refine G_run 2 ?_
    refine I_len T_api_Tree.toD p0.kids (es := T_api_Tree.toDs p0.kids) (T_api_Tree.toDs_eq _) ?_
    refine G_run 1 ?_
    refine G_end ?_
    refine R_block ?_
    obtain ⟨v602, hs, hm⟩ := bind_inv hm
    refine R_loop ?_
    refine RL_use (w_tree_Copy_L1 _ _ hs) (prune_of2 [(.box [(intPV p0.kind), (intPV p0.fn), (intPV p0.axis), (.dat (strD p0.name)), (.ms 2 1 0 v1.length v1.length), (.dat (.lst (T_api_Tree.toDs p0.kids)))]), (.box [(intPV 0), (intPV 0), (intPV 0), (.dat (strD ByteArray.empty)), (.dat (.lst ((List.map intD) []))), (.dat (.lst (T_api_Tree.toDs [])))]), (.mt 2 1 (cellsOf intD v1)), (.tok 25 (([] : List T_api_Tree).length))] (fun _ => (pg_cons (by kernel_rfl) (pg_cons (by kernel_rfl) (pg_cons (purge_mt intD _ _ _ _ _) (pg_cons (by kernel_rfl) pg_nil))))) rfl) ?_
    clear hs
    intro e s hp
    obtain ⟨rfl, d, rfl⟩ := hp
    refine R_seq ?_
    refine R_G ?_
    refine G_run 3 ?_
    refine G_end ?_
    refine R_seq ?_
    refine R_G ?_
    refine G_run 2 ?_
    refine G_end ?_
    refine R_ret ?_
    obtain rfl := inj1 hm
    exact ⟨trivial, fin_pureX [(.agg [(intPV p0.kind), (intPV p0.fn), (intPV p0.axis), (.dat (strD p0.name)), (.ms 2 1 0 v1.length v1.length), (.vec 3 (T_api_Tree.toDs v602))])] (by kernel_rfl) (po_agg (pc_cons (by kernel_rfl) (pc_cons (by kernel_rfl) (pc_cons (by kernel_rfl) (pc_cons (by kernel_rfl) (pc_cons (pc_ms (e := 2) intD v1 rfl (fun _ => rfl) (by kernel_rfl)) (pc_cons (by kernel_rfl) pc_nil)))))))⟩
theorem w_tree_Copy_L1 : ∀ x r, m_tree_Copy_L1 x = some r → P_tree_Copy_L1 x r := g_tree_Copy_L1.1
theorem w_tree_Copy : ∀ x r, m_tree_Copy x = some r → P_tree_Copy x r := g_tree_Copy_L1.2
end Go.Proofs.Tryd
namespace Go.Proofs.Tryd
open Go Go.Pm
set_option linter.unusedVariables false
set_option maxHeartbeats 2000000
set_option maxRecDepth 2000
def m_simplify_Rule (x : T_api_Tree) : Option (T_api_Tree × Int) :=
  match x with
  | p0 =>
  m_simplify_once p0 >>= fun ((v1, v2) : (T_api_Tree × Int)) =>
  m_tree_Copy (⟨v1.kind, v1.fn, v1.axis, v1.name, v1.nums, v1.kids⟩ : T_api_Tree) >>= fun (v3 : T_api_Tree) =>
  some (v3, v2)
def P_simplify_Rule : T_api_Tree → (T_api_Tree × Int) → Prop := fun x r => match x, r with
  | p0, (r0, r1) => ∀ H, PC prog env 12 ([(T_api_Tree.ex p0)].map .dat) H (.tup [(.dat (T_api_Tree.ex r0)), (intPV r1)]) H
theorem w_simplify_Rule : ∀ x r, m_simplify_Rule x = some r → P_simplify_Rule x r := by
  intro p0 r hm
  unfold m_simplify_Rule at hm
  unfold P_simplify_Rule
  obtain ⟨r0, r1⟩ := r
  intro H
  refine PC_sx (ds := [(T_api_Tree.ex p0)]) (fn := f12) (by kernel_rfl) (by kernel_rfl) rfl ?_ (by kernel_rfl)
  refine R_seq ?_
  refine R_G ?_
  refine G_run 3 ?_
  refine G_end ?_
  refine R_seq ?_
  refine R_G ?_
  refine G_run 1 ?_
  obtain ⟨⟨v1, v2⟩, hx, hm⟩ := bind_inv hm
  have hq := w_simplify_once _ _ hx []
  refine G_callP hq ?_
  refine G_run 6 ?_
  refine G_end ?_
  refine R_seq ?_
  refine R_G ?_
  refine G_run 1 ?_
  obtain ⟨v3, hx, hm⟩ := bind_inv hm
  have hq := w_tree_Copy _ _ hx []
  refine G_callP hq ?_
  refine G_run 3 ?_
  refine G_end ?_
  refine R_ret ?_
  obtain ⟨rfl, rfl⟩ := inj2 hm
  exact ⟨trivial, fin_pure (by kernel_rfl)⟩
end Go.Proofs.Tryd
namespace Go.Proofs.Tryd
open Go Go.Pm
set_option linter.unusedVariables false
set_option maxHeartbeats 2000000
set_option maxRecDepth 2000
def m_simplify_simplified_L2 (x : ((List T_api_Tree) × Int × Int × Int × ByteArray × (List Int) × (List T_api_Tree) × Int)) : Option ((Int × Int × Int × ByteArray × (List Int) × (List T_api_Tree) × Int × Int × Int × ByteArray × (List Int) × (List T_api_Tree) × Int)) :=
  match x with
  | (v602, v807, v808, v809, v810, v811, v812, v813) =>
  m_simplify_once (⟨v807, v808, v809, v810, v811, v812⟩ : T_api_Tree) >>= fun ((v1220, v1221) : (T_api_Tree × Int)) =>
  if v1221 = 0 then
    some (v807, v808, v809, v810, v811, v812, v1220.kind, v1220.fn, v1220.axis, v1220.name, v1220.nums, v1220.kids, v813)
  else
  m_simplify_simplified_L2 (v602, v1220.kind, v1220.fn, v1220.axis, v1220.name, v1220.nums, v1220.kids, (W (v813 + 1)))
  partial_fixpoint
def P_simplify_simplified_L2 : ((List T_api_Tree) × Int × Int × Int × ByteArray × (List Int) × (List T_api_Tree) × Int) → (Int × Int × Int × ByteArray × (List Int) × (List T_api_Tree) × Int × Int × Int × ByteArray × (List Int) × (List T_api_Tree) × Int) → Prop := fun x r => match x with
  | (v602, v807, v808, v809, v810, v811, v812, v813) => ∀ st, prune 3 ((firstRegion (codeAt [1, 0, 1, 1, 1, 1, 1, 0, 0, 0] (bodyOf f14))).bind (env.hint 14).keepAt) st = ⟨kp 46 [(1, (.ptr 0 0)), (2, (.ptr 1 0)), (4, (intPV v813))], [(.box [(intPV v807), (intPV v808), (intPV v809), (.dat (strD v810)), (.dat (.lst ((List.map intD) v811))), (.dat (.lst (T_api_Tree.toDs v812)))]), (.box [(intPV 0), (intPV 0), (intPV 0), (.dat (strD ByteArray.empty)), (.dat (.lst ((List.map intD) []))), (.dat (.lst (T_api_Tree.toDs [])))]), (.tok 25 v602.length)]⟩ →
    RL prog env (env.hint 14) true (codeAt [1, 0, 1, 1, 1, 1, 1, 0, 0, 0] (bodyOf f14)) 3 st (fun e s => match r with | (v1207, v1208, v1209, v1210, v1211, v1212, v1213, v1214, v1215, v1216, v1217, v1218, v1219) => e = .exit 2 ∧ ∃ d, s = ⟨sl d 46 [(1, (.ptr 0 0)), (2, (.ptr 1 0)), (4, (intPV v1219))], [(.box [(intPV v1207), (intPV v1208), (intPV v1209), (.dat (strD v1210)), (.dat (.lst ((List.map intD) v1211))), (.dat (.lst (T_api_Tree.toDs v1212)))]), (.box [(intPV 0), (intPV 0), (intPV 0), (.dat (strD ByteArray.empty)), (.dat (.lst ((List.map intD) []))), (.dat (.lst (T_api_Tree.toDs [])))]), (.tok 25 v602.length), (.box [(intPV v1213), (intPV v1214), (intPV v1215), (.dat (strD v1216)), (.dat (.lst ((List.map intD) v1217))), (.dat (.lst (T_api_Tree.toDs v1218)))])]⟩)
theorem w_simplify_simplified_L2 : ∀ x r, m_simplify_simplified_L2 x = some r → P_simplify_simplified_L2 x r := by
  refine m_simplify_simplified_L2.partial_correctness _ (fun m_simplify_simplified_L2 w_simplify_simplified_L2 x r hm => ?_)
  unfold P_simplify_simplified_L2
  obtain ⟨v602, v807, v808, v809, v810, v811, v812, v813⟩ := x
  intro st hst
  refine RL_at hst ?_
  clear hst
  refine R_block ?_
  refine R_seq ?_
  refine R_G ?_
  refine G_run 1 ?_
  obtain ⟨⟨v1220, v1221⟩, hx, hm⟩ := bind_inv hm
  have hq := w_simplify_once _ _ hx []
  refine G_callP hq ?_
  refine G_run 6 ?_
  refine G_end ?_
  refine R_seq ?_
  refine R_seq ?_
  refine R_G ?_
  refine G_run 2 ?_
  refine G_end ?_
  refine R_ifp (p := v1221 = 0) (eq_dec _ _) (fun hc => ?_) (fun hc => ?_)
  · replace hm := pos_inv hc hm
    refine R_exit ?_
    obtain rfl := inj1 hm
    exact ⟨rfl, cut_leaf (by kernel_rfl)⟩
  replace hm := neg_inv hc hm
  refine R_skip ?_
  refine R_G ?_
  refine G_run 5 ?_
  refine G_end ?_
  exact w_simplify_simplified_L2 _ _ hm _ (by kernel_rfl)
mutual
def m_simplify_simplified_L1 (x : (T_api_Tree × Int × (List T_api_Tree) × Int)) : Option ((Int × (List T_api_Tree))) :=
  match x with
  | (p0, v201, v202, v203) =>
  if v203 < (p0.kids.length : Int) then
    idx p0.kids v203 >>= fun v603 =>
    m_simplify_simplified v603 >>= fun ((v604, v605) : (T_api_Tree × Int)) =>
    app 88 v202 ([v604] : List T_api_Tree) >>= fun v606 =>
    m_simplify_simplified_L1 (p0, (W (v201 + v605)), v606, (W (v203 + 1)))
  else
  some (v201, v202)
  partial_fixpoint
def m_simplify_simplified (x : T_api_Tree) : Option (T_api_Tree × Int) :=
  match x with
  | p0 =>
  m_simplify_simplified_L1 (p0, 0, ([] : List T_api_Tree), 0) >>= fun ((v601, v602) : (Int × (List T_api_Tree))) =>
  m_simplify_simplified_L2 (v602, p0.kind, p0.fn, p0.axis, p0.name, p0.nums, v602, v601) >>= fun ((v1207, v1208, v1209, v1210, v1211, v1212, v1213, v1214, v1215, v1216, v1217, v1218, v1219) : (Int × Int × Int × ByteArray × (List Int) × (List T_api_Tree) × Int × Int × Int × ByteArray × (List Int) × (List T_api_Tree) × Int)) =>
  some ((⟨v1207, v1208, v1209, v1210, v1211, v1212⟩ : T_api_Tree), v1219)
  partial_fixpoint
end
def P_simplify_simplified_L1 : (T_api_Tree × Int × (List T_api_Tree) × Int) → (Int × (List T_api_Tree)) → Prop := fun x r => match x with
  | (p0, v201, v202, v203) => ∀ st, prune 3 ((firstRegion (codeAt [1, 0, 1, 1, 0, 1, 0, 0] (bodyOf f14))).bind (env.hint 14).keepAt) st = ⟨kp 46 [(1, (.ptr 0 0)), (2, (.ptr 1 0)), (4, (intPV v201)), (5, (.vec 2 (T_api_Tree.toDs v202))), (13, (.dat (.lst (T_api_Tree.toDs p0.kids)))), (14, (intPV (p0.kids.length : Int))), (15, (intPV v203))], [(.box [(intPV p0.kind), (intPV p0.fn), (intPV p0.axis), (.dat (strD p0.name)), (.dat (.lst ((List.map intD) p0.nums))), (.dat (.lst (T_api_Tree.toDs p0.kids)))]), (.box [(intPV 0), (intPV 0), (intPV 0), (.dat (strD ByteArray.empty)), (.dat (.lst ((List.map intD) []))), (.dat (.lst (T_api_Tree.toDs [])))]), (.tok 25 v202.length)]⟩ →
    RL prog env (env.hint 14) true (codeAt [1, 0, 1, 1, 0, 1, 0, 0] (bodyOf f14)) 3 st (fun e s => match r with | (v601, v602) => e = .exit 0 ∧ ∃ d, s = ⟨sl d 46 [(1, (.ptr 0 0)), (2, (.ptr 1 0)), (4, (intPV v601)), (5, (.vec 2 (T_api_Tree.toDs v602)))], [(.box [(intPV p0.kind), (intPV p0.fn), (intPV p0.axis), (.dat (strD p0.name)), (.dat (.lst ((List.map intD) p0.nums))), (.dat (.lst (T_api_Tree.toDs p0.kids)))]), (.box [(intPV 0), (intPV 0), (intPV 0), (.dat (strD ByteArray.empty)), (.dat (.lst ((List.map intD) []))), (.dat (.lst (T_api_Tree.toDs [])))]), (.tok 25 v602.length)]⟩)
def P_simplify_simplified : T_api_Tree → (T_api_Tree × Int) → Prop := fun x r => match x, r with
  | p0, (r0, r1) => ∀ H, PC prog env 14 ([(T_api_Tree.ex p0)].map .dat) H (.tup [(.dat (T_api_Tree.ex r0)), (intPV r1)]) H
theorem g_simplify_simplified_L1 : (∀ x r, m_simplify_simplified_L1 x = some r → P_simplify_simplified_L1 x r) ∧ (∀ x r, m_simplify_simplified x = some r → P_simplify_simplified x r) := by
  refine m_simplify_simplified_L1.mutual_partial_correctness P_simplify_simplified_L1 P_simplify_simplified ?_ ?_
  · intro m_simplify_simplified_L1 m_simplify_simplified w_simplify_simplified_L1 w_simplify_simplified x r hm
    unfold P_simplify_simplified_L1
    obtain ⟨p0, v201, v202, v203⟩ := x
    intro st hst
    refine RL_at hst ?_
    clear hst
    refine R_seq ?_
    refine R_G ?_
    refine G_run 1 ?_
    refine G_end ?_
    refine R_seq ?_
    refine R_ifp (p := v203 < (p0.kids.length : Int)) (rfl) (fun hc => ?_) (fun hc => ?_)
    · replace hm := pos_inv hc hm
      refine R_skip ?_
      refine R_seq ?_
      refine R_block ?_
      refine R_seq ?_
      refine R_G ?_
      obtain ⟨v603, hx, hm⟩ := bind_inv hm
      refine I_idx 6 T_api_Tree.toD p0.kids v203 v603 (es := T_api_Tree.toDs p0.kids) (d := (T_api_Tree.ex v603)) (T_api_Tree.toDs_eq _) hx (T_api_Tree.toD_eq v603) rfl ?_
      refine G_run 3 ?_
      refine G_end ?_
      refine R_seq ?_
      refine R_G ?_
      refine G_run 1 ?_
      obtain ⟨⟨v604, v605⟩, hx, hm⟩ := bind_inv hm
      have hq := w_simplify_simplified _ _ hx []
      refine G_callP hq ?_
      refine G_run 6 ?_
      refine G_end ?_
      refine R_seq ?_
      refine R_G ?_
      refine G_run 3 ?_
      obtain ⟨v606, hx, hm⟩ := bind_inv hm
      refine I_app 25 6 88 2 T_api_Tree.toD v202 ([v604] : List T_api_Tree) v606 (xs := T_api_Tree.toDs v202) (es := [(T_api_Tree.ex v604)]) (L := T_api_Tree.toDs) T_api_Tree.toDs_eq rfl (by simp only [T_api_Tree.toDs, T_api_Tree.toD_eq]) T_api_Tree.fit hx ?_
      refine G_run 1 ?_
      refine G_end ?_
      refine R_G ?_
      refine G_run 4 ?_
      refine G_end ?_
      refine R_G ?_
      refine G_run 2 ?_
      refine G_end ?_
      exact w_simplify_simplified_L1 _ _ hm _ (by kernel_rfl)
    replace hm := neg_inv hc hm
    refine R_exit ?_
    obtain rfl := inj1 hm
    exact ⟨rfl, cut_leaf (by kernel_rfl)⟩
  · intro m_simplify_simplified_L1 w_simplify_simplified_L1 p0 r hm
    unfold P_simplify_simplified
    obtain ⟨r0, r1⟩ := r
    intro H
    refine PC_sx (ds := [(T_api_Tree.ex p0)]) (fn := f14) (by kernel_rfl) (by kernel_rfl) rfl ?_ (by kernel_rfl)
    refine R_seq ?_
    refine R_G ?_
    refine G_run 3 ?_
    refine G_end ?_
    refine R_scope ?_
    refine R_seq ?_
    refine R_G ?_
    refine G_run 1 ?_
    refine G_end ?_
    refine R_seq ?_
    refine R_G ?_
    refine G_run 1 ?_
    refine G_end ?_
    refine R_seq ?_
    refine R_seq ?_
    refine R_G ?_
    refine G_run 2 ?_
    refine I_len T_api_Tree.toD p0.kids (es := T_api_Tree.toDs p0.kids) (T_api_Tree.toDs_eq _) ?_
    refine G_run 1 ?_
    refine G_end ?_
    refine R_block ?_
    obtain ⟨⟨v601, v602⟩, hs, hm⟩ := bind_inv hm
    refine R_loop ?_
    refine RL_use (w_simplify_simplified_L1 _ _ hs) (by kernel_rfl) ?_
    clear hs
    intro e s hp
    obtain ⟨rfl, d, rfl⟩ := hp
    refine R_seq ?_
    refine R_G ?_
    refine G_run 3 ?_
    refine G_end ?_
    refine R_seq ?_
    refine R_label ?_
    refine R_seq ?_
    refine R_block ?_
    obtain ⟨⟨v1207, v1208, v1209, v1210, v1211, v1212, v1213, v1214, v1215, v1216, v1217, v1218, v1219⟩, hs, hm⟩ := bind_inv hm
    refine R_loop ?_
    refine RL_use (w_simplify_simplified_L2 _ _ hs) (by kernel_rfl) ?_
    clear hs
    intro e s hp
    obtain ⟨rfl, d, rfl⟩ := hp
    refine R_seq ?_
    refine R_G ?_
    refine G_run 4 ?_
    refine G_end ?_
    refine R_ret ?_
    obtain ⟨rfl, rfl⟩ := inj2 hm
    exact ⟨trivial, fin_pure (by kernel_rfl)⟩
theorem w_simplify_simplified_L1 : ∀ x r, m_simplify_simplified_L1 x = some r → P_simplify_simplified_L1 x r := g_simplify_simplified_L1.1
theorem w_simplify_simplified : ∀ x r, m_simplify_simplified x = some r → P_simplify_simplified x r := g_simplify_simplified_L1.2
end Go.Proofs.Tryd
namespace Go.Proofs.Tryd
open Go Go.Pm
set_option linter.unusedVariables false
set_option maxHeartbeats 2000000
set_option maxRecDepth 2000
def m_simplify_Simplify (x : T_api_Tree) : Option T_api_Tree :=
  match x with
  | p0 =>
  m_simplify_simplified p0 >>= fun ((v1, v2) : (T_api_Tree × Int)) =>
  m_tree_Copy v1 >>= fun (v3 : T_api_Tree) =>
  some v3
def P_simplify_Simplify : T_api_Tree → T_api_Tree → Prop := fun x r => match x, r with
  | p0, r0 => ∀ H, PC prog env 6 ([(T_api_Tree.ex p0)].map .dat) H (.dat (T_api_Tree.ex r0)) H
theorem w_simplify_Simplify : ∀ x r, m_simplify_Simplify x = some r → P_simplify_Simplify x r := by
  intro p0 r0 hm
  unfold m_simplify_Simplify at hm
  unfold P_simplify_Simplify
  intro H
  refine PC_sx (ds := [(T_api_Tree.ex p0)]) (fn := f6) (by kernel_rfl) (by kernel_rfl) rfl ?_ (by kernel_rfl)
  refine R_seq ?_
  refine R_G ?_
  refine G_run 2 ?_
  refine G_end ?_
  refine R_seq ?_
  refine R_G ?_
  refine G_run 1 ?_
  obtain ⟨⟨v1, v2⟩, hx, hm⟩ := bind_inv hm
  have hq := w_simplify_simplified _ _ hx []
  refine G_callP hq ?_
  refine G_run 6 ?_
  refine G_end ?_
  refine R_seq ?_
  refine R_G ?_
  refine G_run 1 ?_
  obtain ⟨v3, hx, hm⟩ := bind_inv hm
  have hq := w_tree_Copy _ _ hx []
  refine G_callP hq ?_
  refine G_run 1 ?_
  refine G_end ?_
  refine R_ret ?_
  obtain rfl := inj1 hm
  exact ⟨trivial, fin_pure (by kernel_rfl)⟩
end Go.Proofs.Tryd
namespace Go.Proofs.Tryd
open Go Go.Pm
set_option linter.unusedVariables false
set_option maxHeartbeats 2000000
set_option maxRecDepth 2000
def m_ref08_Same_L1 (x : (T_api_Tree × T_api_Tree × Int)) : Option (Unit ⊕ Unit) :=
  match x with
  | (p0, p1, v206) =>
  if v206 < (p0.nums.length : Int) then
    idx p0.nums v206 >>= fun v606 =>
    idx p1.nums v206 >>= fun v607 =>
    if v606 ≠ v607 then
      some (Sum.inl ())
    else
    m_ref08_Same_L1 (p0, p1, (W (v206 + 1)))
  else
  some (Sum.inr ())
  partial_fixpoint
def P_ref08_Same_L1 : (T_api_Tree × T_api_Tree × Int) → (Unit ⊕ Unit) → Prop := fun x r => match x with
  | (p0, p1, v206) => ∀ st, prune 2 ((firstRegion (codeAt [1, 1, 0, 1, 0, 0] (bodyOf f9))).bind (env.hint 9).keepAt) st = ⟨kp 88 [(2, (.ptr 0 0)), (3, (.ptr 1 0)), (5, (intPV v206))], [(.box [(intPV p0.kind), (intPV p0.fn), (intPV p0.axis), (.dat (strD p0.name)), (.dat (.lst ((List.map intD) p0.nums))), (.dat (.lst (T_api_Tree.toDs p0.kids)))]), (.box [(intPV p1.kind), (intPV p1.fn), (intPV p1.axis), (.dat (strD p1.name)), (.dat (.lst ((List.map intD) p1.nums))), (.dat (.lst (T_api_Tree.toDs p1.kids)))])]⟩ →
    RL prog env (env.hint 9) true (codeAt [1, 1, 0, 1, 0, 0] (bodyOf f9)) 2 st (fun e s => match r with | .inl _ => e = .ret ∧ ∃ d, s = ⟨sl d 88 [(4, (boolPV false))], [(.box [(intPV p0.kind), (intPV p0.fn), (intPV p0.axis), (.dat (strD p0.name)), (.dat (.lst ((List.map intD) p0.nums))), (.dat (.lst (T_api_Tree.toDs p0.kids)))]), (.box [(intPV p1.kind), (intPV p1.fn), (intPV p1.axis), (.dat (strD p1.name)), (.dat (.lst ((List.map intD) p1.nums))), (.dat (.lst (T_api_Tree.toDs p1.kids)))])]⟩ | .inr (_) => e = .exit 0 ∧ ∃ d, s = ⟨sl d 88 [(2, (.ptr 0 0)), (3, (.ptr 1 0))], [(.box [(intPV p0.kind), (intPV p0.fn), (intPV p0.axis), (.dat (strD p0.name)), (.dat (.lst ((List.map intD) p0.nums))), (.dat (.lst (T_api_Tree.toDs p0.kids)))]), (.box [(intPV p1.kind), (intPV p1.fn), (intPV p1.axis), (.dat (strD p1.name)), (.dat (.lst ((List.map intD) p1.nums))), (.dat (.lst (T_api_Tree.toDs p1.kids)))])]⟩)
theorem w_ref08_Same_L1 : ∀ x r, m_ref08_Same_L1 x = some r → P_ref08_Same_L1 x r := by
  refine m_ref08_Same_L1.partial_correctness _ (fun m_ref08_Same_L1 w_ref08_Same_L1 x r hm => ?_)
  unfold P_ref08_Same_L1
  obtain ⟨p0, p1, v206⟩ := x
  intro st hst
  refine RL_at hst ?_
  clear hst
  refine R_seq ?_
  refine R_seq ?_
  refine R_G ?_
  refine G_run 3 ?_
  refine I_len intD p0.nums (es := (List.map intD) p0.nums) rfl ?_
  refine G_run 1 ?_
  refine G_end ?_
  refine R_ifp (p := v206 < (p0.nums.length : Int)) (rfl) (fun hc => ?_) (fun hc => ?_)
  · replace hm := pos_inv hc hm
    refine R_skip ?_
    refine R_seq ?_
    refine R_block ?_
    refine R_seq ?_
    refine R_GD ?_
    refine G_run 3 ?_
    obtain ⟨v606, hx, hm⟩ := bind_inv hm
    refine I_idx 1 intD p0.nums v206 v606 (es := (List.map intD) p0.nums) (d := (intD v606)) rfl hx rfl rfl ?_
    refine G_run 4 ?_
    obtain ⟨v607, hx, hm⟩ := bind_inv hm
    refine I_idx 1 intD p1.nums v206 v607 (es := (List.map intD) p1.nums) (d := (intD v607)) rfl hx rfl rfl ?_
    refine G_run 2 ?_
    refine G_end ⟨by kernel_rfl, ?_⟩
    refine R_ifp (p := v606 ≠ v607) (ne_dec _ _) (fun hc => ?_) (fun hc => ?_)
    · replace hm := pos_inv hc hm
      refine R_seq ?_
      refine R_G ?_
      refine G_run 1 ?_
      refine G_end ?_
      refine R_ret ?_
      obtain rfl := inj1 hm
      exact ⟨rfl, cut_leaf (by kernel_rfl)⟩
    replace hm := neg_inv hc hm
    refine R_skip ?_
    refine R_G ?_
    refine G_run 3 ?_
    refine G_end ?_
    exact w_ref08_Same_L1 _ _ hm _ (by kernel_rfl)
  replace hm := neg_inv hc hm
  refine R_exit ?_
  obtain rfl := inj1 hm
  exact ⟨rfl, cut_leaf (by kernel_rfl)⟩
mutual
def m_ref08_Same_L2 (x : (T_api_Tree × T_api_Tree × Int)) : Option (Unit ⊕ Unit) :=
  match x with
  | (p0, p1, v808) =>
  if v808 < (p0.kids.length : Int) then
    idx p0.kids v808 >>= fun v1208 =>
    idx p1.kids v808 >>= fun v1209 =>
    m_ref08_Same (v1208, v1209) >>= fun (v1210 : Bool) =>
    if v1210 = false then
      some (Sum.inl ())
    else
    m_ref08_Same_L2 (p0, p1, (W (v808 + 1)))
  else
  some (Sum.inr ())
  partial_fixpoint
def m_ref08_Same (x : (T_api_Tree × T_api_Tree)) : Option Bool :=
  match x with
  | (p0, p1) =>
  ((if p0.kind ≠ p1.kind then
    some true
  else
  some (p0.fn != p1.fn)
  ) >>= fun (v2 : Bool) =>
  (if v2 = true then
    some true
  else
  some (p0.axis != p1.axis)
  ) >>= fun (v3 : Bool) =>
  (if v3 = true then
    some true
  else
  some (decide (p0.name ≠ p1.name))
  ) >>= fun (v4 : Bool) =>
  (if v4 = true then
    some true
  else
  some ((p0.nums.length : Int) != (p1.nums.length : Int))
  ) >>= fun (v5 : Bool) =>
  if v5 = true then
    some true
  else
  some ((p0.kids.length : Int) != (p1.kids.length : Int))
  ) >>= fun (v1 : Bool) =>
  if v1 = true then
    some false
  else
  (
  m_ref08_Same_L1 (p0, p1, 0) >>= fun (out : Unit ⊕ Unit) =>
  match out with
  | .inl _ =>
    some false
  | .inr (_) =>
    (
    m_ref08_Same_L2 (p0, p1, 0) >>= fun (out : Unit ⊕ Unit) =>
    match out with
    | .inl _ =>
      some false
    | .inr (_) =>
      some true
    )
  )
  partial_fixpoint
end
def P_ref08_Same_L2 : (T_api_Tree × T_api_Tree × Int) → (Unit ⊕ Unit) → Prop := fun x r => match x with
  | (p0, p1, v808) => ∀ st, prune 2 ((firstRegion (codeAt [1, 1, 1, 0, 1, 0, 0] (bodyOf f9))).bind (env.hint 9).keepAt) st = ⟨kp 88 [(2, (.ptr 0 0)), (3, (.ptr 1 0)), (6, (intPV v808))], [(.box [(intPV p0.kind), (intPV p0.fn), (intPV p0.axis), (.dat (strD p0.name)), (.dat (.lst ((List.map intD) p0.nums))), (.dat (.lst (T_api_Tree.toDs p0.kids)))]), (.box [(intPV p1.kind), (intPV p1.fn), (intPV p1.axis), (.dat (strD p1.name)), (.dat (.lst ((List.map intD) p1.nums))), (.dat (.lst (T_api_Tree.toDs p1.kids)))])]⟩ →
    RL prog env (env.hint 9) true (codeAt [1, 1, 1, 0, 1, 0, 0] (bodyOf f9)) 2 st (fun e s => match r with | .inl _ => e = .ret ∧ ∃ d, s = ⟨sl d 88 [(4, (boolPV false))], [(.box [(intPV p0.kind), (intPV p0.fn), (intPV p0.axis), (.dat (strD p0.name)), (.dat (.lst ((List.map intD) p0.nums))), (.dat (.lst (T_api_Tree.toDs p0.kids)))]), (.box [(intPV p1.kind), (intPV p1.fn), (intPV p1.axis), (.dat (strD p1.name)), (.dat (.lst ((List.map intD) p1.nums))), (.dat (.lst (T_api_Tree.toDs p1.kids)))])]⟩ | .inr (_) => e = .exit 2 ∧ ∃ d, s = ⟨sl d 88 [], [(.box [(intPV p0.kind), (intPV p0.fn), (intPV p0.axis), (.dat (strD p0.name)), (.dat (.lst ((List.map intD) p0.nums))), (.dat (.lst (T_api_Tree.toDs p0.kids)))]), (.box [(intPV p1.kind), (intPV p1.fn), (intPV p1.axis), (.dat (strD p1.name)), (.dat (.lst ((List.map intD) p1.nums))), (.dat (.lst (T_api_Tree.toDs p1.kids)))])]⟩)
def P_ref08_Same : (T_api_Tree × T_api_Tree) → Bool → Prop := fun x r => match x, r with
  | (p0, p1), r0 => ∀ H, PC prog env 9 ([(T_api_Tree.ex p0), (T_api_Tree.ex p1)].map .dat) H (boolPV r0) H
theorem g_ref08_Same_L2 : (∀ x r, m_ref08_Same_L2 x = some r → P_ref08_Same_L2 x r) ∧ (∀ x r, m_ref08_Same x = some r → P_ref08_Same x r) := by
  refine m_ref08_Same_L2.mutual_partial_correctness P_ref08_Same_L2 P_ref08_Same ?_ ?_
  · intro m_ref08_Same_L2 m_ref08_Same w_ref08_Same_L2 w_ref08_Same x r hm
    unfold P_ref08_Same_L2
    obtain ⟨p0, p1, v808⟩ := x
    intro st hst
    refine RL_at hst ?_
    clear hst
    refine R_seq ?_
    refine R_seq ?_
    refine R_G ?_
    refine G_run 3 ?_
    refine I_len T_api_Tree.toD p0.kids (es := T_api_Tree.toDs p0.kids) (T_api_Tree.toDs_eq _) ?_
    refine G_run 1 ?_
    refine G_end ?_
    refine R_ifp (p := v808 < (p0.kids.length : Int)) (rfl) (fun hc => ?_) (fun hc => ?_)
    · replace hm := pos_inv hc hm
      refine R_skip ?_
      refine R_seq ?_
      refine R_block ?_
      refine R_seq ?_
      refine R_GD ?_
      refine G_run 3 ?_
      obtain ⟨v1208, hx, hm⟩ := bind_inv hm
      refine I_idx 6 T_api_Tree.toD p0.kids v808 v1208 (es := T_api_Tree.toDs p0.kids) (d := (T_api_Tree.ex v1208)) (T_api_Tree.toDs_eq _) hx (T_api_Tree.toD_eq v1208) rfl ?_
      refine G_run 4 ?_
      obtain ⟨v1209, hx, hm⟩ := bind_inv hm
      refine I_idx 6 T_api_Tree.toD p1.kids v808 v1209 (es := T_api_Tree.toDs p1.kids) (d := (T_api_Tree.ex v1209)) (T_api_Tree.toDs_eq _) hx (T_api_Tree.toD_eq v1209) rfl ?_
      refine G_run 1 ?_
      obtain ⟨v1210, hx, hm⟩ := bind_inv hm
      have hq := w_ref08_Same _ _ hx []
      refine G_callP hq ?_
      refine G_run 1 ?_
      refine G_end ⟨by kernel_rfl, ?_⟩
      refine R_ifp (p := v1210 = false) (not_dec _) (fun hc => ?_) (fun hc => ?_)
      · replace hm := pos_inv hc hm
        refine R_seq ?_
        refine R_G ?_
        refine G_run 1 ?_
        refine G_end ?_
        refine R_ret ?_
        obtain rfl := inj1 hm
        exact ⟨rfl, cut_leaf (by kernel_rfl)⟩
      replace hm := neg_inv hc hm
      refine R_skip ?_
      refine R_G ?_
      refine G_run 3 ?_
      refine G_end ?_
      exact w_ref08_Same_L2 _ _ hm _ (by kernel_rfl)
    replace hm := neg_inv hc hm
    refine R_exit ?_
    obtain rfl := inj1 hm
    exact ⟨rfl, cut_leaf (by kernel_rfl)⟩
  · intro m_ref08_Same_L2 w_ref08_Same_L2 x r0 hm
    unfold P_ref08_Same
    obtain ⟨p0, p1⟩ := x
    intro H
    refine PC_sx (ds := [(T_api_Tree.ex p0), (T_api_Tree.ex p1)]) (fn := f9) (by kernel_rfl) (by kernel_rfl) rfl ?_ (by kernel_rfl)
    refine R_seq ?_
    refine R_G ?_
    refine G_run 3 ?_
    refine G_end ?_
    refine R_seq ?_
    refine R_seq ?_
    obtain ⟨v1, hs, hm⟩ := bind_inv hm
    refine R_cut (fun d => ⟨sl d 88 [(2, (.ptr 0 0)), (3, (.ptr 1 0)), (50, (boolPV v1))], [(.box [(intPV p0.kind), (intPV p0.fn), (intPV p0.axis), (.dat (strD p0.name)), (.dat (.lst ((List.map intD) p0.nums))), (.dat (.lst (T_api_Tree.toDs p0.kids)))]), (.box [(intPV p1.kind), (intPV p1.fn), (intPV p1.axis), (.dat (strD p1.name)), (.dat (.lst ((List.map intD) p1.nums))), (.dat (.lst (T_api_Tree.toDs p1.kids)))])]⟩) ?_ (fun d => ?_)
    · replace hm := hs
      clear hs
      refine R_GN ?_
      refine G_run 6 ?_
      obtain ⟨v2, hs, hm⟩ := bind_inv hm
      refine G_cut (j := 12) (fun d => ⟨sl d 88 [(0, (.dat (.agg [(intD p0.kind), (intD p0.fn), (intD p0.axis), (strD p0.name), (.lst ((List.map intD) p0.nums)), (.lst (T_api_Tree.toDs p0.kids))]))), (1, (.dat (.agg [(intD p1.kind), (intD p1.fn), (intD p1.axis), (strD p1.name), (.lst ((List.map intD) p1.nums)), (.lst (T_api_Tree.toDs p1.kids))]))), (2, (.ptr 0 0)), (3, (.ptr 1 0)), (4, (boolPV false)), (7, (.ptr 0 0)), (8, (intPV p0.kind)), (9, (.ptr 1 0)), (10, (intPV p1.kind)), (11, (boolPV (p0.kind != p1.kind))), (18, (boolPV v2))], [(.box [(intPV p0.kind), (intPV p0.fn), (intPV p0.axis), (.dat (strD p0.name)), (.dat (.lst ((List.map intD) p0.nums))), (.dat (.lst (T_api_Tree.toDs p0.kids)))]), (.box [(intPV p1.kind), (intPV p1.fn), (intPV p1.axis), (.dat (strD p1.name)), (.dat (.lst ((List.map intD) p1.nums))), (.dat (.lst (T_api_Tree.toDs p1.kids)))])]⟩) (fun d => ?_) (fun hJ => ?_)
      · clear hs
        refine G_run 1 ?_
        obtain ⟨v3, hs, hm⟩ := bind_inv hm
        refine G_cut (j := 19) (fun d => ⟨sl d 88 [(0, (.dat (.agg [(intD p0.kind), (intD p0.fn), (intD p0.axis), (strD p0.name), (.lst ((List.map intD) p0.nums)), (.lst (T_api_Tree.toDs p0.kids))]))), (1, (.dat (.agg [(intD p1.kind), (intD p1.fn), (intD p1.axis), (strD p1.name), (.lst ((List.map intD) p1.nums)), (.lst (T_api_Tree.toDs p1.kids))]))), (2, (.ptr 0 0)), (3, (.ptr 1 0)), (4, (boolPV false)), (7, (.ptr 0 0)), (8, (intPV p0.kind)), (9, (.ptr 1 0)), (10, (intPV p1.kind)), (11, (boolPV (p0.kind != p1.kind))), (18, (boolPV v2)), (25, (boolPV v3))], [(.box [(intPV p0.kind), (intPV p0.fn), (intPV p0.axis), (.dat (strD p0.name)), (.dat (.lst ((List.map intD) p0.nums))), (.dat (.lst (T_api_Tree.toDs p0.kids)))]), (.box [(intPV p1.kind), (intPV p1.fn), (intPV p1.axis), (.dat (strD p1.name)), (.dat (.lst ((List.map intD) p1.nums))), (.dat (.lst (T_api_Tree.toDs p1.kids)))])]⟩) (fun d => ?_) (fun hJ => ?_)
        · clear hs
          refine G_run 1 ?_
          obtain ⟨v4, hs, hm⟩ := bind_inv hm
          refine G_cut (j := 26) (fun d => ⟨sl d 88 [(0, (.dat (.agg [(intD p0.kind), (intD p0.fn), (intD p0.axis), (strD p0.name), (.lst ((List.map intD) p0.nums)), (.lst (T_api_Tree.toDs p0.kids))]))), (1, (.dat (.agg [(intD p1.kind), (intD p1.fn), (intD p1.axis), (strD p1.name), (.lst ((List.map intD) p1.nums)), (.lst (T_api_Tree.toDs p1.kids))]))), (2, (.ptr 0 0)), (3, (.ptr 1 0)), (4, (boolPV false)), (7, (.ptr 0 0)), (8, (intPV p0.kind)), (9, (.ptr 1 0)), (10, (intPV p1.kind)), (11, (boolPV (p0.kind != p1.kind))), (18, (boolPV v2)), (25, (boolPV v3)), (32, (boolPV v4))], [(.box [(intPV p0.kind), (intPV p0.fn), (intPV p0.axis), (.dat (strD p0.name)), (.dat (.lst ((List.map intD) p0.nums))), (.dat (.lst (T_api_Tree.toDs p0.kids)))]), (.box [(intPV p1.kind), (intPV p1.fn), (intPV p1.axis), (.dat (strD p1.name)), (.dat (.lst ((List.map intD) p1.nums))), (.dat (.lst (T_api_Tree.toDs p1.kids)))])]⟩) (fun d => ?_) (fun hJ => ?_)
          · clear hs
            refine G_run 1 ?_
            obtain ⟨v5, hs, hm⟩ := bind_inv hm
            refine G_cut (j := 35) (fun d => ⟨sl d 88 [(0, (.dat (.agg [(intD p0.kind), (intD p0.fn), (intD p0.axis), (strD p0.name), (.lst ((List.map intD) p0.nums)), (.lst (T_api_Tree.toDs p0.kids))]))), (1, (.dat (.agg [(intD p1.kind), (intD p1.fn), (intD p1.axis), (strD p1.name), (.lst ((List.map intD) p1.nums)), (.lst (T_api_Tree.toDs p1.kids))]))), (2, (.ptr 0 0)), (3, (.ptr 1 0)), (4, (boolPV false)), (7, (.ptr 0 0)), (8, (intPV p0.kind)), (9, (.ptr 1 0)), (10, (intPV p1.kind)), (11, (boolPV (p0.kind != p1.kind))), (18, (boolPV v2)), (25, (boolPV v3)), (32, (boolPV v4)), (41, (boolPV v5))], [(.box [(intPV p0.kind), (intPV p0.fn), (intPV p0.axis), (.dat (strD p0.name)), (.dat (.lst ((List.map intD) p0.nums))), (.dat (.lst (T_api_Tree.toDs p0.kids)))]), (.box [(intPV p1.kind), (intPV p1.fn), (intPV p1.axis), (.dat (strD p1.name)), (.dat (.lst ((List.map intD) p1.nums))), (.dat (.lst (T_api_Tree.toDs p1.kids)))])]⟩) (fun d => ?_) (fun hJ => ?_)
            · clear hs
              refine G_run 1 ?_
              refine G_split (p := v5 = true) 42 (bool_dec _) (fun hc => ?_) (fun hc => ?_)
              · replace hm := pos_inv hc hm
                refine G_run 8 ?_
                refine G_end ⟨by kernel_rfl, ?_⟩
                obtain rfl := inj1 hm
                exact cut_leaf (by kernel_rfl)
              replace hm := neg_inv hc hm
              refine G_run 2 ?_
              refine I_len T_api_Tree.toD p0.kids (es := T_api_Tree.toDs p0.kids) (T_api_Tree.toDs_eq _) ?_
              refine G_run 2 ?_
              refine I_len T_api_Tree.toD p1.kids (es := T_api_Tree.toDs p1.kids) (T_api_Tree.toDs_eq _) ?_
              refine G_run 2 ?_
              refine G_end ⟨by kernel_rfl, ?_⟩
              obtain rfl := inj1 hm
              exact cut_leaf (by kernel_rfl)
            replace hm := hs
            clear hs
            refine G_split (p := v4 = true) 33 (bool_dec _) (fun hc => ?_) (fun hc => ?_)
            · replace hm := pos_inv hc hm
              refine G_run 8 ?_
              obtain rfl := inj1 hm
              exact hJ _ _ (by kernel_rfl) (by kernel_rfl)
            replace hm := neg_inv hc hm
            refine G_run 2 ?_
            refine I_len intD p0.nums (es := (List.map intD) p0.nums) rfl ?_
            refine G_run 2 ?_
            refine I_len intD p1.nums (es := (List.map intD) p1.nums) rfl ?_
            refine G_run 2 ?_
            obtain rfl := inj1 hm
            exact hJ _ _ (by kernel_rfl) (by kernel_rfl)
          replace hm := hs
          clear hs
          refine G_split (p := v3 = true) 26 (bool_dec _) (fun hc => ?_) (fun hc => ?_)
          · replace hm := pos_inv hc hm
            refine G_run 6 ?_
            obtain rfl := inj1 hm
            exact hJ _ _ (by kernel_rfl) (by kernel_rfl)
          replace hm := neg_inv hc hm
          refine G_run 4 ?_
          refine G_semN rfl (by kernel_rfl) (fun _ => E_neqStr (a := p0.name) (b := p1.name) rfl (by kernel_rfl) (by kernel_rfl)) ?_
          refine G_run 1 ?_
          obtain rfl := inj1 hm
          exact hJ _ _ (by kernel_rfl) (by kernel_rfl)
        replace hm := hs
        clear hs
        refine G_split (p := v2 = true) 19 (bool_dec _) (fun hc => ?_) (fun hc => ?_)
        · replace hm := pos_inv hc hm
          refine G_run 6 ?_
          obtain rfl := inj1 hm
          exact hJ _ _ (by kernel_rfl) (by kernel_rfl)
        replace hm := neg_inv hc hm
        refine G_run 6 ?_
        obtain rfl := inj1 hm
        exact hJ _ _ (by kernel_rfl) (by kernel_rfl)
      replace hm := hs
      clear hs
      refine G_split (p := p0.kind ≠ p1.kind) 12 (ne_dec _ _) (fun hc => ?_) (fun hc => ?_)
      · replace hm := pos_inv hc hm
        refine G_run 6 ?_
        obtain rfl := inj1 hm
        exact hJ _ _ (by kernel_rfl) (by kernel_rfl)
      replace hm := neg_inv hc hm
      refine G_run 6 ?_
      obtain rfl := inj1 hm
      exact hJ _ _ (by kernel_rfl) (by kernel_rfl)
    clear hs
    refine R_ifp (p := v1 = true) (bool_dec _) (fun hc => ?_) (fun hc => ?_)
    · replace hm := pos_inv hc hm
      refine R_seq ?_
      refine R_G ?_
      refine G_run 1 ?_
      refine G_end ?_
      refine R_ret ?_
      obtain rfl := inj1 hm
      exact ⟨trivial, fin_pure (by kernel_rfl)⟩
    replace hm := neg_inv hc hm
    refine R_skip ?_
    refine R_seq ?_
    refine R_seq ?_
    refine R_G ?_
    refine G_run 1 ?_
    refine G_end ?_
    refine R_block ?_
    obtain ⟨out, hs, hm⟩ := bind_inv hm
    refine R_loop ?_
    rcases out with _ | _
    · refine RL_use (w_ref08_Same_L1 _ _ hs) (by kernel_rfl) ?_
      clear hs
      intro e s hp
      obtain ⟨rfl, d, rfl⟩ := hp
      obtain rfl := inj1 hm
      exact ⟨trivial, fin_pure (by kernel_rfl)⟩
    · refine RL_use (w_ref08_Same_L1 _ _ hs) (by kernel_rfl) ?_
      clear hs
      intro e s hp
      obtain ⟨rfl, d, rfl⟩ := hp
      refine R_seq ?_
      refine R_seq ?_
      refine R_G ?_
      refine G_run 1 ?_
      refine G_end ?_
      refine R_block ?_
      obtain ⟨out, hs, hm⟩ := bind_inv hm
      refine R_loop ?_
      rcases out with _ | _
      · refine RL_use (w_ref08_Same_L2 _ _ hs) (by kernel_rfl) ?_
        clear hs
        intro e s hp
        obtain ⟨rfl, d, rfl⟩ := hp
        obtain rfl := inj1 hm
        exact ⟨trivial, fin_pure (by kernel_rfl)⟩
      · refine RL_use (w_ref08_Same_L2 _ _ hs) (by kernel_rfl) ?_
        clear hs
        intro e s hp
        obtain ⟨rfl, d, rfl⟩ := hp
        refine R_seq ?_
        refine R_G ?_
        refine G_run 1 ?_
        refine G_end ?_
        refine R_ret ?_
        obtain rfl := inj1 hm
        exact ⟨trivial, fin_pure (by kernel_rfl)⟩
theorem w_ref08_Same_L2 : ∀ x r, m_ref08_Same_L2 x = some r → P_ref08_Same_L2 x r := g_ref08_Same_L2.1
theorem w_ref08_Same : ∀ x r, m_ref08_Same x = some r → P_ref08_Same x r := g_ref08_Same_L2.2
end Go.Proofs.Tryd
namespace Go.Proofs.Tryd
open Go Go.Pm
set_option linter.unusedVariables false
set_option maxHeartbeats 2000000
set_option maxRecDepth 2000
def m_simplify_Count (x : T_api_Tree) : Option Int :=
  match x with
  | p0 =>
  m_simplify_simplified p0 >>= fun ((v1, v2) : (T_api_Tree × Int)) =>
  some v2
def P_simplify_Count : T_api_Tree → Int → Prop := fun x r => match x, r with
  | p0, r0 => ∀ H, PC prog env 13 ([(T_api_Tree.ex p0)].map .dat) H (intPV r0) H
theorem w_simplify_Count : ∀ x r, m_simplify_Count x = some r → P_simplify_Count x r := by
  intro p0 r0 hm
  unfold m_simplify_Count at hm
  unfold P_simplify_Count
  intro H
  refine PC_sx (ds := [(T_api_Tree.ex p0)]) (fn := f13) (by kernel_rfl) (by kernel_rfl) rfl ?_ (by kernel_rfl)
  refine R_seq ?_
  refine R_G ?_
  refine G_run 2 ?_
  refine G_end ?_
  refine R_seq ?_
  refine R_G ?_
  refine G_run 1 ?_
  obtain ⟨⟨v1, v2⟩, hx, hm⟩ := bind_inv hm
  have hq := w_simplify_simplified _ _ hx []
  refine G_callP hq ?_
  refine G_run 6 ?_
  refine G_end ?_
  refine R_seq ?_
  refine R_G ?_
  refine G_run 2 ?_
  refine G_end ?_
  refine R_ret ?_
  obtain rfl := inj1 hm
  exact ⟨trivial, fin_pure (by kernel_rfl)⟩
end Go.Proofs.Tryd
namespace Go.Proofs.Tryd
open Go Go.Pm
set_option linter.unusedVariables false
set_option maxHeartbeats 2000000
set_option maxRecDepth 2000
def m_law29_awake (x : Unit) : Option Bool :=
  match x with
  | _ =>
  m_ref09_Text (⟨#[226, 140, 189, 226, 140, 189, 50, 32, 51, 226, 141, 180, 44, 120]⟩ : ByteArray) >>= fun ((v1, v2) : (T_api_Tree × Int)) =>
  m_simplify_Rule (⟨v1.kind, v1.fn, v1.axis, v1.name, v1.nums, v1.kids⟩ : T_api_Tree) >>= fun ((v3, v4) : (T_api_Tree × Int)) =>
  m_simplify_Simplify v1 >>= fun (v5 : T_api_Tree) =>
  m_ref09_Text (⟨#[50, 32, 51, 226, 141, 180, 120]⟩ : ByteArray) >>= fun ((v6, v7) : (T_api_Tree × Int)) =>
  (if v4 = 1 then
    some (v3.kind == 4)
  else
  some false
  ) >>= fun (v8 : Bool) =>
  (if v8 = true then
    m_ref08_Same ((⟨v5.kind, v5.fn, v5.axis, v5.name, v5.nums, v5.kids⟩ : T_api_Tree), (⟨v6.kind, v6.fn, v6.axis, v6.name, v6.nums, v6.kids⟩ : T_api_Tree)) >>= fun (v10 : Bool) =>
    some v10
  else
  some false
  ) >>= fun (v9 : Bool) =>
  (if v9 = true then
    m_simplify_Count v1 >>= fun (v12 : Int) =>
    some (v12 == 2)
  else
  some false
  ) >>= fun (v11 : Bool) =>
  if v11 = true then
    m_simplify_Count (⟨v5.kind, v5.fn, v5.axis, v5.name, v5.nums, v5.kids⟩ : T_api_Tree) >>= fun (v13 : Int) =>
    some (v13 == 0)
  else
  some false
def P_law29_awake : Unit → Bool → Prop := fun x r => match x, r with
  | _, r0 => ∀ H, PC prog env 5 ([].map .dat) H (boolPV r0) H
theorem w_law29_awake : ∀ x r, m_law29_awake x = some r → P_law29_awake x r := by
  intro x r0 hm
  unfold m_law29_awake at hm
  unfold P_law29_awake
  intro H
  refine PC_sx (ds := []) (fn := f5) (by kernel_rfl) (by kernel_rfl) rfl ?_ (by kernel_rfl)
  refine R_seq ?_
  refine R_G ?_
  refine G_run 1 ?_
  refine G_end ?_
  refine R_seq ?_
  refine R_G ?_
  obtain ⟨⟨v1, v2⟩, hx, hm⟩ := bind_inv hm
  have hq := w_ref09_Text _ _ hx []
  refine G_callP hq ?_
  refine G_run 6 ?_
  refine G_end ?_
  refine R_seq ?_
  refine R_G ?_
  refine G_run 1 ?_
  obtain ⟨⟨v3, v4⟩, hx, hm⟩ := bind_inv hm
  have hq := w_simplify_Rule _ _ hx []
  refine G_callP hq ?_
  refine G_run 6 ?_
  refine G_end ?_
  refine R_seq ?_
  refine R_G ?_
  refine G_run 1 ?_
  obtain ⟨v5, hx, hm⟩ := bind_inv hm
  have hq := w_simplify_Simplify _ _ hx []
  refine G_callP hq ?_
  refine G_run 2 ?_
  refine G_end ?_
  refine R_seq ?_
  refine R_G ?_
  obtain ⟨⟨v6, v7⟩, hx, hm⟩ := bind_inv hm
  have hq := w_ref09_Text _ _ hx []
  refine G_callP hq ?_
  refine G_run 6 ?_
  refine G_end ?_
  refine R_seq ?_
  refine R_GN ?_
  refine G_run 3 ?_
  obtain ⟨v8, hs, hm⟩ := bind_inv hm
  refine G_cut (j := 7) (fun d => ⟨sl d 45 [(0, (boolPV false)), (1, (.ptr 0 0)), (2, (intPV v2)), (3, (.ptr 1 0)), (4, (intPV v4)), (5, (.ptr 2 0)), (6, (.ptr 3 0)), (7, (intPV v7)), (8, (.tup [(.dat (.agg [(intD v1.kind), (intD v1.fn), (intD v1.axis), (strD v1.name), (.lst ((List.map intD) v1.nums)), (.lst (T_api_Tree.toDs v1.kids))])), (intPV v2)])), (9, (.tup [(.dat (.agg [(intD v1.kind), (intD v1.fn), (intD v1.axis), (strD v1.name), (.lst ((List.map intD) v1.nums)), (.lst (T_api_Tree.toDs v1.kids))])), (intPV v2)])), (10, (.dat (.agg [(intD v1.kind), (intD v1.fn), (intD v1.axis), (strD v1.name), (.lst ((List.map intD) v1.nums)), (.lst (T_api_Tree.toDs v1.kids))]))), (11, (intPV v2)), (12, (.tup [(.dat (.agg [(intD v3.kind), (intD v3.fn), (intD v3.axis), (strD v3.name), (.lst ((List.map intD) v3.nums)), (.lst (T_api_Tree.toDs v3.kids))])), (intPV v4)])), (13, (.dat (.agg [(intD v1.kind), (intD v1.fn), (intD v1.axis), (strD v1.name), (.lst ((List.map intD) v1.nums)), (.lst (T_api_Tree.toDs v1.kids))]))), (14, (.tup [(.dat (.agg [(intD v3.kind), (intD v3.fn), (intD v3.axis), (strD v3.name), (.lst ((List.map intD) v3.nums)), (.lst (T_api_Tree.toDs v3.kids))])), (intPV v4)])), (15, (.dat (.agg [(intD v3.kind), (intD v3.fn), (intD v3.axis), (strD v3.name), (.lst ((List.map intD) v3.nums)), (.lst (T_api_Tree.toDs v3.kids))]))), (16, (intPV v4)), (17, (.dat (.agg [(intD v1.kind), (intD v1.fn), (intD v1.axis), (strD v1.name), (.lst ((List.map intD) v1.nums)), (.lst (T_api_Tree.toDs v1.kids))]))), (18, (.dat (.agg [(intD v5.kind), (intD v5.fn), (intD v5.axis), (strD v5.name), (.lst ((List.map intD) v5.nums)), (.lst (T_api_Tree.toDs v5.kids))]))), (19, (.tup [(.dat (.agg [(intD v6.kind), (intD v6.fn), (intD v6.axis), (strD v6.name), (.lst ((List.map intD) v6.nums)), (.lst (T_api_Tree.toDs v6.kids))])), (intPV v7)])), (20, (.tup [(.dat (.agg [(intD v6.kind), (intD v6.fn), (intD v6.axis), (strD v6.name), (.lst ((List.map intD) v6.nums)), (.lst (T_api_Tree.toDs v6.kids))])), (intPV v7)])), (21, (.dat (.agg [(intD v6.kind), (intD v6.fn), (intD v6.axis), (strD v6.name), (.lst ((List.map intD) v6.nums)), (.lst (T_api_Tree.toDs v6.kids))]))), (22, (intPV v7)), (23, (intPV v4)), (24, (boolPV (v4 == 1))), (29, (boolPV v8))], [(.box [(intPV v1.kind), (intPV v1.fn), (intPV v1.axis), (.dat (strD v1.name)), (.dat (.lst ((List.map intD) v1.nums))), (.dat (.lst (T_api_Tree.toDs v1.kids)))]), (.box [(intPV v3.kind), (intPV v3.fn), (intPV v3.axis), (.dat (strD v3.name)), (.dat (.lst ((List.map intD) v3.nums))), (.dat (.lst (T_api_Tree.toDs v3.kids)))]), (.box [(intPV v5.kind), (intPV v5.fn), (intPV v5.axis), (.dat (strD v5.name)), (.dat (.lst ((List.map intD) v5.nums))), (.dat (.lst (T_api_Tree.toDs v5.kids)))]), (.box [(intPV v6.kind), (intPV v6.fn), (intPV v6.axis), (.dat (strD v6.name)), (.dat (.lst ((List.map intD) v6.nums))), (.dat (.lst (T_api_Tree.toDs v6.kids)))])]⟩) (fun d => ?_) (fun hJ => ?_)
  · clear hs
    refine G_run 1 ?_
    obtain ⟨v9, hs, hm⟩ := bind_inv hm
    refine G_cut (j := 12) (fun d => ⟨sl d 45 [(0, (boolPV false)), (1, (.ptr 0 0)), (2, (intPV v2)), (3, (.ptr 1 0)), (4, (intPV v4)), (5, (.ptr 2 0)), (6, (.ptr 3 0)), (7, (intPV v7)), (8, (.tup [(.dat (.agg [(intD v1.kind), (intD v1.fn), (intD v1.axis), (strD v1.name), (.lst ((List.map intD) v1.nums)), (.lst (T_api_Tree.toDs v1.kids))])), (intPV v2)])), (9, (.tup [(.dat (.agg [(intD v1.kind), (intD v1.fn), (intD v1.axis), (strD v1.name), (.lst ((List.map intD) v1.nums)), (.lst (T_api_Tree.toDs v1.kids))])), (intPV v2)])), (10, (.dat (.agg [(intD v1.kind), (intD v1.fn), (intD v1.axis), (strD v1.name), (.lst ((List.map intD) v1.nums)), (.lst (T_api_Tree.toDs v1.kids))]))), (11, (intPV v2)), (12, (.tup [(.dat (.agg [(intD v3.kind), (intD v3.fn), (intD v3.axis), (strD v3.name), (.lst ((List.map intD) v3.nums)), (.lst (T_api_Tree.toDs v3.kids))])), (intPV v4)])), (13, (.dat (.agg [(intD v1.kind), (intD v1.fn), (intD v1.axis), (strD v1.name), (.lst ((List.map intD) v1.nums)), (.lst (T_api_Tree.toDs v1.kids))]))), (14, (.tup [(.dat (.agg [(intD v3.kind), (intD v3.fn), (intD v3.axis), (strD v3.name), (.lst ((List.map intD) v3.nums)), (.lst (T_api_Tree.toDs v3.kids))])), (intPV v4)])), (15, (.dat (.agg [(intD v3.kind), (intD v3.fn), (intD v3.axis), (strD v3.name), (.lst ((List.map intD) v3.nums)), (.lst (T_api_Tree.toDs v3.kids))]))), (16, (intPV v4)), (17, (.dat (.agg [(intD v1.kind), (intD v1.fn), (intD v1.axis), (strD v1.name), (.lst ((List.map intD) v1.nums)), (.lst (T_api_Tree.toDs v1.kids))]))), (18, (.dat (.agg [(intD v5.kind), (intD v5.fn), (intD v5.axis), (strD v5.name), (.lst ((List.map intD) v5.nums)), (.lst (T_api_Tree.toDs v5.kids))]))), (19, (.tup [(.dat (.agg [(intD v6.kind), (intD v6.fn), (intD v6.axis), (strD v6.name), (.lst ((List.map intD) v6.nums)), (.lst (T_api_Tree.toDs v6.kids))])), (intPV v7)])), (20, (.tup [(.dat (.agg [(intD v6.kind), (intD v6.fn), (intD v6.axis), (strD v6.name), (.lst ((List.map intD) v6.nums)), (.lst (T_api_Tree.toDs v6.kids))])), (intPV v7)])), (21, (.dat (.agg [(intD v6.kind), (intD v6.fn), (intD v6.axis), (strD v6.name), (.lst ((List.map intD) v6.nums)), (.lst (T_api_Tree.toDs v6.kids))]))), (22, (intPV v7)), (23, (intPV v4)), (24, (boolPV (v4 == 1))), (29, (boolPV v8)), (34, (boolPV v9))], [(.box [(intPV v1.kind), (intPV v1.fn), (intPV v1.axis), (.dat (strD v1.name)), (.dat (.lst ((List.map intD) v1.nums))), (.dat (.lst (T_api_Tree.toDs v1.kids)))]), (.box [(intPV v3.kind), (intPV v3.fn), (intPV v3.axis), (.dat (strD v3.name)), (.dat (.lst ((List.map intD) v3.nums))), (.dat (.lst (T_api_Tree.toDs v3.kids)))]), (.box [(intPV v5.kind), (intPV v5.fn), (intPV v5.axis), (.dat (strD v5.name)), (.dat (.lst ((List.map intD) v5.nums))), (.dat (.lst (T_api_Tree.toDs v5.kids)))]), (.box [(intPV v6.kind), (intPV v6.fn), (intPV v6.axis), (.dat (strD v6.name)), (.dat (.lst ((List.map intD) v6.nums))), (.dat (.lst (T_api_Tree.toDs v6.kids)))])]⟩) (fun d => ?_) (fun hJ => ?_)
    · clear hs
      refine G_run 1 ?_
      obtain ⟨v11, hs, hm⟩ := bind_inv hm
      refine G_cut (j := 17) (fun d => ⟨sl d 45 [(0, (boolPV false)), (1, (.ptr 0 0)), (2, (intPV v2)), (3, (.ptr 1 0)), (4, (intPV v4)), (5, (.ptr 2 0)), (6, (.ptr 3 0)), (7, (intPV v7)), (8, (.tup [(.dat (.agg [(intD v1.kind), (intD v1.fn), (intD v1.axis), (strD v1.name), (.lst ((List.map intD) v1.nums)), (.lst (T_api_Tree.toDs v1.kids))])), (intPV v2)])), (9, (.tup [(.dat (.agg [(intD v1.kind), (intD v1.fn), (intD v1.axis), (strD v1.name), (.lst ((List.map intD) v1.nums)), (.lst (T_api_Tree.toDs v1.kids))])), (intPV v2)])), (10, (.dat (.agg [(intD v1.kind), (intD v1.fn), (intD v1.axis), (strD v1.name), (.lst ((List.map intD) v1.nums)), (.lst (T_api_Tree.toDs v1.kids))]))), (11, (intPV v2)), (12, (.tup [(.dat (.agg [(intD v3.kind), (intD v3.fn), (intD v3.axis), (strD v3.name), (.lst ((List.map intD) v3.nums)), (.lst (T_api_Tree.toDs v3.kids))])), (intPV v4)])), (13, (.dat (.agg [(intD v1.kind), (intD v1.fn), (intD v1.axis), (strD v1.name), (.lst ((List.map intD) v1.nums)), (.lst (T_api_Tree.toDs v1.kids))]))), (14, (.tup [(.dat (.agg [(intD v3.kind), (intD v3.fn), (intD v3.axis), (strD v3.name), (.lst ((List.map intD) v3.nums)), (.lst (T_api_Tree.toDs v3.kids))])), (intPV v4)])), (15, (.dat (.agg [(intD v3.kind), (intD v3.fn), (intD v3.axis), (strD v3.name), (.lst ((List.map intD) v3.nums)), (.lst (T_api_Tree.toDs v3.kids))]))), (16, (intPV v4)), (17, (.dat (.agg [(intD v1.kind), (intD v1.fn), (intD v1.axis), (strD v1.name), (.lst ((List.map intD) v1.nums)), (.lst (T_api_Tree.toDs v1.kids))]))), (18, (.dat (.agg [(intD v5.kind), (intD v5.fn), (intD v5.axis), (strD v5.name), (.lst ((List.map intD) v5.nums)), (.lst (T_api_Tree.toDs v5.kids))]))), (19, (.tup [(.dat (.agg [(intD v6.kind), (intD v6.fn), (intD v6.axis), (strD v6.name), (.lst ((List.map intD) v6.nums)), (.lst (T_api_Tree.toDs v6.kids))])), (intPV v7)])), (20, (.tup [(.dat (.agg [(intD v6.kind), (intD v6.fn), (intD v6.axis), (strD v6.name), (.lst ((List.map intD) v6.nums)), (.lst (T_api_Tree.toDs v6.kids))])), (intPV v7)])), (21, (.dat (.agg [(intD v6.kind), (intD v6.fn), (intD v6.axis), (strD v6.name), (.lst ((List.map intD) v6.nums)), (.lst (T_api_Tree.toDs v6.kids))]))), (22, (intPV v7)), (23, (intPV v4)), (24, (boolPV (v4 == 1))), (29, (boolPV v8)), (34, (boolPV v9)), (39, (boolPV v11))], [(.box [(intPV v1.kind), (intPV v1.fn), (intPV v1.axis), (.dat (strD v1.name)), (.dat (.lst ((List.map intD) v1.nums))), (.dat (.lst (T_api_Tree.toDs v1.kids)))]), (.box [(intPV v3.kind), (intPV v3.fn), (intPV v3.axis), (.dat (strD v3.name)), (.dat (.lst ((List.map intD) v3.nums))), (.dat (.lst (T_api_Tree.toDs v3.kids)))]), (.box [(intPV v5.kind), (intPV v5.fn), (intPV v5.axis), (.dat (strD v5.name)), (.dat (.lst ((List.map intD) v5.nums))), (.dat (.lst (T_api_Tree.toDs v5.kids)))]), (.box [(intPV v6.kind), (intPV v6.fn), (intPV v6.axis), (.dat (strD v6.name)), (.dat (.lst ((List.map intD) v6.nums))), (.dat (.lst (T_api_Tree.toDs v6.kids)))])]⟩) (fun d => ?_) (fun hJ => ?_)
      · clear hs
        refine G_run 1 ?_
        refine G_split (p := v11 = true) 40 (bool_dec _) (fun hc => ?_) (fun hc => ?_)
        · replace hm := pos_inv hc hm
          refine G_run 1 ?_
          obtain ⟨v13, hx, hm⟩ := bind_inv hm
          have hq := w_simplify_Count _ _ hx []
          refine G_callP hq ?_
          refine G_run 3 ?_
          refine G_end ⟨by kernel_rfl, ?_⟩
          refine R_ret ?_
          obtain rfl := inj1 hm
          exact ⟨trivial, fin_pure (by kernel_rfl)⟩
        replace hm := neg_inv hc hm
        refine G_run 5 ?_
        refine G_end ⟨by kernel_rfl, ?_⟩
        refine R_ret ?_
        obtain rfl := inj1 hm
        exact ⟨trivial, fin_pure (by kernel_rfl)⟩
      replace hm := hs
      clear hs
      refine G_split (p := v9 = true) 35 (bool_dec _) (fun hc => ?_) (fun hc => ?_)
      · replace hm := pos_inv hc hm
        refine G_run 1 ?_
        obtain ⟨v12, hx, hm⟩ := bind_inv hm
        have hq := w_simplify_Count _ _ hx []
        refine G_callP hq ?_
        refine G_run 2 ?_
        obtain rfl := inj1 hm
        exact hJ _ _ (by kernel_rfl) (by kernel_rfl)
      replace hm := neg_inv hc hm
      refine G_run 4 ?_
      obtain rfl := inj1 hm
      exact hJ _ _ (by kernel_rfl) (by kernel_rfl)
    replace hm := hs
    clear hs
    refine G_split (p := v8 = true) 30 (bool_dec _) (fun hc => ?_) (fun hc => ?_)
    · replace hm := pos_inv hc hm
      refine G_run 2 ?_
      obtain ⟨v10, hx, hm⟩ := bind_inv hm
      have hq := w_ref08_Same _ _ hx []
      refine G_callP hq ?_
      refine G_run 1 ?_
      obtain rfl := inj1 hm
      exact hJ _ _ (by kernel_rfl) (by kernel_rfl)
    replace hm := neg_inv hc hm
    refine G_run 4 ?_
    obtain rfl := inj1 hm
    exact hJ _ _ (by kernel_rfl) (by kernel_rfl)
  replace hm := hs
  clear hs
  refine G_split (p := v4 = 1) 25 (eq_dec _ _) (fun hc => ?_) (fun hc => ?_)
  · replace hm := pos_inv hc hm
    refine G_run 4 ?_
    obtain rfl := inj1 hm
    exact hJ _ _ (by kernel_rfl) (by kernel_rfl)
  replace hm := neg_inv hc hm
  refine G_run 4 ?_
  obtain rfl := inj1 hm
  exact hJ _ _ (by kernel_rfl) (by kernel_rfl)
end Go.Proofs.Tryd
namespace Go.Proofs.Tryd
open Go Go.Pm
set_option linter.unusedVariables false
set_option maxHeartbeats 2000000
set_option maxRecDepth 2000
mutual
def m_ref08_left_L1 (x : (T_api_Tree × Int × Int)) : Option (Int) :=
  match x with
  | (p0, v201, v202) =>
  (if v202 < (p0.kids.length : Int) then
    some (decide (v201 ≥ 0))
  else
  some false
  ) >>= fun (v602 : Bool) =>
  if v602 = true then
    idx p0.kids v202 >>= fun v603 =>
    m_ref08_left (v603, v201) >>= fun (v604 : Int) =>
    m_ref08_left_L1 (p0, v604, (W (v202 + 1)))
  else
  some v201
  partial_fixpoint
def m_ref08_left (x : (T_api_Tree × Int)) : Option Int :=
  match x with
  | (p0, p1) =>
  m_ref08_left_L1 (p0, (W (p1 - 1)), 0) >>= fun (v601 : Int) =>
  some v601
  partial_fixpoint
end
def P_ref08_left_L1 : (T_api_Tree × Int × Int) → Int → Prop := fun x r => match x with
  | (p0, v201, v202) => ∀ st, prune 1 ((firstRegion (codeAt [1, 1, 0, 1, 0, 0] (bodyOf f29))).bind (env.hint 29).keepAt) st = ⟨kp 27 [(1, (intPV v201)), (2, (.ptr 0 0)), (5, (intPV v202))], [(.box [(intPV p0.kind), (intPV p0.fn), (intPV p0.axis), (.dat (strD p0.name)), (.dat (.lst ((List.map intD) p0.nums))), (.dat (.lst (T_api_Tree.toDs p0.kids)))])]⟩ →
    RL prog env (env.hint 29) true (codeAt [1, 1, 0, 1, 0, 0] (bodyOf f29)) 1 st (fun e s => match r with | v601 => e = .exit 0 ∧ ∃ d, s = ⟨sl d 27 [(1, (intPV v601))], [(.box [(intPV p0.kind), (intPV p0.fn), (intPV p0.axis), (.dat (strD p0.name)), (.dat (.lst ((List.map intD) p0.nums))), (.dat (.lst (T_api_Tree.toDs p0.kids)))])]⟩)
def P_ref08_left : (T_api_Tree × Int) → Int → Prop := fun x r => match x, r with
  | (p0, p1), r0 => ∀ H, PC prog env 29 ([(T_api_Tree.ex p0), (intD p1)].map .dat) H (intPV r0) H
theorem g_ref08_left_L1 : (∀ x r, m_ref08_left_L1 x = some r → P_ref08_left_L1 x r) ∧ (∀ x r, m_ref08_left x = some r → P_ref08_left x r) := by
  refine m_ref08_left_L1.mutual_partial_correctness P_ref08_left_L1 P_ref08_left ?_ ?_
  · intro m_ref08_left_L1 m_ref08_left w_ref08_left_L1 w_ref08_left x r hm
    unfold P_ref08_left_L1
    obtain ⟨p0, v201, v202⟩ := x
    intro st hst
    refine RL_at hst ?_
    clear hst
    refine R_seq ?_
    refine R_seq ?_
    obtain ⟨v602, hs, hm⟩ := bind_inv hm
    refine R_cut (fun d => ⟨sl d 27 [(1, (intPV v201)), (2, (.ptr 0 0)), (5, (intPV v202)), (16, (boolPV v602))], [(.box [(intPV p0.kind), (intPV p0.fn), (intPV p0.axis), (.dat (strD p0.name)), (.dat (.lst ((List.map intD) p0.nums))), (.dat (.lst (T_api_Tree.toDs p0.kids)))])]⟩) ?_ (fun d => ?_)
    · replace hm := hs
      clear hs
      refine R_G ?_
      refine G_run 3 ?_
      refine I_len T_api_Tree.toD p0.kids (es := T_api_Tree.toDs p0.kids) (T_api_Tree.toDs_eq _) ?_
      refine G_run 2 ?_
      refine G_split (p := v202 < (p0.kids.length : Int)) 13 (rfl) (fun hc => ?_) (fun hc => ?_)
      · replace hm := pos_inv hc hm
        refine G_run 3 ?_
        refine G_end ?_
        obtain rfl := inj1 hm
        exact cut_leaf (by kernel_rfl)
      replace hm := neg_inv hc hm
      refine G_run 3 ?_
      refine G_end ?_
      obtain rfl := inj1 hm
      exact cut_leaf (by kernel_rfl)
    clear hs
    refine R_ifp (p := v602 = true) (bool_dec _) (fun hc => ?_) (fun hc => ?_)
    · replace hm := pos_inv hc hm
      refine R_skip ?_
      refine R_seq ?_
      refine R_block ?_
      refine R_G ?_
      refine G_run 3 ?_
      obtain ⟨v603, hx, hm⟩ := bind_inv hm
      refine I_idx 6 T_api_Tree.toD p0.kids v202 v603 (es := T_api_Tree.toDs p0.kids) (d := (T_api_Tree.ex v603)) (T_api_Tree.toDs_eq _) hx (T_api_Tree.toD_eq v603) rfl ?_
      refine G_run 2 ?_
      obtain ⟨v604, hx, hm⟩ := bind_inv hm
      have hq := w_ref08_left _ _ hx []
      refine G_callP hq ?_
      refine G_run 1 ?_
      refine G_end ?_
      refine R_G ?_
      refine G_run 3 ?_
      refine G_end ?_
      exact w_ref08_left_L1 _ _ hm _ (by kernel_rfl)
    replace hm := neg_inv hc hm
    refine R_exit ?_
    obtain rfl := inj1 hm
    exact ⟨rfl, cut_leaf (by kernel_rfl)⟩
  · intro m_ref08_left_L1 w_ref08_left_L1 x r0 hm
    unfold P_ref08_left
    obtain ⟨p0, p1⟩ := x
    intro H
    refine PC_sx (ds := [(T_api_Tree.ex p0), (intD p1)]) (fn := f29) (by kernel_rfl) (by kernel_rfl) rfl ?_ (by kernel_rfl)
    refine R_seq ?_
    refine R_G ?_
    refine G_run 2 ?_
    refine G_end ?_
    refine R_seq ?_
    refine R_G ?_
    refine G_run 3 ?_
    refine G_end ?_
    refine R_seq ?_
    refine R_seq ?_
    refine R_G ?_
    refine G_run 1 ?_
    refine G_end ?_
    refine R_block ?_
    obtain ⟨v601, hs, hm⟩ := bind_inv hm
    refine R_loop ?_
    refine RL_use (w_ref08_left_L1 _ _ hs) (by kernel_rfl) ?_
    clear hs
    intro e s hp
    obtain ⟨rfl, d, rfl⟩ := hp
    refine R_seq ?_
    refine R_G ?_
    refine G_run 2 ?_
    refine G_end ?_
    refine R_ret ?_
    obtain rfl := inj1 hm
    exact ⟨trivial, fin_pure (by kernel_rfl)⟩
theorem w_ref08_left_L1 : ∀ x r, m_ref08_left_L1 x = some r → P_ref08_left_L1 x r := g_ref08_left_L1.1
theorem w_ref08_left : ∀ x r, m_ref08_left x = some r → P_ref08_left x r := g_ref08_left_L1.2
end Go.Proofs.Tryd
namespace Go.Proofs.Tryd
open Go Go.Pm
set_option linter.unusedVariables false
set_option maxHeartbeats 2000000
set_option maxRecDepth 2000
mutual
def m_ref08_numbers_L1 (x : (T_api_Tree × Int × Int)) : Option (Int) :=
  match x with
  | (p0, v201, v202) =>
  if v202 < (p0.kids.length : Int) then
    idx p0.kids v202 >>= fun v602 =>
    m_ref08_numbers v602 >>= fun (v603 : Int) =>
    m_ref08_numbers_L1 (p0, (W (v201 + v603)), (W (v202 + 1)))
  else
  some v201
  partial_fixpoint
def m_ref08_numbers (x : T_api_Tree) : Option Int :=
  match x with
  | p0 =>
  m_ref08_numbers_L1 (p0, (p0.nums.length : Int), 0) >>= fun (v601 : Int) =>
  some v601
  partial_fixpoint
end
def P_ref08_numbers_L1 : (T_api_Tree × Int × Int) → Int → Prop := fun x r => match x with
  | (p0, v201, v202) => ∀ st, prune 1 ((firstRegion (codeAt [1, 1, 0, 1, 0, 0] (bodyOf f30))).bind (env.hint 30).keepAt) st = ⟨kp 24 [(1, (.ptr 0 0)), (3, (intPV v201)), (4, (intPV v202))], [(.box [(intPV p0.kind), (intPV p0.fn), (intPV p0.axis), (.dat (strD p0.name)), (.dat (.lst ((List.map intD) p0.nums))), (.dat (.lst (T_api_Tree.toDs p0.kids)))])]⟩ →
    RL prog env (env.hint 30) true (codeAt [1, 1, 0, 1, 0, 0] (bodyOf f30)) 1 st (fun e s => match r with | v601 => e = .exit 0 ∧ ∃ d, s = ⟨sl d 24 [(3, (intPV v601))], [(.box [(intPV p0.kind), (intPV p0.fn), (intPV p0.axis), (.dat (strD p0.name)), (.dat (.lst ((List.map intD) p0.nums))), (.dat (.lst (T_api_Tree.toDs p0.kids)))])]⟩)
def P_ref08_numbers : T_api_Tree → Int → Prop := fun x r => match x, r with
  | p0, r0 => ∀ H, PC prog env 30 ([(T_api_Tree.ex p0)].map .dat) H (intPV r0) H
theorem g_ref08_numbers_L1 : (∀ x r, m_ref08_numbers_L1 x = some r → P_ref08_numbers_L1 x r) ∧ (∀ x r, m_ref08_numbers x = some r → P_ref08_numbers x r) := by
  refine m_ref08_numbers_L1.mutual_partial_correctness P_ref08_numbers_L1 P_ref08_numbers ?_ ?_
  · intro m_ref08_numbers_L1 m_ref08_numbers w_ref08_numbers_L1 w_ref08_numbers x r hm
    unfold P_ref08_numbers_L1
    obtain ⟨p0, v201, v202⟩ := x
    intro st hst
    refine RL_at hst ?_
    clear hst
    refine R_seq ?_
    refine R_seq ?_
    refine R_G ?_
    refine G_run 3 ?_
    refine I_len T_api_Tree.toD p0.kids (es := T_api_Tree.toDs p0.kids) (T_api_Tree.toDs_eq _) ?_
    refine G_run 1 ?_
    refine G_end ?_
    refine R_ifp (p := v202 < (p0.kids.length : Int)) (rfl) (fun hc => ?_) (fun hc => ?_)
    · replace hm := pos_inv hc hm
      refine R_skip ?_
      refine R_seq ?_
      refine R_block ?_
      refine R_G ?_
      refine G_run 4 ?_
      obtain ⟨v602, hx, hm⟩ := bind_inv hm
      refine I_idx 6 T_api_Tree.toD p0.kids v202 v602 (es := T_api_Tree.toDs p0.kids) (d := (T_api_Tree.ex v602)) (T_api_Tree.toDs_eq _) hx (T_api_Tree.toD_eq v602) rfl ?_
      refine G_run 1 ?_
      obtain ⟨v603, hx, hm⟩ := bind_inv hm
      have hq := w_ref08_numbers _ _ hx []
      refine G_callP hq ?_
      refine G_run 2 ?_
      refine G_end ?_
      refine R_G ?_
      refine G_run 3 ?_
      refine G_end ?_
      exact w_ref08_numbers_L1 _ _ hm _ (by kernel_rfl)
    replace hm := neg_inv hc hm
    refine R_exit ?_
    obtain rfl := inj1 hm
    exact ⟨rfl, cut_leaf (by kernel_rfl)⟩
  · intro m_ref08_numbers_L1 w_ref08_numbers_L1 p0 r0 hm
    unfold P_ref08_numbers
    intro H
    refine PC_sx (ds := [(T_api_Tree.ex p0)]) (fn := f30) (by kernel_rfl) (by kernel_rfl) rfl ?_ (by kernel_rfl)
    refine R_seq ?_
    refine R_G ?_
    refine G_run 2 ?_
    refine G_end ?_
    refine R_seq ?_
    refine R_G ?_
    refine G_run 2 ?_
    refine I_len intD p0.nums (es := (List.map intD) p0.nums) rfl ?_
    refine G_run 1 ?_
    refine G_end ?_
    refine R_seq ?_
    refine R_seq ?_
    refine R_G ?_
    refine G_run 1 ?_
    refine G_end ?_
    refine R_block ?_
    obtain ⟨v601, hs, hm⟩ := bind_inv hm
    refine R_loop ?_
    refine RL_use (w_ref08_numbers_L1 _ _ hs) (by kernel_rfl) ?_
    clear hs
    intro e s hp
    obtain ⟨rfl, d, rfl⟩ := hp
    refine R_seq ?_
    refine R_G ?_
    refine G_run 2 ?_
    refine G_end ?_
    refine R_ret ?_
    obtain rfl := inj1 hm
    exact ⟨trivial, fin_pure (by kernel_rfl)⟩
theorem w_ref08_numbers_L1 : ∀ x r, m_ref08_numbers_L1 x = some r → P_ref08_numbers_L1 x r := g_ref08_numbers_L1.1
theorem w_ref08_numbers : ∀ x r, m_ref08_numbers x = some r → P_ref08_numbers x r := g_ref08_numbers_L1.2
end Go.Proofs.Tryd
namespace Go.Proofs.Tryd
open Go Go.Pm
set_option linter.unusedVariables false
set_option maxHeartbeats 2000000
set_option maxRecDepth 2000
def m_ref08_Few (x : (T_api_Tree × Int)) : Option Bool :=
  match x with
  | (p0, p1) =>
  m_ref08_left (p0, p1) >>= fun (v1 : Int) =>
  (if v1 ≥ 0 then
    m_ref08_Depth p0 >>= fun (v3 : Int) =>
    some (decide (v3 ≤ 150))
  else
  some false
  ) >>= fun (v2 : Bool) =>
  if v2 = true then
    m_ref08_numbers p0 >>= fun (v4 : Int) =>
    some (decide (v4 ≤ (W (10 * p1))))
  else
  some false
def P_ref08_Few : (T_api_Tree × Int) → Bool → Prop := fun x r => match x, r with
  | (p0, p1), r0 => ∀ H, PC prog env 16 ([(T_api_Tree.ex p0), (intD p1)].map .dat) H (boolPV r0) H
theorem w_ref08_Few : ∀ x r, m_ref08_Few x = some r → P_ref08_Few x r := by
  intro x r0 hm
  unfold m_ref08_Few at hm
  unfold P_ref08_Few
  obtain ⟨p0, p1⟩ := x
  intro H
  refine PC_sx (ds := [(T_api_Tree.ex p0), (intD p1)]) (fn := f16) (by kernel_rfl) (by kernel_rfl) rfl ?_ (by kernel_rfl)
  refine R_seq ?_
  refine R_G ?_
  refine G_run 2 ?_
  refine G_end ?_
  refine R_seq ?_
  refine R_GN ?_
  refine G_run 2 ?_
  obtain ⟨v1, hx, hm⟩ := bind_inv hm
  have hq := w_ref08_left _ _ hx []
  refine G_callP hq ?_
  refine G_run 2 ?_
  obtain ⟨v2, hs, hm⟩ := bind_inv hm
  refine G_cut (j := 9) (fun d => ⟨sl d 21 [(0, (.dat (.agg [(intD p0.kind), (intD p0.fn), (intD p0.axis), (strD p0.name), (.lst ((List.map intD) p0.nums)), (.lst (T_api_Tree.toDs p0.kids))]))), (1, (intPV p1)), (2, (.ptr 0 0)), (4, (boolPV false)), (5, (.dat (.agg [(intD p0.kind), (intD p0.fn), (intD p0.axis), (strD p0.name), (.lst ((List.map intD) p0.nums)), (.lst (T_api_Tree.toDs p0.kids))]))), (6, (intPV p1)), (7, (intPV v1)), (8, (boolPV (decide (v1 ≥ 0)))), (13, (boolPV v2))], [(.box [(intPV p0.kind), (intPV p0.fn), (intPV p0.axis), (.dat (strD p0.name)), (.dat (.lst ((List.map intD) p0.nums))), (.dat (.lst (T_api_Tree.toDs p0.kids)))])]⟩) (fun d => ?_) (fun hJ => ?_)
  · clear hs
    refine G_run 1 ?_
    refine G_split (p := v2 = true) 14 (bool_dec _) (fun hc => ?_) (fun hc => ?_)
    · replace hm := pos_inv hc hm
      refine G_run 1 ?_
      obtain ⟨v4, hx, hm⟩ := bind_inv hm
      have hq := w_ref08_numbers _ _ hx []
      refine G_callP hq ?_
      refine G_run 5 ?_
      refine G_end ⟨by kernel_rfl, ?_⟩
      refine R_ret ?_
      obtain rfl := inj1 hm
      exact ⟨trivial, fin_pure (by kernel_rfl)⟩
    replace hm := neg_inv hc hm
    refine G_run 7 ?_
    refine G_end ⟨by kernel_rfl, ?_⟩
    refine R_ret ?_
    obtain rfl := inj1 hm
    exact ⟨trivial, fin_pure (by kernel_rfl)⟩
  replace hm := hs
  clear hs
  refine G_split (p := v1 ≥ 0) 9 (rfl) (fun hc => ?_) (fun hc => ?_)
  · replace hm := pos_inv hc hm
    refine G_run 1 ?_
    obtain ⟨v3, hx, hm⟩ := bind_inv hm
    have hq := w_ref08_Depth _ _ hx []
    refine G_callP hq ?_
    refine G_run 2 ?_
    obtain rfl := inj1 hm
    exact hJ _ _ (by kernel_rfl) (by kernel_rfl)
  replace hm := neg_inv hc hm
  refine G_run 4 ?_
  obtain rfl := inj1 hm
  exact hJ _ _ (by kernel_rfl) (by kernel_rfl)
end Go.Proofs.Tryd
namespace Go.Proofs.Tryd
open Go Go.Pm
set_option linter.unusedVariables false
set_option maxHeartbeats 2000000
set_option maxRecDepth 2000
def m_ref07_Name (x : ByteArray) : Option Bool :=
  match x with
  | p0 =>
  (if (p0.size : Int) > 0 then
    sidx p0 0 >>= fun v2 =>
    m_ref07_letter v2 >>= fun (v3 : Bool) =>
    some v3
  else
  some false
  ) >>= fun (v1 : Bool) =>
  if v1 = true then
    m_ref07_end (p0, 0) >>= fun (v4 : Int) =>
    some (v4 == (p0.size : Int))
  else
  some false
def P_ref07_Name : ByteArray → Bool → Prop := fun x r => match x, r with
  | p0, r0 => ∀ H, PC prog env 40 ([(strD p0)].map .dat) H (boolPV r0) H
theorem w_ref07_Name : ∀ x r, m_ref07_Name x = some r → P_ref07_Name x r := by
  intro p0 r0 hm
  unfold m_ref07_Name at hm
  unfold P_ref07_Name
  intro H
  refine PC_sx (ds := [(strD p0)]) (fn := f40) (by kernel_rfl) (by kernel_rfl) rfl ?_ (by kernel_rfl)
  refine R_seq ?_
  refine R_G ?_
  refine G_run 1 ?_
  refine G_end ?_
  refine R_seq ?_
  refine R_GN ?_
  refine G_run 1 ?_
  refine G_semN rfl (by kernel_rfl) (fun _ => E_lenStr (b := p0) (by kernel_rfl) rfl (by kernel_rfl)) ?_
  refine G_run 2 ?_
  obtain ⟨v1, hs, hm⟩ := bind_inv hm
  refine G_cut (j := 8) (fun d => ⟨sl d 18 [(0, (.dat (strD p0))), (2, (boolPV false)), (3, (.dat (strD p0))), (4, (intPV (p0.size : Int))), (5, (boolPV (decide ((p0.size : Int) > 0)))), (10, (boolPV v1))], []⟩) (fun d => ?_) (fun hJ => ?_)
  · clear hs
    refine G_run 1 ?_
    refine G_split (p := v1 = true) 11 (bool_dec _) (fun hc => ?_) (fun hc => ?_)
    · replace hm := pos_inv hc hm
      refine G_run 1 ?_
      obtain ⟨v4, hx, hm⟩ := bind_inv hm
      have hq := w_ref07_end _ _ hx []
      refine G_callP hq ?_
      refine G_run 1 ?_
      refine G_semN rfl (by kernel_rfl) (fun _ => E_lenStr (b := p0) (by kernel_rfl) rfl (by kernel_rfl)) ?_
      refine G_run 3 ?_
      refine G_end ⟨by kernel_rfl, ?_⟩
      refine R_ret ?_
      obtain rfl := inj1 hm
      exact ⟨trivial, fin_pure (by kernel_rfl)⟩
    replace hm := neg_inv hc hm
    refine G_run 7 ?_
    refine G_end ⟨by kernel_rfl, ?_⟩
    refine R_ret ?_
    obtain rfl := inj1 hm
    exact ⟨trivial, fin_pure (by kernel_rfl)⟩
  replace hm := hs
  clear hs
  refine G_split (p := (p0.size : Int) > 0) 6 (rfl) (fun hc => ?_) (fun hc => ?_)
  · replace hm := pos_inv hc hm
    refine G_run 1 ?_
    obtain ⟨v2, hx, hm⟩ := bind_inv hm
    refine G_semN rfl (by kernel_rfl) (fun _ => E_idxStr (b := p0) (n := 0) (v := v2) (k := .i64) hx (by kernel_rfl) rfl (by kernel_rfl) (by kernel_rfl)) ?_
    obtain ⟨v3, hx, hm⟩ := bind_inv hm
    have hq := w_ref07_letter _ _ hx []
    refine G_callP hq ?_
    refine G_run 1 ?_
    obtain rfl := inj1 hm
    exact hJ _ _ (by kernel_rfl) (by kernel_rfl)
  replace hm := neg_inv hc hm
  refine G_run 4 ?_
  obtain rfl := inj1 hm
  exact hJ _ _ (by kernel_rfl) (by kernel_rfl)
end Go.Proofs.Tryd
namespace Go.Proofs.Tryd
open Go Go.Pm
set_option linter.unusedVariables false
set_option maxHeartbeats 2000000
set_option maxRecDepth 2000
def m_ref08_node (x : T_api_Tree) : Option Bool :=
  match x with
  | p0 =>
  (if p0.axis ≥ 0 then
    some (decide (p0.axis ≤ 15))
  else
  some false
  ) >>= fun (v1 : Bool) =>
  if p0.kind = 1 then
    (if p0.fn = 0 then
      some (p0.axis == (-1))
    else
    some false
    ) >>= fun (v2 : Bool) =>
    (if v2 = true then
      some (decide (p0.name = ByteArray.empty))
    else
    some false
    ) >>= fun (v3 : Bool) =>
    if v3 = true then
      some ((p0.kids.length : Int) == 0)
    else
    some false
  else
  if p0.kind = 2 then
    (if p0.fn = 0 then
      some (p0.axis == (-1))
    else
    some false
    ) >>= fun (v4 : Bool) =>
    (if v4 = true then
      m_ref07_Name p0.name >>= fun (v6 : Bool) =>
      some v6
    else
    some false
    ) >>= fun (v5 : Bool) =>
    (if v5 = true then
      some ((p0.nums.length : Int) == 0)
    else
    some false
    ) >>= fun (v7 : Bool) =>
    if v7 = true then
      some ((p0.kids.length : Int) == 0)
    else
    some false
  else
  if p0.kind = 3 then
    (if p0.name = ByteArray.empty then
      some ((p0.nums.length : Int) == 0)
    else
    some false
    ) >>= fun (v8 : Bool) =>
    (if v8 = true then
      some ((p0.kids.length : Int) == 1)
    else
    some false
    ) >>= fun (v9 : Bool) =>
    if v9 = true then
      (if p0.fn = 3 then
        (if p0.axis = (-1) then
          some true
        else
        some v1
        ) >>= fun (v11 : Bool) =>
        some v11
      else
      some false
      ) >>= fun (v10 : Bool) =>
      if v10 = true then
        some true
      else
      (if p0.fn = 4 then
        some true
      else
      some (p0.fn == 6)
      ) >>= fun (v12 : Bool) =>
      (if v12 = true then
        some (p0.axis == (-1))
      else
      some false
      ) >>= fun (v13 : Bool) =>
      some v13
    else
    some false
  else
  if p0.kind = 4 then
    ((if p0.name ≠ ByteArray.empty then
      some true
    else
    some (decide ((p0.nums.length : Int) > 0))
    ) >>= fun (v15 : Bool) =>
    (if v15 = true then
      some true
    else
    some ((p0.kids.length : Int) != 2)
    ) >>= fun (v16 : Bool) =>
    (if v16 = true then
      some true
    else
    some (decide (p0.fn < 1))
    ) >>= fun (v17 : Bool) =>
    if v17 = true then
      some true
    else
    some (decide (p0.fn > 6))
    ) >>= fun (v14 : Bool) =>
    if v14 = true then
      some false
    else
    (if p0.axis ≠ (-1) then
      if v1 = false then
        some true
      else
      (if p0.fn ≠ 3 then
        some (p0.fn != 6)
      else
      some false
      ) >>= fun (v19 : Bool) =>
      some v19
    else
    some false
    ) >>= fun (v18 : Bool) =>
    if v18 = true then
      some false
    else
    (if p0.fn = 6 then
      some true
    else
    idx p0.kids 0 >>= fun v21 =>
    some (v21.kind == 1)
    ) >>= fun (v20 : Bool) =>
    if v20 = true then
      some true
    else
    idx p0.kids 0 >>= fun v22 =>
    some (v22.kind == 2)
  else
  some false
def P_ref08_node : T_api_Tree → Bool → Prop := fun x r => match x, r with
  | p0, r0 => ∀ H, PC prog env 37 ([(T_api_Tree.ex p0)].map .dat) H (boolPV r0) H
theorem w_ref08_node : ∀ x r, m_ref08_node x = some r → P_ref08_node x r := by
  intro p0 r0 hm
  unfold m_ref08_node at hm
  unfold P_ref08_node
  intro H
  refine PC_sx (ds := [(T_api_Tree.ex p0)]) (fn := f37) (by kernel_rfl) (by kernel_rfl) rfl ?_ (by kernel_rfl)
  refine R_seq ?_
  refine R_G ?_
  refine G_run 2 ?_
  refine G_end ?_
  refine R_seq ?_
  obtain ⟨v1, hs, hm⟩ := bind_inv hm
  refine R_cut (fun d => ⟨sl d 170 [(1, (.ptr 0 0)), (3, (boolPV v1))], [(.box [(intPV p0.kind), (intPV p0.fn), (intPV p0.axis), (.dat (strD p0.name)), (.dat (.lst ((List.map intD) p0.nums))), (.dat (.lst (T_api_Tree.toDs p0.kids)))])]⟩) ?_ (fun d => ?_)
  · replace hm := hs
    clear hs
    refine R_G ?_
    refine G_run 4 ?_
    refine G_split (p := p0.axis ≥ 0) 7 (rfl) (fun hc => ?_) (fun hc => ?_)
    · replace hm := pos_inv hc hm
      refine G_run 5 ?_
      refine G_end ?_
      obtain rfl := inj1 hm
      exact cut_leaf (by kernel_rfl)
    replace hm := neg_inv hc hm
    refine G_run 5 ?_
    refine G_end ?_
    obtain rfl := inj1 hm
    exact cut_leaf (by kernel_rfl)
  clear hs
  refine R_seq ?_
  refine R_seq ?_
  refine R_G ?_
  refine G_run 2 ?_
  refine G_end ?_
  refine R_block ?_
  refine R_seq ?_
  refine R_G ?_
  refine G_run 2 ?_
  refine G_end ?_
  refine R_ifp (p := p0.kind = 1) (eq_dec _ _) (fun hc => ?_) (fun hc => ?_)
  · replace hm := pos_inv hc hm
    refine R_seq ?_
    refine R_GN ?_
    refine G_run 4 ?_
    obtain ⟨v2, hs, hm⟩ := bind_inv hm
    refine G_cut (j := 8) (fun d => ⟨sl d 170 [(1, (.ptr 0 0)), (3, (boolPV v1)), (12, (.ptr 0 0)), (13, (intPV p0.kind)), (14, (boolPV (p0.kind == 1))), (15, (boolPV (p0.kind == 1))), (16, (.ptr 0 1)), (17, (intPV p0.fn)), (18, (boolPV (p0.fn == 0))), (23, (boolPV v2))], [(.box [(intPV p0.kind), (intPV p0.fn), (intPV p0.axis), (.dat (strD p0.name)), (.dat (.lst ((List.map intD) p0.nums))), (.dat (.lst (T_api_Tree.toDs p0.kids)))])]⟩) (fun d => ?_) (fun hJ => ?_)
    · clear hs
      refine G_run 1 ?_
      obtain ⟨v3, hs, hm⟩ := bind_inv hm
      refine G_cut (j := 13) (fun d => ⟨sl d 170 [(1, (.ptr 0 0)), (3, (boolPV v1)), (12, (.ptr 0 0)), (13, (intPV p0.kind)), (14, (boolPV (p0.kind == 1))), (15, (boolPV (p0.kind == 1))), (16, (.ptr 0 1)), (17, (intPV p0.fn)), (18, (boolPV (p0.fn == 0))), (23, (boolPV v2)), (28, (boolPV v3))], [(.box [(intPV p0.kind), (intPV p0.fn), (intPV p0.axis), (.dat (strD p0.name)), (.dat (.lst ((List.map intD) p0.nums))), (.dat (.lst (T_api_Tree.toDs p0.kids)))])]⟩) (fun d => ?_) (fun hJ => ?_)
      · clear hs
        refine G_run 1 ?_
        refine G_split (p := v3 = true) 29 (bool_dec _) (fun hc => ?_) (fun hc => ?_)
        · replace hm := pos_inv hc hm
          refine G_run 2 ?_
          refine I_len T_api_Tree.toD p0.kids (es := T_api_Tree.toDs p0.kids) (T_api_Tree.toDs_eq _) ?_
          refine G_run 3 ?_
          refine G_end ⟨by kernel_rfl, ?_⟩
          refine R_ret ?_
          obtain rfl := inj1 hm
          exact ⟨trivial, fin_pure (by kernel_rfl)⟩
        replace hm := neg_inv hc hm
        refine G_run 6 ?_
        refine G_end ⟨by kernel_rfl, ?_⟩
        refine R_ret ?_
        obtain rfl := inj1 hm
        exact ⟨trivial, fin_pure (by kernel_rfl)⟩
      replace hm := hs
      clear hs
      refine G_split (p := v2 = true) 24 (bool_dec _) (fun hc => ?_) (fun hc => ?_)
      · replace hm := pos_inv hc hm
        refine G_run 2 ?_
        refine G_semN rfl (by kernel_rfl) (fun _ => E_eqlStr (a := p0.name) (b := ByteArray.empty) rfl (by kernel_rfl) (by kernel_rfl)) ?_
        refine G_run 1 ?_
        obtain rfl := inj1 hm
        exact hJ _ _ (by kernel_rfl) (by kernel_rfl)
      replace hm := neg_inv hc hm
      refine G_run 4 ?_
      obtain rfl := inj1 hm
      exact hJ _ _ (by kernel_rfl) (by kernel_rfl)
    replace hm := hs
    clear hs
    refine G_split (p := p0.fn = 0) 19 (eq_dec _ _) (fun hc => ?_) (fun hc => ?_)
    · replace hm := pos_inv hc hm
      refine G_run 4 ?_
      obtain rfl := inj1 hm
      exact hJ _ _ (by kernel_rfl) (by kernel_rfl)
    replace hm := neg_inv hc hm
    refine G_run 4 ?_
    obtain rfl := inj1 hm
    exact hJ _ _ (by kernel_rfl) (by kernel_rfl)
  replace hm := neg_inv hc hm
  refine R_seq ?_
  refine R_G ?_
  refine G_run 2 ?_
  refine G_end ?_
  refine R_ifp (p := p0.kind = 2) (eq_dec _ _) (fun hc => ?_) (fun hc => ?_)
  · replace hm := pos_inv hc hm
    refine R_seq ?_
    refine R_GN ?_
    refine G_run 4 ?_
    obtain ⟨v4, hs, hm⟩ := bind_inv hm
    refine G_cut (j := 8) (fun d => ⟨sl d 170 [(1, (.ptr 0 0)), (3, (boolPV v1)), (12, (.ptr 0 0)), (13, (intPV p0.kind)), (14, (boolPV (p0.kind == 1))), (15, (boolPV (p0.kind == 1))), (35, (boolPV (p0.kind == 2))), (36, (boolPV (p0.kind == 2))), (37, (.ptr 0 1)), (38, (intPV p0.fn)), (39, (boolPV (p0.fn == 0))), (44, (boolPV v4))], [(.box [(intPV p0.kind), (intPV p0.fn), (intPV p0.axis), (.dat (strD p0.name)), (.dat (.lst ((List.map intD) p0.nums))), (.dat (.lst (T_api_Tree.toDs p0.kids)))])]⟩) (fun d => ?_) (fun hJ => ?_)
    · clear hs
      refine G_run 1 ?_
      obtain ⟨v5, hs, hm⟩ := bind_inv hm
      refine G_cut (j := 13) (fun d => ⟨sl d 170 [(1, (.ptr 0 0)), (3, (boolPV v1)), (12, (.ptr 0 0)), (13, (intPV p0.kind)), (14, (boolPV (p0.kind == 1))), (15, (boolPV (p0.kind == 1))), (35, (boolPV (p0.kind == 2))), (36, (boolPV (p0.kind == 2))), (37, (.ptr 0 1)), (38, (intPV p0.fn)), (39, (boolPV (p0.fn == 0))), (44, (boolPV v4)), (49, (boolPV v5))], [(.box [(intPV p0.kind), (intPV p0.fn), (intPV p0.axis), (.dat (strD p0.name)), (.dat (.lst ((List.map intD) p0.nums))), (.dat (.lst (T_api_Tree.toDs p0.kids)))])]⟩) (fun d => ?_) (fun hJ => ?_)
      · clear hs
        refine G_run 1 ?_
        obtain ⟨v7, hs, hm⟩ := bind_inv hm
        refine G_cut (j := 19) (fun d => ⟨sl d 170 [(1, (.ptr 0 0)), (3, (boolPV v1)), (12, (.ptr 0 0)), (13, (intPV p0.kind)), (14, (boolPV (p0.kind == 1))), (15, (boolPV (p0.kind == 1))), (35, (boolPV (p0.kind == 2))), (36, (boolPV (p0.kind == 2))), (37, (.ptr 0 1)), (38, (intPV p0.fn)), (39, (boolPV (p0.fn == 0))), (44, (boolPV v4)), (49, (boolPV v5)), (55, (boolPV v7))], [(.box [(intPV p0.kind), (intPV p0.fn), (intPV p0.axis), (.dat (strD p0.name)), (.dat (.lst ((List.map intD) p0.nums))), (.dat (.lst (T_api_Tree.toDs p0.kids)))])]⟩) (fun d => ?_) (fun hJ => ?_)
        · clear hs
          refine G_run 1 ?_
          refine G_split (p := v7 = true) 56 (bool_dec _) (fun hc => ?_) (fun hc => ?_)
          · replace hm := pos_inv hc hm
            refine G_run 2 ?_
            refine I_len T_api_Tree.toD p0.kids (es := T_api_Tree.toDs p0.kids) (T_api_Tree.toDs_eq _) ?_
            refine G_run 3 ?_
            refine G_end ⟨by kernel_rfl, ?_⟩
            refine R_ret ?_
            obtain rfl := inj1 hm
            exact ⟨trivial, fin_pure (by kernel_rfl)⟩
          replace hm := neg_inv hc hm
          refine G_run 6 ?_
          refine G_end ⟨by kernel_rfl, ?_⟩
          refine R_ret ?_
          obtain rfl := inj1 hm
          exact ⟨trivial, fin_pure (by kernel_rfl)⟩
        replace hm := hs
        clear hs
        refine G_split (p := v5 = true) 50 (bool_dec _) (fun hc => ?_) (fun hc => ?_)
        · replace hm := pos_inv hc hm
          refine G_run 2 ?_
          refine I_len intD p0.nums (es := (List.map intD) p0.nums) rfl ?_
          refine G_run 2 ?_
          obtain rfl := inj1 hm
          exact hJ _ _ (by kernel_rfl) (by kernel_rfl)
        replace hm := neg_inv hc hm
        refine G_run 5 ?_
        obtain rfl := inj1 hm
        exact hJ _ _ (by kernel_rfl) (by kernel_rfl)
      replace hm := hs
      clear hs
      refine G_split (p := v4 = true) 45 (bool_dec _) (fun hc => ?_) (fun hc => ?_)
      · replace hm := pos_inv hc hm
        refine G_run 2 ?_
        obtain ⟨v6, hx, hm⟩ := bind_inv hm
        have hq := w_ref07_Name _ _ hx []
        refine G_callP hq ?_
        refine G_run 1 ?_
        obtain rfl := inj1 hm
        exact hJ _ _ (by kernel_rfl) (by kernel_rfl)
      replace hm := neg_inv hc hm
      refine G_run 4 ?_
      obtain rfl := inj1 hm
      exact hJ _ _ (by kernel_rfl) (by kernel_rfl)
    replace hm := hs
    clear hs
    refine G_split (p := p0.fn = 0) 40 (eq_dec _ _) (fun hc => ?_) (fun hc => ?_)
    · replace hm := pos_inv hc hm
      refine G_run 4 ?_
      obtain rfl := inj1 hm
      exact hJ _ _ (by kernel_rfl) (by kernel_rfl)
    replace hm := neg_inv hc hm
    refine G_run 4 ?_
    obtain rfl := inj1 hm
    exact hJ _ _ (by kernel_rfl) (by kernel_rfl)
  replace hm := neg_inv hc hm
  refine R_seq ?_
  refine R_G ?_
  refine G_run 2 ?_
  refine G_end ?_
  refine R_ifp (p := p0.kind = 3) (eq_dec _ _) (fun hc => ?_) (fun hc => ?_)
  · replace hm := pos_inv hc hm
    refine R_seq ?_
    refine R_GN ?_
    refine G_run 2 ?_
    refine G_semN rfl (by kernel_rfl) (fun _ => E_eqlStr (a := p0.name) (b := ByteArray.empty) rfl (by kernel_rfl) (by kernel_rfl)) ?_
    refine G_run 1 ?_
    obtain ⟨v8, hs, hm⟩ := bind_inv hm
    refine G_cut (j := 9) (fun d => ⟨sl d 170 [(1, (.ptr 0 0)), (3, (boolPV v1)), (12, (.ptr 0 0)), (13, (intPV p0.kind)), (14, (boolPV (p0.kind == 1))), (15, (boolPV (p0.kind == 1))), (35, (boolPV (p0.kind == 2))), (36, (boolPV (p0.kind == 2))), (62, (boolPV (p0.kind == 3))), (63, (boolPV (p0.kind == 3))), (64, (.ptr 0 3)), (65, (.dat (strD p0.name))), (66, (boolPV (decide (p0.name = ByteArray.empty)))), (72, (boolPV v8))], [(.box [(intPV p0.kind), (intPV p0.fn), (intPV p0.axis), (.dat (strD p0.name)), (.dat (.lst ((List.map intD) p0.nums))), (.dat (.lst (T_api_Tree.toDs p0.kids)))])]⟩) (fun d => ?_) (fun hJ => ?_)
    · clear hs
      refine G_run 1 ?_
      obtain ⟨v9, hs, hm⟩ := bind_inv hm
      refine G_cut (j := 15) (fun d => ⟨sl d 170 [(1, (.ptr 0 0)), (3, (boolPV v1)), (12, (.ptr 0 0)), (13, (intPV p0.kind)), (14, (boolPV (p0.kind == 1))), (15, (boolPV (p0.kind == 1))), (35, (boolPV (p0.kind == 2))), (36, (boolPV (p0.kind == 2))), (62, (boolPV (p0.kind == 3))), (63, (boolPV (p0.kind == 3))), (64, (.ptr 0 3)), (65, (.dat (strD p0.name))), (66, (boolPV (decide (p0.name = ByteArray.empty)))), (72, (boolPV v8)), (78, (boolPV v9))], [(.box [(intPV p0.kind), (intPV p0.fn), (intPV p0.axis), (.dat (strD p0.name)), (.dat (.lst ((List.map intD) p0.nums))), (.dat (.lst (T_api_Tree.toDs p0.kids)))])]⟩) (fun d => ?_) (fun hJ => ?_)
      · clear hs
        refine G_run 1 ?_
        refine G_split (p := v9 = true) 79 (bool_dec _) (fun hc => ?_) (fun hc => ?_)
        · replace hm := pos_inv hc hm
          refine G_run 4 ?_
          obtain ⟨v10, hs, hm⟩ := bind_inv hm
          refine G_cut (j := 27) (fun d => ⟨sl d 170 [(1, (.ptr 0 0)), (3, (boolPV v1)), (12, (.ptr 0 0)), (13, (intPV p0.kind)), (14, (boolPV (p0.kind == 1))), (15, (boolPV (p0.kind == 1))), (35, (boolPV (p0.kind == 2))), (36, (boolPV (p0.kind == 2))), (62, (boolPV (p0.kind == 3))), (63, (boolPV (p0.kind == 3))), (64, (.ptr 0 3)), (65, (.dat (strD p0.name))), (66, (boolPV (decide (p0.name = ByteArray.empty)))), (72, (boolPV v8)), (78, (boolPV v9)), (79, (boolPV true)), (80, (.ptr 0 1)), (81, (intPV p0.fn)), (82, (boolPV (p0.fn == 3))), (90, (boolPV v10))], [(.box [(intPV p0.kind), (intPV p0.fn), (intPV p0.axis), (.dat (strD p0.name)), (.dat (.lst ((List.map intD) p0.nums))), (.dat (.lst (T_api_Tree.toDs p0.kids)))])]⟩) (fun d => ?_) (fun hJ => ?_)
          · clear hs
            refine G_run 1 ?_
            refine G_split (p := v10 = true) 91 (bool_dec _) (fun hc => ?_) (fun hc => ?_)
            · replace hm := pos_inv hc hm
              refine G_run 16 ?_
              refine G_end ⟨by kernel_rfl, ?_⟩
              refine R_ret ?_
              obtain rfl := inj1 hm
              exact ⟨trivial, fin_pure (by kernel_rfl)⟩
            replace hm := neg_inv hc hm
            refine G_run 4 ?_
            obtain ⟨v12, hs, hm⟩ := bind_inv hm
            refine G_cut (j := 36) (fun d => ⟨sl d 170 [(1, (.ptr 0 0)), (3, (boolPV v1)), (12, (.ptr 0 0)), (13, (intPV p0.kind)), (14, (boolPV (p0.kind == 1))), (15, (boolPV (p0.kind == 1))), (35, (boolPV (p0.kind == 2))), (36, (boolPV (p0.kind == 2))), (62, (boolPV (p0.kind == 3))), (63, (boolPV (p0.kind == 3))), (64, (.ptr 0 3)), (65, (.dat (strD p0.name))), (66, (boolPV (decide (p0.name = ByteArray.empty)))), (72, (boolPV v8)), (78, (boolPV v9)), (79, (boolPV true)), (80, (.ptr 0 1)), (81, (intPV p0.fn)), (82, (boolPV (p0.fn == 3))), (90, (boolPV v10)), (91, (boolPV false)), (92, (.ptr 0 1)), (93, (intPV p0.fn)), (94, (boolPV (p0.fn == 4))), (99, (boolPV v12))], [(.box [(intPV p0.kind), (intPV p0.fn), (intPV p0.axis), (.dat (strD p0.name)), (.dat (.lst ((List.map intD) p0.nums))), (.dat (.lst (T_api_Tree.toDs p0.kids)))])]⟩) (fun d => ?_) (fun hJ => ?_)
            · clear hs
              refine G_run 1 ?_
              obtain ⟨v13, hs, hm⟩ := bind_inv hm
              refine G_cut (j := 41) (fun d => ⟨sl d 170 [(1, (.ptr 0 0)), (3, (boolPV v1)), (12, (.ptr 0 0)), (13, (intPV p0.kind)), (14, (boolPV (p0.kind == 1))), (15, (boolPV (p0.kind == 1))), (35, (boolPV (p0.kind == 2))), (36, (boolPV (p0.kind == 2))), (62, (boolPV (p0.kind == 3))), (63, (boolPV (p0.kind == 3))), (64, (.ptr 0 3)), (65, (.dat (strD p0.name))), (66, (boolPV (decide (p0.name = ByteArray.empty)))), (72, (boolPV v8)), (78, (boolPV v9)), (79, (boolPV true)), (80, (.ptr 0 1)), (81, (intPV p0.fn)), (82, (boolPV (p0.fn == 3))), (90, (boolPV v10)), (91, (boolPV false)), (92, (.ptr 0 1)), (93, (intPV p0.fn)), (94, (boolPV (p0.fn == 4))), (99, (boolPV v12)), (104, (boolPV v13))], [(.box [(intPV p0.kind), (intPV p0.fn), (intPV p0.axis), (.dat (strD p0.name)), (.dat (.lst ((List.map intD) p0.nums))), (.dat (.lst (T_api_Tree.toDs p0.kids)))])]⟩) (fun d => ?_) (fun hJ => ?_)
              · clear hs
                refine G_run 3 ?_
                refine G_end ⟨by kernel_rfl, ?_⟩
                refine R_ret ?_
                obtain rfl := inj1 hm
                exact ⟨trivial, fin_pure (by kernel_rfl)⟩
              replace hm := hs
              clear hs
              refine G_split (p := v12 = true) 100 (bool_dec _) (fun hc => ?_) (fun hc => ?_)
              · replace hm := pos_inv hc hm
                refine G_run 4 ?_
                obtain rfl := inj1 hm
                exact hJ _ _ (by kernel_rfl) (by kernel_rfl)
              replace hm := neg_inv hc hm
              refine G_run 4 ?_
              obtain rfl := inj1 hm
              exact hJ _ _ (by kernel_rfl) (by kernel_rfl)
            replace hm := hs
            clear hs
            refine G_split (p := p0.fn = 4) 95 (eq_dec _ _) (fun hc => ?_) (fun hc => ?_)
            · replace hm := pos_inv hc hm
              refine G_run 4 ?_
              obtain rfl := inj1 hm
              exact hJ _ _ (by kernel_rfl) (by kernel_rfl)
            replace hm := neg_inv hc hm
            refine G_run 4 ?_
            obtain rfl := inj1 hm
            exact hJ _ _ (by kernel_rfl) (by kernel_rfl)
          replace hm := hs
          clear hs
          refine G_split (p := p0.fn = 3) 83 (eq_dec _ _) (fun hc => ?_) (fun hc => ?_)
          · replace hm := pos_inv hc hm
            refine G_run 4 ?_
            obtain ⟨v11, hs, hm⟩ := bind_inv hm
            refine G_cut (j := 26) (fun d => ⟨sl d 170 [(1, (.ptr 0 0)), (3, (boolPV v1)), (12, (.ptr 0 0)), (13, (intPV p0.kind)), (14, (boolPV (p0.kind == 1))), (15, (boolPV (p0.kind == 1))), (35, (boolPV (p0.kind == 2))), (36, (boolPV (p0.kind == 2))), (62, (boolPV (p0.kind == 3))), (63, (boolPV (p0.kind == 3))), (64, (.ptr 0 3)), (65, (.dat (strD p0.name))), (66, (boolPV (decide (p0.name = ByteArray.empty)))), (72, (boolPV v8)), (78, (boolPV v9)), (79, (boolPV true)), (80, (.ptr 0 1)), (81, (intPV p0.fn)), (82, (boolPV (p0.fn == 3))), (83, (boolPV true)), (84, (.ptr 0 2)), (85, (intPV p0.axis)), (86, (boolPV (p0.axis == (-1)))), (89, (boolPV v11))], [(.box [(intPV p0.kind), (intPV p0.fn), (intPV p0.axis), (.dat (strD p0.name)), (.dat (.lst ((List.map intD) p0.nums))), (.dat (.lst (T_api_Tree.toDs p0.kids)))])]⟩) (fun d => ?_) (fun hJ => ?_)
            · clear hs
              refine G_run 1 ?_
              obtain rfl := inj1 hm
              exact hJ _ _ (by kernel_rfl) (by kernel_rfl)
            replace hm := hs
            clear hs
            refine G_split (p := p0.axis = (-1)) 87 (eq_dec _ _) (fun hc => ?_) (fun hc => ?_)
            · replace hm := pos_inv hc hm
              refine G_run 2 ?_
              obtain rfl := inj1 hm
              exact hJ _ _ (by kernel_rfl) (by kernel_rfl)
            replace hm := neg_inv hc hm
            refine G_run 2 ?_
            obtain rfl := inj1 hm
            exact hJ _ _ (by kernel_rfl) (by kernel_rfl)
          replace hm := neg_inv hc hm
          refine G_run 7 ?_
          obtain rfl := inj1 hm
          exact hJ _ _ (by kernel_rfl) (by kernel_rfl)
        replace hm := neg_inv hc hm
        refine G_run 28 ?_
        refine G_end ⟨by kernel_rfl, ?_⟩
        refine R_ret ?_
        obtain rfl := inj1 hm
        exact ⟨trivial, fin_pure (by kernel_rfl)⟩
      replace hm := hs
      clear hs
      refine G_split (p := v8 = true) 73 (bool_dec _) (fun hc => ?_) (fun hc => ?_)
      · replace hm := pos_inv hc hm
        refine G_run 2 ?_
        refine I_len T_api_Tree.toD p0.kids (es := T_api_Tree.toDs p0.kids) (T_api_Tree.toDs_eq _) ?_
        refine G_run 2 ?_
        obtain rfl := inj1 hm
        exact hJ _ _ (by kernel_rfl) (by kernel_rfl)
      replace hm := neg_inv hc hm
      refine G_run 5 ?_
      obtain rfl := inj1 hm
      exact hJ _ _ (by kernel_rfl) (by kernel_rfl)
    replace hm := hs
    clear hs
    refine G_split (p := p0.name = ByteArray.empty) 67 (rfl) (fun hc => ?_) (fun hc => ?_)
    · replace hm := pos_inv hc hm
      refine G_run 2 ?_
      refine I_len intD p0.nums (es := (List.map intD) p0.nums) rfl ?_
      refine G_run 2 ?_
      obtain rfl := inj1 hm
      exact hJ _ _ (by kernel_rfl) (by kernel_rfl)
    replace hm := neg_inv hc hm
    refine G_run 5 ?_
    obtain rfl := inj1 hm
    exact hJ _ _ (by kernel_rfl) (by kernel_rfl)
  replace hm := neg_inv hc hm
  refine R_seq ?_
  refine R_G ?_
  refine G_run 2 ?_
  refine G_end ?_
  refine R_ifp (p := p0.kind = 4) (eq_dec _ _) (fun hc => ?_) (fun hc => ?_)
  · replace hm := pos_inv hc hm
    refine R_seq ?_
    refine R_seq ?_
    obtain ⟨v14, hs, hm⟩ := bind_inv hm
    refine R_cut (fun d => ⟨sl d 170 [(1, (.ptr 0 0)), (3, (boolPV v1)), (133, (boolPV v14))], [(.box [(intPV p0.kind), (intPV p0.fn), (intPV p0.axis), (.dat (strD p0.name)), (.dat (.lst ((List.map intD) p0.nums))), (.dat (.lst (T_api_Tree.toDs p0.kids)))])]⟩) ?_ (fun d => ?_)
    · replace hm := hs
      clear hs
      refine R_GN ?_
      refine G_run 2 ?_
      refine G_semN rfl (by kernel_rfl) (fun _ => E_neqStr (a := p0.name) (b := ByteArray.empty) rfl (by kernel_rfl) (by kernel_rfl)) ?_
      refine G_run 1 ?_
      obtain ⟨v15, hs, hm⟩ := bind_inv hm
      refine G_cut (j := 9) (fun d => ⟨sl d 170 [(1, (.ptr 0 0)), (3, (boolPV v1)), (12, (.ptr 0 0)), (13, (intPV p0.kind)), (14, (boolPV (p0.kind == 1))), (15, (boolPV (p0.kind == 1))), (35, (boolPV (p0.kind == 2))), (36, (boolPV (p0.kind == 2))), (62, (boolPV (p0.kind == 3))), (63, (boolPV (p0.kind == 3))), (107, (boolPV (p0.kind == 4))), (108, (boolPV (p0.kind == 4))), (109, (.ptr 0 3)), (110, (.dat (strD p0.name))), (111, (boolPV (decide (p0.name ≠ ByteArray.empty)))), (117, (boolPV v15))], [(.box [(intPV p0.kind), (intPV p0.fn), (intPV p0.axis), (.dat (strD p0.name)), (.dat (.lst ((List.map intD) p0.nums))), (.dat (.lst (T_api_Tree.toDs p0.kids)))])]⟩) (fun d => ?_) (fun hJ => ?_)
      · clear hs
        refine G_run 1 ?_
        obtain ⟨v16, hs, hm⟩ := bind_inv hm
        refine G_cut (j := 15) (fun d => ⟨sl d 170 [(1, (.ptr 0 0)), (3, (boolPV v1)), (12, (.ptr 0 0)), (13, (intPV p0.kind)), (14, (boolPV (p0.kind == 1))), (15, (boolPV (p0.kind == 1))), (35, (boolPV (p0.kind == 2))), (36, (boolPV (p0.kind == 2))), (62, (boolPV (p0.kind == 3))), (63, (boolPV (p0.kind == 3))), (107, (boolPV (p0.kind == 4))), (108, (boolPV (p0.kind == 4))), (109, (.ptr 0 3)), (110, (.dat (strD p0.name))), (111, (boolPV (decide (p0.name ≠ ByteArray.empty)))), (117, (boolPV v15)), (123, (boolPV v16))], [(.box [(intPV p0.kind), (intPV p0.fn), (intPV p0.axis), (.dat (strD p0.name)), (.dat (.lst ((List.map intD) p0.nums))), (.dat (.lst (T_api_Tree.toDs p0.kids)))])]⟩) (fun d => ?_) (fun hJ => ?_)
        · clear hs
          refine G_run 1 ?_
          obtain ⟨v17, hs, hm⟩ := bind_inv hm
          refine G_cut (j := 20) (fun d => ⟨sl d 170 [(1, (.ptr 0 0)), (3, (boolPV v1)), (12, (.ptr 0 0)), (13, (intPV p0.kind)), (14, (boolPV (p0.kind == 1))), (15, (boolPV (p0.kind == 1))), (35, (boolPV (p0.kind == 2))), (36, (boolPV (p0.kind == 2))), (62, (boolPV (p0.kind == 3))), (63, (boolPV (p0.kind == 3))), (107, (boolPV (p0.kind == 4))), (108, (boolPV (p0.kind == 4))), (109, (.ptr 0 3)), (110, (.dat (strD p0.name))), (111, (boolPV (decide (p0.name ≠ ByteArray.empty)))), (117, (boolPV v15)), (123, (boolPV v16)), (128, (boolPV v17))], [(.box [(intPV p0.kind), (intPV p0.fn), (intPV p0.axis), (.dat (strD p0.name)), (.dat (.lst ((List.map intD) p0.nums))), (.dat (.lst (T_api_Tree.toDs p0.kids)))])]⟩) (fun d => ?_) (fun hJ => ?_)
          · clear hs
            refine G_run 1 ?_
            refine G_split (p := v17 = true) 129 (bool_dec _) (fun hc => ?_) (fun hc => ?_)
            · replace hm := pos_inv hc hm
              refine G_run 4 ?_
              refine G_end ⟨by kernel_rfl, ?_⟩
              obtain rfl := inj1 hm
              exact cut_leaf (by kernel_rfl)
            replace hm := neg_inv hc hm
            refine G_run 4 ?_
            refine G_end ⟨by kernel_rfl, ?_⟩
            obtain rfl := inj1 hm
            exact cut_leaf (by kernel_rfl)
          replace hm := hs
          clear hs
          refine G_split (p := v16 = true) 124 (bool_dec _) (fun hc => ?_) (fun hc => ?_)
          · replace hm := pos_inv hc hm
            refine G_run 4 ?_
            obtain rfl := inj1 hm
            exact hJ _ _ (by kernel_rfl) (by kernel_rfl)
          replace hm := neg_inv hc hm
          refine G_run 4 ?_
          obtain rfl := inj1 hm
          exact hJ _ _ (by kernel_rfl) (by kernel_rfl)
        replace hm := hs
        clear hs
        refine G_split (p := v15 = true) 118 (bool_dec _) (fun hc => ?_) (fun hc => ?_)
        · replace hm := pos_inv hc hm
          refine G_run 5 ?_
          obtain rfl := inj1 hm
          exact hJ _ _ (by kernel_rfl) (by kernel_rfl)
        replace hm := neg_inv hc hm
        refine G_run 2 ?_
        refine I_len T_api_Tree.toD p0.kids (es := T_api_Tree.toDs p0.kids) (T_api_Tree.toDs_eq _) ?_
        refine G_run 2 ?_
        obtain rfl := inj1 hm
        exact hJ _ _ (by kernel_rfl) (by kernel_rfl)
      replace hm := hs
      clear hs
      refine G_split (p := p0.name ≠ ByteArray.empty) 112 (rfl) (fun hc => ?_) (fun hc => ?_)
      · replace hm := pos_inv hc hm
        refine G_run 5 ?_
        obtain rfl := inj1 hm
        exact hJ _ _ (by kernel_rfl) (by kernel_rfl)
      replace hm := neg_inv hc hm
      refine G_run 2 ?_
      refine I_len intD p0.nums (es := (List.map intD) p0.nums) rfl ?_
      refine G_run 2 ?_
      obtain rfl := inj1 hm
      exact hJ _ _ (by kernel_rfl) (by kernel_rfl)
    clear hs
    refine R_ifp (p := v14 = true) (bool_dec _) (fun hc => ?_) (fun hc => ?_)
    · replace hm := pos_inv hc hm
      refine R_seq ?_
      refine R_G ?_
      refine G_run 1 ?_
      refine G_end ?_
      refine R_ret ?_
      obtain rfl := inj1 hm
      exact ⟨trivial, fin_pure (by kernel_rfl)⟩
    replace hm := neg_inv hc hm
    refine R_skip ?_
    refine R_seq ?_
    refine R_seq ?_
    obtain ⟨v18, hs, hm⟩ := bind_inv hm
    refine R_cut (fun d => ⟨sl d 170 [(1, (.ptr 0 0)), (150, (boolPV v18))], [(.box [(intPV p0.kind), (intPV p0.fn), (intPV p0.axis), (.dat (strD p0.name)), (.dat (.lst ((List.map intD) p0.nums))), (.dat (.lst (T_api_Tree.toDs p0.kids)))])]⟩) ?_ (fun d => ?_)
    · replace hm := hs
      clear hs
      refine R_GN ?_
      refine G_run 4 ?_
      refine G_split (p := p0.axis ≠ (-1)) 137 (ne_dec _ _) (fun hc => ?_) (fun hc => ?_)
      · replace hm := pos_inv hc hm
        refine G_run 3 ?_
        refine G_split (p := v1 = false) 140 (not_dec _) (fun hc => ?_) (fun hc => ?_)
        · replace hm := pos_inv hc hm
          refine G_run 10 ?_
          refine G_end ⟨by kernel_rfl, ?_⟩
          obtain rfl := inj1 hm
          exact cut_leaf (by kernel_rfl)
        replace hm := neg_inv hc hm
        refine G_run 4 ?_
        obtain ⟨v19, hs, hm⟩ := bind_inv hm
        refine G_cut (j := 15) (fun d => ⟨sl d 170 [(1, (.ptr 0 0)), (3, (boolPV v1)), (133, (boolPV v14)), (134, (.ptr 0 2)), (135, (intPV p0.axis)), (136, (boolPV (p0.axis != (-1)))), (137, (boolPV true)), (138, (boolPV v1)), (139, (boolPV (!v1))), (140, (boolPV false)), (141, (.ptr 0 1)), (142, (intPV p0.fn)), (143, (boolPV (p0.fn != 3))), (148, (boolPV v19))], [(.box [(intPV p0.kind), (intPV p0.fn), (intPV p0.axis), (.dat (strD p0.name)), (.dat (.lst ((List.map intD) p0.nums))), (.dat (.lst (T_api_Tree.toDs p0.kids)))])]⟩) (fun d => ?_) (fun hJ => ?_)
        · clear hs
          refine G_run 2 ?_
          refine G_end ⟨by kernel_rfl, ?_⟩
          obtain rfl := inj1 hm
          exact cut_leaf (by kernel_rfl)
        replace hm := hs
        clear hs
        refine G_split (p := p0.fn ≠ 3) 144 (ne_dec _ _) (fun hc => ?_) (fun hc => ?_)
        · replace hm := pos_inv hc hm
          refine G_run 4 ?_
          obtain rfl := inj1 hm
          exact hJ _ _ (by kernel_rfl) (by kernel_rfl)
        replace hm := neg_inv hc hm
        refine G_run 4 ?_
        obtain rfl := inj1 hm
        exact hJ _ _ (by kernel_rfl) (by kernel_rfl)
      replace hm := neg_inv hc hm
      refine G_run 13 ?_
      refine G_end ⟨by kernel_rfl, ?_⟩
      obtain rfl := inj1 hm
      exact cut_leaf (by kernel_rfl)
    clear hs
    refine R_ifp (p := v18 = true) (bool_dec _) (fun hc => ?_) (fun hc => ?_)
    · replace hm := pos_inv hc hm
      refine R_seq ?_
      refine R_G ?_
      refine G_run 1 ?_
      refine G_end ?_
      refine R_ret ?_
      obtain rfl := inj1 hm
      exact ⟨trivial, fin_pure (by kernel_rfl)⟩
    replace hm := neg_inv hc hm
    refine R_skip ?_
    refine R_seq ?_
    refine R_GN ?_
    refine G_run 4 ?_
    obtain ⟨v20, hs, hm⟩ := bind_inv hm
    refine G_cut (j := 11) (fun d => ⟨sl d 170 [(1, (.ptr 0 0)), (150, (boolPV v18)), (151, (.ptr 0 1)), (152, (intPV p0.fn)), (153, (boolPV (p0.fn == 6))), (161, (boolPV v20))], [(.box [(intPV p0.kind), (intPV p0.fn), (intPV p0.axis), (.dat (strD p0.name)), (.dat (.lst ((List.map intD) p0.nums))), (.dat (.lst (T_api_Tree.toDs p0.kids)))])]⟩) (fun d => ?_) (fun hJ => ?_)
    · clear hs
      refine G_run 1 ?_
      refine G_split (p := v20 = true) 162 (bool_dec _) (fun hc => ?_) (fun hc => ?_)
      · replace hm := pos_inv hc hm
        refine G_run 8 ?_
        refine G_end ⟨by kernel_rfl, ?_⟩
        refine R_ret ?_
        obtain rfl := inj1 hm
        exact ⟨trivial, fin_pure (by kernel_rfl)⟩
      replace hm := neg_inv hc hm
      refine G_run 2 ?_
      obtain ⟨v22, hx, hm⟩ := bind_inv hm
      refine I_idx 6 T_api_Tree.toD p0.kids 0 v22 (es := T_api_Tree.toDs p0.kids) (d := (T_api_Tree.ex v22)) (T_api_Tree.toDs_eq _) hx (T_api_Tree.toD_eq v22) rfl ?_
      refine G_run 5 ?_
      refine G_end ⟨by kernel_rfl, ?_⟩
      refine R_ret ?_
      obtain rfl := inj1 hm
      exact ⟨trivial, fin_pure (by kernel_rfl)⟩
    replace hm := hs
    clear hs
    refine G_split (p := p0.fn = 6) 154 (eq_dec _ _) (fun hc => ?_) (fun hc => ?_)
    · replace hm := pos_inv hc hm
      refine G_run 7 ?_
      obtain rfl := inj1 hm
      exact hJ _ _ (by kernel_rfl) (by kernel_rfl)
    replace hm := neg_inv hc hm
    refine G_run 2 ?_
    obtain ⟨v21, hx, hm⟩ := bind_inv hm
    refine I_idx 6 T_api_Tree.toD p0.kids 0 v21 (es := T_api_Tree.toDs p0.kids) (d := (T_api_Tree.ex v21)) (T_api_Tree.toDs_eq _) hx (T_api_Tree.toD_eq v21) rfl ?_
    refine G_run 4 ?_
    obtain rfl := inj1 hm
    exact hJ _ _ (by kernel_rfl) (by kernel_rfl)
  replace hm := neg_inv hc hm
  refine R_skip ?_
  refine R_seq ?_
  refine R_G ?_
  refine G_run 1 ?_
  refine G_end ?_
  refine R_ret ?_
  obtain rfl := inj1 hm
  exact ⟨trivial, fin_pure (by kernel_rfl)⟩
end Go.Proofs.Tryd
namespace Go.Proofs.Tryd
open Go Go.Pm
set_option linter.unusedVariables false
set_option maxHeartbeats 2000000
set_option maxRecDepth 2000
mutual
def m_ref08_nodes_L1 (x : (T_api_Tree × Int)) : Option (Unit ⊕ Unit) :=
  match x with
  | (p0, v202) =>
  if v202 < (p0.kids.length : Int) then
    idx p0.kids v202 >>= fun v602 =>
    m_ref08_nodes v602 >>= fun (v603 : Bool) =>
    if v603 = false then
      some (Sum.inl ())
    else
    m_ref08_nodes_L1 (p0, (W (v202 + 1)))
  else
  some (Sum.inr ())
  partial_fixpoint
def m_ref08_nodes (x : T_api_Tree) : Option Bool :=
  match x with
  | p0 =>
  m_ref08_node (⟨p0.kind, p0.fn, p0.axis, p0.name, p0.nums, p0.kids⟩ : T_api_Tree) >>= fun (v1 : Bool) =>
  if v1 = false then
    some false
  else
  (
  m_ref08_nodes_L1 (p0, 0) >>= fun (out : Unit ⊕ Unit) =>
  match out with
  | .inl _ =>
    some false
  | .inr (_) =>
    some true
  )
  partial_fixpoint
end
def P_ref08_nodes_L1 : (T_api_Tree × Int) → (Unit ⊕ Unit) → Prop := fun x r => match x with
  | (p0, v202) => ∀ st, prune 1 ((firstRegion (codeAt [1, 1, 0, 1, 0, 0] (bodyOf f31))).bind (env.hint 31).keepAt) st = ⟨kp 21 [(1, (.ptr 0 0)), (3, (intPV v202))], [(.box [(intPV p0.kind), (intPV p0.fn), (intPV p0.axis), (.dat (strD p0.name)), (.dat (.lst ((List.map intD) p0.nums))), (.dat (.lst (T_api_Tree.toDs p0.kids)))])]⟩ →
    RL prog env (env.hint 31) true (codeAt [1, 1, 0, 1, 0, 0] (bodyOf f31)) 1 st (fun e s => match r with | .inl _ => e = .ret ∧ ∃ d, s = ⟨sl d 21 [(2, (boolPV false))], [(.box [(intPV p0.kind), (intPV p0.fn), (intPV p0.axis), (.dat (strD p0.name)), (.dat (.lst ((List.map intD) p0.nums))), (.dat (.lst (T_api_Tree.toDs p0.kids)))])]⟩ | .inr (_) => e = .exit 0 ∧ ∃ d, s = ⟨sl d 21 [], [(.box [(intPV p0.kind), (intPV p0.fn), (intPV p0.axis), (.dat (strD p0.name)), (.dat (.lst ((List.map intD) p0.nums))), (.dat (.lst (T_api_Tree.toDs p0.kids)))])]⟩)
def P_ref08_nodes : T_api_Tree → Bool → Prop := fun x r => match x, r with
  | p0, r0 => ∀ H, PC prog env 31 ([(T_api_Tree.ex p0)].map .dat) H (boolPV r0) H
theorem g_ref08_nodes_L1 : (∀ x r, m_ref08_nodes_L1 x = some r → P_ref08_nodes_L1 x r) ∧ (∀ x r, m_ref08_nodes x = some r → P_ref08_nodes x r) := by
  refine m_ref08_nodes_L1.mutual_partial_correctness P_ref08_nodes_L1 P_ref08_nodes ?_ ?_
  · intro m_ref08_nodes_L1 m_ref08_nodes w_ref08_nodes_L1 w_ref08_nodes x r hm
    unfold P_ref08_nodes_L1
    obtain ⟨p0, v202⟩ := x
    intro st hst
    refine RL_at hst ?_
    clear hst
    refine R_seq ?_
    refine R_seq ?_
    refine R_G ?_
    refine G_run 3 ?_
    refine I_len T_api_Tree.toD p0.kids (es := T_api_Tree.toDs p0.kids) (T_api_Tree.toDs_eq _) ?_
    refine G_run 1 ?_
    refine G_end ?_
    refine R_ifp (p := v202 < (p0.kids.length : Int)) (rfl) (fun hc => ?_) (fun hc => ?_)
    · replace hm := pos_inv hc hm
      refine R_skip ?_
      refine R_seq ?_
      refine R_block ?_
      refine R_seq ?_
      refine R_G ?_
      refine G_run 3 ?_
      obtain ⟨v602, hx, hm⟩ := bind_inv hm
      refine I_idx 6 T_api_Tree.toD p0.kids v202 v602 (es := T_api_Tree.toDs p0.kids) (d := (T_api_Tree.ex v602)) (T_api_Tree.toDs_eq _) hx (T_api_Tree.toD_eq v602) rfl ?_
      refine G_run 1 ?_
      obtain ⟨v603, hx, hm⟩ := bind_inv hm
      have hq := w_ref08_nodes _ _ hx []
      refine G_callP hq ?_
      refine G_run 1 ?_
      refine G_end ?_
      refine R_ifp (p := v603 = false) (not_dec _) (fun hc => ?_) (fun hc => ?_)
      · replace hm := pos_inv hc hm
        refine R_seq ?_
        refine R_G ?_
        refine G_run 1 ?_
        refine G_end ?_
        refine R_ret ?_
        obtain rfl := inj1 hm
        exact ⟨rfl, cut_leaf (by kernel_rfl)⟩
      replace hm := neg_inv hc hm
      refine R_skip ?_
      refine R_G ?_
      refine G_run 3 ?_
      refine G_end ?_
      exact w_ref08_nodes_L1 _ _ hm _ (by kernel_rfl)
    replace hm := neg_inv hc hm
    refine R_exit ?_
    obtain rfl := inj1 hm
    exact ⟨rfl, cut_leaf (by kernel_rfl)⟩
  · intro m_ref08_nodes_L1 w_ref08_nodes_L1 p0 r0 hm
    unfold P_ref08_nodes
    intro H
    refine PC_sx (ds := [(T_api_Tree.ex p0)]) (fn := f31) (by kernel_rfl) (by kernel_rfl) rfl ?_ (by kernel_rfl)
    refine R_seq ?_
    refine R_G ?_
    refine G_run 2 ?_
    refine G_end ?_
    refine R_seq ?_
    refine R_seq ?_
    refine R_G ?_
    refine G_run 1 ?_
    obtain ⟨v1, hx, hm⟩ := bind_inv hm
    have hq := w_ref08_node _ _ hx []
    refine G_callP hq ?_
    refine G_run 1 ?_
    refine G_end ?_
    refine R_ifp (p := v1 = false) (not_dec _) (fun hc => ?_) (fun hc => ?_)
    · replace hm := pos_inv hc hm
      refine R_seq ?_
      refine R_G ?_
      refine G_run 1 ?_
      refine G_end ?_
      refine R_ret ?_
      obtain rfl := inj1 hm
      exact ⟨trivial, fin_pure (by kernel_rfl)⟩
    replace hm := neg_inv hc hm
    refine R_skip ?_
    refine R_seq ?_
    refine R_seq ?_
    refine R_G ?_
    refine G_run 1 ?_
    refine G_end ?_
    refine R_block ?_
    obtain ⟨out, hs, hm⟩ := bind_inv hm
    refine R_loop ?_
    rcases out with _ | _
    · refine RL_use (w_ref08_nodes_L1 _ _ hs) (by kernel_rfl) ?_
      clear hs
      intro e s hp
      obtain ⟨rfl, d, rfl⟩ := hp
      obtain rfl := inj1 hm
      exact ⟨trivial, fin_pure (by kernel_rfl)⟩
    · refine RL_use (w_ref08_nodes_L1 _ _ hs) (by kernel_rfl) ?_
      clear hs
      intro e s hp
      obtain ⟨rfl, d, rfl⟩ := hp
      refine R_seq ?_
      refine R_G ?_
      refine G_run 1 ?_
      refine G_end ?_
      refine R_ret ?_
      obtain rfl := inj1 hm
      exact ⟨trivial, fin_pure (by kernel_rfl)⟩
theorem w_ref08_nodes_L1 : ∀ x r, m_ref08_nodes_L1 x = some r → P_ref08_nodes_L1 x r := g_ref08_nodes_L1.1
theorem w_ref08_nodes : ∀ x r, m_ref08_nodes x = some r → P_ref08_nodes x r := g_ref08_nodes_L1.2
end Go.Proofs.Tryd
