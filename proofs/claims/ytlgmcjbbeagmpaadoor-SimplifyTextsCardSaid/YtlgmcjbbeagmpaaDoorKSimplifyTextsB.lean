/-
  Models of functions, their walks, and plain laws.
-/
import Derived.Test.YtlgmcjbbeagmpaaDoorPmLaw
import Derived.Test.YtlgmcjbbeagmpaaDoorKSimplifyTextsA
namespace Go.Proofs.Tryd
open Go Go.Pm
set_option linter.unusedVariables false
set_option maxHeartbeats 2000000
set_option maxRecDepth 2000
def m_ref08_Right (x : T_api_Tree) : Option Bool :=
  match x with
  | p0 =>
  m_ref08_Depth p0 >>= fun (v1 : Int) =>
  if v1 ≤ 100 then
    m_ref08_nodes (⟨p0.kind, p0.fn, p0.axis, p0.name, p0.nums, p0.kids⟩ : T_api_Tree) >>= fun (v2 : Bool) =>
    some v2
  else
  some false
def P_ref08_Right : T_api_Tree → Bool → Prop := fun x r => match x, r with
  | p0, r0 => ∀ H, PC prog env 17 ([(T_api_Tree.ex p0)].map .dat) H (boolPV r0) H
theorem w_ref08_Right : ∀ x r, m_ref08_Right x = some r → P_ref08_Right x r := by
  intro p0 r0 hm
  unfold m_ref08_Right at hm
  unfold P_ref08_Right
  intro H
  refine PC_sx (ds := [(T_api_Tree.ex p0)]) (fn := f17) (by kernel_rfl) (by kernel_rfl) rfl ?_ (by kernel_rfl)
  refine R_seq ?_
  refine R_G ?_
  refine G_run 2 ?_
  refine G_end ?_
  refine R_seq ?_
  refine R_G ?_
  refine G_run 1 ?_
  obtain ⟨v1, hx, hm⟩ := bind_inv hm
  have hq := w_ref08_Depth _ _ hx []
  refine G_callP hq ?_
  refine G_run 2 ?_
  refine G_split (p := v1 ≤ 100) 6 (rfl) (fun hc => ?_) (fun hc => ?_)
  · replace hm := pos_inv hc hm
    refine G_run 1 ?_
    obtain ⟨v2, hx, hm⟩ := bind_inv hm
    have hq := w_ref08_nodes _ _ hx []
    refine G_callP hq ?_
    refine G_run 2 ?_
    refine G_end ?_
    refine R_ret ?_
    obtain rfl := inj1 hm
    exact ⟨trivial, fin_pure (by kernel_rfl)⟩
  replace hm := neg_inv hc hm
  refine G_run 4 ?_
  refine G_end ?_
  refine R_ret ?_
  obtain rfl := inj1 hm
  exact ⟨trivial, fin_pure (by kernel_rfl)⟩
end Go.Proofs.Tryd
namespace Go.Proofs.Tryd
open Go Go.Pm
set_option linter.unusedVariables false
set_option maxHeartbeats 2000000
set_option maxRecDepth 2000
def m_ref08_Small (x : (T_api_Tree × Int)) : Option Bool :=
  match x with
  | (p0, p1) =>
  m_ref08_Few (p0, p1) >>= fun (v1 : Bool) =>
  if v1 = true then
    m_ref08_Right (⟨p0.kind, p0.fn, p0.axis, p0.name, p0.nums, p0.kids⟩ : T_api_Tree) >>= fun (v2 : Bool) =>
    some v2
  else
  some false
def P_ref08_Small : (T_api_Tree × Int) → Bool → Prop := fun x r => match x, r with
  | (p0, p1), r0 => ∀ H, PC prog env 7 ([(T_api_Tree.ex p0), (intD p1)].map .dat) H (boolPV r0) H
theorem w_ref08_Small : ∀ x r, m_ref08_Small x = some r → P_ref08_Small x r := by
  intro x r0 hm
  unfold m_ref08_Small at hm
  unfold P_ref08_Small
  obtain ⟨p0, p1⟩ := x
  intro H
  refine PC_sx (ds := [(T_api_Tree.ex p0), (intD p1)]) (fn := f7) (by kernel_rfl) (by kernel_rfl) rfl ?_ (by kernel_rfl)
  refine R_seq ?_
  refine R_G ?_
  refine G_run 2 ?_
  refine G_end ?_
  refine R_seq ?_
  refine R_G ?_
  refine G_run 2 ?_
  obtain ⟨v1, hx, hm⟩ := bind_inv hm
  have hq := w_ref08_Few _ _ hx []
  refine G_callP hq ?_
  refine G_run 1 ?_
  refine G_split (p := v1 = true) 8 (bool_dec _) (fun hc => ?_) (fun hc => ?_)
  · replace hm := pos_inv hc hm
    refine G_run 1 ?_
    obtain ⟨v2, hx, hm⟩ := bind_inv hm
    have hq := w_ref08_Right _ _ hx []
    refine G_callP hq ?_
    refine G_run 2 ?_
    refine G_end ?_
    refine R_ret ?_
    obtain rfl := inj1 hm
    exact ⟨trivial, fin_pure (by kernel_rfl)⟩
  replace hm := neg_inv hc hm
  refine G_run 4 ?_
  refine G_end ?_
  refine R_ret ?_
  obtain rfl := inj1 hm
  exact ⟨trivial, fin_pure (by kernel_rfl)⟩
end Go.Proofs.Tryd
namespace Go.Proofs.Tryd
open Go Go.Pm
set_option linter.unusedVariables false
set_option maxHeartbeats 2000000
set_option maxRecDepth 2000
def m_ref02_Decimal (x : Int) : Option ByteArray :=
  match x with
  | p0 =>
  if p0 < 0 then
    if p0 = (-9223372036854775808) then
      some (⟨#[45, 57, 50, 50, 51, 51, 55, 50, 48, 51, 54, 56, 53, 52, 55, 55, 53, 56, 48, 56]⟩ : ByteArray)
    else
    m_ref02_Decimal (W (0 - p0)) >>= fun (v1 : ByteArray) =>
    sadd (⟨#[45]⟩ : ByteArray) v1 >>= fun v2 =>
    some v2
  else
  remM p0 10 >>= fun v3 =>
  remM p0 10 >>= fun v4 =>
  ssub (⟨#[48, 49, 50, 51, 52, 53, 54, 55, 56, 57]⟩ : ByteArray) v3 (W (v4 + 1)) >>= fun v5 =>
  if p0 < 10 then
    some v5
  else
  quoM p0 10 >>= fun v6 =>
  m_ref02_Decimal v6 >>= fun (v7 : ByteArray) =>
  sadd v7 v5 >>= fun v8 =>
  some v8
  partial_fixpoint
def P_ref02_Decimal : Int → ByteArray → Prop := fun x r => match x, r with
  | p0, r0 => ∀ H, PC prog env 32 ([(intD p0)].map .dat) H (.dat (strD r0)) H
theorem g_ref02_Decimal : (∀ x r, m_ref02_Decimal x = some r → P_ref02_Decimal x r) := by
  refine m_ref02_Decimal.partial_correctness P_ref02_Decimal ?_
  · intro m_ref02_Decimal w_ref02_Decimal p0 r0 hm
    unfold P_ref02_Decimal
    intro H
    refine PC_sx (ds := [(intD p0)]) (fn := f32) (by kernel_rfl) (by kernel_rfl) rfl ?_ (by kernel_rfl)
    refine R_seq ?_
    refine R_G ?_
    refine G_run 1 ?_
    refine G_end ?_
    refine R_seq ?_
    refine R_seq ?_
    refine R_G ?_
    refine G_run 2 ?_
    refine G_end ?_
    refine R_ifp (p := p0 < 0) (rfl) (fun hc => ?_) (fun hc => ?_)
    · replace hm := pos_inv hc hm
      refine R_seq ?_
      refine R_seq ?_
      refine R_G ?_
      refine G_run 2 ?_
      refine G_end ?_
      refine R_ifp (p := p0 = (-9223372036854775808)) (eq_dec _ _) (fun hc => ?_) (fun hc => ?_)
      · replace hm := pos_inv hc hm
        refine R_seq ?_
        refine R_G ?_
        refine G_run 1 ?_
        refine G_end ?_
        refine R_ret ?_
        obtain rfl := inj1 hm
        exact ⟨trivial, fin_pure (by kernel_rfl)⟩
      replace hm := neg_inv hc hm
      refine R_skip ?_
      refine R_seq ?_
      refine R_G ?_
      refine G_run 2 ?_
      obtain ⟨v1, hx, hm⟩ := bind_inv hm
      have hq := w_ref02_Decimal _ _ hx []
      refine G_callP hq ?_
      obtain ⟨v2, hx, hm⟩ := bind_inv hm
      refine G_semN rfl (by kernel_rfl) (fun _ => E_addStr (a := (⟨#[45]⟩ : ByteArray)) (b := v1) (c := v2) hx rfl (by kernel_rfl) (by kernel_rfl)) ?_
      refine G_run 1 ?_
      refine G_end ?_
      refine R_ret ?_
      obtain rfl := inj1 hm
      exact ⟨trivial, fin_pure (by kernel_rfl)⟩
    replace hm := neg_inv hc hm
    refine R_skip ?_
    refine R_seq ?_
    refine R_G ?_
    refine G_run 1 ?_
    refine G_end ?_
    refine R_seq ?_
    refine R_G ?_
    refine G_run 2 ?_
    obtain ⟨v3, hx, hm⟩ := bind_inv hm
    refine G_semN rfl (by kernel_rfl) (fun _ => E_rem (a := p0) (b := 10) hx rfl (by kernel_rfl) (by kernel_rfl)) ?_
    refine G_run 1 ?_
    obtain ⟨v4, hx, hm⟩ := bind_inv hm
    refine G_semN rfl (by kernel_rfl) (fun _ => E_rem (a := p0) (b := 10) hx rfl (by kernel_rfl) (by kernel_rfl)) ?_
    refine G_run 1 ?_
    obtain ⟨v5, hx, hm⟩ := bind_inv hm
    refine G_semN rfl (by kernel_rfl) (fun _ => E_subStr (b := (⟨#[48, 49, 50, 51, 52, 53, 54, 55, 56, 57]⟩ : ByteArray)) (l := v3) (h := (W (v4 + 1))) hx (by kernel_rfl) rfl (by kernel_rfl) (Or.inr ⟨_, .i64, rfl, (by kernel_rfl)⟩) (Or.inr ⟨_, .i64, rfl, (by kernel_rfl)⟩)) ?_
    refine G_run 1 ?_
    refine G_end ?_
    refine R_seq ?_
    refine R_seq ?_
    refine R_G ?_
    refine G_run 2 ?_
    refine G_end ?_
    refine R_ifp (p := p0 < 10) (rfl) (fun hc => ?_) (fun hc => ?_)
    · replace hm := pos_inv hc hm
      refine R_seq ?_
      refine R_G ?_
      refine G_run 2 ?_
      refine G_end ?_
      refine R_ret ?_
      obtain rfl := inj1 hm
      exact ⟨trivial, fin_pure (by kernel_rfl)⟩
    replace hm := neg_inv hc hm
    refine R_skip ?_
    refine R_seq ?_
    refine R_G ?_
    refine G_run 1 ?_
    obtain ⟨v6, hx, hm⟩ := bind_inv hm
    refine G_semN rfl (by kernel_rfl) (fun _ => E_quo (a := p0) (b := 10) hx rfl (by kernel_rfl) (by kernel_rfl)) ?_
    obtain ⟨v7, hx, hm⟩ := bind_inv hm
    have hq := w_ref02_Decimal _ _ hx []
    refine G_callP hq ?_
    refine G_run 1 ?_
    obtain ⟨v8, hx, hm⟩ := bind_inv hm
    refine G_semN rfl (by kernel_rfl) (fun _ => E_addStr (a := v7) (b := v5) (c := v8) hx rfl (by kernel_rfl) (by kernel_rfl)) ?_
    refine G_run 1 ?_
    refine G_end ?_
    refine R_ret ?_
    obtain rfl := inj1 hm
    exact ⟨trivial, fin_pure (by kernel_rfl)⟩
theorem w_ref02_Decimal : ∀ x r, m_ref02_Decimal x = some r → P_ref02_Decimal x r := g_ref02_Decimal
end Go.Proofs.Tryd
namespace Go.Proofs.Tryd
open Go Go.Pm
set_option linter.unusedVariables false
set_option maxHeartbeats 2000000
set_option maxRecDepth 2000
def m_ref10_function (x : T_api_Tree) : Option ByteArray :=
  match x with
  | p0 =>
  idx ([(⟨#[226, 134, 145]⟩ : ByteArray), (⟨#[226, 134, 147]⟩ : ByteArray), (⟨#[226, 140, 189]⟩ : ByteArray), (⟨#[226, 141, 137]⟩ : ByteArray), (⟨#[226, 141, 180]⟩ : ByteArray), (⟨#[44]⟩ : ByteArray)] : List ByteArray) (W (p0.fn - 1)) >>= fun v1 =>
  if p0.axis ≥ 0 then
    sadd v1 (⟨#[91]⟩ : ByteArray) >>= fun v2 =>
    m_ref02_Decimal p0.axis >>= fun (v3 : ByteArray) =>
    sadd v2 v3 >>= fun v4 =>
    sadd v4 (⟨#[93]⟩ : ByteArray) >>= fun v5 =>
    some v5
  else
  some v1
def P_ref10_function : T_api_Tree → ByteArray → Prop := fun x r => match x, r with
  | p0, r0 => ∀ H, PC prog env 18 ([(T_api_Tree.ex p0)].map .dat) H (.dat (strD r0)) H
theorem w_ref10_function : ∀ x r, m_ref10_function x = some r → P_ref10_function x r := by
  intro p0 r0 hm
  unfold m_ref10_function at hm
  unfold P_ref10_function
  intro H
  refine PC_sx (ds := [(T_api_Tree.ex p0)]) (fn := f18) (by kernel_rfl) (by kernel_rfl) rfl ?_ (by kernel_rfl)
  refine R_seq ?_
  refine R_G ?_
  refine G_run 2 ?_
  refine G_end ?_
  refine R_seq ?_
  refine R_G ?_
  refine G_run 4 ?_
  obtain ⟨v1, hx, hm⟩ := bind_inv hm
  refine I_idx 1 strD ([(⟨#[226, 134, 145]⟩ : ByteArray), (⟨#[226, 134, 147]⟩ : ByteArray), (⟨#[226, 140, 189]⟩ : ByteArray), (⟨#[226, 141, 137]⟩ : ByteArray), (⟨#[226, 141, 180]⟩ : ByteArray), (⟨#[44]⟩ : ByteArray)] : List ByteArray) (W (p0.fn - 1)) v1 (es := (List.map strD) ([(⟨#[226, 134, 145]⟩ : ByteArray), (⟨#[226, 134, 147]⟩ : ByteArray), (⟨#[226, 140, 189]⟩ : ByteArray), (⟨#[226, 141, 137]⟩ : ByteArray), (⟨#[226, 141, 180]⟩ : ByteArray), (⟨#[44]⟩ : ByteArray)] : List ByteArray)) (d := (strD v1)) rfl hx rfl rfl ?_
  refine G_run 2 ?_
  refine G_end ?_
  refine R_seq ?_
  refine R_seq ?_
  refine R_G ?_
  refine G_run 3 ?_
  refine G_end ?_
  refine R_ifp (p := p0.axis ≥ 0) (rfl) (fun hc => ?_) (fun hc => ?_)
  · replace hm := pos_inv hc hm
    refine R_seq ?_
    refine R_G ?_
    refine G_run 1 ?_
    obtain ⟨v2, hx, hm⟩ := bind_inv hm
    refine G_semN rfl (by kernel_rfl) (fun _ => E_addStr (a := v1) (b := (⟨#[91]⟩ : ByteArray)) (c := v2) hx rfl (by kernel_rfl) (by kernel_rfl)) ?_
    refine G_run 2 ?_
    obtain ⟨v3, hx, hm⟩ := bind_inv hm
    have hq := w_ref02_Decimal _ _ hx []
    refine G_callP hq ?_
    obtain ⟨v4, hx, hm⟩ := bind_inv hm
    refine G_semN rfl (by kernel_rfl) (fun _ => E_addStr (a := v2) (b := v3) (c := v4) hx rfl (by kernel_rfl) (by kernel_rfl)) ?_
    obtain ⟨v5, hx, hm⟩ := bind_inv hm
    refine G_semN rfl (by kernel_rfl) (fun _ => E_addStr (a := v4) (b := (⟨#[93]⟩ : ByteArray)) (c := v5) hx rfl (by kernel_rfl) (by kernel_rfl)) ?_
    refine G_run 1 ?_
    refine G_end ?_
    refine R_ret ?_
    obtain rfl := inj1 hm
    exact ⟨trivial, fin_pure (by kernel_rfl)⟩
  replace hm := neg_inv hc hm
  refine R_skip ?_
  refine R_seq ?_
  refine R_G ?_
  refine G_run 2 ?_
  refine G_end ?_
  refine R_ret ?_
  obtain rfl := inj1 hm
  exact ⟨trivial, fin_pure (by kernel_rfl)⟩
end Go.Proofs.Tryd
namespace Go.Proofs.Tryd
open Go Go.Pm
set_option linter.unusedVariables false
set_option maxHeartbeats 2000000
set_option maxRecDepth 2000
def m_ref07_Decimal (x : Int) : Option ByteArray :=
  match x with
  | p0 =>
  m_ref02_Decimal p0 >>= fun (v1 : ByteArray) =>
  if p0 < 0 then
    ssub v1 1 (v1.size : Int) >>= fun v2 =>
    sadd (⟨#[194, 175]⟩ : ByteArray) v2 >>= fun v3 =>
    some v3
  else
  some v1
def P_ref07_Decimal : Int → ByteArray → Prop := fun x r => match x, r with
  | p0, r0 => ∀ H, PC prog env 19 ([(intD p0)].map .dat) H (.dat (strD r0)) H
theorem w_ref07_Decimal : ∀ x r, m_ref07_Decimal x = some r → P_ref07_Decimal x r := by
  intro p0 r0 hm
  unfold m_ref07_Decimal at hm
  unfold P_ref07_Decimal
  intro H
  refine PC_sx (ds := [(intD p0)]) (fn := f19) (by kernel_rfl) (by kernel_rfl) rfl ?_ (by kernel_rfl)
  refine R_seq ?_
  refine R_G ?_
  refine G_run 1 ?_
  refine G_end ?_
  refine R_seq ?_
  refine R_G ?_
  refine G_run 1 ?_
  obtain ⟨v1, hx, hm⟩ := bind_inv hm
  have hq := w_ref02_Decimal _ _ hx []
  refine G_callP hq ?_
  refine G_run 1 ?_
  refine G_end ?_
  refine R_seq ?_
  refine R_seq ?_
  refine R_G ?_
  refine G_run 2 ?_
  refine G_end ?_
  refine R_ifp (p := p0 < 0) (rfl) (fun hc => ?_) (fun hc => ?_)
  · replace hm := pos_inv hc hm
    refine R_seq ?_
    refine R_G ?_
    refine G_run 1 ?_
    obtain ⟨v2, hx, hm⟩ := bind_inv hm
    refine G_semN rfl (by kernel_rfl) (fun _ => E_subStr (b := v1) (l := 1) (h := (v1.size : Int)) hx (by kernel_rfl) rfl (by kernel_rfl) (Or.inr ⟨_, .i64, rfl, (by kernel_rfl)⟩) (Or.inl ⟨rfl, rfl⟩)) ?_
    obtain ⟨v3, hx, hm⟩ := bind_inv hm
    refine G_semN rfl (by kernel_rfl) (fun _ => E_addStr (a := (⟨#[194, 175]⟩ : ByteArray)) (b := v2) (c := v3) hx rfl (by kernel_rfl) (by kernel_rfl)) ?_
    refine G_run 1 ?_
    refine G_end ?_
    refine R_ret ?_
    obtain rfl := inj1 hm
    exact ⟨trivial, fin_pure (by kernel_rfl)⟩
  replace hm := neg_inv hc hm
  refine R_skip ?_
  refine R_seq ?_
  refine R_G ?_
  refine G_run 2 ?_
  refine G_end ?_
  refine R_ret ?_
  obtain rfl := inj1 hm
  exact ⟨trivial, fin_pure (by kernel_rfl)⟩
end Go.Proofs.Tryd
namespace Go.Proofs.Tryd
open Go Go.Pm
set_option linter.unusedVariables false
set_option maxHeartbeats 2000000
set_option maxRecDepth 2000
def m_ref10_Expr_L1 (x : (T_api_Tree × ByteArray × Int)) : Option (ByteArray) :=
  match x with
  | (p0, v216, v217) =>
  if v217 < (p0.nums.length : Int) then
    (if v217 > 0 then
      sadd v216 (⟨#[32]⟩ : ByteArray) >>= fun v618 =>
      some v618
    else
    some v216
    ) >>= fun (v617 : ByteArray) =>
    idx p0.nums v217 >>= fun v619 =>
    m_ref07_Decimal v619 >>= fun (v620 : ByteArray) =>
    sadd v617 v620 >>= fun v621 =>
    m_ref10_Expr_L1 (p0, v621, (W (v217 + 1)))
  else
  some v216
  partial_fixpoint
def P_ref10_Expr_L1 : (T_api_Tree × ByteArray × Int) → ByteArray → Prop := fun x r => match x with
  | (p0, v216, v217) => ∀ st, prune 1 ((firstRegion (codeAt [1, 1, 1, 1, 1, 0, 1, 0, 0] (bodyOf f8))).bind (env.hint 8).keepAt) st = ⟨kp 73 [(1, (.ptr 0 0)), (4, (.dat (strD v216))), (5, (intPV v217))], [(.box [(intPV p0.kind), (intPV p0.fn), (intPV p0.axis), (.dat (strD p0.name)), (.dat (.lst ((List.map intD) p0.nums))), (.dat (.lst (T_api_Tree.toDs p0.kids)))])]⟩ →
    RL prog env (env.hint 8) true (codeAt [1, 1, 1, 1, 1, 0, 1, 0, 0] (bodyOf f8)) 1 st (fun e s => match r with | v616 => e = .exit 0 ∧ ∃ d, s = ⟨sl d 73 [(1, (.ptr 0 0)), (4, (.dat (strD v616)))], [(.box [(intPV p0.kind), (intPV p0.fn), (intPV p0.axis), (.dat (strD p0.name)), (.dat (.lst ((List.map intD) p0.nums))), (.dat (.lst (T_api_Tree.toDs p0.kids)))])]⟩)
theorem w_ref10_Expr_L1 : ∀ x r, m_ref10_Expr_L1 x = some r → P_ref10_Expr_L1 x r := by
  refine m_ref10_Expr_L1.partial_correctness _ (fun m_ref10_Expr_L1 w_ref10_Expr_L1 x r hm => ?_)
  unfold P_ref10_Expr_L1
  obtain ⟨p0, v216, v217⟩ := x
  intro st hst
  refine RL_at hst ?_
  clear hst
  refine R_seq ?_
  refine R_seq ?_
  refine R_G ?_
  refine G_run 3 ?_
  refine I_len intD p0.nums (es := (List.map intD) p0.nums) rfl ?_
  refine G_run 1 ?_
  refine G_end ?_
  refine R_ifp (p := v217 < (p0.nums.length : Int)) (rfl) (fun hc => ?_) (fun hc => ?_)
  · replace hm := pos_inv hc hm
    refine R_skip ?_
    refine R_seq ?_
    refine R_block ?_
    refine R_seq ?_
    refine R_seq ?_
    refine R_G ?_
    refine G_run 2 ?_
    refine G_end ?_
    obtain ⟨v617, hs, hm⟩ := bind_inv hm
    refine R_cut (fun d => ⟨sl d 73 [(1, (.ptr 0 0)), (4, (.dat (strD v617))), (5, (intPV v217))], [(.box [(intPV p0.kind), (intPV p0.fn), (intPV p0.axis), (.dat (strD p0.name)), (.dat (.lst ((List.map intD) p0.nums))), (.dat (.lst (T_api_Tree.toDs p0.kids)))])]⟩) ?_ (fun d => ?_)
    · replace hm := hs
      clear hs
      refine R_ifp (p := v217 > 0) (rfl) (fun hc => ?_) (fun hc => ?_)
      · replace hm := pos_inv hc hm
        refine R_G ?_
        refine G_run 1 ?_
        obtain ⟨v618, hx, hm⟩ := bind_inv hm
        refine G_semN rfl (by kernel_rfl) (fun _ => E_addStr (a := v216) (b := (⟨#[32]⟩ : ByteArray)) (c := v618) hx rfl (by kernel_rfl) (by kernel_rfl)) ?_
        refine G_run 1 ?_
        refine G_end ?_
        obtain rfl := inj1 hm
        exact cut_leaf (by kernel_rfl)
      replace hm := neg_inv hc hm
      refine R_skip ?_
      obtain rfl := inj1 hm
      exact cut_leaf (by kernel_rfl)
    clear hs
    refine R_G ?_
    refine G_run 4 ?_
    obtain ⟨v619, hx, hm⟩ := bind_inv hm
    refine I_idx 1 intD p0.nums v217 v619 (es := (List.map intD) p0.nums) (d := (intD v619)) rfl hx rfl rfl ?_
    refine G_run 1 ?_
    obtain ⟨v620, hx, hm⟩ := bind_inv hm
    have hq := w_ref07_Decimal _ _ hx []
    refine G_callP hq ?_
    obtain ⟨v621, hx, hm⟩ := bind_inv hm
    refine G_semN rfl (by kernel_rfl) (fun _ => E_addStr (a := v617) (b := v620) (c := v621) hx rfl (by kernel_rfl) (by kernel_rfl)) ?_
    refine G_run 1 ?_
    refine G_end ?_
    refine R_G ?_
    refine G_run 3 ?_
    refine G_end ?_
    exact w_ref10_Expr_L1 _ _ hm _ (by kernel_rfl)
  replace hm := neg_inv hc hm
  refine R_exit ?_
  obtain rfl := inj1 hm
  exact ⟨rfl, cut_leaf (by kernel_rfl)⟩
def m_ref10_Expr (x : T_api_Tree) : Option ByteArray :=
  match x with
  | p0 =>
  if p0.kind = 2 then
    some p0.name
  else
  if p0.kind = 3 then
    m_ref10_function (⟨p0.kind, p0.fn, p0.axis, p0.name, p0.nums, p0.kids⟩ : T_api_Tree) >>= fun (v1 : ByteArray) =>
    idx p0.kids 0 >>= fun v2 =>
    m_ref10_Expr v2 >>= fun (v3 : ByteArray) =>
    sadd v1 v3 >>= fun v4 =>
    some v4
  else
  if p0.kind = 4 then
    idx p0.kids 0 >>= fun v5 =>
    m_ref10_Expr v5 >>= fun (v6 : ByteArray) =>
    idx p0.kids 0 >>= fun v7 =>
    (if v7.kind > 2 then
      sadd (⟨#[40]⟩ : ByteArray) v6 >>= fun v9 =>
      sadd v9 (⟨#[41]⟩ : ByteArray) >>= fun v10 =>
      some v10
    else
    some v6
    ) >>= fun (v8 : ByteArray) =>
    m_ref10_function (⟨p0.kind, p0.fn, p0.axis, p0.name, p0.nums, p0.kids⟩ : T_api_Tree) >>= fun (v11 : ByteArray) =>
    sadd v8 v11 >>= fun v12 =>
    idx p0.kids 1 >>= fun v13 =>
    m_ref10_Expr v13 >>= fun (v14 : ByteArray) =>
    sadd v12 v14 >>= fun v15 =>
    some v15
  else
  m_ref10_Expr_L1 (p0, ByteArray.empty, 0) >>= fun (v616 : ByteArray) =>
  if (p0.nums.length : Int) = 0 then
    some (⟨#[226, 141, 172]⟩ : ByteArray)
  else
  some v616
  partial_fixpoint
def P_ref10_Expr : T_api_Tree → ByteArray → Prop := fun x r => match x, r with
  | p0, r0 => ∀ H, PC prog env 8 ([(T_api_Tree.ex p0)].map .dat) H (.dat (strD r0)) H
theorem g_ref10_Expr : (∀ x r, m_ref10_Expr x = some r → P_ref10_Expr x r) := by
  refine m_ref10_Expr.partial_correctness P_ref10_Expr ?_
  · intro m_ref10_Expr w_ref10_Expr p0 r0 hm
    unfold P_ref10_Expr
    intro H
    refine PC_sx (ds := [(T_api_Tree.ex p0)]) (fn := f8) (by kernel_rfl) (by kernel_rfl) rfl ?_ (by kernel_rfl)
    refine R_seq ?_
    refine R_G ?_
    refine G_run 2 ?_
    refine G_end ?_
    refine R_seq ?_
    refine R_seq ?_
    refine R_G ?_
    refine G_run 3 ?_
    refine G_end ?_
    refine R_ifp (p := p0.kind = 2) (eq_dec _ _) (fun hc => ?_) (fun hc => ?_)
    · replace hm := pos_inv hc hm
      refine R_seq ?_
      refine R_G ?_
      refine G_run 3 ?_
      refine G_end ?_
      refine R_ret ?_
      obtain rfl := inj1 hm
      exact ⟨trivial, fin_pure (by kernel_rfl)⟩
    replace hm := neg_inv hc hm
    refine R_skip ?_
    refine R_seq ?_
    refine R_seq ?_
    refine R_G ?_
    refine G_run 3 ?_
    refine G_end ?_
    refine R_ifp (p := p0.kind = 3) (eq_dec _ _) (fun hc => ?_) (fun hc => ?_)
    · replace hm := pos_inv hc hm
      refine R_seq ?_
      refine R_GD ?_
      refine G_run 1 ?_
      obtain ⟨v1, hx, hm⟩ := bind_inv hm
      have hq := w_ref10_function _ _ hx []
      refine G_callP hq ?_
      refine G_run 2 ?_
      obtain ⟨v2, hx, hm⟩ := bind_inv hm
      refine I_idx 6 T_api_Tree.toD p0.kids 0 v2 (es := T_api_Tree.toDs p0.kids) (d := (T_api_Tree.ex v2)) (T_api_Tree.toDs_eq _) hx (T_api_Tree.toD_eq v2) rfl ?_
      refine G_run 1 ?_
      obtain ⟨v3, hx, hm⟩ := bind_inv hm
      have hq := w_ref10_Expr _ _ hx []
      refine G_callP hq ?_
      obtain ⟨v4, hx, hm⟩ := bind_inv hm
      refine G_semN rfl (by kernel_rfl) (fun _ => E_addStr (a := v1) (b := v3) (c := v4) hx rfl (by kernel_rfl) (by kernel_rfl)) ?_
      refine G_run 1 ?_
      refine G_end ⟨by kernel_rfl, ?_⟩
      refine R_ret ?_
      obtain rfl := inj1 hm
      exact ⟨trivial, fin_pure (by kernel_rfl)⟩
    replace hm := neg_inv hc hm
    refine R_skip ?_
    refine R_seq ?_
    refine R_seq ?_
    refine R_G ?_
    refine G_run 3 ?_
    refine G_end ?_
    refine R_ifp (p := p0.kind = 4) (eq_dec _ _) (fun hc => ?_) (fun hc => ?_)
    · replace hm := pos_inv hc hm
      refine R_seq ?_
      refine R_G ?_
      refine G_run 2 ?_
      obtain ⟨v5, hx, hm⟩ := bind_inv hm
      refine I_idx 6 T_api_Tree.toD p0.kids 0 v5 (es := T_api_Tree.toDs p0.kids) (d := (T_api_Tree.ex v5)) (T_api_Tree.toDs_eq _) hx (T_api_Tree.toD_eq v5) rfl ?_
      refine G_run 1 ?_
      obtain ⟨v6, hx, hm⟩ := bind_inv hm
      have hq := w_ref10_Expr _ _ hx []
      refine G_callP hq ?_
      refine G_run 1 ?_
      refine G_end ?_
      refine R_seq ?_
      refine R_seq ?_
      refine R_G ?_
      refine G_run 2 ?_
      obtain ⟨v7, hx, hm⟩ := bind_inv hm
      refine I_idx 6 T_api_Tree.toD p0.kids 0 v7 (es := T_api_Tree.toDs p0.kids) (d := (T_api_Tree.ex v7)) (T_api_Tree.toDs_eq _) hx (T_api_Tree.toD_eq v7) rfl ?_
      refine G_run 3 ?_
      refine G_end ?_
      obtain ⟨v8, hs, hm⟩ := bind_inv hm
      refine R_cut (fun d => ⟨sl d 73 [(1, (.ptr 0 0)), (3, (.dat (strD v8)))], [(.box [(intPV p0.kind), (intPV p0.fn), (intPV p0.axis), (.dat (strD p0.name)), (.dat (.lst ((List.map intD) p0.nums))), (.dat (.lst (T_api_Tree.toDs p0.kids)))])]⟩) ?_ (fun d => ?_)
      · replace hm := hs
        clear hs
        refine R_ifp (p := v7.kind > 2) (rfl) (fun hc => ?_) (fun hc => ?_)
        · replace hm := pos_inv hc hm
          refine R_G ?_
          refine G_run 1 ?_
          obtain ⟨v9, hx, hm⟩ := bind_inv hm
          refine G_semN rfl (by kernel_rfl) (fun _ => E_addStr (a := (⟨#[40]⟩ : ByteArray)) (b := v6) (c := v9) hx rfl (by kernel_rfl) (by kernel_rfl)) ?_
          obtain ⟨v10, hx, hm⟩ := bind_inv hm
          refine G_semN rfl (by kernel_rfl) (fun _ => E_addStr (a := v9) (b := (⟨#[41]⟩ : ByteArray)) (c := v10) hx rfl (by kernel_rfl) (by kernel_rfl)) ?_
          refine G_run 1 ?_
          refine G_end ?_
          obtain rfl := inj1 hm
          exact cut_leaf (by kernel_rfl)
        replace hm := neg_inv hc hm
        refine R_skip ?_
        obtain rfl := inj1 hm
        exact cut_leaf (by kernel_rfl)
      clear hs
      refine R_seq ?_
      refine R_GD ?_
      refine G_run 2 ?_
      obtain ⟨v11, hx, hm⟩ := bind_inv hm
      have hq := w_ref10_function _ _ hx []
      refine G_callP hq ?_
      obtain ⟨v12, hx, hm⟩ := bind_inv hm
      refine G_semN rfl (by kernel_rfl) (fun _ => E_addStr (a := v8) (b := v11) (c := v12) hx rfl (by kernel_rfl) (by kernel_rfl)) ?_
      refine G_run 2 ?_
      obtain ⟨v13, hx, hm⟩ := bind_inv hm
      refine I_idx 6 T_api_Tree.toD p0.kids 1 v13 (es := T_api_Tree.toDs p0.kids) (d := (T_api_Tree.ex v13)) (T_api_Tree.toDs_eq _) hx (T_api_Tree.toD_eq v13) rfl ?_
      refine G_run 1 ?_
      obtain ⟨v14, hx, hm⟩ := bind_inv hm
      have hq := w_ref10_Expr _ _ hx []
      refine G_callP hq ?_
      obtain ⟨v15, hx, hm⟩ := bind_inv hm
      refine G_semN rfl (by kernel_rfl) (fun _ => E_addStr (a := v12) (b := v14) (c := v15) hx rfl (by kernel_rfl) (by kernel_rfl)) ?_
      refine G_run 1 ?_
      refine G_end ⟨by kernel_rfl, ?_⟩
      refine R_ret ?_
      obtain rfl := inj1 hm
      exact ⟨trivial, fin_pure (by kernel_rfl)⟩
    replace hm := neg_inv hc hm
    refine R_skip ?_
    refine R_seq ?_
    refine R_G ?_
    refine G_run 1 ?_
    refine G_end ?_
    refine R_seq ?_
    refine R_seq ?_
    refine R_G ?_
    refine G_run 1 ?_
    refine G_end ?_
    refine R_block ?_
    obtain ⟨v616, hs, hm⟩ := bind_inv hm
    refine R_loop ?_
    refine RL_use (w_ref10_Expr_L1 _ _ hs) (by kernel_rfl) ?_
    clear hs
    intro e s hp
    obtain ⟨rfl, d, rfl⟩ := hp
    refine R_seq ?_
    refine R_seq ?_
    refine R_G ?_
    refine G_run 2 ?_
    refine I_len intD p0.nums (es := (List.map intD) p0.nums) rfl ?_
    refine G_run 1 ?_
    refine G_end ?_
    refine R_ifp (p := (p0.nums.length : Int) = 0) (eq_dec _ _) (fun hc => ?_) (fun hc => ?_)
    · replace hm := pos_inv hc hm
      refine R_seq ?_
      refine R_G ?_
      refine G_run 1 ?_
      refine G_end ?_
      refine R_ret ?_
      obtain rfl := inj1 hm
      exact ⟨trivial, fin_pure (by kernel_rfl)⟩
    replace hm := neg_inv hc hm
    refine R_skip ?_
    refine R_seq ?_
    refine R_G ?_
    refine G_run 2 ?_
    refine G_end ?_
    refine R_ret ?_
    obtain rfl := inj1 hm
    exact ⟨trivial, fin_pure (by kernel_rfl)⟩
theorem w_ref10_Expr : ∀ x r, m_ref10_Expr x = some r → P_ref10_Expr x r := g_ref10_Expr
end Go.Proofs.Tryd
namespace Go.Proofs.Tryd
open Go Go.Pm
set_option linter.unusedVariables false
set_option maxHeartbeats 2000000
set_option maxRecDepth 2000
def m_law29_SimplifyTexts (x : ByteArray) : Option Bool :=
  match x with
  | p0 =>
  m_ref09_Text p0 >>= fun ((v1, v2) : (T_api_Tree × Int)) =>
  (m_law29_awake () >>= fun (v4 : Bool) =>
  (if v4 = false then
    some true
  else
  some (decide ((p0.size : Int) > 300))
  ) >>= fun (v5 : Bool) =>
  if v5 = true then
    some true
  else
  some (v2 != 0)
  ) >>= fun (v3 : Bool) =>
  if v3 = true then
    m_law29_awake () >>= fun (v6 : Bool) =>
    some v6
  else
  m_simplify_Simplify v1 >>= fun (v7 : T_api_Tree) =>
  m_ref08_Small ((⟨v7.kind, v7.fn, v7.axis, v7.name, v7.nums, v7.kids⟩ : T_api_Tree), 300) >>= fun (v8 : Bool) =>
  if v8 = false then
    some false
  else
  m_ref10_Expr v7 >>= fun (v9 : ByteArray) =>
  m_ref09_Text v9 >>= fun ((v10, v11) : (T_api_Tree × Int)) =>
  if v11 = 0 then
    m_simplify_Simplify v10 >>= fun (v12 : T_api_Tree) =>
    m_ref08_Same (v12, v7) >>= fun (v13 : Bool) =>
    some v13
  else
  some false
def P_law29_SimplifyTexts : ByteArray → Bool → Prop := fun x r => match x, r with
  | p0, r0 => ∀ H, PC prog env 3 ([(strD p0)].map .dat) H (boolPV r0) H
theorem w_law29_SimplifyTexts : ∀ x r, m_law29_SimplifyTexts x = some r → P_law29_SimplifyTexts x r := by
  intro p0 r0 hm
  unfold m_law29_SimplifyTexts at hm
  unfold P_law29_SimplifyTexts
  intro H
  refine PC_sx (ds := [(strD p0)]) (fn := f3) (by kernel_rfl) (by kernel_rfl) rfl ?_ (by kernel_rfl)
  refine R_seq ?_
  refine R_G ?_
  refine G_run 1 ?_
  refine G_end ?_
  refine R_seq ?_
  refine R_G ?_
  refine G_run 1 ?_
  obtain ⟨⟨v1, v2⟩, hx, hm⟩ := bind_inv hm
  have hq := w_ref09_Text _ _ hx []
  refine G_callP hq ?_
  refine G_run 6 ?_
  refine G_end ?_
  refine R_seq ?_
  refine R_seq ?_
  obtain ⟨v3, hs, hm⟩ := bind_inv hm
  refine R_cut (fun d => ⟨sl d 44 [(3, (.ptr 0 0)), (23, (boolPV v3))], [(.box [(intPV v1.kind), (intPV v1.fn), (intPV v1.axis), (.dat (strD v1.name)), (.dat (.lst ((List.map intD) v1.nums))), (.dat (.lst (T_api_Tree.toDs v1.kids)))])]⟩) ?_ (fun d => ?_)
  · replace hm := hs
    clear hs
    refine R_GN ?_
    obtain ⟨v4, hx, hm⟩ := bind_inv hm
    have hq := w_law29_awake _ _ hx []
    refine G_callP hq ?_
    refine G_run 2 ?_
    obtain ⟨v5, hs, hm⟩ := bind_inv hm
    refine G_cut (j := 7) (fun d => ⟨sl d 44 [(0, (.dat (strD p0))), (2, (boolPV false)), (3, (.ptr 0 0)), (4, (intPV v2)), (8, (.tup [(.dat (.agg [(intD v1.kind), (intD v1.fn), (intD v1.axis), (strD v1.name), (.lst ((List.map intD) v1.nums)), (.lst (T_api_Tree.toDs v1.kids))])), (intPV v2)])), (9, (.dat (strD p0))), (10, (.tup [(.dat (.agg [(intD v1.kind), (intD v1.fn), (intD v1.axis), (strD v1.name), (.lst ((List.map intD) v1.nums)), (.lst (T_api_Tree.toDs v1.kids))])), (intPV v2)])), (11, (.dat (.agg [(intD v1.kind), (intD v1.fn), (intD v1.axis), (strD v1.name), (.lst ((List.map intD) v1.nums)), (.lst (T_api_Tree.toDs v1.kids))]))), (12, (intPV v2)), (13, (boolPV v4)), (14, (boolPV (!v4))), (19, (boolPV v5))], [(.box [(intPV v1.kind), (intPV v1.fn), (intPV v1.axis), (.dat (strD v1.name)), (.dat (.lst ((List.map intD) v1.nums))), (.dat (.lst (T_api_Tree.toDs v1.kids)))])]⟩) (fun d => ?_) (fun hJ => ?_)
    · clear hs
      refine G_run 1 ?_
      refine G_split (p := v5 = true) 20 (bool_dec _) (fun hc => ?_) (fun hc => ?_)
      · replace hm := pos_inv hc hm
        refine G_run 3 ?_
        refine G_end ⟨by kernel_rfl, ?_⟩
        obtain rfl := inj1 hm
        exact cut_leaf (by kernel_rfl)
      replace hm := neg_inv hc hm
      refine G_run 3 ?_
      refine G_end ⟨by kernel_rfl, ?_⟩
      obtain rfl := inj1 hm
      exact cut_leaf (by kernel_rfl)
    replace hm := hs
    clear hs
    refine G_split (p := v4 = false) 15 (not_dec _) (fun hc => ?_) (fun hc => ?_)
    · replace hm := pos_inv hc hm
      refine G_run 4 ?_
      obtain rfl := inj1 hm
      exact hJ _ _ (by kernel_rfl) (by kernel_rfl)
    replace hm := neg_inv hc hm
    refine G_run 1 ?_
    refine G_semN rfl (by kernel_rfl) (fun _ => E_lenStr (b := p0) (by kernel_rfl) rfl (by kernel_rfl)) ?_
    refine G_run 2 ?_
    obtain rfl := inj1 hm
    exact hJ _ _ (by kernel_rfl) (by kernel_rfl)
  clear hs
  refine R_ifp (p := v3 = true) (bool_dec _) (fun hc => ?_) (fun hc => ?_)
  · replace hm := pos_inv hc hm
    refine R_seq ?_
    refine R_G ?_
    obtain ⟨v6, hx, hm⟩ := bind_inv hm
    have hq := w_law29_awake _ _ hx []
    refine G_callP hq ?_
    refine G_run 1 ?_
    refine G_end ?_
    refine R_ret ?_
    obtain rfl := inj1 hm
    exact ⟨trivial, fin_pure (by kernel_rfl)⟩
  replace hm := neg_inv hc hm
  refine R_skip ?_
  refine R_seq ?_
  refine R_G ?_
  refine G_run 1 ?_
  obtain ⟨v7, hx, hm⟩ := bind_inv hm
  have hq := w_simplify_Simplify _ _ hx []
  refine G_callP hq ?_
  refine G_run 2 ?_
  refine G_end ?_
  refine R_seq ?_
  refine R_seq ?_
  refine R_G ?_
  refine G_run 1 ?_
  obtain ⟨v8, hx, hm⟩ := bind_inv hm
  have hq := w_ref08_Small _ _ hx []
  refine G_callP hq ?_
  refine G_run 1 ?_
  refine G_end ?_
  refine R_ifp (p := v8 = false) (not_dec _) (fun hc => ?_) (fun hc => ?_)
  · replace hm := pos_inv hc hm
    refine R_seq ?_
    refine R_G ?_
    refine G_run 1 ?_
    refine G_end ?_
    refine R_ret ?_
    obtain rfl := inj1 hm
    exact ⟨trivial, fin_pure (by kernel_rfl)⟩
  replace hm := neg_inv hc hm
  refine R_skip ?_
  refine R_seq ?_
  refine R_G ?_
  refine G_run 1 ?_
  obtain ⟨v9, hx, hm⟩ := bind_inv hm
  have hq := w_ref10_Expr _ _ hx []
  refine G_callP hq ?_
  obtain ⟨⟨v10, v11⟩, hx, hm⟩ := bind_inv hm
  have hq := w_ref09_Text _ _ hx []
  refine G_callP hq ?_
  refine G_run 6 ?_
  refine G_end ?_
  refine R_seq ?_
  refine R_GD ?_
  refine G_run 3 ?_
  refine G_split (p := v11 = 0) 38 (eq_dec _ _) (fun hc => ?_) (fun hc => ?_)
  · replace hm := pos_inv hc hm
    refine G_run 1 ?_
    obtain ⟨v12, hx, hm⟩ := bind_inv hm
    have hq := w_simplify_Simplify _ _ hx []
    refine G_callP hq ?_
    refine G_run 1 ?_
    obtain ⟨v13, hx, hm⟩ := bind_inv hm
    have hq := w_ref08_Same _ _ hx []
    refine G_callP hq ?_
    refine G_run 2 ?_
    refine G_end ⟨by kernel_rfl, ?_⟩
    refine R_ret ?_
    obtain rfl := inj1 hm
    exact ⟨trivial, fin_pure (by kernel_rfl)⟩
  replace hm := neg_inv hc hm
  refine G_run 6 ?_
  refine G_end ⟨by kernel_rfl, ?_⟩
  refine R_ret ?_
  obtain rfl := inj1 hm
  exact ⟨trivial, fin_pure (by kernel_rfl)⟩
end Go.Proofs.Tryd
namespace Go.Proofs.Tryd
open Go Go.Pm
set_option linter.unusedVariables false
set_option linter.unusedSimpArgs false
set_option maxRecDepth 2000
def B (l : List UInt8) : ByteArray := ⟨l.toArray⟩
theorem B_size (l : List UInt8) : (B l).size = l.length := by simp [B, ByteArray.size]
theorem B_eta (b : ByteArray) : B b.data.toList = b := by cases b; simp [B]
theorem B_inj {a b : List UInt8} : B a = B b ↔ a = b := by
  constructor
  · intro h
    have := congrArg (fun x : ByteArray => x.data.toList) h
    simpa [B] using this
  · intro h; rw [h]
theorem sidx_B (p s : List UInt8) (x : UInt8) : sidx (B (p ++ x :: s)) (p.length : Int) = some (x.toNat : Int) := by
  unfold sidx B
  rw [if_pos (by omega)]
  simp
theorem sidx_0 (s : List UInt8) (x : UInt8) : sidx (B (x :: s)) 0 = some (x.toNat : Int) := sidx_B [] s x
theorem extract_B (l : List UInt8) (i j : Nat) : (B l).extract i j = B ((l.take j).drop i) := by
  have h : ((B l).extract i j).data = ((l.take j).drop i).toArray := by
    rw [ByteArray.data_extract]
    show l.toArray.extract i j = _
    rw [List.extract_toArray]
    simp [List.extract, List.drop_take]
  cases e : (B l).extract i j
  rw [e] at h
  simp only at h
  rw [h]; rfl
theorem ssub_B {l : List UInt8} {p m s : List UInt8} (hl : l = p ++ (m ++ s)) {i j : Int} (hi : i = (p.length : Int)) (hj : j = ((p.length + m.length : Nat) : Int)) : ssub (B l) i j = some (B m) := by
  subst hl hi hj
  unfold ssub
  rw [if_pos ⟨by omega, by omega, by rw [B_size]; simp; omega⟩, extract_B]
  have h : (p ++ (m ++ s)).take (p.length + m.length) = p ++ m := by rw [← List.append_assoc]; exact List.take_left' (by simp)
  rw [Int.toNat_natCast, Int.toNat_natCast, h]
  simp
theorem sadd_B {a b : List UInt8} (h : a.length + b.length ≤ 1000000) : sadd (B a) (B b) = some (B (a ++ b)) := by
  unfold sadd
  rw [if_pos (by rw [B_size, B_size]; omega)]
  congr 1
theorem W_in (n : Int) : -9223372036854775808 ≤ W n ∧ W n < 9223372036854775808 := by
  simp only [W, IntKind.wrap, IntKind.bits, IntKind.signed]; simp; split <;> omega
/-- letters and digits -/
def lt (v : Int) : Bool := decide (65 ≤ v ∧ v ≤ 90) || decide (97 ≤ v ∧ v ≤ 122) || decide (v = 95)
def dg (v : Int) : Bool := decide (48 ≤ v ∧ v ≤ 57)
theorem letter_eq (v : Int) : m_ref07_letter v = some (lt v) := by
  unfold m_ref07_letter lt
  simp only []
  by_cases h1 : v ≥ 65 <;> by_cases h2 : v ≤ 90 <;> by_cases h3 : v ≥ 97 <;> by_cases h4 : v ≤ 122 <;> simp [h1, h2, h3, h4, bind_ok] <;> first | done | rfl | omega
theorem digit_eq (v : Int) : m_ref07_digit v = some (dg v) := by
  unfold m_ref07_digit dg
  simp only []
  by_cases h1 : v ≥ 48 <;> by_cases h2 : v ≤ 57 <;> simp [h1, h2]
def wordc (c : UInt8) : Bool := lt (c.toNat : Int) || dg (c.toNat : Int)
theorem end_L1 : ∀ (s p l : List UInt8), l = p ++ s → l.length ≤ 1000000 → m_ref07_end_L1 (B l, (p.length : Int)) = some (((p.length + (s.takeWhile wordc).length : Nat)) : Int)
  | [], p, l, hl, hs => by
    subst hl
    rw [m_ref07_end_L1]
    have : ¬ ((p.length : Int) < ((B (p ++ [])).size : Int)) := by rw [B_size]; simp
    simp only [this, if_false, bind_ok, Bool.false_eq_true, List.takeWhile_nil, List.length_nil, Nat.add_zero]
  | c :: s, p, l, hl, hs => by
    rw [m_ref07_end_L1]
    have h1 : ((p.length : Int) < ((B l).size : Int)) := by rw [B_size, hl]; simp; omega
    have e : sidx (B l) (p.length : Int) = some (c.toNat : Int) := by rw [hl]; exact sidx_B p s c
    have hw : W ((p.length : Int) + 1) = ((p ++ [c]).length : Int) := by
      rw [hl] at hs; simp at hs
      rw [W_ok (by omega) (by omega)]; simp
    have ih := end_L1 s (p ++ [c]) l (by simp [hl]) hs
    simp only [h1, if_true, e, letter_eq, digit_eq, bind_ok]
    by_cases hL : lt (c.toNat : Int) = true
    · have hc : wordc c = true := by unfold wordc; rw [hL]; rfl
      simp only [hL, if_true, bind_ok, hw]
      rw [ih, List.takeWhile_cons, if_pos hc]
      exact congrArg (fun n : Nat => some (n : Int)) (by simp; omega)
    · have hL' : lt (c.toNat : Int) = false := by simpa using hL
      simp only [hL', Bool.false_eq_true, if_false, bind_ok]
      by_cases hD : dg (c.toNat : Int) = true
      · have hc : wordc c = true := by unfold wordc; rw [hD]; simp
        simp only [hD, if_true, hw]
        rw [ih, List.takeWhile_cons, if_pos hc]
        exact congrArg (fun n : Nat => some (n : Int)) (by simp; omega)
      · have hD' : dg (c.toNat : Int) = false := by simpa using hD
        have hc : wordc c = false := by unfold wordc; rw [hD', hL']; rfl
        simp [hD', List.takeWhile_cons, hc]
theorem end_ok {s p l : List UInt8} (hl : l = p ++ s) (hs : l.length ≤ 1000000) {i : Int} (hi : i = (p.length : Int)) : m_ref07_end (B l, i) = some (((p.length + (s.takeWhile wordc).length : Nat)) : Int) := by
  subst hi
  unfold m_ref07_end
  simp only [end_L1 s p l hl hs, bind_ok]
/-- a text that begins with another one -/
def pre (g s : List UInt8) : Bool := decide (s.take g.length = g)
theorem begins_ok {s p l : List UInt8} (hl : l = p ++ s) (hs : l.length ≤ 1000000) (g : List UInt8) (hg : g.length ≤ 1000) {i : Int} (hi : i = (p.length : Int)) : m_ref07_begins (B l, i, B g) = some (pre g s) := by
  subst hi
  unfold m_ref07_begins
  have hlen : l.length = p.length + s.length := by rw [hl]; simp
  have hw : W ((p.length : Int) + (g.length : Int)) = ((p.length + g.length : Nat) : Int) := by rw [W_ok (by omega) (by omega)]; omega
  simp only [B_size, hw]
  by_cases h : g.length ≤ s.length
  · have h1 : ((p.length + g.length : Nat) : Int) ≤ (l.length : Int) := by omega
    have e : ssub (B l) (p.length : Int) ((p.length + g.length : Nat) : Int) = some (B (s.take g.length)) := by
      refine ssub_B (s := s.drop g.length) (by rw [hl, List.take_append_drop]) rfl ?_
      rw [List.length_take]; congr 2; omega
    simp only [h1, if_true, e, bind_ok, pre]
    congr 1
    rw [decide_eq_decide]
    exact B_inj
  · have h1 : ¬ ((p.length + g.length : Nat) : Int) ≤ (l.length : Int) := by omega
    simp only [h1, if_false, pre]
    congr 1
    symm
    rw [decide_eq_false_iff_not]
    intro q
    have := congrArg List.length q
    rw [List.length_take] at this
    omega
theorem pre_len {g s : List UInt8} (h : pre g s = true) : ∃ r, s = g ++ r := by
  unfold pre at h
  rw [decide_eq_true_eq] at h
  exact ⟨s.drop g.length, by
    have := List.take_append_drop g.length s
    rw [h] at this
    exact this.symm⟩
theorem word_word (w : List UInt8) (h : ∀ c ∈ w, wordc c = true) (s : List UInt8) (hs : ∀ c, s.head? = some c → wordc c = false) : (w ++ s).takeWhile wordc = w := by
  induction w with
  | nil =>
    cases s with
    | nil => rfl
    | cons c s => simp [List.takeWhile_cons, hs c rfl]
  | cons c w ih =>
    rw [List.cons_append, List.takeWhile_cons, h c (by simp)]
    simp only [if_true]
    rw [ih (fun d hd => h d (by simp [hd]))]
end Go.Proofs.Tryd
namespace Go.Proofs.Tryd
open Go Go.Pm
set_option linter.unusedVariables false
set_option linter.unusedSimpArgs false
set_option maxRecDepth 2000
def i64 (n : Int) : Prop := -9223372036854775808 ≤ n ∧ n < 9223372036854775808
theorem value_L1_tot : ∀ (s p l : List UInt8) (neg : Bool) (n : Int), l = p ++ s → l.length ≤ 1000000 → i64 n → ∃ r, m_ref07_value_L1 (B l, neg, n, (p.length : Int)) = some r ∧ ∀ v, r = .inr v → i64 v
  | [], p, l, neg, n, hl, hs, hn => by
    rw [m_ref07_value_L1]
    have : ¬ ((p.length : Int) < ((B l).size : Int)) := by rw [B_size, hl]; simp
    simp only [this, if_false]
    exact ⟨_, rfl, fun v e => by cases e; exact hn⟩
  | c :: s, p, l, neg, n, hl, hs, hn => by
    rw [m_ref07_value_L1]
    have h1 : ((p.length : Int) < ((B l).size : Int)) := by rw [B_size, hl]; simp; omega
    have e : sidx (B l) (p.length : Int) = some (c.toNat : Int) := by rw [hl]; exact sidx_B p s c
    have hw : W ((p.length : Int) + 1) = ((p ++ [c]).length : Int) := by
      rw [hl] at hs; simp at hs
      rw [W_ok (by omega) (by omega)]; simp
    simp only [h1, if_true, e, digit_eq, bind_ok]
    by_cases hd : dg (c.toNat : Int) = false
    · simp only [hd, if_true]
      exact ⟨_, rfl, fun v e => by cases e⟩
    · have q10 : ¬ ((10 : Int) = 0) := by decide
      have hd' : dg (c.toNat : Int) = true := by simpa using hd
      simp only [hd', Bool.true_eq_false, if_false, quoM, q10, bind_ok]
      split
      · exact ⟨_, rfl, fun v e => by cases e⟩
      · rw [hw]
        exact value_L1_tot s (p ++ [c]) l neg _ (by simp [hl]) hs (W_in _)
theorem ite_b {c : Prop} [Decidable c] {α : Type} (a b : α) : (if c then some a else some b) = some (if c then a else b) := by split <;> rfl
theorem value_tot (l : List UInt8) (neg : Bool) (hs : l.length ≤ 1000000) : ∃ n ok, m_ref07_value (B l, neg) = some (n, ok) ∧ i64 n := by
  unfold m_ref07_value
  obtain ⟨r, er, hr⟩ := value_L1_tot l [] l neg 0 rfl hs ⟨by omega, by omega⟩
  simp only [List.length_nil, Int.natCast_zero] at er
  have hb : ∃ b, (if ((B l).size : Int) = 0 then some true else sidx (B l) 0 >>= fun v2 => if v2 = 48 then (if ((B l).size : Int) > 1 then some true else some neg) >>= fun (v3 : Bool) => some v3 else some false) = some b := by
    cases l with
    | nil => exact ⟨true, rfl⟩
    | cons c l =>
      have h0 : ¬ (((B (c :: l)).size : Int) = 0) := by rw [B_size]; simp; omega
      simp only [h0, if_false, sidx_0, bind_ok, ite_b]
      exact ⟨_, rfl⟩
  obtain ⟨b, hb⟩ := hb
  simp only [hb, er, bind_ok]
  cases b with
  | true => exact ⟨0, false, rfl, by omega, by omega⟩
  | false =>
    simp only [Bool.false_eq_true, if_false]
    cases r with
    | inl u => exact ⟨0, false, rfl, by omega, by omega⟩
    | inr v =>
      have hv := hr v rfl
      simp only
      cases neg with
      | true => exact ⟨v, true, rfl, hv⟩
      | false =>
        simp only [Bool.false_eq_true, if_false]
        split
        · exact ⟨0, false, rfl, by omega, by omega⟩
        · exact ⟨_, true, rfl, W_in _⟩
/-- the glyphs -/
def GL : List (List UInt8) := [[226, 134, 145], [226, 134, 147], [226, 140, 189], [226, 141, 137], [226, 141, 180], [226, 141, 172], [226, 134, 144], [44], [40], [41], [91], [93]]
theorem Glyphs_eq : m_ref07_Glyphs () = some (GL.map B) := rfl
def fnd (G : List (List UInt8)) (s f : List UInt8) : List UInt8 := G.foldl (fun f g => if pre g s then g else f) f
theorem L2_ok {l p s : List UInt8} (out : List T_ref07_Token) (hl : l = p ++ s) (hs : l.length ≤ 65536) : ∀ (G2 G1 : List (List UInt8)) (f : List UInt8), (G1 ++ G2).length ≤ 1000 → (∀ g ∈ G2, g.length ≤ 3) →
    m_ref07_Tokens_L2 ((G1 ++ G2).map B, B l, (p.length : Int), out, B f, (G1.length : Int)) = some (B (fnd G2 s f))
  | [], G1, f, h1, h2 => by
    rw [m_ref07_Tokens_L2]
    have : ¬ ((G1.length : Int) < (((G1 ++ []).map B).length : Int)) := by simp
    simp only [this, if_false, fnd, List.foldl_nil]
  | g :: G2, G1, f, h1, h2 => by
    rw [m_ref07_Tokens_L2]
    have hlt : ((G1.length : Int) < (((G1 ++ g :: G2).map B).length : Int)) := by simp; omega
    have hi : idx ((G1 ++ g :: G2).map B) (G1.length : Int) = some (B g) := by simp [idx]
    have hb := begins_ok (i := (p.length : Int)) hl (by omega) g (by have := h2 g (by simp); omega) rfl
    have hw : W ((G1.length : Int) + 1) = ((G1 ++ [g]).length : Int) := by
      simp at h1
      rw [W_ok (by omega) (by omega)]; simp
    have ih := fun f' => L2_ok out hl hs G2 (G1 ++ [g]) f' (by simpa using h1) (fun x hx => h2 x (by simp [hx]))
    simp only [List.append_assoc, List.singleton_append] at ih
    simp only [hlt, if_true, hi, hb, hw, bind_ok, ih]
    have hf : fnd (g :: G2) s f = fnd G2 s (if pre g s then g else f) := rfl
    rw [hf]
    cases pre g s <;> simp only [Bool.false_eq_true, if_true, if_false]
theorem fnd_some : ∀ (G : List (List UInt8)) (s f : List UInt8), fnd G s f = f ∨ ∃ g ∈ G, fnd G s f = g ∧ pre g s = true
  | [], s, f => Or.inl rfl
  | g :: G, s, f => by
    have hf : fnd (g :: G) s f = fnd G s (if pre g s then g else f) := rfl
    rw [hf]
    rcases fnd_some G s (if pre g s then g else f) with h | ⟨g', h1, h2, h3⟩
    · rw [h]
      by_cases hp : pre g s = true
      · rw [if_pos hp]; exact Or.inr ⟨g, by simp, rfl, hp⟩
      · rw [if_neg hp]; exact Or.inl rfl
    · exact Or.inr ⟨g', by simp [h1], h2, h3⟩
theorem fnd_len (s : List UInt8) : fnd GL s [] = [] ∨ ∃ r, s = fnd GL s [] ++ r := by
  rcases fnd_some GL s [] with h | ⟨g, h1, h2, h3⟩
  · exact Or.inl h
  · rw [h2]; exact Or.inr (pre_len h3)
theorem room_app {α : Type} {b : Nat} {l es : List α} (h : l.length + es.length ≤ 1000000) (hb : b ≤ 1000) : app b l es = some (l ++ es) := app_ok (by
  have h1 : (l.length + es.length) * b ≤ 1000000 * 1000 := Nat.mul_le_mul h hb
  have h2 : 1000000 * 1000 ≤ room := by decide +kernel
  omega)
def sp (c : UInt8) : Prop := (c.toNat : Int) = 32 ∨ (c.toNat : Int) = 9 ∨ (c.toNat : Int) = 13
instance (c : UInt8) : Decidable (sp c) := by unfold sp; infer_instance
theorem sp_eval {b : ByteArray} {i : Int} {c : UInt8} (e : sidx b i = some (c.toNat : Int)) : (sidx b i >>= fun v604 => (if v604 = 32 then some true else sidx b i >>= fun v606 => some (v606 == 9)) >>= fun (v605 : Bool) => if v605 = true then some true else sidx b i >>= fun v607 => some (v607 == 13)) = some (decide (sp c)) := by
  simp only [e, bind_ok]
  unfold sp
  by_cases h1 : (c.toNat : Int) = 32
  · simp [h1, bind_ok]
  · by_cases h2 : (c.toNat : Int) = 9 <;> by_cases h3 : (c.toNat : Int) = 13 <;> simp [h1, h2, h3, bind_ok]
section
variable {l p s : List UInt8} {out : List T_ref07_Token}
theorem lex_end (hl : l = p) : m_ref07_Tokens_L1 (B l, out, (p.length : Int)) = some (.inr out) := by
  rw [m_ref07_Tokens_L1]
  have : ¬ ((p.length : Int) < ((B l).size : Int)) := by rw [B_size, hl]; omega
  simp only [this, if_false]
theorem lex_sp {c : UInt8} (hl : l = p ++ c :: s) (hs : l.length ≤ 65536) (hc : sp c) : m_ref07_Tokens_L1 (B l, out, (p.length : Int)) = m_ref07_Tokens_L1 (B l, out, ((p ++ [c]).length : Int)) := by
  rw [m_ref07_Tokens_L1]
  have h1 : ((p.length : Int) < ((B l).size : Int)) := by rw [B_size, hl]; simp; omega
  have e : sidx (B l) (p.length : Int) = some (c.toNat : Int) := by rw [hl]; exact sidx_B p s c
  have hw : W ((p.length : Int) + 1) = ((p ++ [c]).length : Int) := by
    rw [hl] at hs; simp at hs
    rw [W_ok (by omega) (by omega)]; simp
  simp only [h1, if_true]
  rw [sp_eval e]
  simp only [decide_eq_true hc, bind_ok, if_true, hw]
theorem lex_word {w : List UInt8} {c : UInt8} {w' : List UInt8} (hl : l = p ++ (w ++ s)) (hs : l.length ≤ 65536) (ho : out.length ≤ 65536) (hc : w = c :: w') (hn : ¬ sp c) (hL : lt (c.toNat : Int) = true) (hw : (w ++ s).takeWhile wordc = w) :
    m_ref07_Tokens_L1 (B l, out, (p.length : Int)) = m_ref07_Tokens_L1 (B l, out ++ [⟨1, B w, 0⟩], ((p ++ w).length : Int)) := by
  rw [m_ref07_Tokens_L1]
  have hl2 : l = p ++ c :: (w' ++ s) := by rw [hl, hc]; rfl
  have h1 : ((p.length : Int) < ((B l).size : Int)) := by rw [B_size, hl2]; simp; omega
  have e : sidx (B l) (p.length : Int) = some (c.toNat : Int) := by rw [hl2]; exact sidx_B p _ c
  have he := end_ok (i := (p.length : Int)) hl (by omega) rfl
  rw [hw] at he
  have hsub := ssub_B (i := (p.length : Int)) (j := ((p.length + w.length : Nat) : Int)) hl rfl rfl
  have ha : app 32 out ([(⟨1, B w, 0⟩ : T_ref07_Token)] : List T_ref07_Token) = some (out ++ [⟨1, B w, 0⟩]) := room_app (by simp; omega) (by omega)
  have hlen : ((p ++ w).length : Int) = ((p.length + w.length : Nat) : Int) := by simp
  simp only [h1, if_true]
  rw [sp_eval e]
  simp only [if_true, decide_eq_false hn, e, bind_ok, letter_eq, hL, he, hsub, ha, Bool.false_eq_true, if_false, hlen]
theorem lex_num0 {c : UInt8} {w' sg w : List UInt8} {neg : Bool} (hl : l = p ++ (sg ++ (w ++ s))) (hs : l.length ≤ 65536) (ho : out.length ≤ 65536) (hc : sg ++ (w ++ s) = c :: w') (hn : ¬ sp c) (hL : lt (c.toNat : Int) = false)
    (hb : pre [194, 175] (sg ++ (w ++ s)) = neg) (hsg : sg.length = if neg = true then 2 else 0) (hw : (w ++ s).takeWhile wordc = w) :
    m_ref07_Tokens_L1 (B l, out, (p.length : Int)) = (if w.length > 0 then m_ref07_value (B w, neg) >>= fun (r : Int × Bool) => if r.2 = false then some (.inl out.length) else m_ref07_Tokens_L1 (B l, out ++ [⟨2, B (sg ++ w), r.1⟩], ((p ++ (sg ++ w)).length : Int))
      else if fnd GL (sg ++ (w ++ s)) [] = [] then some (.inl out.length) else m_ref07_Tokens_L1 (B l, out ++ [⟨3, B (fnd GL (sg ++ (w ++ s)) []), 0⟩], ((p ++ fnd GL (sg ++ (w ++ s)) []).length : Int))) := by
  rw [m_ref07_Tokens_L1]
  have hl2 : l = p ++ c :: w' := by rw [hl, hc]
  have hl3 : l = (p ++ sg) ++ (w ++ s) := by rw [hl]; simp
  have hlen : l.length = p.length + sg.length + (w.length + s.length) := by rw [hl3]; simp; omega
  have h1 : ((p.length : Int) < ((B l).size : Int)) := by rw [B_size, hl2]; simp; omega
  have e : sidx (B l) (p.length : Int) = some (c.toNat : Int) := by rw [hl2]; exact sidx_B p _ c
  have hb2 := begins_ok (i := (p.length : Int)) hl (by omega) [194, 175] (by decide) rfl
  rw [hb] at hb2
  have hbe : (B [194, 175] : ByteArray) = ⟨#[194, 175]⟩ := rfl
  rw [hbe] at hb2
  have hfrom : (if neg = true then some (W ((p.length : Int) + 2)) else some (p.length : Int)) = some ((p ++ sg).length : Int) := by
    cases neg with
    | true =>
      simp only [if_true] at hsg ⊢
      rw [W_ok (by omega) (by omega)]
      simp [hsg]
    | false =>
      simp only [Bool.false_eq_true, if_false] at hsg ⊢
      simp [hsg]
  have he := end_ok (i := ((p ++ sg).length : Int)) hl3 (by omega) rfl
  rw [hw] at he
  simp only [h1, if_true]
  rw [sp_eval e]
  simp only [if_true, decide_eq_false hn, e, bind_ok, letter_eq, hL, hb2, hfrom, he, Bool.false_eq_true, if_false]
  by_cases hz : w.length > 0
  · have hgt : (((p ++ sg).length + w.length : Nat) : Int) > ((p ++ sg).length : Int) := by omega
    have s1 := ssub_B (i := ((p ++ sg).length : Int)) (j := (((p ++ sg).length + w.length : Nat) : Int)) hl3 rfl rfl
    have hl4 : l = p ++ ((sg ++ w) ++ s) := by rw [hl]; simp
    have s2 := ssub_B (i := (p.length : Int)) (j := (((p ++ sg).length + w.length : Nat) : Int)) hl4 rfl (by simp; omega)
    simp only [hgt, hz, if_true, s1, bind_ok]
    obtain ⟨n, ok, ev, _⟩ := value_tot w neg (by omega)
    simp only [ev, bind_ok]
    cases ok with
    | false => simp
    | true =>
      have ha : app 32 out ([(⟨2, B (sg ++ w), n⟩ : T_ref07_Token)] : List T_ref07_Token) = some (out ++ [⟨2, B (sg ++ w), n⟩]) := room_app (by simp; omega) (by omega)
      simp only [Bool.true_eq_false, if_false, s2, ha, bind_ok]
      congr 3
      simp; omega
  · have hgt : ¬ ((((p ++ sg).length + w.length : Nat) : Int) > ((p ++ sg).length : Int)) := by omega
    have e2 := L2_ok out hl hs GL [] [] (by decide) (by decide)
    simp only [List.nil_append, List.length_nil, Int.natCast_zero] at e2
    have e3 : (B [] : ByteArray) = ByteArray.empty := rfl
    simp only [hgt, hz, if_false, Glyphs_eq, ← e3, e2, bind_ok, B_inj, B_size]
    by_cases hf : fnd GL (sg ++ (w ++ s)) [] = []
    · simp only [hf, if_true]
    · have ha : app 32 out ([(⟨3, B (fnd GL (sg ++ (w ++ s)) []), 0⟩ : T_ref07_Token)] : List T_ref07_Token) = some (out ++ [⟨3, B (fnd GL (sg ++ (w ++ s)) []), 0⟩]) := room_app (by simp; omega) (by omega)
      simp only [hf, if_false, ha, bind_ok]
      congr 3
      have hfl : (fnd GL (sg ++ (w ++ s)) []).length ≤ (sg ++ (w ++ s)).length := by
        rcases fnd_len (sg ++ (w ++ s)) with h | ⟨r, h⟩
        · rw [h]; simp
        · have := congrArg List.length h
          simp only [List.length_append] at this ⊢
          omega
      simp only [List.length_append] at hfl
      rw [W_ok (by omega) (by omega)]
      simp
end
end Go.Proofs.Tryd
namespace Go.Proofs.Tryd
open Go Go.Pm
set_option linter.unusedVariables false
set_option linter.unusedSimpArgs false
set_option maxRecDepth 2000
def digsF : Nat → Nat → List UInt8
  | 0, _ => []
  | f + 1, n => if n < 10 then [UInt8.ofNat (48 + n)] else digsF f (n / 10) ++ [UInt8.ofNat (48 + n % 10)]
theorem u48 {d : Nat} (h : d < 10) : ((UInt8.ofNat (48 + d)).toNat : Int) = 48 + d := by
  rw [UInt8.toNat_ofNat']
  omega
theorem dg48 {d : Nat} (h : d < 10) : dg ((UInt8.ofNat (48 + d)).toNat : Int) = true := by
  rw [u48 h]; unfold dg; rw [decide_eq_true_eq]; omega
theorem digs_dg : ∀ (f n : Nat), ∀ c ∈ digsF f n, dg (c.toNat : Int) = true
  | 0, n, c, h => by simp [digsF] at h
  | f + 1, n, c, h => by
    rw [digsF] at h
    split at h
    · rename_i hn
      rw [List.mem_singleton] at h; rw [h]; exact dg48 hn
    · rcases List.mem_append.1 h with h | h
      · exact digs_dg f _ c h
      · rw [List.mem_singleton] at h; rw [h]; exact dg48 (Nat.mod_lt _ (by omega))
theorem digs_len : ∀ (f n : Nat), (digsF f n).length ≤ f
  | 0, n => by simp [digsF]
  | f + 1, n => by
    rw [digsF]
    split
    · simp
    · have := digs_len f (n / 10); simp; omega
theorem digs_head : ∀ (f n : Nat), 1 ≤ f → ∃ c r, digsF f n = c :: r ∧ (1 ≤ n → n < 10 ^ f → (c.toNat : Int) ≠ 48)
  | 0, n, h => by omega
  | f + 1, n, h => by
    rw [digsF]
    by_cases hn : n < 10
    · rw [if_pos hn]
      exact ⟨_, _, rfl, fun h1 _ => by rw [u48 hn]; omega⟩
    · rw [if_neg hn]
      by_cases hf : 1 ≤ f
      · obtain ⟨c, r, e, q⟩ := digs_head f (n / 10) hf
        refine ⟨c, r ++ [_], by rw [e]; rfl, fun h1 h2 => q (by omega) ?_⟩
        rw [Nat.pow_succ] at h2
        omega
      · have : f = 0 := by omega
        subst this
        refine ⟨_, _, rfl, fun h1 h2 => ?_⟩
        simp at h2
        omega
theorem ssub_digit {d : Nat} (h : d < 10) : ssub (⟨#[48, 49, 50, 51, 52, 53, 54, 55, 56, 57]⟩ : ByteArray) (d : Int) (W ((d : Int) + 1)) = some (B [UInt8.ofNat (48 + d)]) := by
  have hd : (⟨#[48, 49, 50, 51, 52, 53, 54, 55, 56, 57]⟩ : ByteArray) = B [48, 49, 50, 51, 52, 53, 54, 55, 56, 57] := rfl
  rw [W_ok (by omega) (by omega), hd]
  have key : ∀ d : Nat, d < 10 → ∃ p s : List UInt8, [48, 49, 50, 51, 52, 53, 54, 55, 56, 57] = p ++ ([UInt8.ofNat (48 + d)] ++ s) ∧ p.length = d := by
    intro d h
    match d, h with
    | 0, _ => exact ⟨[], [49, 50, 51, 52, 53, 54, 55, 56, 57], rfl, rfl⟩
    | 1, _ => exact ⟨[48], [50, 51, 52, 53, 54, 55, 56, 57], rfl, rfl⟩
    | 2, _ => exact ⟨[48, 49], [51, 52, 53, 54, 55, 56, 57], rfl, rfl⟩
    | 3, _ => exact ⟨[48, 49, 50], [52, 53, 54, 55, 56, 57], rfl, rfl⟩
    | 4, _ => exact ⟨[48, 49, 50, 51], [53, 54, 55, 56, 57], rfl, rfl⟩
    | 5, _ => exact ⟨[48, 49, 50, 51, 52], [54, 55, 56, 57], rfl, rfl⟩
    | 6, _ => exact ⟨[48, 49, 50, 51, 52, 53], [55, 56, 57], rfl, rfl⟩
    | 7, _ => exact ⟨[48, 49, 50, 51, 52, 53, 54], [56, 57], rfl, rfl⟩
    | 8, _ => exact ⟨[48, 49, 50, 51, 52, 53, 54, 55], [57], rfl, rfl⟩
    | 9, _ => exact ⟨[48, 49, 50, 51, 52, 53, 54, 55, 56], [], rfl, rfl⟩
  obtain ⟨p, s, e, hp⟩ := key d h
  refine ssub_B e (by omega) ?_
  rw [hp]; simp
theorem remM_10 (n : Nat) : remM (n : Int) 10 = some ((n % 10 : Nat) : Int) := by
  rw [remM, if_neg (by omega), Int.tmod_eq_emod_of_nonneg (by omega)]
  congr 1
theorem quoM_10 (n : Nat) (h : n < 9223372036854775808) : quoM (n : Int) 10 = some ((n / 10 : Nat) : Int) := by
  rw [quoM, if_neg (by omega), Int.tdiv_eq_ediv_of_nonneg (by omega), W_ok (by omega) (by omega)]
  congr 1
theorem Dec_pos {n : Nat} : m_ref02_Decimal (n : Int) = (remM (n : Int) 10 >>= fun v3 => remM (n : Int) 10 >>= fun v4 => ssub (⟨#[48, 49, 50, 51, 52, 53, 54, 55, 56, 57]⟩ : ByteArray) v3 (W (v4 + 1)) >>= fun v5 =>
    if (n : Int) < 10 then some v5 else quoM (n : Int) 10 >>= fun v6 => m_ref02_Decimal v6 >>= fun (v7 : ByteArray) => sadd v7 v5 >>= fun v8 => some v8) := by
  rw [m_ref02_Decimal]
  exact if_neg (by omega)
theorem Dec_low {n : Nat} (hn : n < 10) : m_ref02_Decimal (n : Int) = some (B [UInt8.ofNat (48 + n)]) := by
  rw [Dec_pos]
  have hd := ssub_digit (d := n % 10) (Nat.mod_lt _ (by omega))
  have hn' : (n : Int) < 10 := by omega
  rw [Nat.mod_eq_of_lt hn] at hd
  simp only [remM_10, bind_ok, hn', if_true, Nat.mod_eq_of_lt hn, hd]
theorem Dec_high {n : Nat} (hn : ¬ n < 10) (h3 : n < 9223372036854775808) {l : List UInt8} (ih : m_ref02_Decimal ((n / 10 : Nat) : Int) = some (B l)) (hl : l.length ≤ 10000) : m_ref02_Decimal (n : Int) = some (B (l ++ [UInt8.ofNat (48 + n % 10)])) := by
  rw [Dec_pos]
  have hd := ssub_digit (d := n % 10) (Nat.mod_lt _ (by omega))
  have hn' : ¬ (n : Int) < 10 := by omega
  have hq := quoM_10 n h3
  have hs : sadd (B l) (B [UInt8.ofNat (48 + n % 10)]) = some (B (l ++ [UInt8.ofNat (48 + n % 10)])) := sadd_B (by rw [List.length_singleton]; omega)
  rw [remM_10, bind_ok, bind_ok, hd, bind_ok, if_neg hn', hq, bind_ok, ih, bind_ok, hs, bind_ok]
theorem Dec_nat (f : Nat) : ∀ n : Nat, 1 ≤ f → f ≤ 1000 → n < 10 ^ f → n < 9223372036854775808 → m_ref02_Decimal (n : Int) = some (B (digsF f n)) := by
  induction f with
  | zero => intro n h; omega
  | succ f ih =>
    intro n h hf h2 h3
    rw [digsF]
    by_cases hn : n < 10
    · rw [if_pos hn]; exact Dec_low hn
    · rw [if_neg hn]
      rw [Nat.pow_succ] at h2
      have hf1 : 1 ≤ f := by
        cases f with
        | zero => exact absurd h2 (by rw [Nat.pow_zero]; omega)
        | succ f => omega
      exact Dec_high hn h3 (ih (n / 10) hf1 (by omega) (by omega) (by omega)) (by have := digs_len f (n / 10); omega)
/-- the text of a number -/
def dec (n : Int) : List UInt8 := if n < 0 then [194, 175] ++ digsF 19 n.natAbs else digsF 19 n.natAbs
theorem dec_len (n : Int) : (dec n).length ≤ 21 := by
  unfold dec
  have := digs_len 19 n.natAbs
  split <;> simp <;> omega
theorem Decimal_ok {n : Int} (h : i64 n) : m_ref07_Decimal n = some (B (dec n)) := by
  unfold m_ref07_Decimal dec i64 at *
  by_cases hn : n < 0
  · have hl := digs_len 19 n.natAbs
    have e : m_ref02_Decimal n = some (B (45 :: digsF 19 n.natAbs)) := by
      rw [m_ref02_Decimal]
      simp only [hn, if_true]
      by_cases hm : n = -9223372036854775808
      · subst hm
        simp only [if_true]
        have : (digsF 19 (Int.natAbs (-9223372036854775808))) = [57, 50, 50, 51, 51, 55, 50, 48, 51, 54, 56, 53, 52, 55, 55, 53, 56, 48, 56] := by decide +kernel
        rw [this]; rfl
      · have w : W (0 - n) = ((n.natAbs : Nat) : Int) := by rw [W_ok (by omega) (by omega)]; omega
        have h45 : (⟨#[45]⟩ : ByteArray) = B [45] := rfl
        have hlt : n.natAbs < 10 ^ 19 := by omega
        simp only [hm, if_false, w, Dec_nat 19 n.natAbs (by omega) (by omega) hlt (by omega), bind_ok, h45]
        rw [sadd_B (by simp; omega)]
        rfl
    have e2 : ssub (B (45 :: digsF 19 n.natAbs)) 1 ((B (45 :: digsF 19 n.natAbs)).size : Int) = some (B (digsF 19 n.natAbs)) :=
      ssub_B (p := [45]) (m := digsF 19 n.natAbs) (s := []) (by simp) rfl (by rw [B_size]; simp; omega)
    have h1 : (⟨#[194, 175]⟩ : ByteArray) = B [194, 175] := rfl
    simp only [e, bind_ok, hn, if_true, e2, h1]
    rw [sadd_B (by simp; omega)]
    rfl
  · have hc : n = ((n.natAbs : Nat) : Int) := by omega
    have hlt : n.natAbs < 10 ^ 19 := by omega
    have e : m_ref02_Decimal n = some (B (digsF 19 n.natAbs)) := by
      conv => lhs; rw [hc]
      exact Dec_nat 19 n.natAbs (by omega) (by omega) hlt (by omega)
    simp only [e, bind_ok, hn, if_false]
/-! numbers are read as they are printed -/
theorem val_step {l p s : List UInt8} {neg : Bool} {a d : Nat} (hl : l = p ++ UInt8.ofNat (48 + d) :: s) (hs : l.length ≤ 1000000) (hd : d < 10) (ha : 10 * a + d ≤ 9223372036854775808) :
    m_ref07_value_L1 (B l, neg, -(a : Int), (p.length : Int)) = m_ref07_value_L1 (B l, neg, -((10 * a + d : Nat) : Int), ((p ++ [UInt8.ofNat (48 + d)]).length : Int)) := by
  rw [m_ref07_value_L1]
  have h1 : ((p.length : Int) < ((B l).size : Int)) := by rw [B_size, hl]; simp; omega
  have e : sidx (B l) (p.length : Int) = some ((UInt8.ofNat (48 + d)).toNat : Int) := by rw [hl]; exact sidx_B p s _
  rw [u48 hd] at e
  have hw : W ((p.length : Int) + 1) = ((p ++ [UInt8.ofNat (48 + d)]).length : Int) := by
    rw [hl] at hs; simp at hs
    rw [W_ok (by omega) (by omega)]; simp
  have hdg : dg (48 + (d : Int)) = true := by unfold dg; rw [decide_eq_true_eq]; omega
  have w0 : W (48 + (d : Int)) = 48 + d := W_ok (by omega) (by omega)
  have w1 : W (48 + (d : Int) - 48) = d := by rw [W_ok (by omega) (by omega)]; omega
  have w2 : W (-9223372036854775808 + (d : Int)) = -((9223372036854775808 - d : Nat) : Int) := by rw [W_ok (by omega) (by omega)]; omega
  have q : quoM (-((9223372036854775808 - d : Nat) : Int)) 10 = some (-(((9223372036854775808 - d) / 10 : Nat) : Int)) := by
    rw [quoM, if_neg (by omega), Int.neg_tdiv, Int.tdiv_eq_ediv_of_nonneg (by omega), W_ok (by omega) (by omega)]
    congr 1
  have hnl : ¬ (-(a : Int) < -(((9223372036854775808 - d) / 10 : Nat) : Int)) := by omega
  have w3 : W (10 * -(a : Int)) = -((10 * a : Nat) : Int) := by rw [W_ok (by omega) (by omega)]; omega
  have w4 : W (-((10 * a : Nat) : Int) - (d : Int)) = -((10 * a + d : Nat) : Int) := by rw [W_ok (by omega) (by omega)]; omega
  simp only [h1, if_true, e, digit_eq, hdg, bind_ok, Bool.true_eq_false, if_false, w0, w1, w2, q, hnl, w3, w4, hw]
theorem val_digs (f : Nat) : ∀ (m : Nat) (l p s : List UInt8) (neg : Bool), l = p ++ (digsF f m ++ s) → l.length ≤ 1000000 → m < 10 ^ f → m ≤ 9223372036854775808 →
    m_ref07_value_L1 (B l, neg, 0, (p.length : Int)) = m_ref07_value_L1 (B l, neg, -(m : Int), ((p ++ digsF f m).length : Int)) := by
  induction f with
  | zero =>
    intro m l p s neg hl hs h1 h2
    have : m = 0 := by simpa using h1
    subst this
    simp [digsF]
  | succ f val_digs =>
    intro m l p s neg hl hs h1 h2
    rw [digsF] at hl ⊢
    by_cases hm : m < 10
    · rw [if_pos hm] at hl ⊢
      have := val_step (a := 0) (neg := neg) (by rw [hl]; rfl) hs hm (by omega)
      simp only [Int.natCast_zero, Int.neg_zero, Nat.mul_zero, Nat.zero_add] at this
      exact this
    · rw [if_neg hm] at hl ⊢
      rw [Nat.pow_succ] at h1
      rw [val_digs (m / 10) l p (UInt8.ofNat (48 + m % 10) :: s) neg (by rw [hl]; simp) hs (by omega) (by omega)]
      have := val_step (p := p ++ digsF f (m / 10)) (s := s) (d := m % 10) (a := m / 10) (neg := neg) (by rw [hl]; simp) hs (Nat.mod_lt _ (by omega)) (by omega)
      rw [this, show 10 * (m / 10) + m % 10 = m by omega, List.append_assoc]
theorem value_digs {m : Nat} {neg : Bool} (h1 : m ≤ 9223372036854775808) (h2 : neg = true → 1 ≤ m) (h3 : neg = false → m < 9223372036854775808) :
    m_ref07_value (B (digsF 19 m), neg) = some (if neg = true then -(m : Int) else (m : Int), true) := by
  unfold m_ref07_value
  obtain ⟨c, r, e, hne⟩ := digs_head 19 m (by omega)
  have hlen := digs_len 19 m
  have hb : (if ((B (digsF 19 m)).size : Int) = 0 then some true else sidx (B (digsF 19 m)) 0 >>= fun v2 => if v2 = 48 then (if ((B (digsF 19 m)).size : Int) > 1 then some true else some neg) >>= fun (v3 : Bool) => some v3 else some false) = some false := by
    have h0 : ¬ (((B (digsF 19 m)).size : Int) = 0) := by rw [B_size, e]; simp; omega
    have e0 : sidx (B (digsF 19 m)) 0 = some (c.toNat : Int) := by rw [e]; exact sidx_0 r c
    simp only [h0, if_false, e0, bind_ok]
    by_cases hm : m = 0
    · subst hm
      have hn : neg = false := by
        cases neg with
        | true => exact absurd (h2 rfl) (by omega)
        | false => rfl
      have hd : digsF 19 0 = [48] := rfl
      have hz : ¬ (((B [48]).size : Int) > 1) := by rw [B_size]; decide
      rw [hd]
      simp only [hz, if_false, hn, bind_ok]
      split <;> rfl
    · have := hne (by omega) (by omega)
      simp only [this, if_false]
  have e1 := val_digs 19 m (digsF 19 m) [] [] neg (by simp) (by omega) (by omega) h1
  simp only [List.length_nil, Int.natCast_zero, List.nil_append] at e1
  have e2 : m_ref07_value_L1 (B (digsF 19 m), neg, -(m : Int), ((digsF 19 m).length : Int)) = some (.inr (-(m : Int))) := by
    rw [m_ref07_value_L1]
    have : ¬ (((digsF 19 m).length : Int) < ((B (digsF 19 m)).size : Int)) := by rw [B_size]; omega
    simp only [this, if_false]
  simp only [hb, bind_ok, Bool.false_eq_true, if_false, e1, e2]
  cases neg with
  | true => rfl
  | false =>
    have hne2 : ¬ (-(m : Int) = -9223372036854775808) := by have := h3 rfl; omega
    have w : W (0 - -(m : Int)) = (m : Int) := by have := h3 rfl; rw [W_ok (by omega) (by omega)]; omega
    simp only [Bool.false_eq_true, if_false, hne2, w]
end Go.Proofs.Tryd
namespace Go.Proofs.Tryd
open Go Go.Pm
set_option linter.unusedVariables false
set_option linter.unusedSimpArgs false
set_option maxRecDepth 2000
def tokG (t : T_ref07_Token) : Prop := (t.kind = 1 ∧ m_ref07_Name t.text = some true) ∨ (t.kind = 2 ∧ i64 t.n) ∨ t.kind = 3
def tsum : List T_ref07_Token → Nat
  | [] => 0
  | t :: ts => t.text.size + tsum ts
theorem tsum_app : ∀ a b : List T_ref07_Token, tsum (a ++ b) = tsum a + tsum b
  | [], b => by simp [tsum]
  | t :: a, b => by rw [List.cons_append, tsum, tsum, tsum_app a b]; omega
theorem lt_nsp {c : UInt8} (h : lt (c.toNat : Int) = true) : ¬ sp c := by
  unfold lt at h
  unfold sp
  simp only [Bool.or_eq_true, decide_eq_true_eq] at h
  omega
theorem take_all : ∀ (s : List UInt8), ∀ c ∈ s.takeWhile wordc, wordc c = true
  | [], c, h => by simp at h
  | d :: s, c, h => by
    rw [List.takeWhile_cons] at h
    by_cases hd : wordc d = true
    · rw [if_pos hd] at h
      rcases List.mem_cons.1 h with rfl | h
      · exact hd
      · exact take_all s c h
    · rw [if_neg hd] at h; simp at h
theorem take_self (s : List UInt8) : (s.takeWhile wordc ++ s.dropWhile wordc) = s := List.takeWhile_append_dropWhile
theorem Name_word {w w' : List UInt8} {c : UInt8} (hc : w = c :: w') (hL : lt (c.toNat : Int) = true) (hw : ∀ d ∈ w, wordc d = true) (hs : w.length ≤ 1000000) : m_ref07_Name (B w) = some true := by
  unfold m_ref07_Name
  have h0 : (w.length : Int) > 0 := by rw [hc, List.length_cons]; omega
  have e0 : sidx (B w) 0 = some (c.toNat : Int) := by rw [hc]; exact sidx_0 w' c
  have e1 := end_ok (p := []) (s := w) (l := w) (i := 0) rfl hs rfl
  have e2 : w.takeWhile wordc = w := by
    have := word_word w hw [] (by simp)
    simpa using this
  rw [e2] at e1
  simp only [B_size, h0, if_true, e0, letter_eq, hL, bind_ok, e1, List.length_nil, Nat.zero_add, beq_self_eq_true]
/-- what the tokens of a text are -/
def tokR (s : List UInt8) (out : List T_ref07_Token) (r : Nat ⊕ List T_ref07_Token) : Prop :=
  ∀ ts, r = .inr ts → ∃ new, ts = out ++ new ∧ (∀ t ∈ new, tokG t) ∧ new.length ≤ s.length ∧ tsum new ≤ s.length
theorem tokR_step {s m s2 : List UInt8} {out : List T_ref07_Token} {t : T_ref07_Token} {r : Nat ⊕ List T_ref07_Token} (hs : s = m ++ s2) (hm : 1 ≤ m.length) (ht : tokG t) (hz : t.text.size ≤ m.length) (h : tokR s2 (out ++ [t]) r) : tokR s out r := by
  intro ts e
  obtain ⟨new, h1, h2, h3, h4⟩ := h ts e
  refine ⟨t :: new, by rw [h1]; simp, fun x hx => ?_, ?_, ?_⟩
  · rcases List.mem_cons.1 hx with rfl | hx
    · exact ht
    · exact h2 x hx
  · rw [hs]; simp; omega
  · rw [hs, tsum]; simp; omega
theorem toks_tot : ∀ (n : Nat) (s p l : List UInt8) (out : List T_ref07_Token), s.length ≤ n → l = p ++ s → l.length ≤ 65536 → out.length ≤ p.length → ∃ r, m_ref07_Tokens_L1 (B l, out, (p.length : Int)) = some r ∧ tokR s out r
  | n, [], p, l, out, hn, hl, hs, ho => by
    refine ⟨_, lex_end (by rw [hl]; simp), fun ts e => ?_⟩
    cases e
    exact ⟨[], by simp, by simp, by simp, by simp [tsum]⟩
  | 0, c :: s, p, l, out, hn, hl, hs, ho => by simp at hn
  | n + 1, c :: s0, p, l, out, hn, hl, hs, ho => by
    have hlen : l.length = p.length + (c :: s0).length := by rw [hl]; simp
    by_cases hsp : sp c
    · rw [lex_sp hl hs hsp]
      obtain ⟨r, e, hr⟩ := toks_tot n s0 (p ++ [c]) l out (by simp at hn; omega) (by rw [hl]; simp) hs (by simp; omega)
      refine ⟨r, e, fun ts q => ?_⟩
      obtain ⟨new, h1, h2, h3, h4⟩ := hr ts q
      exact ⟨new, h1, h2, by simp; omega, by simp; omega⟩
    · by_cases hL : lt (c.toNat : Int) = true
      · have hc : wordc c = true := by unfold wordc; rw [hL]; rfl
        have hw : (c :: s0).takeWhile wordc = c :: s0.takeWhile wordc := by rw [List.takeWhile_cons, if_pos hc]
        have hts := take_self (c :: s0)
        have hall := take_all (c :: s0)
        rw [hw] at hts hall
        have hl2 : l = p ++ ((c :: s0.takeWhile wordc) ++ (c :: s0).dropWhile wordc) := by rw [hl, hts]
        have hlen2 := congrArg List.length hts
        rw [List.length_append] at hlen2
        rw [lex_word hl2 hs (by omega) rfl hsp hL (by rw [hts, hw])]
        obtain ⟨r, e, hr⟩ := toks_tot n ((c :: s0).dropWhile wordc) (p ++ (c :: s0.takeWhile wordc)) l (out ++ [⟨1, B (c :: s0.takeWhile wordc), 0⟩]) (by simp at hn hlen2 ⊢; omega) (by rw [hl2]; simp) hs (by simp; omega)
        exact ⟨r, e, tokR_step hts.symm (by simp) (Or.inl ⟨rfl, Name_word (w := c :: s0.takeWhile wordc) rfl hL hall (by simp at hlen2 hlen ⊢; omega)⟩) (by show (B _).size ≤ _; rw [B_size]; omega) hr⟩
      · have hL' : lt (c.toNat : Int) = false := by simpa using hL
        obtain ⟨sg, s1, hsg, hsl⟩ : ∃ sg s1 : List UInt8, c :: s0 = sg ++ s1 ∧ sg.length = if pre [194, 175] (c :: s0) = true then 2 else 0 := by
          by_cases hb : pre [194, 175] (c :: s0) = true
          · obtain ⟨r, e⟩ := pre_len hb
            exact ⟨[194, 175], r, e, by rw [if_pos hb]; rfl⟩
          · exact ⟨[], c :: s0, rfl, by rw [if_neg hb]; rfl⟩
        have hts := take_self s1
        have hl2 : l = p ++ (sg ++ (s1.takeWhile wordc ++ s1.dropWhile wordc)) := by rw [hts, ← hsg]; exact hl
        have hlen2 := congrArg List.length hts
        have hlen3 := congrArg List.length hsg
        rw [List.length_append] at hlen2 hlen3
        have key := lex_num0 (out := out) (c := c) (w' := s0) hl2 hs (by omega) (by rw [hts, ← hsg]) hsp hL' (by rw [hts, ← hsg]) hsl (by rw [hts])
        rw [hts, ← hsg] at key
        rw [key]
        by_cases hz : (s1.takeWhile wordc).length > 0
        · obtain ⟨v, ok, ev, hv⟩ := value_tot (s1.takeWhile wordc) (pre [194, 175] (c :: s0)) (by omega)
          simp only [hz, if_true, ev, bind_ok]
          cases ok with
          | false => exact ⟨_, rfl, fun ts q => by cases q⟩
          | true =>
            simp only [Bool.true_eq_false, if_false]
            obtain ⟨r, e, hr⟩ := toks_tot n (s1.dropWhile wordc) (p ++ (sg ++ s1.takeWhile wordc)) l (out ++ [⟨2, B (sg ++ s1.takeWhile wordc), v⟩]) (by omega) (by rw [hl2]; simp) hs (by simp; omega)
            exact ⟨r, e, tokR_step (m := sg ++ s1.takeWhile wordc) (by rw [hsg, List.append_assoc, hts]) (by simp; omega) (Or.inr (Or.inl ⟨rfl, hv⟩)) (by show (B _).size ≤ _; rw [B_size]; omega) hr⟩
        · simp only [hz, if_false]
          by_cases hf : fnd GL (c :: s0) [] = []
          · simp only [hf, if_true]
            exact ⟨_, rfl, fun ts q => by cases q⟩
          · simp only [hf, if_false]
            rcases fnd_len (c :: s0) with h | ⟨r2, h⟩
            · exact absurd h hf
            · generalize fnd GL (c :: s0) [] = g at hf h
              have hg : 1 ≤ g.length := by
                cases g with
                | nil => exact absurd rfl hf
                | cons a g => simp
              have hlen4 := congrArg List.length h
              rw [List.length_append] at hlen4
              obtain ⟨r, e, hr⟩ := toks_tot n r2 (p ++ g) l (out ++ [⟨3, B g, 0⟩]) (by omega) (by rw [hl, h]; simp) hs (by simp; omega)
              exact ⟨r, e, tokR_step h hg (Or.inr (Or.inr rfl)) (by show (B _).size ≤ _; rw [B_size]; omega) hr⟩
theorem Tokens_tot (s : List UInt8) : ∃ ts ok, m_ref07_Tokens (B s) = some (ts, ok) ∧ ts.length ≤ 65536 ∧ (∀ t ∈ ts, tokG t) ∧ ts.length ≤ s.length ∧ tsum ts ≤ s.length ∧ tsum ts ≤ 65536 := by
  unfold m_ref07_Tokens
  simp only [B_size]
  by_cases h : (s.length : Int) > 65536
  · simp only [h, if_true]
    exact ⟨[], false, rfl, by simp, by simp, by simp, by simp [tsum], by simp [tsum]⟩
  · obtain ⟨r, e, hr⟩ := toks_tot s.length s [] s [] (Nat.le_refl _) rfl (by omega) (by simp)
    simp only [List.length_nil, Int.natCast_zero] at e
    simp only [h, if_false, e, bind_ok]
    cases r with
    | inl u => exact ⟨[], false, rfl, by simp, by simp, by simp, by simp [tsum], by simp [tsum]⟩
    | inr ts =>
      obtain ⟨new, h1, h2, h3, h4⟩ := hr ts rfl
      simp at h1
      subst h1
      exact ⟨_, _, rfl, by omega, h2, h3, h4, by omega⟩
end Go.Proofs.Tryd
namespace Go.Proofs.Tryd
open Go Go.Pm
set_option linter.unusedVariables false
set_option linter.unusedSimpArgs false
set_option maxRecDepth 2000
mutual
def szT : T_api_Tree → Nat
  | ⟨_, _, _, _, _, kids⟩ => 1 + szTs kids
def szTs : List T_api_Tree → Nat
  | [] => 0
  | k :: ks => szT k + szTs ks
end
mutual
def numT : T_api_Tree → Nat
  | ⟨_, _, _, _, nums, kids⟩ => nums.length + numTs kids
def numTs : List T_api_Tree → Nat
  | [] => 0
  | k :: ks => numT k + numTs ks
end
mutual
def depT : T_api_Tree → Nat
  | ⟨_, _, _, _, _, kids⟩ => depTs kids + 1
def depTs : List T_api_Tree → Nat
  | [] => 0
  | k :: ks => max (depT k) (depTs ks)
end
mutual
def wT : T_api_Tree → Nat
  | ⟨_, _, _, nm, nums, kids⟩ => 40 + nm.size + 40 * nums.length + wTs kids
def wTs : List T_api_Tree → Nat
  | [] => 0
  | k :: ks => wT k + wTs ks
end
theorem szT_pos : ∀ t : T_api_Tree, 1 ≤ szT t
  | ⟨_, _, _, _, _, kids⟩ => by rw [szT]; omega
theorem szTs_len : ∀ l : List T_api_Tree, l.length ≤ szTs l
  | [] => Nat.zero_le _
  | k :: ks => by have := szTs_len ks; have := szT_pos k; rw [szTs]; simp only [List.length_cons]; omega
theorem szTs_app : ∀ a b : List T_api_Tree, szTs (a ++ b) = szTs a + szTs b
  | [], b => by simp [szTs]
  | k :: ks, b => by rw [List.cons_append, szTs, szTs, szTs_app ks b]; omega
theorem numTs_app : ∀ a b : List T_api_Tree, numTs (a ++ b) = numTs a + numTs b
  | [], b => by simp [numTs]
  | k :: ks, b => by rw [List.cons_append, numTs, numTs, numTs_app ks b]; omega
mutual
theorem depT_le : ∀ t : T_api_Tree, depT t ≤ szT t
  | ⟨_, _, _, _, _, kids⟩ => by have := depTs_le kids; rw [depT, szT]; omega
theorem depTs_le : ∀ l : List T_api_Tree, depTs l ≤ szTs l
  | [] => Nat.le_refl _
  | k :: ks => by have := depT_le k; have := depTs_le ks; rw [depTs, szTs]; omega
end
mutual
theorem tleft_ok : ∀ (t : T_api_Tree) (n : Int), 0 ≤ n → n ≤ 600 → m_ref08_left (t, n) = some (max (n - (szT t : Int)) (-1))
  | ⟨k, f, a, nm, nu, ks⟩, n, h1, h2 => by
    rw [m_ref08_left]
    have w : W (n - 1) = n - 1 := W_ok (by omega) (by omega)
    have e := tleft_loop ks [] (n - 1) k f a nm nu (by omega) (by simp; omega)
    simp only [List.nil_append, List.length_nil, Int.natCast_zero] at e
    rw [w, e, bind_ok, szT]
    congr 1; omega
theorem tleft_loop : ∀ (s p : List T_api_Tree) (n : Int) (k f a : Int) (nm : ByteArray) (nu : List Int), -1 ≤ n → (p.length : Int) + n ≤ 600 →
    m_ref08_left_L1 (⟨k, f, a, nm, nu, p ++ s⟩, n, (p.length : Int)) = some (max (n - (szTs s : Int)) (-1))
  | [], p, n, k, f, a, nm, nu, h1, h2 => by
    rw [m_ref08_left_L1]
    simp only [end_lt, if_false, bind_ok, Bool.false_eq_true, szTs]
    congr 1; omega
  | x :: s, p, n, k, f, a, nm, nu, h1, h2 => by
    rw [m_ref08_left_L1]
    simp only [mid_lt, if_true, bind_ok]
    by_cases hn : n ≥ 0
    · rw [decide_eq_true hn]
      have e := tleft_ok x n hn (by omega)
      have e' := tleft_loop s (p ++ [x]) (max (n - (szT x : Int)) (-1)) k f a nm nu (by omega) (by have := szT_pos x; simp; omega)
      rw [← mid_app] at e'
      have w : W ((p.length : Int) + 1) = ((p ++ [x]).length : Int) := by rw [W_ok (by omega) (by omega)]; simp
      simp only [if_true, mid_idx, bind_ok, e, w, e', szTs]
      congr 1; omega
    · rw [decide_eq_false hn]
      simp only [Bool.false_eq_true, if_false, szTs]
      congr 1; omega
end
mutual
theorem tdep_ok : ∀ (t : T_api_Tree), szT t ≤ 100000 → m_ref08_Depth t = some (depT t : Int)
  | ⟨k, f, a, nm, nu, ks⟩, h => by
    rw [m_ref08_Depth]
    rw [szT] at h
    have e := tdep_loop ks [] 0 k f a nm nu (by have := szTs_len ks; simp; omega) (by omega) (by omega)
    simp only [List.nil_append, List.length_nil, Int.natCast_zero] at e
    have := depTs_le ks
    simp only [e, bind_ok, depT]
    rw [W_ok (by omega) (by omega)]
    congr 1
    first | done | omega
theorem tdep_loop : ∀ (s p : List T_api_Tree) (m : Nat) (k f a : Int) (nm : ByteArray) (nu : List Int), (p ++ s).length ≤ 100000 → szTs s ≤ 100000 → m ≤ 100000 →
    m_ref08_Depth_L1 (⟨k, f, a, nm, nu, p ++ s⟩, (m : Int), (p.length : Int)) = some ((max m (depTs s) : Nat) : Int)
  | [], p, m, k, f, a, nm, nu, h1, h2, h3 => by
    rw [m_ref08_Depth_L1]
    simp only [end_lt, if_false, depTs, Nat.max_zero]
  | x :: s, p, m, k, f, a, nm, nu, h1, h2, h3 => by
    rw [m_ref08_Depth_L1]
    rw [szTs] at h2
    have e := tdep_ok x (by omega)
    have hd := depT_le x
    have e' := tdep_loop s (p ++ [x]) (max m (depT x)) k f a nm nu (by simpa using h1) (by omega) (by omega)
    rw [← mid_app] at e'
    have w : W ((p.length : Int) + 1) = ((p ++ [x]).length : Int) := mid_W (Sm_of h1)
    have hx : (if (m : Int) < (depT x : Int) then (depT x : Int) else (m : Int)) = ((max m (depT x) : Nat) : Int) := by split <;> omega
    simp only [mid_lt, if_true, mid_idx, bind_ok, e, w, hx, e', depTs]
    congr 1; omega
end
mutual
theorem tnum_ok : ∀ (t : T_api_Tree), szT t ≤ 600 → numT t ≤ 1000000000000000000 → m_ref08_numbers t = some (numT t : Int)
  | ⟨k, f, a, nm, nu, ks⟩, h, h2 => by
    rw [m_ref08_numbers]
    rw [szT] at h
    rw [numT] at h2
    have e := tnum_loop ks [] nu.length k f a nm nu (by have := szTs_len ks; simp; omega) (by omega) (by omega)
    simp only [List.nil_append, List.length_nil, Int.natCast_zero] at e
    simp only [e, bind_ok, numT]
theorem tnum_loop : ∀ (s p : List T_api_Tree) (m : Nat) (k f a : Int) (nm : ByteArray) (nu : List Int), (p ++ s).length ≤ 600 → szTs s ≤ 600 → m + numTs s ≤ 1000000000000000000 →
    m_ref08_numbers_L1 (⟨k, f, a, nm, nu, p ++ s⟩, (m : Int), (p.length : Int)) = some ((m + numTs s : Nat) : Int)
  | [], p, m, k, f, a, nm, nu, h1, h2, h3 => by
    rw [m_ref08_numbers_L1]
    simp only [end_lt, if_false, numTs, Nat.add_zero]
  | x :: s, p, m, k, f, a, nm, nu, h1, h2, h3 => by
    rw [m_ref08_numbers_L1]
    rw [szTs] at h2
    rw [numTs] at h3
    have e := tnum_ok x (by omega) (by omega)
    have e' := tnum_loop s (p ++ [x]) (m + numT x) k f a nm nu (by simpa using h1) (by omega) (by omega)
    rw [← mid_app] at e'
    have w : W ((p.length : Int) + 1) = ((p ++ [x]).length : Int) := mid_W (Sm_of h1)
    have hx : W ((m : Int) + (numT x : Int)) = ((m + numT x : Nat) : Int) := by rw [W_ok (by omega) (by omega)]; omega
    simp only [mid_lt, if_true, mid_idx, bind_ok, e, w, hx, e', numTs, Nat.add_assoc]
end
/-- few nodes and numbers -/
def fewT (t : T_api_Tree) : Prop := szT t ≤ 300 ∧ depT t ≤ 150 ∧ numT t ≤ 3000
theorem Few_ok (t : T_api_Tree) (hb : numT t ≤ szT t * 140737488351232) : ∃ b, m_ref08_Few (t, 300) = some b ∧ (b = true ↔ fewT t) := by
  unfold m_ref08_Few
  simp only [tleft_ok t 300 (by omega) (by omega), bind_ok]
  by_cases h : szT t ≤ 300
  · have h0 : max ((300 : Int) - (szT t : Int)) (-1) ≥ 0 := by omega
    have hn : numT t ≤ 1000000000000000000 := Nat.le_trans hb (Nat.le_trans (Nat.mul_le_mul_right _ h) (by decide))
    have w : W (10 * 300) = 3000 := by decide
    simp only [h0, if_true, tdep_ok t (by omega), tnum_ok t (by omega) hn, bind_ok, w]
    by_cases hd : (depT t : Int) ≤ 150
    · rw [decide_eq_true hd]
      simp only [if_true]
      refine ⟨_, rfl, ?_⟩
      unfold fewT
      simp only [decide_eq_true_eq]
      omega
    · rw [decide_eq_false hd]
      simp only [Bool.false_eq_true, if_false]
      exact ⟨_, rfl, fun h => (by cases h), fun h => by unfold fewT at h; omega⟩
  · have h0 : ¬ max ((300 : Int) - (szT t : Int)) (-1) ≥ 0 := by omega
    simp only [h0, if_false, bind_ok, Bool.false_eq_true]
    exact ⟨_, rfl, fun h => (by cases h), fun h' => by unfold fewT at h'; omega⟩
end Go.Proofs.Tryd
namespace Go.Proofs.Tryd
open Go Go.Pm
set_option linter.unusedVariables false
set_option linter.unusedSimpArgs false
set_option maxRecDepth 2000
theorem ite_some {c : Prop} [Decidable c] {α : Type} (a b : α) : (if c then some a else some b) = some (if c then a else b) := by split <;> rfl
/-- numbers that are such -/
def nuOk (l : List Int) : Prop := ∀ n ∈ l, i64 n
theorem letter_tot (v : Int) : ∃ b, m_ref07_letter v = some b := by
  unfold m_ref07_letter
  simp only [ite_some, bind_ok]
  exact ⟨_, rfl⟩
theorem digit_tot (v : Int) : ∃ b, m_ref07_digit v = some b := by
  unfold m_ref07_digit
  simp only [ite_some, bind_ok]
  exact ⟨_, rfl⟩
theorem sidx_ok {b : ByteArray} {i : Nat} (h : i < b.size) : ∃ v, sidx b (i : Int) = some v := by
  unfold sidx
  rw [if_pos (by omega)]
  have h2 : ((i : Int)).toNat < b.data.size := by have : b.data.size = b.size := rfl; omega
  rw [Array.getElem?_eq_getElem h2]
  exact ⟨_, rfl⟩
theorem end_tot (s : ByteArray) (hs : s.size ≤ 1000000000000000000) : ∀ m i : Nat, i + m = s.size → ∃ r, m_ref07_end_L1 (s, (i : Int)) = some r
  | 0, i, h => by
    rw [m_ref07_end_L1]
    have : ¬ ((i : Int) < (s.size : Int)) := by omega
    simp only [this, if_false, bind_ok, Bool.false_eq_true]
    exact ⟨_, rfl⟩
  | m + 1, i, h => by
    rw [m_ref07_end_L1]
    have h1 : ((i : Int) < (s.size : Int)) := by omega
    obtain ⟨v, e⟩ := sidx_ok (b := s) (i := i) (by omega)
    obtain ⟨b, eb⟩ := letter_tot v
    obtain ⟨c, ec⟩ := digit_tot v
    obtain ⟨r, er⟩ := end_tot s hs m (i + 1) (by omega)
    have w : W ((i : Int) + 1) = ((i + 1 : Nat) : Int) := W_succ (by omega)
    simp only [h1, if_true, e, eb, ec, bind_ok, w, er, ite_some]
    split
    · exact ⟨_, rfl⟩
    · exact ⟨_, rfl⟩
theorem name_tot (s : ByteArray) (hs : s.size ≤ 1000000000000000000) : ∃ b, m_ref07_Name s = some b := by
  unfold m_ref07_Name
  simp only []
  by_cases h : (s.size : Int) > 0
  · obtain ⟨v, e⟩ := sidx_ok (b := s) (i := 0) (by omega)
    simp only [Int.natCast_zero] at e
    obtain ⟨b, eb⟩ := letter_tot v
    obtain ⟨r, er⟩ := end_tot s hs s.size 0 (by omega)
    simp only [Int.natCast_zero] at er
    simp only [h, if_true, e, eb, bind_ok]
    cases b
    · simp only [Bool.false_eq_true, if_false]; exact ⟨_, rfl⟩
    · simp only [if_true, m_ref07_end, er, bind_ok]; exact ⟨_, rfl⟩
  · simp only [h, if_false, bind_ok, Bool.false_eq_true]; exact ⟨_, rfl⟩
def noT : T_api_Tree := ⟨0, 0, 0, ByteArray.empty, [], []⟩
def axF (a : Int) : Prop := 0 ≤ a ∧ a ≤ 15
/-- a node as the chapter permits -/
def formF (t : T_api_Tree) : Prop :=
  (t.kind = 1 ∧ t.fn = 0 ∧ t.axis = -1 ∧ t.name = ByteArray.empty ∧ t.kids.length = 0) ∨
  (t.kind = 2 ∧ t.fn = 0 ∧ t.axis = -1 ∧ m_ref07_Name t.name = some true ∧ t.nums.length = 0 ∧ t.kids.length = 0) ∨
  (t.kind = 3 ∧ t.name = ByteArray.empty ∧ t.nums.length = 0 ∧ t.kids.length = 1 ∧ ((t.fn = 3 ∧ (t.axis = -1 ∨ axF t.axis)) ∨ ((t.fn = 4 ∨ t.fn = 6) ∧ t.axis = -1))) ∨
  (t.kind = 4 ∧ t.name = ByteArray.empty ∧ t.nums.length = 0 ∧ t.kids.length = 2 ∧ 1 ≤ t.fn ∧ t.fn ≤ 6 ∧ (t.axis = -1 ∨ (axF t.axis ∧ (t.fn = 3 ∨ t.fn = 6))) ∧ (t.fn = 6 ∨ (t.kids.getD 0 noT).kind = 1 ∨ (t.kids.getD 0 noT).kind = 2))
set_option maxHeartbeats 4000000 in
theorem node_ok (t : T_api_Tree) (hs : t.name.size ≤ 1000000000000000000) : ∃ b, m_ref08_node t = some b ∧ (b = true ↔ formF t) := by
  obtain ⟨k, f, a, nm, nu, ks⟩ := t
  obtain ⟨nb, en⟩ := name_tot nm hs
  unfold m_ref08_node
  simp only [ite_some, bind_ok]
  by_cases h1 : k = 1
  · subst h1
    simp only [if_true, ite_some, bind_ok]
    refine ⟨_, rfl, ?_⟩
    simp only [formF, axF]
    by_cases c1 : f = 0 <;> by_cases c2 : a = -1 <;> by_cases c3 : nm = ByteArray.empty <;> simp [c1, c2, c3] <;> omega
  · by_cases h2 : k = 2
    · subst h2
      simp only [if_neg h1, if_true, ite_some, bind_ok, en]
      refine ⟨_, rfl, ?_⟩
      simp only [formF, axF, en]
      cases nb <;> by_cases c1 : f = 0 <;> by_cases c2 : a = -1 <;> by_cases c3 : nu = [] <;> simp [c1, c2, c3]
    · by_cases h3 : k = 3
      · subst h3
        simp only [if_neg h1, if_neg h2, if_true, ite_some, bind_ok]
        refine ⟨_, rfl, ?_⟩
        simp only [formF, axF]
        by_cases c1 : nm = ByteArray.empty <;> by_cases c2 : nu = [] <;> by_cases c3 : ks.length = 1 <;> by_cases c4 : f = 3 <;> by_cases c5 : a = -1 <;> simp [c1, c2, c3, c4, c5] <;> (try omega)
      · by_cases h4 : k = 4
        · subst h4
          simp only [if_neg h1, if_neg h2, if_neg h3, if_true, ite_some, bind_ok]
          match ks with
          | [x, y] =>
            have i0 : idx [x, y] 0 = some x := rfl
            simp only [i0, ite_some, bind_ok]
            refine ⟨_, rfl, ?_⟩
            simp only [formF, axF]
            by_cases c1 : nm = ByteArray.empty <;> by_cases c2 : nu = [] <;> by_cases c3 : f = 6 <;> by_cases c4 : f = 3 <;> by_cases c5 : a = -1 <;> simp [c1, c2, c3, c4, c5] <;> (try omega)
          | [] =>
            simp [formF]
          | [x] => 
            simp [formF]
          | x :: y :: z :: r =>
            simp [formF]
            intro _ _ h
            omega
        · simp only [if_neg h1, if_neg h2, if_neg h3, if_neg h4]
          exact ⟨_, rfl, fun h => (by cases h), fun h => by simp only [formF] at h; omega⟩
mutual
def good : T_api_Tree → Prop
  | ⟨k, f, a, nm, nu, ks⟩ => formF ⟨k, f, a, nm, nu, ks⟩ ∧ goods ks
def goods : List T_api_Tree → Prop
  | [] => True
  | k :: ks => good k ∧ goods ks
end
/-- names are no longer than a machine can hold -/
def nmOk (n : Nat) : Prop := n ≤ 1000000000000000000
mutual
def namesOk : T_api_Tree → Prop
  | ⟨_, _, _, nm, nu, ks⟩ => (nmOk nm.size ∧ nuOk nu) ∧ namesOks ks
def namesOks : List T_api_Tree → Prop
  | [] => True
  | k :: ks => namesOk k ∧ namesOks ks
end
mutual
theorem nodes_ok : ∀ (t : T_api_Tree), szT t ≤ 600 → namesOk t → ∃ b, m_ref08_nodes t = some b ∧ (b = true ↔ good t)
  | ⟨k, f, a, nm, nu, ks⟩, h, hn => by
    rw [szT] at h
    rw [namesOk] at hn
    obtain ⟨b, e, hb⟩ := node_ok ⟨k, f, a, nm, nu, ks⟩ hn.1.1
    have hl := szTs_len ks
    obtain ⟨r, e2, hr⟩ := nodes_loop ks [] k f a nm nu (by simp; omega) (by omega) hn.2
    simp only [List.nil_append, List.length_nil, Int.natCast_zero] at e2
    rw [m_ref08_nodes]
    simp only [e, bind_ok, good, ← hb, ← hr]
    cases b with
    | false => exact ⟨_, rfl, fun h => (by cases h), fun h => (by cases h.1)⟩
    | true =>
      simp only [Bool.true_eq_false, if_false, e2, bind_ok, true_and]
      cases r with
      | inl u => exact ⟨_, rfl, fun h => (by cases h), fun h => (by cases h)⟩
      | inr u => exact ⟨_, rfl, fun _ => rfl, fun _ => rfl⟩
theorem nodes_loop : ∀ (s p : List T_api_Tree) (k f a : Int) (nm : ByteArray) (nu : List Int), (p ++ s).length ≤ 600 → szTs s ≤ 600 → namesOks s →
    ∃ r, m_ref08_nodes_L1 (⟨k, f, a, nm, nu, p ++ s⟩, (p.length : Int)) = some r ∧ (r = .inr () ↔ goods s)
  | [], p, k, f, a, nm, nu, h1, h2, h3 => by
    rw [m_ref08_nodes_L1]
    simp only [end_lt, if_false, goods]
    exact ⟨_, rfl, fun _ => trivial, fun _ => rfl⟩
  | x :: s, p, k, f, a, nm, nu, h1, h2, h3 => by
    rw [m_ref08_nodes_L1]
    rw [szTs] at h2
    rw [namesOks] at h3
    obtain ⟨b, e, hb⟩ := nodes_ok x (by omega) h3.1
    obtain ⟨r, e', hr⟩ := nodes_loop s (p ++ [x]) k f a nm nu (by simpa using h1) (by omega) h3.2
    rw [← mid_app] at e'
    have w : W ((p.length : Int) + 1) = ((p ++ [x]).length : Int) := mid_W (Sm_of h1)
    simp only [mid_lt, if_true, mid_idx, bind_ok, e, w, goods, ← hb, ← hr]
    cases b with
    | false => exact ⟨_, rfl, fun h => (by cases h), fun h => (by cases h.1)⟩
    | true => exact ⟨r, e', fun h => ⟨rfl, h⟩, fun h => h.2⟩
end
theorem etaT (t : T_api_Tree) : (⟨t.kind, t.fn, t.axis, t.name, t.nums, t.kids⟩ : T_api_Tree) = t := by cases t; rfl
theorem Right_ok (t : T_api_Tree) (h : szT t ≤ 300) (hn : namesOk t) : ∃ b, m_ref08_Right t = some b ∧ (b = true ↔ depT t ≤ 100 ∧ good t) := by
  obtain ⟨b, e, hb⟩ := nodes_ok t (by omega) hn
  unfold m_ref08_Right
  simp only [tdep_ok t (by omega), bind_ok]
  by_cases hd : (depT t : Int) ≤ 100
  · simp only [hd, if_true, etaT, e, bind_ok]
    exact ⟨_, rfl, by rw [hb]; exact ⟨fun h => ⟨by omega, h⟩, fun h => h.2⟩⟩
  · simp only [hd, if_false]
    exact ⟨_, rfl, fun h => (by cases h), fun h => (by omega)⟩
theorem Small_ok (t : T_api_Tree) (hb : numT t ≤ szT t * 140737488351232) (hn : namesOk t) : ∃ b, m_ref08_Small (t, 300) = some b ∧ (b = true ↔ fewT t ∧ depT t ≤ 100 ∧ good t) := by
  obtain ⟨b, e, h⟩ := Few_ok t hb
  unfold m_ref08_Small
  simp only [e, bind_ok]
  cases b with
  | false => 
    simp only [Bool.false_eq_true, if_false]
    exact ⟨_, rfl, fun h => (by cases h), fun h' => h.2 h'.1⟩
  | true =>
    obtain ⟨c, e2, h2⟩ := Right_ok t (h.1 rfl).1 hn
    simp only [if_true, etaT, e2, bind_ok]
    exact ⟨_, rfl, by rw [h2]; exact ⟨fun h' => ⟨h.1 rfl, h'⟩, fun h' => h'.2⟩⟩
end Go.Proofs.Tryd
namespace Go.Proofs.Tryd
open Go Go.Pm
set_option linter.unusedVariables false
set_option linter.unusedSimpArgs false
set_option maxRecDepth 2000
theorem szT_f (t : T_api_Tree) : szT t = 1 + szTs t.kids := by cases t; rw [szT]
theorem numT_f (t : T_api_Tree) : numT t = t.nums.length + numTs t.kids := by cases t; rw [numT]
theorem depT_f (t : T_api_Tree) : depT t = depTs t.kids + 1 := by cases t; rw [depT]
theorem wT_f (t : T_api_Tree) : wT t = 40 + t.name.size + 40 * t.nums.length + wTs t.kids := by cases t; rw [wT]
theorem good_f {t : T_api_Tree} : good t ↔ formF t ∧ goods t.kids := by cases t; rw [good]
theorem namesOk_f {t : T_api_Tree} : namesOk t ↔ (nmOk t.name.size ∧ nuOk t.nums) ∧ namesOks t.kids := by cases t; rw [namesOk]
theorem kids1 {t : T_api_Tree} (h : t.kids.length = 1) : ∃ k, t.kids = [k] := by
  match e : t.kids, h with
  | [k], _ => exact ⟨k, rfl⟩
theorem kids2 {t : T_api_Tree} (h : t.kids.length = 2) : ∃ l k, t.kids = [l, k] := by
  match e : t.kids, h with
  | [l, k], _ => exact ⟨l, k, rfl⟩
theorem is_ok (t : T_api_Tree) (a b : Int) : m_simplify_is (t, a, b) = some (decide (t.kind = a) && decide (t.fn = b)) := by
  unfold m_simplify_is
  simp only []
  by_cases h : t.kind = a
  · simp only [h, if_true, decide_true, Bool.true_and]; congr 1
  · simp only [h, if_false, decide_false, Bool.false_and]
/-- what is left of a size when a rule has been applied -/
structure less (u t : T_api_Tree) : Prop where
  sz : szT u < szT t
  num : numT u ≤ numT t
  dep : depT u ≤ depT t
  wt : wT u ≤ wT t
  gd : good u
  nm : namesOk u
theorem idx0 {α : Type} {l : List α} {a : α} (h : l = [a]) : idx l 0 = some a := by subst h; rfl
theorem idx20 {α : Type} {l : List α} {a b : α} (h : l = [a, b]) : idx l 0 = some a := by subst h; rfl
theorem idx21 {α : Type} {l : List α} {a b : α} (h : l = [a, b]) : idx l 1 = some b := by subst h; rfl
theorem twice_no {t : T_api_Tree} {f : Int} (h : t.kind ≠ 3 ∨ t.fn ≠ f) : m_simplify_twice (t, f) = some (t, false) := by
  unfold m_simplify_twice
  have : (decide (t.kind = 3) && decide (t.fn = f)) = false := by
    rcases h with h | h
    · rw [decide_eq_false h]; rfl
    · rw [decide_eq_false h, Bool.and_false]
  simp only [is_ok, this, bind_ok, if_true]
theorem twice_ok {t k : T_api_Tree} {f : Int} (h3 : t.kind = 3) (hf : t.fn = f) (hk : t.kids = [k]) : m_simplify_twice (t, f) =
    if k.kind = 3 ∧ k.fn = f ∧ t.axis = k.axis then idx k.kids 0 >>= fun v => some (v, true) else some (t, false) := by
  unfold m_simplify_twice
  simp only [is_ok, h3, hf, idx0 hk, bind_ok, decide_true, Bool.and_self, Bool.true_eq_false, if_false]
  by_cases c1 : k.kind = 3 <;> by_cases c2 : k.fn = f <;> by_cases c3 : t.axis = k.axis <;> simp [c1, c2, c3]
theorem plain_no {t : T_api_Tree} {f : Int} {l : List Int} (h : t.kind ≠ 4 ∨ t.fn ≠ f) : m_simplify_plain (t, f, l) = some (t, false) := by
  unfold m_simplify_plain
  have : (decide (t.kind = 4) && decide (t.fn = f)) = false := by
    rcases h with h | h
    · rw [decide_eq_false h]; rfl
    · rw [decide_eq_false h, Bool.and_false]
  simp only [is_ok, this, bind_ok, if_true]
theorem plain_zero {t l k : T_api_Tree} {f : Int} (h4 : t.kind = 4) (hf : t.fn = f) (hk : t.kids = [l, k]) : m_simplify_plain (t, f, [0]) = some (if l.kind = 1 ∧ l.nums = [0] then (k, true) else (t, false)) := by
  unfold m_simplify_plain
  simp only [is_ok, h4, hf, idx20 hk, idx21 hk, bind_ok, decide_true, Bool.and_self, Bool.true_eq_false, if_false]
  by_cases c1 : l.kind = 1
  · match e : l.nums with
    | [n] =>
      have e1 : m_simplify_plain_L1 ([0], t, 1) = some (.inr ()) := by rw [m_simplify_plain_L1]; rfl
      have e0 : m_simplify_plain_L1 ([0], t, 0) = some (if n = 0 then .inr () else .inl ()) := by
        rw [m_simplify_plain_L1]
        have w : W (0 + 1) = 1 := by decide
        have i1 : idx ([0] : List Int) 0 = some 0 := rfl
        have i2 : idx ([n] : List Int) 0 = some n := rfl
        have h1 : (0 : Int) < (([0] : List Int).length : Int) := by decide
        simp only [h1, if_true, i1, idx20 hk, e, i2, bind_ok, w, e1]
        by_cases hn : n = 0 <;> simp [hn]
      simp only [c1, e, e0, bind_ok]
      by_cases hn : n = 0 <;> simp [hn]
    | [] => simp [c1]
    | a :: b :: r =>
      have : ¬ ((r.length : Int) + 1 + 1 = 1) := by omega
      simp [c1, this]
  · simp [c1]
theorem plain_nil {t l k : T_api_Tree} {f : Int} (h4 : t.kind = 4) (hf : t.fn = f) (hk : t.kids = [l, k]) : m_simplify_plain (t, f, []) = some (if l.kind = 1 ∧ l.nums = [] then (k, true) else (t, false)) := by
  unfold m_simplify_plain
  simp only [is_ok, h4, hf, idx20 hk, idx21 hk, bind_ok, decide_true, Bool.and_self, Bool.true_eq_false, if_false]
  have e0 : m_simplify_plain_L1 ([], t, 0) = some (.inr ()) := by rw [m_simplify_plain_L1]; rfl
  by_cases c1 : l.kind = 1
  · match e : l.nums with
    | [] => simp [c1, e0]
    | a :: r =>
      have : ¬ ((r.length : Int) + 1 = 0) := by omega
      simp [c1, this]
  · simp [c1]
mutual
def nf : T_api_Tree → Prop
  | ⟨k, f, a, nm, nu, ks⟩ => m_simplify_once ⟨k, f, a, nm, nu, ks⟩ = some (⟨k, f, a, nm, nu, ks⟩, 0) ∧ nfs ks
def nfs : List T_api_Tree → Prop
  | [] => True
  | k :: ks => nf k ∧ nfs ks
end
theorem nf_f {t : T_api_Tree} : nf t ↔ m_simplify_once t = some (t, 0) ∧ nfs t.kids := by cases t; rw [nf]
theorem goods1 {k : T_api_Tree} : goods [k] ↔ good k := by rw [goods, goods]; simp
theorem goods2 {l k : T_api_Tree} : goods [l, k] ↔ good l ∧ good k := by rw [goods, goods, goods]; simp
theorem nfs1 {k : T_api_Tree} : nfs [k] ↔ nf k := by rw [nfs, nfs]; simp
theorem nfs2 {l k : T_api_Tree} : nfs [l, k] ↔ nf l ∧ nf k := by rw [nfs, nfs, nfs]; simp
theorem nms1 {k : T_api_Tree} : namesOks [k] ↔ namesOk k := by rw [namesOks, namesOks]; simp
theorem nms2 {l k : T_api_Tree} : namesOks [l, k] ↔ namesOk l ∧ namesOk k := by rw [namesOks, namesOks, namesOks]; simp
theorem sz1 (k : T_api_Tree) : szTs [k] = szT k ∧ numTs [k] = numT k ∧ depTs [k] = depT k ∧ wTs [k] = wT k := by simp [szTs, numTs, depTs, wTs]
theorem sz2 (l k : T_api_Tree) : szTs [l, k] = szT l + szT k ∧ numTs [l, k] = numT l + numT k ∧ depTs [l, k] = max (depT l) (depT k) ∧ wTs [l, k] = wT l + wT k := by simp [szTs, numTs, depTs, wTs]
theorem empty_size : ByteArray.empty.size = 0 := rfl
/-- one step: the program's rule and the reference's -/
def stepT (t u : T_api_Tree) (n : Int) : Prop :=
  m_simplify_once t = some (u, n)  ∧ 0 ≤ n ∧ (n = 0 → u = t) ∧ (n ≠ 0 → less u t) ∧ (nfs t.kids → nfs u.kids)
theorem step_low {t : T_api_Tree} (h : t.kind < 3) : stepT t t 0 := by
  have k3 : t.kind ≠ 3 := by omega
  have k4 : t.kind ≠ 4 := by omega
  refine ⟨?_, by omega, fun _ => rfl, fun h => absurd rfl h, fun h => h⟩
  · unfold m_simplify_once m_simplify_reversed m_simplify_transposed m_simplify_raveled m_simplify_reshaped m_simplify_rotated m_simplify_dropped
    simp only [twice_no (Or.inl k3), plain_no (Or.inl k4), bind_ok, is_ok, decide_eq_false k4, Bool.false_and, if_true, if_false, Bool.false_eq_true]
theorem less_kid1 {t k : T_api_Tree} (hk : t.kids = [k]) (hg : good t) (hn : namesOk t) : less k t := by
  have a := szT_f t; have b := numT_f t; have c := depT_f t; have d := wT_f t
  rw [hk] at a b c d
  obtain ⟨s1, s2, s3, s7⟩ := sz1 k
  have hg2 := (good_f.1 hg).2; rw [hk] at hg2
  have hn2 := (namesOk_f.1 hn).2; rw [hk] at hn2
  exact ⟨by omega, by omega, by omega, by omega, goods1.1 hg2, nms1.1 hn2⟩
theorem less_kid2 {t l k : T_api_Tree} (hk : t.kids = [l, k]) (hg : good t) (hn : namesOk t) : less k t := by
  have a := szT_f t; have b := numT_f t; have c := depT_f t; have d := wT_f t
  rw [hk] at a b c d
  obtain ⟨s1, s2, s3, s7⟩ := sz2 l k
  have hg2 := (good_f.1 hg).2; rw [hk] at hg2
  have hn2 := (namesOk_f.1 hn).2; rw [hk] at hn2
  exact ⟨by omega, by omega, by omega, by omega, (goods2.1 hg2).2, (nms2.1 hn2).2⟩
theorem less.trans {a b c : T_api_Tree} (h : less a b) (h2 : less b c) : less a c :=
  ⟨Nat.lt_trans h.sz h2.sz, Nat.le_trans h.num h2.num, Nat.le_trans h.dep h2.dep, Nat.le_trans h.wt h2.wt, h.gd, h.nm⟩
theorem form_monad {t : T_api_Tree} (hg : good t) (h : t.kind = 3) : ∃ k, t.kids = [k] ∧ t.name = ByteArray.empty ∧ t.nums = [] ∧ ((t.fn = 3 ∧ (t.axis = -1 ∨ axF t.axis)) ∨ ((t.fn = 4 ∨ t.fn = 6) ∧ t.axis = -1)) := by
  rcases (good_f.1 hg).1 with c | c | c | c
  · omega
  · omega
  · obtain ⟨k, e⟩ := kids1 c.2.2.2.1
    exact ⟨k, e, c.2.1, List.length_eq_zero_iff.1 c.2.2.1, c.2.2.2.2⟩
  · omega
theorem form_dyad {t : T_api_Tree} (hg : good t) (h : t.kind = 4) : ∃ l k, t.kids = [l, k] ∧ t.name = ByteArray.empty ∧ t.nums = [] ∧ 1 ≤ t.fn ∧ t.fn ≤ 6 ∧ (t.axis = -1 ∨ (axF t.axis ∧ (t.fn = 3 ∨ t.fn = 6))) ∧ (t.fn = 6 ∨ l.kind = 1 ∨ l.kind = 2) := by
  rcases (good_f.1 hg).1 with c | c | c | c
  · omega
  · omega
  · omega
  · obtain ⟨l, k, e⟩ := kids2 c.2.2.2.1
    have q := c.2.2.2.2
    rw [e] at q
    exact ⟨l, k, e, c.2.1, List.length_eq_zero_iff.1 c.2.2.1, q⟩
theorem step_monad {t : T_api_Tree} (hg : good t) (hn : namesOk t) (h3 : t.kind = 3) : ∃ u n, stepT t u n := by
  obtain ⟨k, hk, hnm, hnu, hf⟩ := form_monad hg h3
  have hgk : good k := (less_kid1 hk hg hn).gd
  have hlk := less_kid1 hk hg hn
  have k4 : t.kind ≠ 4 := by omega
  have d4 : (decide (t.kind = 4)) = false := decide_eq_false k4
  have n3 : ¬ t.kind < 3 := by omega
  have hW : W ((t.kids.length : Int) - 1) = 0 := by
    rw [hk, show (([k] : List T_api_Tree).length : Int) - 1 = 0 by simp]; decide
  by_cases hc : k.kind = 3 ∧ k.fn = t.fn ∧ t.axis = k.axis
  · obtain ⟨c1, c2, c3⟩ := hc
    obtain ⟨k0, hk0, _, _, hf0⟩ := form_monad hgk c1
    have hl0 := (less_kid1 hk0 hgk hlk.nm)
    by_cases f3 : t.fn = 3
    · refine ⟨k0, 1, ?_, by omega, fun h => (by cases h), fun _ => hl0.trans hlk, fun h => ?_⟩
      · unfold m_simplify_once m_simplify_reversed
        simp [twice_ok h3 f3 hk, c1, c2, c3, f3, idx0 hk0, bind_ok]
      · rw [hk] at h
        have h2 := (nf_f.1 (nfs1.1 h)).2
        rw [hk0] at h2
        exact (nf_f.1 (nfs1.1 h2)).2
    · by_cases f4 : t.fn = 4
      · refine ⟨k0, 2, ?_, by omega, fun h => (by cases h), fun _ => hl0.trans hlk, fun h => ?_⟩
        · unfold m_simplify_once m_simplify_reversed m_simplify_transposed
          simp [twice_no (f := 3) (Or.inr f3), twice_ok h3 f4 hk, c1, c2, c3, f4, idx0 hk0, bind_ok]
        · rw [hk] at h
          have h2 := (nf_f.1 (nfs1.1 h)).2
          rw [hk0] at h2
          exact (nf_f.1 (nfs1.1 h2)).2
      · have f6 : t.fn = 6 := by omega
        refine ⟨k, 3, ?_, by omega, fun h => (by cases h), fun _ => hlk, fun h => ?_⟩
        · unfold m_simplify_once m_simplify_reversed m_simplify_transposed m_simplify_raveled
          simp [twice_no (f := 3) (Or.inr f3), twice_no (f := 4) (Or.inr f4), twice_ok h3 f6 hk, c1, c2, c3, f6, idx0 hk0, idx0 hk, bind_ok]
        · rw [hk] at h
          exact (nf_f.1 (nfs1.1 h)).2
  · refine ⟨t, 0, ?_, by omega, fun _ => rfl, fun h => absurd rfl h, fun h => h⟩
    · have e3 : m_simplify_twice (t, 3) = some (t, false) := by
        by_cases f : t.fn = 3
        · rw [twice_ok h3 f hk, if_neg (fun h => hc ⟨h.1, by omega, h.2.2⟩)]
        · exact twice_no (Or.inr f)
      have e4 : m_simplify_twice (t, 4) = some (t, false) := by
        by_cases f : t.fn = 4
        · rw [twice_ok h3 f hk, if_neg (fun h => hc ⟨h.1, by omega, h.2.2⟩)]
        · exact twice_no (Or.inr f)
      have e6 : m_simplify_twice (t, 6) = some (t, false) := by
        by_cases f : t.fn = 6
        · rw [twice_ok h3 f hk, if_neg (fun h => hc ⟨h.1, by omega, h.2.2⟩)]
        · exact twice_no (Or.inr f)
      unfold m_simplify_once m_simplify_reversed m_simplify_transposed m_simplify_raveled m_simplify_reshaped m_simplify_rotated m_simplify_dropped
      simp only [e3, e4, e6, plain_no (Or.inl k4), bind_ok, is_ok, d4, Bool.false_and, if_true, if_false, Bool.false_eq_true]
theorem reshaped_no {t : T_api_Tree} (h : t.fn ≠ 5) : m_simplify_reshaped t = some (t, false) := by
  unfold m_simplify_reshaped
  simp only [is_ok, decide_eq_false h, Bool.and_false, bind_ok, if_true]
theorem step_dyad {t : T_api_Tree} (hg : good t) (hn : namesOk t) (h4 : t.kind = 4) : ∃ u n, stepT t u n := by
  obtain ⟨l, k, hk, hnm, hnu, hf1, hf6, hax, hfl⟩ := form_dyad hg h4
  have hlk := less_kid2 hk hg hn
  have hgk : good k := hlk.gd
  have k3 : t.kind ≠ 3 := by omega
  have n3 : ¬ t.kind < 3 := by omega
  have hW : W ((t.kids.length : Int) - 1) = 1 := by
    rw [hk, show (([l, k] : List T_api_Tree).length : Int) - 1 = 1 by simp]; decide
  have hnfk : nfs t.kids → nfs k.kids := fun h => by
    rw [hk] at h
    exact (nf_f.1 (nfs2.1 h).2).2
  by_cases f5 : t.fn = 5
  · by_cases hc : k.kind = 3 ∧ k.fn = 6
    · obtain ⟨c1, c2⟩ := hc
      obtain ⟨k0, hk0, _, _, hf0⟩ := form_monad hgk c1
      have hl0 := (less_kid1 hk0 hgk hlk.nm)
      refine ⟨⟨4, 5, t.axis, ByteArray.empty, [], [l, k0]⟩, 4, ?_, by omega, fun h => (by cases h), fun _ => ?_, fun h => ?_⟩
      · unfold m_simplify_once m_simplify_reversed m_simplify_transposed m_simplify_raveled m_simplify_reshaped
        simp [twice_no (f := 3) (Or.inl k3), twice_no (f := 4) (Or.inl k3), twice_no (f := 6) (Or.inl k3), is_ok, h4, f5, idx20 hk, idx21 hk, idx0 hk0, c1, c2, etaT, hnm, hnu]
      · have a := szT_f t; have b := numT_f t; have c := depT_f t; have d := wT_f t
        rw [hk] at a b c d
        obtain ⟨s1, s2, s3, s7⟩ := sz2 l k
        obtain ⟨s4, s5, s6, s8⟩ := sz2 l k0
        have := hl0.sz; have := hl0.num; have := hl0.dep; have := hl0.wt
        have hg2 := (good_f.1 hg).2; rw [hk] at hg2
        have hn2 := (namesOk_f.1 hn).2; rw [hk] at hn2
        refine ⟨by rw [szT]; omega, by rw [numT]; simp only [List.length_nil]; omega, by rw [depT]; omega, by rw [wT, empty_size]; simp only [List.length_nil]; omega, ?_, ?_⟩
        · rw [good]
          refine ⟨Or.inr (Or.inr (Or.inr ⟨rfl, rfl, rfl, rfl, (show (1 : Int) ≤ 5 by omega), (show (5 : Int) ≤ 6 by omega), ?_, ?_⟩)), goods2.2 ⟨(goods2.1 hg2).1, hl0.gd⟩⟩
          · rcases hax with h | h
            · exact Or.inl h
            · omega
          · rcases hfl with h | h
            · omega
            · exact Or.inr h
        · rw [namesOk]
          exact ⟨⟨by unfold nmOk; rw [empty_size]; omega, fun n h => by simp at h⟩, nms2.2 ⟨(nms2.1 hn2).1, hl0.nm⟩⟩
      · have h2 := hnfk h
        rw [hk] at h
        rw [hk0] at h2
        exact nfs2.2 ⟨(nfs2.1 h).1, nfs1.1 h2⟩
    · refine ⟨t, 0, ?_, by omega, fun _ => rfl, fun h => absurd rfl h, fun h => h⟩
      · have e : m_simplify_reshaped t = some (t, false) := by
          unfold m_simplify_reshaped
          have q : (decide (k.kind = 3) && decide (k.fn = 6)) = false := by
            by_cases c1 : k.kind = 3
            · rw [decide_eq_false (fun c2 => hc ⟨c1, c2⟩), Bool.and_false]
            · rw [decide_eq_false c1, Bool.false_and]
          simp only [is_ok, h4, f5, idx21 hk, decide_true, Bool.and_self, Bool.true_eq_false, if_false, bind_ok, q, Bool.not_false, if_true]
        unfold m_simplify_once m_simplify_reversed m_simplify_transposed m_simplify_raveled m_simplify_rotated m_simplify_dropped
        simp only [twice_no (Or.inl k3), plain_no (t := t) (f := 3) (l := [0]) (Or.inr (by omega)), plain_no (t := t) (f := 2) (l := []) (Or.inr (by omega)), e, bind_ok, if_true, if_false, Bool.false_eq_true]
  · by_cases f3 : t.fn = 3
    · have e0 : m_simplify_plain (t, 2, []) = some (t, false) := plain_no (Or.inr (by omega))
      by_cases hc : l.kind = 1 ∧ l.nums = [0]
      · refine ⟨k, 5, ?_, by omega, fun h => (by cases h), fun _ => hlk, hnfk⟩
        · unfold m_simplify_once m_simplify_reversed m_simplify_transposed m_simplify_raveled m_simplify_rotated
          simp only [twice_no (Or.inl k3), plain_zero h4 f3 hk, reshaped_no f5, if_pos hc, bind_ok, if_true, if_false, Bool.false_eq_true]
      · refine ⟨t, 0, ?_, by omega, fun _ => rfl, fun h => absurd rfl h, fun h => h⟩
        · unfold m_simplify_once m_simplify_reversed m_simplify_transposed m_simplify_raveled m_simplify_rotated m_simplify_dropped
          simp only [twice_no (Or.inl k3), plain_zero h4 f3 hk, e0, reshaped_no f5, if_neg hc, bind_ok, if_true, if_false, Bool.false_eq_true]
    · have e3 : m_simplify_plain (t, 3, [0]) = some (t, false) := plain_no (Or.inr f3)
      by_cases hc : t.fn = 2 ∧ l.kind = 1 ∧ l.nums = []
      · refine ⟨k, 6, ?_, by omega, fun h => (by cases h), fun _ => hlk, hnfk⟩
        · unfold m_simplify_once m_simplify_reversed m_simplify_transposed m_simplify_raveled m_simplify_rotated m_simplify_dropped
          simp only [twice_no (Or.inl k3), plain_nil h4 hc.1 hk, e3, reshaped_no f5, if_pos hc.2, bind_ok, if_true, if_false, Bool.false_eq_true]
      · refine ⟨t, 0, ?_, by omega, fun _ => rfl, fun h => absurd rfl h, fun h => h⟩
        · have e2 : m_simplify_plain (t, 2, []) = some (t, false) := by
            by_cases f2 : t.fn = 2
            · rw [plain_nil h4 f2 hk, if_neg (fun h => hc ⟨f2, h⟩)]
            · exact plain_no (Or.inr f2)
          unfold m_simplify_once m_simplify_reversed m_simplify_transposed m_simplify_raveled m_simplify_rotated m_simplify_dropped
          simp only [twice_no (Or.inl k3), e2, e3, reshaped_no f5, bind_ok, if_true, if_false, Bool.false_eq_true]
theorem step_ok {t : T_api_Tree} (hg : good t) (hn : namesOk t) : ∃ u n, stepT t u n := by
  by_cases h : t.kind < 3
  · exact ⟨t, 0, step_low h⟩
  · by_cases h3 : t.kind = 3
    · exact step_monad hg hn h3
    · refine step_dyad hg hn ?_
      rcases (good_f.1 hg).1 with c | c | c | c <;> omega
end Go.Proofs.Tryd
namespace Go.Proofs.Tryd
open Go Go.Pm
set_option linter.unusedVariables false
set_option linter.unusedSimpArgs false
set_option maxRecDepth 2000
mutual
theorem copy_ok : ∀ (t : T_api_Tree), szT t ≤ 600 → numT t ≤ 100000 → m_tree_Copy t = some t
  | ⟨k, f, a, nm, nu, ks⟩, h, h2 => by
    rw [szT] at h
    rw [numT] at h2
    have hl := szTs_len ks
    have e := copy_loop ks [] k f a nm nu nu (by simp; omega) (by omega) (by omega)
    simp only [List.nil_append, List.length_nil, Int.natCast_zero] at e
    rw [m_tree_Copy]
    have ec : m_slices_Clone_int64_int64 nu = some nu := by rw [m_slices_Clone_int64_int64, room_app (by simp; omega) (by omega)]; rfl
    simp only [ec, e, bind_ok]
theorem copy_loop : ∀ (s p : List T_api_Tree) (k f a : Int) (nm : ByteArray) (nu v : List Int), (p ++ s).length ≤ 600 → szTs s ≤ 600 → numTs s ≤ 100000 →
    m_tree_Copy_L1 (⟨k, f, a, nm, nu, p ++ s⟩, v, p, (p.length : Int)) = some (p ++ s)
  | [], p, k, f, a, nm, nu, v, h1, h2, h3 => by
    rw [m_tree_Copy_L1]
    simp only [List.append_nil, Int.lt_irrefl, if_false]
  | x :: s, p, k, f, a, nm, nu, v, h1, h2, h3 => by
    rw [m_tree_Copy_L1]
    rw [szTs] at h2
    rw [numTs] at h3
    have e := copy_ok x (by omega) (by omega)
    have e' := copy_loop s (p ++ [x]) k f a nm nu v (by simpa using h1) (by omega) (by omega)
    rw [← mid_app] at e'
    have w : W ((p.length : Int) + 1) = ((p ++ [x]).length : Int) := mid_W (Sm_of h1)
    have ea : app 88 p [x] = some (p ++ [x]) := room_app (by simp at h1 ⊢; omega) (by omega)
    simp only [mid_lt, if_true, mid_idx, bind_ok, e, ea, w, e']
end
theorem same_L1 (t : T_api_Tree) (hs : t.nums.length ≤ 1000000) : ∀ m i : Nat, i + m = t.nums.length → m_ref08_Same_L1 (t, t, (i : Int)) = some (.inr ())
  | 0, i, h => by
    rw [m_ref08_Same_L1]
    have : ¬ ((i : Int) < (t.nums.length : Int)) := by omega
    simp only [this, if_false]
  | m + 1, i, h => by
    rw [m_ref08_Same_L1]
    have h1 : ((i : Int) < (t.nums.length : Int)) := by omega
    have e := same_L1 t hs m (i + 1) (by omega)
    have w : W ((i : Int) + 1) = ((i + 1 : Nat) : Int) := W_succ (by omega)
    have hi : idx t.nums (i : Int) = some t.nums[i] := idx_ok (by omega)
    simp only [h1, if_true, hi, bind_ok, ne_eq, not_true_eq_false, if_false, w, e]
mutual
theorem same_self : ∀ (t : T_api_Tree), szT t ≤ 600 → numT t ≤ 100000 → m_ref08_Same (t, t) = some true
  | ⟨k, f, a, nm, nu, ks⟩, h, h2 => by
    rw [szT] at h
    rw [numT] at h2
    have hl := szTs_len ks
    have e := same_loop ks [] k f a nm nu (by simp; omega) (by omega) (by omega)
    simp only [List.nil_append, List.length_nil, Int.natCast_zero] at e
    have e1 := same_L1 ⟨k, f, a, nm, nu, ks⟩ (by show nu.length ≤ _; omega) nu.length 0 (by show 0 + nu.length = nu.length; omega)
    simp only [Int.natCast_zero] at e1
    rw [m_ref08_Same]
    simp [e1, e]
theorem same_loop : ∀ (s p : List T_api_Tree) (k f a : Int) (nm : ByteArray) (nu : List Int), (p ++ s).length ≤ 600 → szTs s ≤ 600 → numTs s ≤ 100000 →
    m_ref08_Same_L2 (⟨k, f, a, nm, nu, p ++ s⟩, ⟨k, f, a, nm, nu, p ++ s⟩, (p.length : Int)) = some (.inr ())
  | [], p, k, f, a, nm, nu, h1, h2, h3 => by
    rw [m_ref08_Same_L2]
    simp only [end_lt, if_false]
  | x :: s, p, k, f, a, nm, nu, h1, h2, h3 => by
    rw [m_ref08_Same_L2]
    rw [szTs] at h2
    rw [numTs] at h3
    have e := same_self x (by omega) (by omega)
    have e' := same_loop s (p ++ [x]) k f a nm nu (by simpa using h1) (by omega) (by omega)
    rw [← mid_app] at e'
    have w : W ((p.length : Int) + 1) = ((p ++ [x]).length : Int) := mid_W (Sm_of h1)
    simp only [mid_lt, if_true, mid_idx, bind_ok, e, w, e', Bool.true_eq_false, if_false]
end
/-- what repeated steps come to -/
structure fin (u s : T_api_Tree) (c c' : Nat) : Prop where
  gd : good s
  nm : namesOk s
  nf : nf s
  sz : szT s + c' ≤ szT u + c
  num : numT s ≤ numT u
  dep : depT s ≤ depT u
  wt : wT s ≤ wT u
  still : m_simplify_once u = some (u, 0) → s = u ∧ c' = c
theorem rounds : ∀ (m : Nat) (u : T_api_Tree) (c : Nat), szT u ≤ m → good u → namesOk u → nfs u.kids → c + szT u ≤ 1000000 → ∃ s c', fin u s c c' ∧
    (∀ ks, m_simplify_simplified_L2 (ks, u.kind, u.fn, u.axis, u.name, u.nums, u.kids, (c : Int)) = some (s.kind, s.fn, s.axis, s.name, s.nums, s.kids, s.kind, s.fn, s.axis, s.name, s.nums, s.kids, (c' : Int)))
  | 0, u, c, h, _, _, _, _ => by have := szT_pos u; omega
  | m + 1, u, c, h, hg, hn, hk, hc => by
    obtain ⟨v, n, e1, n0, hz, hl, hf⟩ := step_ok hg hn
    by_cases hn0 : n = 0
    · subst hn0
      obtain rfl := hz rfl
      refine ⟨v, c, ⟨hg, hn, nf_f.2 ⟨e1, hk⟩, Nat.le_refl _, Nat.le_refl _, Nat.le_refl _, Nat.le_refl _, fun _ => ⟨rfl, rfl⟩⟩, fun ks => ?_⟩
      · rw [m_simplify_simplified_L2]
        simp only [etaT, e1, bind_ok, if_true]
    · have hl' := hl hn0
      have hlt := hl'.sz
      obtain ⟨s, c', hfin, g1⟩ := rounds m v (c + 1) (by omega) hl'.gd hl'.nm (hf hk) (by omega)
      have w : W ((c : Int) + 1) = ((c + 1 : Nat) : Int) := W_succ (by omega)
      refine ⟨s, c', ⟨hfin.gd, hfin.nm, hfin.nf, by have := hfin.sz; omega, Nat.le_trans hfin.num hl'.num, Nat.le_trans hfin.dep hl'.dep, Nat.le_trans hfin.wt hl'.wt, fun q => ?_⟩, fun ks => ?_⟩
      · rw [e1] at q
        cases q
        exact absurd rfl hn0
      · rw [m_simplify_simplified_L2]
        simp only [etaT, e1, bind_ok, hn0, if_false, w, g1]
/-- what simplifying comes to -/
structure simpR (t s : T_api_Tree) (c : Nat) : Prop where
  e1 : m_simplify_simplified t = some (s, (c : Int))
  gd : good s
  nm : namesOk s
  nrm : nf s
  sz : szT s + c ≤ szT t
  num : numT s ≤ numT t
  dep : depT s ≤ depT t
  wt : wT s ≤ wT t
  low : t.kind < 3 → s = t
  still : nf t → s = t ∧ c = 0
theorem simp_of {t : T_api_Tree} {ks : List T_api_Tree} {c : Nat} (hg : good ⟨t.kind, t.fn, t.axis, t.name, t.nums, ks⟩) (hn : namesOk ⟨t.kind, t.fn, t.axis, t.name, t.nums, ks⟩) (hk : nfs ks)
    (hsz : szTs ks + c ≤ szTs t.kids) (hnum : numTs ks ≤ numTs t.kids) (hdep : depTs ks ≤ depTs t.kids) (hwt : wTs ks ≤ wTs t.kids) (hs : szT t ≤ 600)
    (l1 : m_simplify_simplified_L1 (t, 0, [], 0) = some ((c : Int), ks))
    (hlow : t.kind < 3 → ks = t.kids) (hst : nfs t.kids → ks = t.kids ∧ c = 0) : ∃ s c, simpR t s c := by
  have a1 : szT ⟨t.kind, t.fn, t.axis, t.name, t.nums, ks⟩ = 1 + szTs ks := by rw [szT]
  have a2 : numT ⟨t.kind, t.fn, t.axis, t.name, t.nums, ks⟩ = t.nums.length + numTs ks := by rw [numT]
  have a3 : depT ⟨t.kind, t.fn, t.axis, t.name, t.nums, ks⟩ = depTs ks + 1 := by rw [depT]
  have a4 : wT ⟨t.kind, t.fn, t.axis, t.name, t.nums, ks⟩ = 40 + t.name.size + 40 * t.nums.length + wTs ks := by rw [wT]
  have b1 := szT_f t; have b2 := numT_f t; have b3 := depT_f t; have b4 := wT_f t
  obtain ⟨s, c', hf, g1⟩ := rounds (szT ⟨t.kind, t.fn, t.axis, t.name, t.nums, ks⟩) _ c (Nat.le_refl _) hg hn hk (by omega)
  have := hf.sz
  have := hf.num
  have := hf.dep
  have := hf.wt
  refine ⟨s, c', ?_, hf.gd, hf.nm, hf.nf, by omega, by omega, by omega, by omega, fun h => ?_, fun h => ?_⟩
  · rw [m_simplify_simplified]
    simp only [l1, bind_ok, g1, etaT]
  · have hk' := hlow h
    subst hk'
    rw [etaT] at hf
    exact (hf.still (step_low h).1).1
  · obtain ⟨h1, h2⟩ := nf_f.1 h
    obtain ⟨rfl, rfl⟩ := hst h2
    rw [etaT] at hf
    exact hf.still h1
theorem W_add {a b : Nat} (h : a + b ≤ 1000000) : W ((a : Int) + (b : Int)) = ((a + b : Nat) : Int) := by rw [W_ok (by omega) (by omega)]; omega
theorem simp_ok : ∀ (m : Nat) (t : T_api_Tree), szT t ≤ m → m ≤ 600 → good t → namesOk t → ∃ s c, simpR t s c
  | 0, t, h, _, _, _ => by have := szT_pos t; omega
  | m + 1, t, h, hm, hg, hn => by
    obtain ⟨hF, hG⟩ := good_f.1 hg
    obtain ⟨hN, hN2⟩ := namesOk_f.1 hn
    have hz := szT_f t
    have b2 := numT_f t; have b3 := depT_f t; have b4 := wT_f t
    match ek : t.kids with
    | [] =>
      have et : (⟨t.kind, t.fn, t.axis, t.name, t.nums, []⟩ : T_api_Tree) = t := by rw [← ek]; exact etaT t
      refine simp_of (ks := []) (c := 0) (by rw [et]; exact hg) (by rw [et]; exact hn) (by rw [nfs]; trivial) (by rw [ek]; omega) (by rw [ek]; omega) (by rw [ek]; omega) (by rw [ek]; omega) (by omega) ?_ (fun _ => ek.symm) (fun _ => ⟨ek.symm, rfl⟩)
      · rw [m_simplify_simplified_L1]
        simp [ek]
    | [k] =>
      rw [ek] at hG hN2 hz b2 b3 b4
      obtain ⟨s1, s2, s3, s4⟩ := sz1 k
      obtain ⟨s, c, r⟩ := simp_ok m k (by omega) (by omega) (goods1.1 hG) (nms1.1 hN2)
      obtain ⟨q1, q2, q3, q4⟩ := sz1 s
      have := r.sz; have := r.num; have := r.dep; have := r.wt
      have w1 : W (0 + (c : Int)) = (c : Int) := by rw [W_ok (by omega) (by omega)]; omega
      have w2 : W (0 + 1) = 1 := by decide
      have ea : app 88 ([] : List T_api_Tree) [s] = some [s] := room_app (by simp) (by omega)
      refine simp_of (ks := [s]) (c := c) ?_ ?_ (nfs1.2 r.nrm) (by rw [ek]; omega) (by rw [ek]; omega) (by rw [ek]; omega) (by rw [ek]; omega) (by omega) ?_ (fun h => ?_) (fun h => ?_)
      · rw [good]
        refine ⟨?_, goods1.2 r.gd⟩
        unfold formF at hF ⊢
        rw [ek] at hF
        rcases hF with f | f | f | f
        · exact absurd f.2.2.2.2 (by simp)
        · exact absurd f.2.2.2.2.2 (by simp)
        · exact Or.inr (Or.inr (Or.inl f))
        · exact absurd f.2.2.2.1 (by simp)
      · rw [namesOk]
        exact ⟨hN, nms1.2 r.nm⟩
      · rw [m_simplify_simplified_L1]
        simp only [ek, show (0 : Int) < (([k] : List T_api_Tree).length : Int) by simp, if_true, idx0 rfl, bind_ok, r.e1, ea, w1, w2]
        rw [m_simplify_simplified_L1]
        simp [ek]
      · rcases hF with f | f | f | f
        · rw [ek] at f; exact absurd f.2.2.2.2 (by simp)
        · rw [ek] at f; exact absurd f.2.2.2.2.2 (by simp)
        · omega
        · omega
      · rw [ek] at h ⊢
        obtain ⟨rfl, rfl⟩ := r.still (nfs1.1 h)
        exact ⟨rfl, rfl⟩
    | [l, k] =>
      rw [ek] at hG hN2 hz b2 b3 b4
      obtain ⟨s1, s2, s3, s4⟩ := sz2 l k
      have p1 := szT_pos l; have p2 := szT_pos k
      obtain ⟨sl, cl, rl⟩ := simp_ok m l (by omega) (by omega) (goods2.1 hG).1 (nms2.1 hN2).1
      obtain ⟨s, c, r⟩ := simp_ok m k (by omega) (by omega) (goods2.1 hG).2 (nms2.1 hN2).2
      obtain ⟨q1, q2, q3, q4⟩ := sz2 sl s
      have := r.sz; have := r.num; have := r.dep; have := r.wt
      have := rl.sz; have := rl.num; have := rl.dep; have := rl.wt
      have w1 : W (0 + (cl : Int)) = (cl : Int) := by rw [W_ok (by omega) (by omega)]; omega
      have w2 : W (0 + 1) = 1 := by decide
      have w3 : W (1 + 1) = 2 := by decide
      have w4 : W ((cl : Int) + (c : Int)) = ((cl + c : Nat) : Int) := W_add (by omega)
      have ea : app 88 ([] : List T_api_Tree) [sl] = some [sl] := room_app (by simp) (by omega)
      have eb : app 88 [sl] [s] = some [sl, s] := room_app (by simp) (by omega)
      refine simp_of (ks := [sl, s]) (c := cl + c) ?_ ?_ (nfs2.2 ⟨rl.nrm, r.nrm⟩) (by rw [ek]; omega) (by rw [ek]; omega) (by rw [ek]; omega) (by rw [ek]; omega) (by omega) ?_ (fun h => ?_) (fun h => ?_)
      · rw [good]
        refine ⟨?_, goods2.2 ⟨rl.gd, r.gd⟩⟩
        unfold formF at hF ⊢
        rw [ek] at hF
        rcases hF with f | f | f | f
        · exact absurd f.2.2.2.2 (by simp)
        · exact absurd f.2.2.2.2.2 (by simp)
        · exact absurd f.2.2.2.1 (by simp)
        · refine Or.inr (Or.inr (Or.inr ⟨f.1, f.2.1, f.2.2.1, rfl, f.2.2.2.2.1, f.2.2.2.2.2.1, f.2.2.2.2.2.2.1, ?_⟩))
          rcases f.2.2.2.2.2.2.2 with g | g | g
          · exact Or.inl g
          · have g' : l.kind = 1 := g
            have := rl.low (by omega)
            subst this
            exact Or.inr (Or.inl g)
          · have g' : l.kind = 2 := g
            have := rl.low (by omega)
            subst this
            exact Or.inr (Or.inr g)
      · rw [namesOk]
        exact ⟨hN, nms2.2 ⟨rl.nm, r.nm⟩⟩
      · rw [m_simplify_simplified_L1]
        simp only [ek, show (0 : Int) < (([l, k] : List T_api_Tree).length : Int) by simp, if_true, idx20 rfl, bind_ok, rl.e1, ea, w1, w2]
        rw [m_simplify_simplified_L1]
        simp only [ek, show (1 : Int) < (([l, k] : List T_api_Tree).length : Int) by simp, if_true, idx21 rfl, bind_ok, r.e1, eb, w3, w4]
        rw [m_simplify_simplified_L1]
        simp [ek]
      · rcases hF with f | f | f | f
        · rw [ek] at f; exact absurd f.2.2.2.2 (by simp)
        · rw [ek] at f; exact absurd f.2.2.2.2.2 (by simp)
        · omega
        · omega
      · rw [ek] at h ⊢
        obtain ⟨rfl, rfl⟩ := r.still (nfs2.1 h).2
        obtain ⟨rfl, rfl⟩ := rl.still (nfs2.1 h).1
        exact ⟨rfl, rfl⟩
    | x :: y :: z :: r =>
      rcases hF with f | f | f | f
      · rw [ek] at f; exact absurd f.2.2.2.2 (by simp)
      · rw [ek] at f; exact absurd f.2.2.2.2.2 (by simp)
      · rw [ek] at f; exact absurd f.2.2.2.1 (by simp)
      · rw [ek] at f; exact absurd f.2.2.2.1 (by simp)
end Go.Proofs.Tryd
namespace Go.Proofs.Tryd
open Go Go.Pm
set_option linter.unusedVariables false
set_option linter.unusedSimpArgs false
set_option maxRecDepth 2000
abbrev Tk := T_ref07_Token
def glyphO (o : Option Tk) (g : ByteArray) : Bool := match o with
  | some t => decide (t.kind = 3) && decide (t.text = g)
  | none => false
theorem idx_none {α : Type} {l : List α} {i : Int} (h : i < 0 ∨ (l.length : Int) ≤ i) : idx l i = none := by
  unfold idx
  split
  · rw [List.getElem?_eq_none]; omega
  · rfl
theorem idx_some {α : Type} {l : List α} {i : Int} (h0 : 0 ≤ i) (h : i < (l.length : Int)) : ∃ x, idx l i = some x ∧ ∃ n : Nat, i = n ∧ l[n]? = some x := by
  unfold idx
  rw [if_pos h0]
  have : i.toNat < l.length := by omega
  exact ⟨l[i.toNat], List.getElem?_eq_getElem this, i.toNat, by omega, List.getElem?_eq_getElem this⟩
theorem glyph_eq (l : List Tk) (i : Int) (g : ByteArray) : m_ref09_glyph (l, i, g) = some (glyphO (idx l i) g) := by
  unfold m_ref09_glyph
  simp only []
  by_cases h0 : i ≥ 0
  · by_cases h1 : i < (l.length : Int)
    · obtain ⟨x, e, _⟩ := idx_some h0 h1
      simp only [h0, h1, if_true, decide_true, bind_ok, e, glyphO]
      by_cases hk : x.kind = 3
      · simp [hk]
      · simp [hk]
    · have e : idx l i = none := idx_none (Or.inr (by omega))
      simp [h0, h1, bind_ok, e, glyphO]
  · have e : idx l i = none := idx_none (Or.inl (by omega))
    simp [h0, bind_ok, e, glyphO]
theorem fn_step (t : Tk) (i : Nat) (g : ByteArray) (h : idx ([(⟨#[226, 134, 145]⟩ : ByteArray), (⟨#[226, 134, 147]⟩ : ByteArray), (⟨#[226, 140, 189]⟩ : ByteArray), (⟨#[226, 141, 137]⟩ : ByteArray), (⟨#[226, 141, 180]⟩ : ByteArray), (⟨#[44]⟩ : ByteArray)] : List ByteArray) (i : Int) = some g) (hi : i < 6) :
    m_ref09_fn_L1 (t, (i : Int)) = if t.kind = 3 ∧ t.text = g then some (.inl ((i + 1 : Nat) : Int)) else m_ref09_fn_L1 (t, ((i + 1 : Nat) : Int)) := by
  rw [m_ref09_fn_L1]
  have h1 : (i : Int) < (([(⟨#[226, 134, 145]⟩ : ByteArray), (⟨#[226, 134, 147]⟩ : ByteArray), (⟨#[226, 140, 189]⟩ : ByteArray), (⟨#[226, 141, 137]⟩ : ByteArray), (⟨#[226, 141, 180]⟩ : ByteArray), (⟨#[44]⟩ : ByteArray)] : List ByteArray).length : Int) := by
    show (i : Int) < 6; omega
  have w : W ((i : Int) + 1) = ((i + 1 : Nat) : Int) := W_succ (by omega)
  simp only [h1, if_true, h, bind_ok, w]
  by_cases hk : t.kind = 3
  · by_cases ht : t.text = g
    · simp [hk, ht]
    · simp [hk, ht]
  · simp [hk]
theorem fn_end (t : Tk) : m_ref09_fn_L1 (t, ((6 : Nat) : Int)) = some (.inr ()) := by
  rw [m_ref09_fn_L1]
  exact if_neg (by decide)
/-- the function of a glyph -/
def fnV (t : Tk) : Int := if t.kind = 3 ∧ t.text = B [226, 134, 145] then 1 else if t.kind = 3 ∧ t.text = B [226, 134, 147] then 2 else if t.kind = 3 ∧ t.text = B [226, 140, 189] then 3 else if t.kind = 3 ∧ t.text = B [226, 141, 137] then 4 else if t.kind = 3 ∧ t.text = B [226, 141, 180] then 5 else if t.kind = 3 ∧ t.text = B [44] then 6 else 0
theorem fn_eq (t : Tk) : m_ref09_fn t = some (fnV t) := by
  unfold m_ref09_fn fnV
  dsimp only
  have e0 := fn_step t 0 (B [226, 134, 145]) rfl (by omega)
  simp only [Int.natCast_zero, Nat.zero_add] at e0
  rw [e0, fn_step t 1 (B [226, 134, 147]) rfl (by omega), fn_step t 2 (B [226, 140, 189]) rfl (by omega), fn_step t 3 (B [226, 141, 137]) rfl (by omega), fn_step t 4 (B [226, 141, 180]) rfl (by omega), fn_step t 5 (B [44]) rfl (by omega), fn_end]
  split
  · rfl
  · split
    · rfl
    · split
      · rfl
      · split
        · rfl
        · split
          · rfl
          · split
            · rfl
            · rfl
theorem fnV_in (t : Tk) : 0 ≤ fnV t ∧ fnV t ≤ 6 := by
  unfold fnV
  repeat' split
  all_goals omega
/-- how much lies in tokens -/
def wsum : List Tk → Nat
  | [] => 0
  | t :: ts => 80 + t.text.size + wsum ts
theorem wsum_app : ∀ a b : List Tk, wsum (a ++ b) = wsum a + wsum b
  | [], b => by simp [wsum]
  | t :: a, b => by rw [List.cons_append, wsum, wsum, wsum_app a b]; omega
theorem wsum_eq : ∀ l : List Tk, wsum l = 80 * l.length + tsum l
  | [] => rfl
  | t :: a => by rw [wsum, tsum, wsum_eq a, List.length_cons]; omega
theorem wsum_split (l : List Tk) {a b : Nat} (h : a ≤ b) : wsum (l.take b) = wsum (l.take a) + wsum ((l.take b).drop a) := by
  rw [← wsum_app]
  congr 1
  have := List.take_append_drop a (l.take b)
  rw [List.take_take, Nat.min_eq_left h] at this
  exact this.symm
theorem wsum_len (l : List Tk) : 80 * l.length ≤ wsum l := by rw [wsum_eq]; omega
theorem wsum_mono (l : List Tk) {a b : Nat} (h : a ≤ b) (hb : b ≤ l.length) : wsum (l.take a) + 80 * (b - a) ≤ wsum (l.take b) := by
  rw [wsum_split l h]
  have := wsum_len ((l.take b).drop a)
  rw [List.length_drop, List.length_take, Nat.min_eq_left hb] at this
  omega
theorem wsum_step (l : List Tk) {k : Nat} {x : Tk} (h : l[k]? = some x) : wsum (l.take (k + 1)) = wsum (l.take k) + (80 + x.text.size) := by
  rw [List.take_add_one, h, wsum_app]
  simp [wsum]
/-- tokens that are right -/
def tksG (l : List Tk) : Prop := l.length ≤ 65536 ∧ ∀ t ∈ l, tokG t ∧ t.text.size ≤ 65536
/-- a tree that has been parsed from the tokens from n' to n -/
structure prs (l : List Tk) (t : T_api_Tree) (n' n : Nat) : Prop where
  gd : good t
  nm : namesOk t
  sz : szT t + n' ≤ n
  num : numT t + n' ≤ n
  wt : wT t + wsum (l.take n') ≤ wsum (l.take n)
theorem good_low {t : T_api_Tree} (h : formF t) (hk : t.kids = []) : good t := by
  rw [good_f, hk, goods]; exact ⟨h, trivial⟩
theorem nums_tot (l : List Tk) (hl : tksG l) : ∀ (n : Nat) (acc : List Int), n ≤ l.length → acc.length + n ≤ 100000 → nuOk acc → ∃ acc' n', m_ref09_operand_L1 (l, acc, (n : Int) - 1) = some (acc', ((n' : Nat) : Int) - 1) ∧ n' ≤ n ∧ acc'.length + n' = acc.length + n ∧ nuOk acc' ∧ (∀ x, l[n - 1]? = some x → x.kind = 2 → 1 ≤ n → n' < n)
  | 0, acc, h, ha, hn => by
    refine ⟨acc, 0, ?_, Nat.le_refl _, rfl, hn, fun x _ _ h => by omega⟩
    rw [m_ref09_operand_L1]
    simp [bind_ok]
  | n + 1, acc, h, ha, hn => by
    rw [m_ref09_operand_L1]
    have e0 : ((n + 1 : Nat) : Int) - 1 = (n : Int) := by omega
    have h0 : (n : Int) ≥ 0 := by omega
    have hi : idx l (n : Int) = some l[n] := idx_ok (by omega)
    have hg : l[n]? = some l[n] := List.getElem?_eq_getElem (by omega)
    simp only [e0, h0, if_true, hi, bind_ok]
    by_cases hk : l[n].kind = 2
    · have hr : i64 l[n].n := by
        rcases (hl.2 l[n] (List.getElem_mem _)).1 with q | q | q
        · omega
        · exact q.2
        · omega
      have w : W ((n : Int) - 1) = (n : Int) - 1 := W_ok (by omega) (by omega)
      have ea : app 8 ([l[n].n] : List Int) acc = some (l[n].n :: acc) := room_app (by simp; omega) (by omega)
      obtain ⟨acc', n', e, h1, h2, h3, _⟩ := nums_tot l hl n (l[n].n :: acc) (by omega) (by simp; omega) (fun x hx => by
        rcases List.mem_cons.1 hx with rfl | hx
        · exact hr
        · exact hn x hx)
      simp only [hk, beq_self_eq_true, if_true, ea, bind_ok, w]
      refine ⟨acc', n', e, by omega, by simp at h2; omega, h3, fun _ _ _ _ => by omega⟩
    · have hkb : (l[n].kind == 2) = false := by simpa using hk
      simp only [hkb, Bool.false_eq_true, if_false]
      refine ⟨acc, n + 1, by rw [e0], Nat.le_refl _, rfl, hn, fun x hx hx2 _ => ?_⟩
      simp only [Nat.add_sub_cancel, hg] at hx
      cases hx
      exact absurd hx2 hk
theorem ite_ex {c : Prop} [Decidable c] {α : Type} {a b : α} {P : α → Prop} (ha : c → P a) (hb : ¬ c → P b) : P (if c then a else b) := by
  split
  · exact ha ‹_›
  · exact hb ‹_›
theorem open_tot (l : List Tk) (hl : l.length ≤ 65536) : ∀ (n : Nat) (c : Int), n ≤ l.length → ∃ r, m_ref09_open_L1 (l, c, (n : Int) - 1) = some r ∧ ∀ j, r = .inl j → ∃ k : Nat, j = (k : Int) ∧ k < n
  | 0, c, h => by
    rw [m_ref09_open_L1]
    have : ¬ (((0 : Nat) : Int) - 1 ≥ 0) := by omega
    simp only [this, if_false]
    exact ⟨_, rfl, fun j e => by cases e⟩
  | n + 1, c, h => by
    rw [m_ref09_open_L1]
    have e0 : ((n + 1 : Nat) : Int) - 1 = (n : Int) := by omega
    have h0 : (n : Int) ≥ 0 := by omega
    have w : W ((n : Int) - 1) = (n : Int) - 1 := W_ok (by omega) (by omega)
    simp only [e0, h0, if_true, glyph_eq, bind_ok, ite_b, w]
    refine ite_ex (P := fun (o : Option (Int ⊕ Unit)) => ∃ r, o = some r ∧ ∀ j, r = Sum.inl j → ∃ k : Nat, j = (k : Int) ∧ k < n + 1) (fun _ => ⟨_, rfl, fun j e => ⟨n, (Sum.inl.inj e).symm, by omega⟩⟩) (fun _ => ?_)
    obtain ⟨r, e, hr⟩ := open_tot l hl n _ (by omega)
    refine ⟨r, e, fun j q => ?_⟩
    obtain ⟨k, h1, h2⟩ := hr j q
    exact ⟨k, h1, by omega⟩
theorem glyph_ne {o : Option Tk} {a b : ByteArray} (h : glyphO o a = true) (hab : a ≠ b) : glyphO o b = false := by
  unfold glyphO at *
  cases o with
  | none => rfl
  | some t =>
    simp only [Bool.and_eq_true, decide_eq_true_eq] at h
    simp only [Bool.and_eq_false_iff, decide_eq_false_iff_not]
    exact Or.inr (fun q => hab (h.2.symm.trans q))
theorem ne4041 : (⟨#[41]⟩ : ByteArray) ≠ ⟨#[40]⟩ := by
  have h : B [41] ≠ B [40] := fun q => by rw [B_inj] at q; simp at q
  exact h
theorem open_ok (l : List Tk) (hl : l.length ≤ 65536) (k : Nat) (hk : k < l.length) (hg : glyphO (idx l (k : Int)) (⟨#[41]⟩ : ByteArray) = true) : ∃ j, m_ref09_open (l, (k : Int)) = some j ∧ (j < 0 ∨ ∃ q : Nat, j = (q : Int) ∧ q < k) := by
  unfold m_ref09_open
  dsimp only
  rw [m_ref09_open_L1]
  have h0 : (k : Int) ≥ 0 := by omega
  have w : W ((k : Int) - 1) = (k : Int) - 1 := W_ok (by omega) (by omega)
  have w1 : W (0 + 1) = 1 := by decide
  have h1 : ¬ ((1 : Int) = 0) := by decide
  simp only [h0, if_true, glyph_eq, hg, glyph_ne hg ne4041, bind_ok, w, w1, Bool.false_eq_true, if_false, h1]
  obtain ⟨r, e, hr⟩ := open_tot l hl k 1 (by omega)
  simp only [e, bind_ok]
  cases r with
  | inl j =>
    obtain ⟨q, h1, h2⟩ := hr j rfl
    exact ⟨j, rfl, Or.inr ⟨q, h1, h2⟩⟩
  | inr u => exact ⟨-1, rfl, Or.inl (by omega)⟩
end Go.Proofs.Tryd
namespace Go.Proofs.Tryd
open Go Go.Pm
set_option linter.unusedVariables false
set_option linter.unusedSimpArgs false
set_option maxRecDepth 2000
def gB (f : Int) : List UInt8 := if f = 1 then [226, 134, 145] else if f = 2 then [226, 134, 147] else if f = 3 then [226, 140, 189] else if f = 4 then [226, 141, 137] else if f = 5 then [226, 141, 180] else [44]
def axB (ax : Int) : List UInt8 := if ax ≥ 0 then 91 :: (digsF 19 ax.natAbs ++ [93]) else []
def fnB (f ax : Int) : List UInt8 := gB f ++ axB ax
def gl (b : List UInt8) : Tk := ⟨3, B b, 0⟩
def axT (ax : Int) : List Tk := if ax ≥ 0 then [gl [91], ⟨2, B (digsF 19 ax.natAbs), ax⟩, gl [93]] else []
def fnT (f ax : Int) : List Tk := gl (gB f) :: axT ax
def restB : List Int → List UInt8
  | [] => []
  | n :: ns => 32 :: (dec n ++ restB ns)
def numsT (l : List Int) : List Tk := l.map fun n => ⟨2, B (dec n), n⟩
/-- a tree, its text, its tokens -/
inductive Shown : T_api_Tree → List UInt8 → List Tk → Prop
  | name (c : UInt8) (w : List UInt8) (hL : lt (c.toNat : Int) = true) (hw : ∀ d ∈ w, wordc d = true) : Shown ⟨2, 0, -1, B (c :: w), [], []⟩ (c :: w) [⟨1, B (c :: w), 0⟩]
  | nil : Shown ⟨1, 0, -1, ByteArray.empty, [], []⟩ [226, 141, 172] [gl [226, 141, 172]]
  | nums (n : Int) (ns : List Int) (h : nuOk (n :: ns)) : Shown ⟨1, 0, -1, ByteArray.empty, n :: ns, []⟩ (dec n ++ restB ns) (numsT (n :: ns))
  | mon (f ax : Int) (x : T_api_Tree) (b : List UInt8) (ts : List Tk) (hf : (f = 3 ∧ (ax = -1 ∨ axF ax)) ∨ ((f = 4 ∨ f = 6) ∧ ax = -1)) (h : Shown x b ts) : Shown ⟨3, f, ax, ByteArray.empty, [], [x]⟩ (fnB f ax ++ b) (fnT f ax ++ ts)
  | dyA (f ax : Int) (x y : T_api_Tree) (bx by_ : List UInt8) (tx ty : List Tk) (h1 : 1 ≤ f) (h6 : f ≤ 6) (hax : ax = -1 ∨ (axF ax ∧ (f = 3 ∨ f = 6))) (hk : x.kind ≤ 2) (hx : Shown x bx tx) (hy : Shown y by_ ty) :
      Shown ⟨4, f, ax, ByteArray.empty, [], [x, y]⟩ (bx ++ (fnB f ax ++ by_)) (tx ++ (fnT f ax ++ ty))
  | dyP (ax : Int) (x y : T_api_Tree) (bx by_ : List UInt8) (tx ty : List Tk) (hax : ax = -1 ∨ axF ax) (hk : 2 < x.kind) (hx : Shown x bx tx) (hy : Shown y by_ ty) :
      Shown ⟨4, 6, ax, ByteArray.empty, [], [x, y]⟩ ([40] ++ (bx ++ ([41] ++ (fnB 6 ax ++ by_)))) ([gl [40]] ++ (tx ++ ([gl [41]] ++ (fnT 6 ax ++ ty))))
theorem gB_len (f : Int) : (gB f).length ≤ 3 := by
  unfold gB
  repeat' split
  all_goals decide
theorem ax_len {ax : Int} (h : ax = -1 ∨ axF ax) : (axB ax).length ≤ 21 := by
  unfold axB
  have := digs_len 19 ax.natAbs
  split <;> simp <;> omega
theorem fnB_len {f ax : Int} (h : ax = -1 ∨ axF ax) : (fnB f ax).length ≤ 24 := by
  have := gB_len f; have := ax_len h
  unfold fnB; rw [List.length_append]; omega
theorem fnT_len (f ax : Int) : (fnT f ax).length ≤ 4 := by
  unfold fnT axT
  split <;> simp
theorem restB_len : ∀ l : List Int, (restB l).length ≤ 22 * l.length
  | [] => by simp [restB]
  | n :: ns => by
    have := dec_len n; have := restB_len ns
    rw [restB]; simp; omega
theorem Name_inv {l : List UInt8} (hs : l.length ≤ 1000000) (h : m_ref07_Name (B l) = some true) : ∃ c w, l = c :: w ∧ lt (c.toNat : Int) = true ∧ ∀ d ∈ w, wordc d = true := by
  unfold m_ref07_Name at h
  simp only [B_size] at h
  cases l with
  | nil => simp [bind_ok] at h
  | cons c w =>
    have h0 : (((c :: w).length : Nat) : Int) > 0 := by rw [List.length_cons]; omega
    have e1 := end_ok (p := []) (s := c :: w) (l := c :: w) (i := 0) rfl hs rfl
    simp only [h0, if_true, sidx_0, letter_eq, bind_ok, e1] at h
    by_cases hL : lt (c.toNat : Int) = true
    · refine ⟨c, w, rfl, hL, ?_⟩
      simp only [hL, if_true, Option.some.injEq, beq_iff_eq, List.length_nil, Nat.zero_add] at h
      have hw : (c :: w).takeWhile wordc = c :: w := by
        have := take_self (c :: w)
        have h2 := congrArg List.length this
        rw [List.length_append] at h2
        have h3 : (c :: w).dropWhile wordc = [] := List.eq_nil_of_length_eq_zero (by omega)
        rw [h3, List.append_nil] at this
        exact this
      intro d hd
      exact take_all (c :: w) d (by rw [hw]; simp [hd])
    · simp only [hL] at h
      exact absurd h (by simp)
theorem shown_of : ∀ (N : Nat) (t : T_api_Tree), szT t ≤ N → good t → namesOk t → wT t ≤ 65536 → ∃ b ts, Shown t b ts ∧ b.length ≤ wT t ∧ ts.length ≤ wT t := by
  intro N
  induction N with
  | zero => intro t h; have := szT_pos t; omega
  | succ N ih =>
    intro t hN hg hn hw
    have hwf := wT_f t
    have hsz := szT_f t
    rcases (good_f.1 hg).1 with c | c | c | c
    · obtain ⟨c1, c2, c3, c4, c5⟩ := c
      obtain ⟨k, f, a, nm, nu, ks⟩ := t
      simp only at c1 c2 c3 c4 c5 hwf
      have : ks = [] := List.eq_nil_of_length_eq_zero c5
      subst c1 c2 c3 c4 this
      cases nu with
      | nil => exact ⟨_, _, Shown.nil, by rw [hwf]; simp; omega, by rw [hwf]; simp; omega⟩
      | cons n ns =>
        have hnu : nuOk (n :: ns) := by rw [namesOk] at hn; exact hn.1.2
        have d1 := dec_len n; have d2 := restB_len ns
        exact ⟨_, _, Shown.nums n ns hnu, by rw [hwf]; simp; omega, by rw [hwf]; simp [numsT]; omega⟩
    · obtain ⟨c1, c2, c3, c4, c5, c6⟩ := c
      obtain ⟨k, f, a, nm, nu, ks⟩ := t
      simp only at c1 c2 c3 c4 c5 c6 hwf
      have e1 : ks = [] := List.eq_nil_of_length_eq_zero c6
      have e2 : nu = [] := List.eq_nil_of_length_eq_zero c5
      have hns : nm.data.toList.length = nm.size := by
        have := B_size nm.data.toList
        rw [B_eta] at this
        exact this.symm
      rw [← B_eta nm] at c4
      obtain ⟨c, w, hl, h1, h2⟩ := Name_inv (by rw [hns]; omega) c4
      have e3 : nm = B (c :: w) := by rw [← B_eta nm, hl]
      rw [hl, List.length_cons] at hns
      rw [← hns] at hwf
      subst c1 c2 c3 e1 e2 e3
      exact ⟨_, _, Shown.name c w h1 h2, by rw [hwf, List.length_cons]; omega, by rw [hwf, List.length_singleton]; omega⟩
    · obtain ⟨k, hk, e1, e2, hf⟩ := form_monad hg c.1
      have hl := less_kid1 hk hg hn
      rw [hk] at hwf hsz
      rw [(sz1 k).1] at hsz
      rw [(sz1 k).2.2.2] at hwf
      obtain ⟨b, ts, hs, h1, h2⟩ := ih k (by omega) hl.gd hl.nm (by omega)
      obtain ⟨k0, f, a, nm, nu, ks⟩ := t
      simp only at hk e1 e2 hf hwf
      have c1 : k0 = 3 := c.1
      subst c1 hk e1 e2
      have hax : a = -1 ∨ axF a := by
        rcases hf with h | h
        · exact h.2
        · exact Or.inl h.2
      have := fnB_len (f := f) hax; have := fnT_len f a
      exact ⟨_, _, Shown.mon f a k b ts hf hs, by rw [hwf, List.length_append]; omega, by rw [hwf, List.length_append]; omega⟩
    · obtain ⟨l, k, hk, e1, e2, h1f, h6f, hax, hkk⟩ := form_dyad hg c.1
      have hg2 := (good_f.1 hg).2; rw [hk] at hg2
      have hn2 := (namesOk_f.1 hn).2; rw [hk] at hn2
      rw [hk] at hwf hsz
      rw [(sz2 l k).1] at hsz
      rw [(sz2 l k).2.2.2] at hwf
      have := szT_pos l; have := szT_pos k
      obtain ⟨bl, tl, hsl, hl1, hl2⟩ := ih l (by omega) (goods2.1 hg2).1 (nms2.1 hn2).1 (by omega)
      obtain ⟨bk, tk, hsk, hk1, hk2⟩ := ih k (by omega) (goods2.1 hg2).2 (nms2.1 hn2).2 (by omega)
      obtain ⟨k0, f, a, nm, nu, ks⟩ := t
      simp only at hk e1 e2 h1f h6f hax hkk hwf
      have c1 : k0 = 4 := c.1
      subst c1 hk e1 e2
      have hax' : a = -1 ∨ axF a := by
        rcases hax with h | h
        · exact Or.inl h
        · exact Or.inr h.1
      have := fnB_len (f := f) hax'; have := fnT_len f a
      by_cases hq : l.kind ≤ 2
      · exact ⟨_, _, Shown.dyA f a l k bl bk tl tk h1f h6f hax hq hsl hsk, by rw [hwf, List.length_append, List.length_append]; omega, by rw [hwf, List.length_append, List.length_append]; omega⟩
      · have hf6 : f = 6 := by omega
        subst hf6
        exact ⟨_, _, Shown.dyP a l k bl bk tl tk hax' (by omega) hsl hsk, by rw [hwf]; simp only [List.length_append, List.length_cons, List.length_nil]; omega, by rw [hwf]; simp only [List.length_append, List.length_cons, List.length_nil]; omega⟩
/-! printing -/
theorem bind_eq {α β : Type} {o : Option α} {a : α} (h : o = some a) (f : α → Option β) : (o >>= f) = f a := by rw [h]; rfl
theorem pfn_ok {t : T_api_Tree} (h1 : 1 ≤ t.fn) (h6 : t.fn ≤ 6) (hax : t.axis = -1 ∨ axF t.axis) : m_ref10_function t = some (B (fnB t.fn t.axis)) := by
  unfold m_ref10_function
  have hi : idx ([(⟨#[226, 134, 145]⟩ : ByteArray), (⟨#[226, 134, 147]⟩ : ByteArray), (⟨#[226, 140, 189]⟩ : ByteArray), (⟨#[226, 141, 137]⟩ : ByteArray), (⟨#[226, 141, 180]⟩ : ByteArray), (⟨#[44]⟩ : ByteArray)] : List ByteArray) (W (t.fn - 1)) = some (B (gB t.fn)) := by
    have : t.fn = 1 ∨ t.fn = 2 ∨ t.fn = 3 ∨ t.fn = 4 ∨ t.fn = 5 ∨ t.fn = 6 := by omega
    rcases this with h | h | h | h | h | h <;> rw [h] <;> rfl
  have hg := gB_len t.fn
  have hd := digs_len 19 t.axis.natAbs
  dsimp only
  rw [bind_eq hi]
  by_cases ha : t.axis ≥ 0
  · have hx : axF t.axis := by rcases hax with h | h; omega; exact h
    have hc : t.axis = ((t.axis.natAbs : Nat) : Int) := by omega
    have hlt : t.axis.natAbs < 10 ^ 19 := by have := hx.2; omega
    have e : m_ref02_Decimal t.axis = some (B (digsF 19 t.axis.natAbs)) := by
      conv => lhs; rw [hc]
      exact Dec_nat 19 t.axis.natAbs (by omega) (by omega) hlt (by have := hx.2; omega)
    have h1 : (⟨#[91]⟩ : ByteArray) = B [91] := rfl
    have h2 : (⟨#[93]⟩ : ByteArray) = B [93] := rfl
    have s1 : sadd (B (gB t.fn)) (B [91]) = some (B (gB t.fn ++ [91])) := sadd_B (by simp; omega)
    have s2 : sadd (B (gB t.fn ++ [91])) (B (digsF 19 t.axis.natAbs)) = some (B (gB t.fn ++ [91] ++ digsF 19 t.axis.natAbs)) := sadd_B (by simp; omega)
    have s3 : sadd (B (gB t.fn ++ [91] ++ digsF 19 t.axis.natAbs)) (B [93]) = some (B (gB t.fn ++ [91] ++ digsF 19 t.axis.natAbs ++ [93])) := sadd_B (by simp; omega)
    rw [if_pos ha, h1, bind_eq s1, bind_eq e, bind_eq s2, h2, bind_eq s3, fnB, axB, if_pos ha]
    simp
  · rw [if_neg ha, fnB, axB, if_neg ha, List.append_nil]
theorem nums_L1 (t : T_api_Tree) : ∀ (s p : List Int) (acc : List UInt8), t.nums = p ++ s → 1 ≤ p.length → nuOk s → acc.length + (restB s).length ≤ 1000000 → t.nums.length ≤ 1000000 → m_ref10_Expr_L1 (t, B acc, (p.length : Int)) = some (B (acc ++ restB s))
  | [], p, acc, hp, h1, hn, hl, hz => by
    rw [m_ref10_Expr_L1]
    have : ¬ ((p.length : Int) < (t.nums.length : Int)) := by rw [hp]; simp
    simp only [this, if_false, restB, List.append_nil]
  | n :: s, p, acc, hp, h1, hn, hl, hz => by
    rw [m_ref10_Expr_L1]
    rw [restB] at hl ⊢
    simp only [List.length_cons, List.length_append] at hl
    have hlt : ((p.length : Int) < (t.nums.length : Int)) := by rw [hp]; simp; omega
    have hi : idx t.nums (p.length : Int) = some n := by rw [hp]; exact mid_idx
    have hpos : (p.length : Int) > 0 := by omega
    have h1' : (⟨#[32]⟩ : ByteArray) = B [32] := rfl
    have s1 : sadd (B acc) (B [32]) = some (B (acc ++ [32])) := sadd_B (by simp; omega)
    have s2 : sadd (B (acc ++ [32])) (B (dec n)) = some (B (acc ++ [32] ++ dec n)) := sadd_B (by simp; omega)
    have w : W ((p.length : Int) + 1) = ((p ++ [n]).length : Int) := by
      rw [W_ok (by omega) (by omega)]; simp
    have ih := nums_L1 t s (p ++ [n]) (acc ++ [32] ++ dec n) (by rw [hp]; simp) (by simp) (fun x hx => hn x (by simp [hx])) (by simp; omega) hz
    simp only [hlt, if_true, hpos, h1', s1, s2, hi, Decimal_ok (hn n (by simp)), bind_ok, w, ih]
    simp
theorem print_ok {t : T_api_Tree} {b : List UInt8} {ts : List Tk} (h : Shown t b ts) : b.length ≤ 500000 → ts.length ≤ 500000 → m_ref10_Expr t = some (B b) := by
  induction h with
  | name c w hL hw => intro _ _; rw [m_ref10_Expr]; rfl
  | nil =>
    intro _ _
    rw [m_ref10_Expr]
    have e : m_ref10_Expr_L1 (⟨1, 0, -1, ByteArray.empty, [], []⟩, ByteArray.empty, 0) = some ByteArray.empty := by
      rw [m_ref10_Expr_L1]; rfl
    simp [e, bind_ok]
    rfl
  | nums n ns h =>
    intro hb ht
    rw [m_ref10_Expr]
    have he : (ByteArray.empty : ByteArray) = B [] := rfl
    have e : m_ref10_Expr_L1 (⟨1, 0, -1, ByteArray.empty, n :: ns, []⟩, ByteArray.empty, 0) = some (B (dec n ++ restB ns)) := by
      rw [m_ref10_Expr_L1]
      have hlt : ((0 : Int) < ((n :: ns).length : Int)) := by rw [List.length_cons]; omega
      have hi : idx (n :: ns) 0 = some n := rfl
      have hpos : ¬ ((0 : Int) > 0) := by omega
      have s2 : sadd (B []) (B (dec n)) = some (B (dec n)) := by
        have := dec_len n
        exact sadd_B (by rw [List.length_nil]; omega)
      have w : W (0 + 1) = (([n] : List Int).length : Int) := by rw [W_ok (by omega) (by omega)]; rfl
      have ih := nums_L1 ⟨1, 0, -1, ByteArray.empty, n :: ns, []⟩ ns [n] (dec n) rfl (by simp) (fun x hx => h x (by simp [hx])) (by rw [List.length_append] at hb; omega) (by simp [numsT] at ht ⊢; omega)
      simp only [hlt, if_true, hpos, if_false, bind_ok, hi, Decimal_ok (h n (by simp)), w]
      rw [he, s2]
      simp only [bind_ok]
      rw [← he]
      exact ih
    have k2 : ¬ ((1 : Int) = 2) := by decide
    have k3 : ¬ ((1 : Int) = 3) := by decide
    have k4 : ¬ ((1 : Int) = 4) := by decide
    have hne : ¬ (((n :: ns).length : Int) = 0) := by rw [List.length_cons]; omega
    simp only [k2, k3, k4, if_false, e, bind_ok, hne]
  | mon f ax x b ts hf h ih =>
    intro hb ht
    rw [m_ref10_Expr]
    rw [List.length_append] at hb ht
    have ih := ih (by omega) (by omega)
    have hax : ax = -1 ∨ axF ax := by
      rcases hf with h | h
      · exact h.2
      · exact Or.inl h.2
    have hp := pfn_ok (t := ⟨3, f, ax, ByteArray.empty, [], [x]⟩) (by show 1 ≤ f; omega) (by show f ≤ 6; omega) hax
    have hi : idx [x] 0 = some x := rfl
    have s1 : sadd (B (fnB f ax)) (B b) = some (B (fnB f ax ++ b)) := sadd_B (by omega)
    have k2 : ¬ ((3 : Int) = 2) := by decide
    dsimp only
    rw [if_neg k2, if_pos rfl, bind_eq hp, bind_eq hi, bind_eq ih, bind_eq s1]
  | dyA f ax x y bx by_ tx ty h1 h6 hax hk hx hy ihx ihy =>
    intro hb ht
    rw [m_ref10_Expr]
    simp only [List.length_append] at hb ht
    have ihx := ihx (by omega) (by omega)
    have ihy := ihy (by omega) (by omega)
    have hax' : ax = -1 ∨ axF ax := by
      rcases hax with h | h
      · exact Or.inl h
      · exact Or.inr h.1
    have hp := pfn_ok (t := ⟨4, f, ax, ByteArray.empty, [], [x, y]⟩) h1 h6 hax'
    have hi : idx [x, y] 0 = some x := rfl
    have hi1 : idx [x, y] 1 = some y := rfl
    have s1 : sadd (B bx) (B (fnB f ax)) = some (B (bx ++ fnB f ax)) := sadd_B (by omega)
    have s2 : sadd (B (bx ++ fnB f ax)) (B by_) = some (B (bx ++ fnB f ax ++ by_)) := sadd_B (by simp; omega)
    have k2 : ¬ ((4 : Int) = 2) := by decide
    have k3 : ¬ ((4 : Int) = 3) := by decide
    have hk' : ¬ (x.kind > 2) := by omega
    dsimp only
    rw [if_neg k2, if_neg k3, if_pos rfl, bind_eq hi, bind_eq ihx, bind_eq hi, if_neg hk', bind_ok, bind_eq hp, bind_eq s1, bind_eq hi1, bind_eq ihy, bind_eq s2, List.append_assoc]
  | dyP ax x y bx by_ tx ty hax hk hx hy ihx ihy =>
    intro hb ht
    rw [m_ref10_Expr]
    simp only [List.length_append, List.length_singleton] at hb ht
    have ihx := ihx (by omega) (by omega)
    have ihy := ihy (by omega) (by omega)
    have hp := pfn_ok (t := ⟨4, 6, ax, ByteArray.empty, [], [x, y]⟩) (by show (1 : Int) ≤ 6; omega) (by show (6 : Int) ≤ 6; omega) hax
    have hi : idx [x, y] 0 = some x := rfl
    have hi1 : idx [x, y] 1 = some y := rfl
    have h40 : (⟨#[40]⟩ : ByteArray) = B [40] := rfl
    have h41 : (⟨#[41]⟩ : ByteArray) = B [41] := rfl
    have s1 : sadd (B [40]) (B bx) = some (B ([40] ++ bx)) := sadd_B (by simp; omega)
    have s2 : sadd (B ([40] ++ bx)) (B [41]) = some (B ([40] ++ bx ++ [41])) := sadd_B (by simp; omega)
    have s3 : sadd (B ([40] ++ bx ++ [41])) (B (fnB 6 ax)) = some (B ([40] ++ bx ++ [41] ++ fnB 6 ax)) := sadd_B (by simp; omega)
    have s4 : sadd (B ([40] ++ bx ++ [41] ++ fnB 6 ax)) (B by_) = some (B ([40] ++ bx ++ [41] ++ fnB 6 ax ++ by_)) := sadd_B (by simp; omega)
    have k2 : ¬ ((4 : Int) = 2) := by decide
    have k3 : ¬ ((4 : Int) = 3) := by decide
    have hk' : (x.kind > 2) := hk
    dsimp only
    rw [if_neg k2, if_neg k3, if_pos rfl, bind_eq hi, bind_eq ihx, bind_eq hi, if_pos hk', h40, bind_eq s1, h41, bind_eq s2, bind_ok, bind_eq hp, bind_eq s3, bind_eq hi1, bind_eq ihy, bind_eq s4]
    simp
end Go.Proofs.Tryd
namespace Go.Proofs.Tryd
open Go Go.Pm
set_option linter.unusedVariables false
set_option linter.unusedSimpArgs false
set_option maxRecDepth 2000
def stop (s : List UInt8) : Prop := ∀ c, s.head? = some c → wordc c = false
theorem gl_head : ∀ g ∈ GL, ∃ c r, g = c :: r ∧ ¬ sp c ∧ lt (c.toNat : Int) = false ∧ wordc c = false ∧ c ≠ 194 := by
  intro g hg
  simp only [GL, List.mem_cons, List.not_mem_nil, or_false] at hg
  rcases hg with rfl | rfl | rfl | rfl | rfl | rfl | rfl | rfl | rfl | rfl | rfl | rfl
  all_goals exact ⟨_, _, rfl, by decide, by decide, by decide, by decide⟩
theorem fnd_g (r : List UInt8) : ∀ g ∈ GL, fnd GL (g ++ r) [] = g := by
  intro g hg
  simp only [GL, List.mem_cons, List.not_mem_nil, or_false] at hg
  rcases hg with rfl | rfl | rfl | rfl | rfl | rfl | rfl | rfl | rfl | rfl | rfl | rfl
  all_goals simp [fnd, GL, pre]
theorem pre_no {c : UInt8} {s : List UInt8} (h : c ≠ 194) : pre [194, 175] (c :: s) = false := by
  unfold pre
  rw [decide_eq_false_iff_not]
  intro q
  have := congrArg List.head? q
  simp at this
  exact h this
section
variable {l p s : List UInt8} {out : List T_ref07_Token}
theorem lex_glyph {g : List UInt8} (hg : g ∈ GL) (hl : l = p ++ (g ++ s)) (hs : l.length ≤ 65536) (ho : out.length ≤ 65536) : m_ref07_Tokens_L1 (B l, out, (p.length : Int)) = m_ref07_Tokens_L1 (B l, out ++ [gl g], ((p ++ g).length : Int)) := by
  obtain ⟨c, r, e, h1, h2, h3, h4⟩ := gl_head g hg
  have hgs : g ++ s = c :: (r ++ s) := by rw [e]; rfl
  have hne : g ≠ [] := by rw [e]; simp
  have key := lex_num0 (sg := []) (w := []) (s := g ++ s) (neg := false) (c := c) (w' := r ++ s) (out := out) hl hs ho hgs h1 h2 (by rw [List.nil_append, List.nil_append, hgs]; exact pre_no h4) rfl (by rw [List.nil_append, hgs, List.takeWhile_cons, if_neg (by rw [h3]; simp)])
  rw [key]
  simp only [List.nil_append, List.length_nil, Nat.lt_irrefl, gt_iff_lt, if_false, fnd_g s g hg, hne]
  rfl
theorem lex_digs {sg w : List UInt8} {neg : Bool} {n : Int} (hl : l = p ++ ((sg ++ w) ++ s)) (hs : l.length ≤ 65536) (ho : out.length ≤ 65536) (hst : stop s) (hw : w ≠ []) (hd : ∀ c ∈ w, dg (c.toNat : Int) = true)
    (hsg : (sg = [194, 175] ∧ neg = true) ∨ (sg = [] ∧ neg = false)) (hv : m_ref07_value (B w, neg) = some (n, true)) :
    m_ref07_Tokens_L1 (B l, out, (p.length : Int)) = m_ref07_Tokens_L1 (B l, out ++ [⟨2, B (sg ++ w), n⟩], ((p ++ (sg ++ w)).length : Int)) := by
  have hl2 : l = p ++ (sg ++ (w ++ s)) := by rw [hl, List.append_assoc]
  have hww : (w ++ s).takeWhile wordc = w := word_word w (fun c hc => by unfold wordc; rw [hd c hc, Bool.or_true]) s hst
  have hpos : w.length > 0 := List.length_pos_iff.2 hw
  have fin : ∀ {c : UInt8} {w' : List UInt8}, sg ++ (w ++ s) = c :: w' → ¬ sp c → lt (c.toNat : Int) = false → pre [194, 175] (sg ++ (w ++ s)) = neg → sg.length = (if neg = true then 2 else 0) → m_ref07_Tokens_L1 (B l, out, (p.length : Int)) = m_ref07_Tokens_L1 (B l, out ++ [⟨2, B (sg ++ w), n⟩], ((p ++ (sg ++ w)).length : Int)) := by
    intro c w' h1 h2 h3 h4 h5
    rw [lex_num0 hl2 hs ho h1 h2 h3 h4 h5 hww]
    simp only [hpos, if_true, hv, bind_ok, Bool.true_eq_false, if_false]
  rcases hsg with ⟨e1, e2⟩ | ⟨e1, e2⟩
  · subst e1 e2
    refine fin (c := 194) (w' := 175 :: (w ++ s)) rfl (by decide) (by decide) ?_ rfl
    simp [pre]
  · subst e1 e2
    cases w with
    | nil => exact absurd rfl hw
    | cons c w =>
      have hc := hd c (by simp)
      unfold dg at hc
      rw [decide_eq_true_eq] at hc
      refine fin (c := c) (w' := w ++ s) rfl ?_ ?_ ?_ rfl
      · unfold sp; omega
      · unfold lt
        rw [decide_eq_false (by omega), decide_eq_false (by omega), decide_eq_false (by omega)]; rfl
      · refine pre_no (fun q => ?_)
        rw [q] at hc
        exact absurd hc (by decide)
theorem digs_ne (n : Nat) : digsF 19 n ≠ [] := by
  obtain ⟨c, r, e, _⟩ := digs_head 19 n (by omega)
  rw [e]; simp
theorem lex_dec {n : Int} (hn : i64 n) (hl : l = p ++ (dec n ++ s)) (hs : l.length ≤ 65536) (ho : out.length ≤ 65536) (hst : stop s) :
    m_ref07_Tokens_L1 (B l, out, (p.length : Int)) = m_ref07_Tokens_L1 (B l, out ++ [⟨2, B (dec n), n⟩], ((p ++ dec n).length : Int)) := by
  unfold i64 at hn
  by_cases h : n < 0
  · have hd : dec n = [194, 175] ++ digsF 19 n.natAbs := by unfold dec; rw [if_pos h]
    rw [hd] at hl ⊢
    have hv := value_digs (m := n.natAbs) (neg := true) (by omega) (fun _ => by omega) (fun q => by cases q)
    simp only [if_true] at hv
    rw [show -((n.natAbs : Nat) : Int) = n by omega] at hv
    exact lex_digs hl hs ho hst (digs_ne _) (digs_dg _ _) (Or.inl ⟨rfl, rfl⟩) hv
  · have hd : dec n = [] ++ digsF 19 n.natAbs := by unfold dec; rw [if_neg h]; rfl
    rw [hd] at hl ⊢
    have hv := value_digs (m := n.natAbs) (neg := false) (by omega) (fun q => by cases q) (fun _ => by omega)
    simp only [Bool.false_eq_true, if_false] at hv
    rw [show ((n.natAbs : Nat) : Int) = n by omega] at hv
    exact lex_digs hl hs ho hst (digs_ne _) (digs_dg _ _) (Or.inr ⟨rfl, rfl⟩) hv
theorem lex_rest : ∀ (ns : List Int) (p l : List UInt8) (out : List T_ref07_Token), nuOk ns → l = p ++ (restB ns ++ s) → l.length ≤ 65536 → out.length + ns.length ≤ 65536 → stop s →
    m_ref07_Tokens_L1 (B l, out, (p.length : Int)) = m_ref07_Tokens_L1 (B l, out ++ numsT ns, ((p ++ restB ns).length : Int))
  | [], p, l, out, hn, hl, hs, ho, hst => by simp [restB, numsT]
  | n :: ns, p, l, out, hn, hl, hs, ho, hst => by
    rw [restB] at hl ⊢
    rw [List.length_cons] at ho
    have hst2 : stop (restB ns ++ s) := by
      intro c hc
      cases ns with
      | nil => exact hst c hc
      | cons m ns => rw [restB] at hc; simp at hc; subst hc; decide
    have e1 := lex_sp (out := out) (c := 32) (p := p) (s := dec n ++ restB ns ++ s) (by rw [hl]; simp) hs (by decide)
    have e2 := lex_dec (out := out) (p := p ++ [32]) (s := restB ns ++ s) (hn n (by simp)) (by rw [hl]; simp) hs (by omega) hst2
    have e3 := lex_rest ns (p ++ [32] ++ dec n) l (out ++ [⟨2, B (dec n), n⟩]) (fun x hx => hn x (by simp [hx])) (by rw [hl]; simp) hs (by simp; omega) hst
    rw [e1, e2, e3]
    simp [numsT]
theorem gB_mem (f : Int) : gB f ∈ GL := by
  unfold gB
  repeat' split
  all_goals simp [GL]
theorem ax_nat {ax : Int} (h0 : ax ≥ 0) (h : ax = -1 ∨ axF ax) : m_ref07_value (B (digsF 19 ax.natAbs), false) = some (ax, true) := by
  have hx : ax ≤ 15 := by
    rcases h with h | h
    · omega
    · exact h.2
  have hv := value_digs (m := ax.natAbs) (neg := false) (by omega) (fun q => by cases q) (fun _ => by omega)
  simp only [Bool.false_eq_true, if_false] at hv
  rw [show ((ax.natAbs : Nat) : Int) = ax by omega] at hv
  exact hv
theorem lex_fn {f ax : Int} (hax : ax = -1 ∨ axF ax) (hl : l = p ++ (fnB f ax ++ s)) (hs : l.length ≤ 65536) (ho : out.length + 4 ≤ 65536) :
    m_ref07_Tokens_L1 (B l, out, (p.length : Int)) = m_ref07_Tokens_L1 (B l, out ++ fnT f ax, ((p ++ fnB f ax).length : Int)) := by
  unfold fnB at hl ⊢
  unfold fnT
  have e1 := lex_glyph (out := out) (p := p) (s := axB ax ++ s) (gB_mem f) (by rw [hl]; simp) hs (by omega)
  rw [e1]
  unfold axB at hl ⊢
  unfold axT
  by_cases h : ax ≥ 0
  · rw [if_pos h] at hl ⊢
    rw [if_pos h]
    have e2 := lex_glyph (g := [91]) (out := out ++ [gl (gB f)]) (p := p ++ gB f) (s := digsF 19 ax.natAbs ++ [93] ++ s) (by simp [GL]) (by rw [hl]; simp) hs (by simp; omega)
    have e3 := lex_digs (out := out ++ [gl (gB f)] ++ [gl [91]]) (p := p ++ gB f ++ [91]) (sg := []) (w := digsF 19 ax.natAbs) (s := [93] ++ s) (neg := false) (n := ax) (by rw [hl]; simp) hs (by simp; omega) (by intro c hc; simp at hc; subst hc; decide) (digs_ne _) (digs_dg _ _) (Or.inr ⟨rfl, rfl⟩) (ax_nat h hax)
    have e4 := lex_glyph (g := [93]) (out := out ++ [gl (gB f)] ++ [gl [91]] ++ [⟨2, B ([] ++ digsF 19 ax.natAbs), ax⟩]) (p := p ++ gB f ++ [91] ++ ([] ++ digsF 19 ax.natAbs)) (s := s) (by simp [GL]) (by rw [hl]; simp) hs (by simp; omega)
    rw [e2, e3, e4]
    simp
  · rw [if_neg h, if_neg h, List.append_nil]
end
theorem stop_fn (f ax : Int) (s : List UInt8) : stop (fnB f ax ++ s) := by
  intro c hc
  obtain ⟨d, r, e, _, _, h3, _⟩ := gl_head (gB f) (gB_mem f)
  unfold fnB at hc
  rw [e] at hc
  simp at hc
  rw [← hc]; exact h3
theorem lex_shown {t : T_api_Tree} {b : List UInt8} {ts : List Tk} (h : Shown t b ts) : ∀ (l p s : List UInt8) (out : List Tk), l = p ++ (b ++ s) → l.length ≤ 65536 → out.length + ts.length ≤ 60000 → stop s →
    m_ref07_Tokens_L1 (B l, out, (p.length : Int)) = m_ref07_Tokens_L1 (B l, out ++ ts, ((p ++ b).length : Int)) := by
  induction h with
  | name c w hL hw =>
    intro l p s out hl hs ho hst
    refine lex_word hl hs (by omega) rfl (lt_nsp hL) hL (word_word _ (fun d hd => ?_) s hst)
    rcases List.mem_cons.1 hd with rfl | hd
    · unfold wordc; rw [hL]; rfl
    · exact hw d hd
  | nil =>
    intro l p s out hl hs ho hst
    exact lex_glyph (by simp [GL]) hl hs (by omega)
  | nums n ns h =>
    intro l p s out hl hs ho hst
    have hst2 : stop (restB ns ++ s) := by
      intro c hc
      cases ns with
      | nil => exact hst c hc
      | cons m ns => rw [restB] at hc; simp at hc; subst hc; decide
    simp only [numsT, List.length_map, List.length_cons] at ho
    have e1 := lex_dec (out := out) (p := p) (s := restB ns ++ s) (h n (by simp)) (by rw [hl]; simp) hs (by omega) hst2
    have e2 := lex_rest ns (p ++ dec n) l (out ++ [⟨2, B (dec n), n⟩]) (fun x hx => h x (by simp [hx])) (by rw [hl]; simp) hs (by simp; omega) hst
    rw [e1, e2]
    simp [numsT]
  | mon f ax x b ts hf h ih =>
    intro l p s out hl hs ho hst
    have hax : ax = -1 ∨ axF ax := by
      rcases hf with h | h
      · exact h.2
      · exact Or.inl h.2
    have := fnT_len f ax
    rw [List.length_append] at ho
    have h1 : 1 ≤ (fnT f ax).length := by unfold fnT; simp
    have e1 := lex_fn (out := out) (p := p) (s := b ++ s) (f := f) hax (by rw [hl]; simp) hs (by omega)
    have e2 := ih l (p ++ fnB f ax) s (out ++ fnT f ax) (by rw [hl]; simp) hs (by simp; omega) hst
    rw [e1, e2]
    simp
  | dyA f ax x y bx by_ tx ty h1 h6 hax hk hx hy ihx ihy =>
    intro l p s out hl hs ho hst
    have hax' : ax = -1 ∨ axF ax := by
      rcases hax with h | h
      · exact Or.inl h
      · exact Or.inr h.1
    have := fnT_len f ax
    simp only [List.length_append] at ho
    have e1 := ihx l p (fnB f ax ++ by_ ++ s) out (by rw [hl]; simp) hs (by omega) (by rw [List.append_assoc]; exact stop_fn f ax _)
    have e2 := lex_fn (out := out ++ tx) (p := p ++ bx) (s := by_ ++ s) (f := f) hax' (by rw [hl]; simp) hs (by simp; omega)
    have e3 := ihy l (p ++ bx ++ fnB f ax) s (out ++ tx ++ fnT f ax) (by rw [hl]; simp) hs (by simp; omega) hst
    rw [e1, e2, e3]
    simp
  | dyP ax x y bx by_ tx ty hax hk hx hy ihx ihy =>
    intro l p s out hl hs ho hst
    have := fnT_len 6 ax
    simp only [List.length_append, List.length_singleton] at ho
    have e0 := lex_glyph (g := [40]) (out := out) (p := p) (s := bx ++ [41] ++ fnB 6 ax ++ by_ ++ s) (by simp [GL]) (by rw [hl]; simp) hs (by omega)
    have e1 := ihx l (p ++ [40]) ([41] ++ fnB 6 ax ++ by_ ++ s) (out ++ [gl [40]]) (by rw [hl]; simp) hs (by simp; omega) (by intro c hc; simp at hc; subst hc; decide)
    have e1' := lex_glyph (g := [41]) (out := out ++ [gl [40]] ++ tx) (p := p ++ [40] ++ bx) (s := fnB 6 ax ++ by_ ++ s) (by simp [GL]) (by rw [hl]; simp) hs (by simp; omega)
    have e2 := lex_fn (out := out ++ [gl [40]] ++ tx ++ [gl [41]]) (p := p ++ [40] ++ bx ++ [41]) (s := by_ ++ s) (f := 6) hax (by rw [hl]; simp) hs (by simp; omega)
    have e3 := ihy l (p ++ [40] ++ bx ++ [41] ++ fnB 6 ax) s (out ++ [gl [40]] ++ tx ++ [gl [41]] ++ fnT 6 ax) (by rw [hl]; simp) hs (by simp; omega) hst
    rw [e0, e1, e1', e2, e3]
    simp
theorem lex_ok {t : T_api_Tree} {b : List UInt8} {ts : List Tk} (h : Shown t b ts) (hb : b.length ≤ 65536) (ht : ts.length ≤ 60000) : m_ref07_Tokens (B b) = some (ts, true) := by
  unfold m_ref07_Tokens
  have h0 : ¬ ((b.length : Int) > 65536) := by omega
  have e1 := lex_shown h b [] [] [] (by simp) hb (by simpa using ht) (by intro c hc; simp at hc)
  have e2 := lex_end (l := b) (p := b) (out := ts) rfl
  simp only [List.length_nil, Int.natCast_zero, List.nil_append] at e1
  simp only [B_size, h0, if_false, e1, e2, bind_ok]
end Go.Proofs.Tryd
namespace Go.Proofs.Tryd
open Go Go.Pm
set_option linter.unusedVariables false
set_option linter.unusedSimpArgs false
set_option maxRecDepth 2000
theorem W_sm {n : Int} (h1 : -100000 ≤ n) (h2 : n ≤ 100000) : W n = n := W_ok (by omega) (by omega)
/-- what the function of a node comes to -/
def fnR (n : Nat) (o : Option (Int × Int × Int × Bool)) : Prop := ∃ f ax j ok, o = some (f, ax, j, ok) ∧
  (ok = true → ∃ n' : Nat, j = (n' : Int) - 1 ∧ n' < n ∧ 1 ≤ f ∧ f ≤ 6 ∧ (ax = -1 ∨ (axF ax ∧ (f = 3 ∨ f = 6))))
theorem func_tot (l : List Tk) (hl : l.length ≤ 65536) (n : Nat) (hn : n ≤ l.length) : fnR n (m_ref09_function (l, (n : Int) - 1)) := by
  unfold m_ref09_function
  dsimp only
  simp only [glyph_eq, bind_ok]
  by_cases hg : glyphO (idx l ((n : Int) - 1)) (⟨#[93]⟩ : ByteArray) = true
  · simp only [hg, if_true]
    have hn1 : 1 ≤ n := by
      cases n with
      | zero => rw [idx_none (Or.inl (by omega))] at hg; exact absurd hg (by decide)
      | succ n => omega
    have w1 : W ((n : Int) - 1 - 1) = (n : Int) - 2 := by rw [W_sm (by omega) (by omega)]; omega
    have w3 : W ((n : Int) - 1 - 3) = (n : Int) - 4 := by rw [W_sm (by omega) (by omega)]; omega
    have w4 : W ((n : Int) - 4 - 1) = (n : Int) - 5 := by rw [W_sm (by omega) (by omega)]; omega
    by_cases h3 : (n : Int) - 1 < 3
    · simp only [h3, if_true, bind_ok]
      exact ⟨_, _, _, _, rfl, fun h => by cases h⟩
    · obtain ⟨x, ex, _⟩ := idx_some (l := l) (i := (n : Int) - 2) (by omega) (by omega)
      obtain ⟨y, ey, _⟩ := idx_some (l := l) (i := (n : Int) - 4) (by omega) (by omega)
      simp only [h3, if_false, w1, w3, w4, ex, ey, bind_ok, fn_eq, ite_b]
      refine ite_ex (P := fun o => fnR n (some o)) (fun _ => ⟨_, _, _, _, rfl, fun h => by cases h⟩) (fun hA => ?_)
      have hx : 0 ≤ x.n ∧ x.n ≤ 15 := by
        by_cases q1 : x.n < 0
        · exfalso; apply hA; simp [q1]
        · by_cases q2 : x.n > 15
          · exfalso; apply hA; simp [q2]
          · omega
      refine ite_ex (P := fun o => fnR n (some o)) (fun _ => ⟨_, _, _, _, rfl, fun h => by cases h⟩) (fun hB => ?_)
      have hf := fnV_in y
      have hlow : ¬ ((n : Int) - 4 < 0) := by omega
      have hx0 : x.n ≥ 0 := hx.1
      have hf0 : fnV y ≠ 0 := by
        intro q; apply hB
        simp only [hlow, if_false, q]
        rfl
      have hf36 : fnV y = 3 ∨ fnV y = 6 := by
        by_cases q3 : fnV y = 3
        · exact Or.inl q3
        · by_cases q6 : fnV y = 6
          · exact Or.inr q6
          · exfalso; apply hB
            simp [hlow, hx0, q3, q6, hf0]
      refine ⟨_, _, _, _, rfl, fun _ => ⟨n - 4, by omega, by omega, by omega, by omega, Or.inr ⟨hx, hf36⟩⟩⟩
  · simp only [hg, if_false]
    by_cases h0 : (n : Int) - 1 < 0
    · simp only [h0, if_true, bind_ok]
      exact ⟨_, _, _, _, rfl, fun h => by cases h⟩
    · obtain ⟨y, ey, _⟩ := idx_some (l := l) (i := (n : Int) - 1) (by omega) (by omega)
      have w1 : W ((n : Int) - 1 - 1) = (n : Int) - 2 := by rw [W_sm (by omega) (by omega)]; omega
      have hf := fnV_in y
      simp only [h0, if_false, ey, bind_ok, fn_eq, w1, Bool.false_eq_true]
      by_cases hf0 : fnV y = 0
      · simp only [hf0, beq_self_eq_true, if_true, bind_ok]
        exact ⟨_, _, _, _, rfl, fun h => by cases h⟩
      · have hb : (fnV y == 0) = false := by simpa using hf0
        simp only [hb, Bool.false_eq_true, if_false, bind_ok]
        exact ⟨_, _, _, _, rfl, fun _ => ⟨n - 1, by omega, by omega, by omega, by omega, Or.inl rfl⟩⟩
/-- parsing shorter lists -/
def exprOk (l : List Tk) : Prop := ∃ t ok, m_ref09_Expr l = some (t, ok) ∧ (ok = true → prs l t 0 l.length)
theorem sub_ok {α : Type} {l : List α} {a b : Nat} (h : a ≤ b) (hb : b ≤ l.length) : sub l (a : Int) (b : Int) = some ((l.take b).drop a) := by
  unfold sub
  rw [if_pos ⟨by omega, by omega, by omega⟩, Int.toNat_natCast, Int.toNat_natCast]
theorem tksG_sub {l : List Tk} (hl : tksG l) (a b : Nat) : tksG ((l.take b).drop a) := by
  refine ⟨?_, fun t ht => hl.2 t (List.mem_of_mem_take (List.mem_of_mem_drop ht))⟩
  rw [List.length_drop, List.length_take]
  have := hl.1
  omega
theorem opnd_tot (l : List Tk) (hl : tksG l) (IH : ∀ m : List Tk, m.length < l.length → tksG m → exprOk m) (n : Nat) (hn : n ≤ l.length) : ∃ t j ok, m_ref09_operand (l, (n : Int) - 1) = some (t, j, ok) ∧ (ok = true → ∃ n' : Nat, j = (n' : Int) - 1 ∧ n' < n ∧ prs l t n' n) := by
  have h65 := hl.1
  rw [m_ref09_operand]
  dsimp only
  by_cases h0 : (n : Int) - 1 < 0
  · simp only [h0, if_true]
    exact ⟨_, _, _, rfl, fun h => by cases h⟩
  · obtain ⟨k, rfl⟩ : ∃ k, n = k + 1 := ⟨n - 1, by omega⟩
    have e0 : ((k + 1 : Nat) : Int) - 1 = (k : Int) := by omega
    have hg : l[k]? = some l[k] := List.getElem?_eq_getElem (by omega)
    have hi : idx l (k : Int) = some l[k] := idx_ok (by omega)
    obtain ⟨hG, hT⟩ := hl.2 l[k] (List.getElem_mem _)
    have ws := wsum_step l hg
    have w1 : W ((k : Int) - 1) = (k : Int) - 1 := W_sm (by omega) (by omega)
    rw [e0] at h0 ⊢
    simp only [h0, if_false, hi, bind_ok, glyph_eq, w1]
    generalize l[k] = x at *
    by_cases hk1 : x.kind = 1
    · simp only [hk1, if_true]
      refine ⟨_, _, _, rfl, fun _ => ⟨k, rfl, by omega, ?_, ?_, ?_, ?_, ?_⟩⟩
      · refine good_low (Or.inr (Or.inl ⟨rfl, rfl, rfl, ?_, rfl, rfl⟩)) rfl
        rcases hG with q | q | q
        · exact q.2
        · omega
        · omega
      · rw [namesOk, namesOks]
        exact ⟨⟨by unfold nmOk; omega, fun n h => by cases h⟩, trivial⟩
      · rw [szT, szTs]; omega
      · rw [numT, numTs]; simp
      · rw [wT, wTs, ws]; simp; omega
    · simp only [hk1, if_false]
      by_cases hz : glyphO (some x) (⟨#[226, 141, 172]⟩ : ByteArray) = true
      · simp only [hz, if_true]
        refine ⟨_, _, _, rfl, fun _ => ⟨k, rfl, by omega, ?_, ?_, ?_, ?_, ?_⟩⟩
        · exact good_low (Or.inl ⟨rfl, rfl, rfl, rfl, rfl⟩) rfl
        · rw [namesOk, namesOks]
          exact ⟨⟨by unfold nmOk; rw [empty_size]; omega, fun n h => by cases h⟩, trivial⟩
        · rw [szT, szTs]; omega
        · rw [numT, numTs]; simp
        · rw [wT, wTs, ws, empty_size]; simp; omega
      · simp only [hz, if_false, Bool.false_eq_true]
        by_cases hk2 : x.kind = 2
        · simp only [hk2, if_true]
          obtain ⟨acc, n', e, h1, h2, h3, h4⟩ := nums_tot l hl (k + 1) [] hn (by simp; omega) (fun n h => by cases h)
          rw [e0] at e
          have hlt := h4 x (by simpa using hg) hk2 (by omega)
          have hm := wsum_mono l (a := n') (b := k + 1) (by omega) hn
          simp only [List.length_nil, Nat.zero_add] at h2
          simp only [e, bind_ok]
          refine ⟨_, _, _, rfl, fun _ => ⟨n', rfl, hlt, ?_, ?_, ?_, ?_, ?_⟩⟩
          · exact good_low (Or.inl ⟨rfl, rfl, rfl, rfl, rfl⟩) rfl
          · rw [namesOk, namesOks]
            exact ⟨⟨by unfold nmOk; rw [empty_size]; omega, h3⟩, trivial⟩
          · rw [szT, szTs]; omega
          · rw [numT, numTs]; omega
          · rw [wT, wTs, empty_size]; omega
        · simp only [hk2, if_false]
          by_cases hp : glyphO (some x) (⟨#[41]⟩ : ByteArray) = true
          · simp only [hp, if_true]
            obtain ⟨j, ej, hj⟩ := open_ok l h65 k (by omega) (by rw [hi]; exact hp)
            simp only [ej, bind_ok]
            rcases hj with hj | ⟨q, rfl, hq⟩
            · simp only [hj, if_true]
              exact ⟨_, _, _, rfl, fun h => by cases h⟩
            · have hnn : ¬ ((q : Int) < 0) := by omega
              have w2 : W ((q : Int) + 1) = ((q + 1 : Nat) : Int) := by rw [W_sm (by omega) (by omega)]; omega
              have w3 : W ((q : Int) - 1) = (q : Int) - 1 := W_sm (by omega) (by omega)
              have hlen : ((l.take k).drop (q + 1)).length = k - (q + 1) := by rw [List.length_drop, List.length_take]; omega
              obtain ⟨t, ok, e, ht⟩ := IH ((l.take k).drop (q + 1)) (by omega) (tksG_sub hl _ _)
              have hsp := wsum_split l (a := q + 1) (b := k) (by omega)
              have hm := wsum_mono l (a := q) (b := q + 1) (by omega) (by omega)
              simp only [hnn, if_false, w2, w3, sub_ok (show q + 1 ≤ k by omega) (show k ≤ l.length by omega), bind_ok, e]
              refine ⟨_, _, _, rfl, fun h => ⟨q, rfl, by omega, ?_⟩⟩
              have r := ht h
              have r3 := r.sz; have r4 := r.num; have r5 := r.wt
              rw [hlen] at r3 r4
              simp only [List.take_zero, wsum, List.take_length] at r5
              exact ⟨r.gd, r.nm, by omega, by omega, by omega⟩
          · simp only [hp, if_false, Bool.false_eq_true]
            exact ⟨_, _, _, rfl, fun h => by cases h⟩
end Go.Proofs.Tryd
namespace Go.Proofs.Tryd
open Go Go.Pm
set_option linter.unusedVariables false
set_option linter.unusedSimpArgs false
set_option maxRecDepth 2000
theorem etaT2 (t : T_api_Tree) : t = ⟨t.kind, t.fn, t.axis, t.name, t.nums, t.kids⟩ := by cases t; rfl
/-- what a loop of parsing comes to -/
def lpR (l : List Tk) (o : Option ((Int × Int × Int × ByteArray × (List Int) × (List T_api_Tree)) ⊕ (Int × Int × Int × ByteArray × (List Int) × (List T_api_Tree) × Int × Int × Int × ByteArray × (List Int) × (List T_api_Tree)) ⊕ (Int × Int × Int × ByteArray × (List Int) × (List T_api_Tree)))) : Prop :=
  ∃ r, o = some r ∧ ∀ k f a nm nu ks, r = .inr (.inr (k, f, a, nm, nu, ks)) → prs l ⟨k, f, a, nm, nu, ks⟩ 0 l.length
theorem lpR_mid {l : List Tk} (x : Int × Int × Int × ByteArray × (List Int) × (List T_api_Tree) × Int × Int × Int × ByteArray × (List Int) × (List T_api_Tree)) : lpR l (some (.inr (.inl x))) := ⟨_, rfl, fun k f a nm nu ks e => by cases e⟩
theorem good_kind {t : T_api_Tree} (h : good t) : 1 ≤ t.kind ∧ t.kind ≤ 4 := by
  rcases (good_f.1 h).1 with c | c | c | c <;> omega
theorem prs_dyad {l : List Tk} {u t : T_api_Tree} {f ax : Int} {n2 n1 n : Nat} (hn : n ≤ l.length) (hu : prs l u n2 n1) (ht : prs l t n l.length) (h1 : n1 < n) (hf1 : 1 ≤ f) (hf6 : f ≤ 6) (hax : ax = -1 ∨ (axF ax ∧ (f = 3 ∨ f = 6))) (hk : f = 6 ∨ u.kind ≤ 2) :
    prs l ⟨4, f, ax, ByteArray.empty, [], [u, t]⟩ n2 l.length := by
  have hm := wsum_mono l (a := n1) (b := n) (by omega) hn
  have := hu.sz; have := hu.num; have := hu.wt; have := ht.sz; have := ht.num; have := ht.wt
  have hk1 := good_kind hu.gd
  refine ⟨?_, ?_, ?_, ?_, ?_⟩
  · rw [good]
    refine ⟨Or.inr (Or.inr (Or.inr ⟨rfl, rfl, rfl, rfl, hf1, hf6, hax, ?_⟩)), goods2.2 ⟨hu.gd, ht.gd⟩⟩
    rcases hk with h | h
    · exact Or.inl h
    · right
      show u.kind = 1 ∨ u.kind = 2
      omega
  · rw [namesOk]
    exact ⟨⟨by unfold nmOk; rw [empty_size]; omega, fun n h => by cases h⟩, nms2.2 ⟨hu.nm, ht.nm⟩⟩
  · rw [szT, szTs, szTs, szTs]; omega
  · rw [numT, numTs, numTs, numTs]; simp only [List.length_nil]; omega
  · rw [wT, wTs, wTs, wTs, empty_size]; simp only [List.length_nil]; omega
theorem prs_mon {l : List Tk} {t : T_api_Tree} {f ax : Int} {n1 n : Nat} (hn : n ≤ l.length) (ht : prs l t n l.length) (h1 : n1 < n) (hf : (f = 3 ∧ (ax = -1 ∨ axF ax)) ∨ ((f = 4 ∨ f = 6) ∧ ax = -1)) :
    prs l ⟨3, f, ax, ByteArray.empty, [], [t]⟩ n1 l.length := by
  have hm := wsum_mono l (a := n1) (b := n) (by omega) hn
  have := ht.sz; have := ht.num; have := ht.wt
  refine ⟨?_, ?_, ?_, ?_, ?_⟩
  · rw [good]
    exact ⟨Or.inr (Or.inr (Or.inl ⟨rfl, rfl, rfl, rfl, hf⟩)), goods1.2 ht.gd⟩
  · rw [namesOk]
    exact ⟨⟨by unfold nmOk; rw [empty_size]; omega, fun n h => by cases h⟩, nms1.2 ht.nm⟩
  · rw [szT, szTs, szTs]; omega
  · rw [numT, numTs, numTs]; simp only [List.length_nil]; omega
  · rw [wT, wTs, wTs, empty_size]; simp only [List.length_nil]; omega
theorem loop_tot (l : List Tk) (hl : tksG l) (IH : ∀ m : List Tk, m.length < l.length → tksG m → exprOk m) : ∀ (N n : Nat) (t : T_api_Tree), n ≤ N → n ≤ l.length → prs l t n l.length →
    lpR l (m_ref09_Expr_L1 (true, l, t.kind, t.fn, t.axis, t.name, t.nums, t.kids, (n : Int) - 1)) := by
  intro N
  have h65 := hl.1
  induction N with
  | zero =>
    intro n t hN hn ht
    have : n = 0 := by omega
    subst this
    rw [m_ref09_Expr_L1]
    refine ⟨_, rfl, fun k f a nm nu ks e => ?_⟩
    cases e
    rw [etaT]; exact ht
  | succ N ih =>
    intro n t hN hn ht
    by_cases h0 : n = 0
    · subst h0
      exact ih 0 t (by omega) hn ht
    · rw [m_ref09_Expr_L1]
      obtain ⟨f, ax, j, ok, ef, hf⟩ := func_tot l h65 n hn
      have hge : decide ((n : Int) - 1 ≥ 0) = true := by rw [decide_eq_true_eq]; omega
      simp only [if_true, hge, bind_ok, ef]
      cases ok with
      | false => exact ⟨_, rfl, fun k f a nm nu ks e => by cases e⟩
      | true =>
        obtain ⟨n1, rfl, h1, hf1, hf6, hax⟩ := hf rfl
        obtain ⟨u, j2, ok2, eo, ho⟩ := opnd_tot l hl IH n1 (by omega)
        simp only [Bool.true_eq_false, if_false, eo, bind_ok]
        cases ok2 with
        | true =>
          obtain ⟨n2, rfl, h2, hu⟩ := ho rfl
          simp only [if_true, ite_b, bind_ok]
          refine ite_ex (P := lpR l) (fun _ => lpR_mid _) (fun hA => ?_)
          have hk : f = 6 ∨ u.kind ≤ 2 := by
            by_cases h6 : f = 6
            · exact Or.inl h6
            · right
              by_cases hk : u.kind > 2
              · exfalso; apply hA; simp [h6, hk]
              · omega
          have hp := prs_dyad hn hu ht h1 hf1 hf6 hax hk
          have := ih n2 _ (by omega) (by omega) hp
          simp only [etaT]
          exact this
        | false =>
          obtain ⟨b, eb⟩ : ∃ b, (if (n1 : Int) - 1 ≥ 0 then (if glyphO (idx l ((n1 : Int) - 1)) (⟨#[41]⟩ : ByteArray) = true then some true else idx l ((n1 : Int) - 1) >>= fun v640 => some (v640.kind != 3)) else some false) = some b := by
            by_cases hq : (n1 : Int) - 1 ≥ 0
            · obtain ⟨x, ex, _⟩ := idx_some (l := l) hq (by omega)
              simp only [hq, if_true, ex, bind_ok, ite_b]
              exact ⟨_, rfl⟩
            · simp only [hq, if_false]
              exact ⟨_, rfl⟩
          simp only [Bool.false_eq_true, if_false, glyph_eq, eb, ite_b, bind_ok]
          refine ite_ex (P := lpR l) (fun _ => lpR_mid _) (fun hA => ?_)
          have hff : (f = 3 ∧ (ax = -1 ∨ axF ax)) ∨ ((f = 4 ∨ f = 6) ∧ ax = -1) := by
            cases b with
            | true => exact absurd rfl hA
            | false =>
              by_cases q3 : f = 3
              · refine Or.inl ⟨q3, ?_⟩
                rcases hax with h | h
                · exact Or.inl h
                · exact Or.inr h.1
              · by_cases q4 : f = 4
                · refine Or.inr ⟨Or.inl q4, ?_⟩
                  rcases hax with h | h
                  · exact h
                  · omega
                · by_cases q6 : f = 6
                  · refine Or.inr ⟨Or.inr q6, ?_⟩
                    rcases hax with h | h
                    · exact h
                    · exfalso; apply hA
                      have := h.1.1
                      simp [q6, this]
                  · exfalso; apply hA
                    simp [q3, q4, q6]
          have hp := prs_mon hn ht h1 hff
          have := ih n1 _ (by omega) (by omega) hp
          simp only [etaT]
          exact this
theorem expr_tot : ∀ (N : Nat) (l : List Tk), l.length ≤ N → tksG l → exprOk l := by
  intro N
  induction N with
  | zero =>
    intro l hN hl
    have : l = [] := by cases l with | nil => rfl | cons a b => simp at hN
    subst this
    unfold exprOk
    rw [m_ref09_Expr]
    have w : W ((([] : List Tk).length : Int) - 1) = -1 := by decide
    have e : m_ref09_operand (([] : List Tk), -1) = some (⟨0, 0, 0, ByteArray.empty, [], []⟩, -1, false) := by
      rw [m_ref09_operand]; rfl
    simp only [w, e, bind_ok]
    rw [m_ref09_Expr_L1]
    exact ⟨_, _, rfl, fun h => by cases h⟩
  | succ N ih =>
    intro l hN hl
    have h65 := hl.1
    have IH : ∀ m : List Tk, m.length < l.length → tksG m → exprOk m := fun m h1 h2 => ih m (by omega) h2
    unfold exprOk
    rw [m_ref09_Expr]
    obtain ⟨t, j, ok, e, ht⟩ := opnd_tot l hl IH l.length (Nat.le_refl _)
    have w : W ((l.length : Int) - 1) = (l.length : Int) - 1 := W_sm (by omega) (by omega)
    simp only [w, e, bind_ok]
    cases ok with
    | false =>
      rw [m_ref09_Expr_L1]
      exact ⟨_, _, rfl, fun h => by cases h⟩
    | true =>
      obtain ⟨n, rfl, hn, hp⟩ := ht rfl
      obtain ⟨r, er, hr⟩ := loop_tot l hl IH n n t (Nat.le_refl _) (by omega) hp
      rw [er]
      simp only [bind_ok]
      rcases r with r | r | ⟨k, f, a, nm, nu, ks⟩
      · exact ⟨_, _, rfl, fun h => by cases h⟩
      · exact ⟨_, _, rfl, fun h => by cases h⟩
      · exact ⟨_, _, rfl, fun h => hr k f a nm nu ks rfl⟩
theorem tsum_mem : ∀ (l : List Tk) (t : Tk), t ∈ l → t.text.size ≤ tsum l
  | [], t, h => by cases h
  | x :: l, t, h => by
    rw [tsum]
    rcases List.mem_cons.1 h with rfl | h
    · omega
    · have := tsum_mem l t h; omega
theorem Text_tot (s : List UInt8) : ∃ t f, m_ref09_Text (B s) = some (t, f) ∧ (f = 0 → good t ∧ namesOk t ∧ szT t ≤ s.length ∧ numT t ≤ s.length ∧ wT t ≤ 81 * s.length ∧ depT t ≤ 100) := by
  obtain ⟨ts, ok, e, h1, h2, h3, h4, h5⟩ := Tokens_tot s
  have hl : tksG ts := ⟨h1, fun t ht => ⟨h2 t ht, by have := tsum_mem ts t ht; omega⟩⟩
  unfold m_ref09_Text m_ref09_tokens
  simp only [e, bind_ok]
  cases ok with
  | false => exact ⟨_, _, rfl, fun h => by cases h⟩
  | true =>
    obtain ⟨t, ok2, ee, hp⟩ := expr_tot ts.length ts (Nat.le_refl _) hl
    simp only [Bool.true_eq_false, if_false, ee, bind_ok]
    cases ok2 with
    | false => exact ⟨_, _, rfl, fun h => by cases h⟩
    | true =>
      have p := hp rfl
      have p1 := p.sz; have p2 := p.num; have p3 := p.wt
      simp only [List.take_zero, wsum, List.take_length, wsum_eq] at p3
      have hd := tdep_ok t (by omega)
      simp only [Bool.true_eq_false, if_false, hd, bind_ok]
      by_cases hdd : (depT t : Int) > 100
      · simp only [hdd, if_true, bind_ok]
        exact ⟨_, _, rfl, fun h => by cases h⟩
      · simp only [hdd, if_false, bind_ok]
        exact ⟨_, _, rfl, fun _ => ⟨p.gd, p.nm, by omega, by omega, by omega, by omega⟩⟩
end Go.Proofs.Tryd
namespace Go.Proofs.Tryd
open Go Go.Pm
set_option linter.unusedVariables false
set_option linter.unusedSimpArgs false
set_option maxRecDepth 2000
/-- what may stand ahead of an operand -/
def fin3 (p : List Tk) : Prop := ∀ x, p.getLast? = some x → x.kind = 3 ∧ x.text ≠ B [41] ∧ x.text ≠ B [226, 141, 172]
theorem last_idx {p r : List Tk} {x : Tk} : idx ((p ++ [x]) ++ r) (((p ++ [x]).length : Int) - 1) = some x := by
  have h : (((p ++ [x]).length : Int) - 1) = (p.length : Int) := by simp
  rw [h, List.append_assoc]
  exact mid_idx
theorem W_len {n : Nat} (h : n ≤ 100000) (k : Int) (hk : 0 ≤ k) (hk2 : k ≤ 10) : W ((n : Int) - k) = (n : Int) - k := W_sm (by omega) (by omega)
section
variable {p r : List Tk}
theorem opnd_none (hp : fin3 p) (hl : (p ++ r).length ≤ 65536) : ∃ t j, m_ref09_operand (p ++ r, (p.length : Int) - 1) = some (t, j, false) := by
  rw [m_ref09_operand]
  dsimp only
  rcases List.eq_nil_or_concat p with rfl | ⟨q, x, rfl⟩
  · exact ⟨_, _, if_pos (by decide)⟩
  · rw [List.concat_eq_append] at *
    obtain ⟨h3, h41, hz⟩ := hp x (by simp)
    have hi := last_idx (p := q) (r := r) (x := x)
    have h0 : ¬ (((q ++ [x]).length : Int) - 1 < 0) := by simp <;> omega
    have k1 : ¬ (x.kind = 1) := by omega
    have k2 : ¬ (x.kind = 2) := by omega
    have g1 : glyphO (some x) (⟨#[226, 141, 172]⟩ : ByteArray) = false := by
      unfold glyphO; simp only [Bool.and_eq_false_iff, decide_eq_false_iff_not]; exact Or.inr hz
    have g2 : glyphO (some x) (⟨#[41]⟩ : ByteArray) = false := by
      unfold glyphO; simp only [Bool.and_eq_false_iff, decide_eq_false_iff_not]; exact Or.inr h41
    simp only [h0, if_false, hi, bind_ok, k1, k2, glyph_eq, g1, g2, Bool.false_eq_true]
    exact ⟨_, _, rfl⟩
theorem glyphO_kind {x : Tk} {g : ByteArray} (h : x.kind ≠ 3) : glyphO (some x) g = false := by
  unfold glyphO; simp only [Bool.and_eq_false_iff, decide_eq_false_iff_not]; exact Or.inl h
theorem snoc_ind {α : Type} {P : List α → Prop} (h0 : P []) (h1 : ∀ l a, P l → P (l ++ [a])) (l : List α) : P l := by
  have key : ∀ m : List α, P m.reverse := by
    intro m
    induction m with
    | nil => exact h0
    | cons a m ih => rw [List.reverse_cons]; exact h1 _ _ ih
  have := key l.reverse
  rwa [List.reverse_reverse] at this
def NL (ns : List Int) : Prop := ∀ (p r : List Tk) (acc : List Int), fin3 p → (p ++ (numsT ns ++ r)).length ≤ 65536 → acc.length + ns.length ≤ 100000 →
    m_ref09_operand_L1 (p ++ (numsT ns ++ r), acc, ((p ++ numsT ns).length : Int) - 1) = some (ns ++ acc, (p.length : Int) - 1)
theorem nums_loop (ns : List Int) : NL ns := by
  refine snoc_ind (P := NL) ?_ ?_ ns
  · intro p r acc hp hl ha
    rw [m_ref09_operand_L1]
    simp only [numsT, List.map_nil, List.nil_append, List.append_nil] at *
    rcases List.eq_nil_or_concat p with rfl | ⟨q, x, rfl⟩
    · simp [bind_ok]
    · rw [List.concat_eq_append] at *
      obtain ⟨h3, _, _⟩ := hp x (by simp)
      have hi := last_idx (p := q) (r := r) (x := x)
      have h0 : (((q ++ [x]).length : Int) - 1 ≥ 0) := by simp <;> omega
      have k2 : (x.kind == 2) = false := by simp [h3]
      simp only [h0, if_true, hi, bind_ok, k2, Bool.false_eq_true, if_false]
  · intro ns n ih p r acc hp hl ha
    have e : numsT (ns ++ [n]) = numsT ns ++ [⟨2, B (dec n), n⟩] := by simp [numsT]
    rw [e] at hl ⊢
    have hi := last_idx (p := p ++ numsT ns) (r := r) (x := (⟨2, B (dec n), n⟩ : Tk))
    have eq1 : p ++ (numsT ns ++ [(⟨2, B (dec n), n⟩ : Tk)] ++ r) = p ++ numsT ns ++ [(⟨2, B (dec n), n⟩ : Tk)] ++ r := by simp
    have eq2 : p ++ (numsT ns ++ [(⟨2, B (dec n), n⟩ : Tk)]) = p ++ numsT ns ++ [(⟨2, B (dec n), n⟩ : Tk)] := by simp
    have ih := ih p ([⟨2, B (dec n), n⟩] ++ r) (n :: acc) hp (by simp at hl ⊢; omega) (by simp at ha ⊢; omega)
    have eq3 : p ++ (numsT ns ++ ([(⟨2, B (dec n), n⟩ : Tk)] ++ r)) = p ++ numsT ns ++ [(⟨2, B (dec n), n⟩ : Tk)] ++ r := by simp
    rw [eq3] at ih
    rw [m_ref09_operand_L1, eq1, eq2]
    have h0 : (((p ++ numsT ns ++ [(⟨2, B (dec n), n⟩ : Tk)]).length : Int) - 1 ≥ 0) := by simp <;> omega
    have ea : app 8 ([n] : List Int) acc = some (n :: acc) := room_app (by simp at ha ⊢; omega) (by omega)
    have w : W ((((p ++ numsT ns ++ [(⟨2, B (dec n), n⟩ : Tk)]).length : Int) - 1) - 1) = ((p ++ numsT ns).length : Int) - 1 := by
      simp only [List.length_append, List.length_singleton] at hl ⊢
      rw [W_sm (by omega) (by omega)]; omega
    simp only [h0, if_true, hi, bind_ok, beq_self_eq_true, ea, w, ih]
    simp
/-- an operand that is no expression in parentheses -/
theorem opnd_atom {t : T_api_Tree} {b : List UInt8} {ts : List Tk} (h : Shown t b ts) (hk : t.kind ≤ 2) (hp : fin3 p) (hl : (p ++ (ts ++ r)).length ≤ 65536) : m_ref09_operand (p ++ (ts ++ r), ((p ++ ts).length : Int) - 1) = some (t, (p.length : Int) - 1, true) := by
  rw [m_ref09_operand]
  dsimp only
  have hone : ∀ x : Tk, ts = [x] → idx (p ++ (ts ++ r)) (((p ++ ts).length : Int) - 1) = some x ∧ ¬ (((p ++ ts).length : Int) - 1 < 0) ∧ W ((((p ++ ts).length : Int) - 1) - 1) = (p.length : Int) - 1 := by
    intro x e
    subst e
    refine ⟨by rw [← List.append_assoc]; exact last_idx, by simp <;> omega, ?_⟩
    simp only [List.length_append, List.length_singleton] at hl ⊢
    rw [W_sm (by omega) (by omega)]; omega
  cases h with
  | name c w hL hw =>
    obtain ⟨hi, h0, w1⟩ := hone _ rfl
    simp only [h0, if_false, hi, bind_ok, if_true, w1]
  | nil =>
    obtain ⟨hi, h0, w1⟩ := hone _ rfl
    have k1 : ¬ ((gl [226, 141, 172]).kind = 1) := by decide
    have g1 : glyphO (some (gl [226, 141, 172])) (⟨#[226, 141, 172]⟩ : ByteArray) = true := by
      unfold glyphO gl
      have : (B [226, 141, 172] : ByteArray) = ⟨#[226, 141, 172]⟩ := rfl
      simp [this]
    simp only [h0, if_false, hi, bind_ok, k1, glyph_eq, g1, if_true, w1]
  | nums n ns hn =>
    rcases List.eq_nil_or_concat (n :: ns) with e | ⟨q, m, e⟩
    · cases e
    · rw [List.concat_eq_append] at e
      have e2 : numsT (n :: ns) = numsT q ++ [⟨2, B (dec m), m⟩] := by rw [e]; simp [numsT]
      have hi : idx (p ++ (numsT (n :: ns) ++ r)) (((p ++ numsT (n :: ns)).length : Int) - 1) = some (⟨2, B (dec m), m⟩ : Tk) := by
        rw [e2]
        have := last_idx (p := p ++ numsT q) (r := r) (x := (⟨2, B (dec m), m⟩ : Tk))
        simpa using this
      have h0 : ¬ (((p ++ numsT (n :: ns)).length : Int) - 1 < 0) := by simp [numsT]; omega
      have k1 : ¬ ((2 : Int) = 1) := by decide
      have hlen : (n :: ns).length ≤ 65536 := by simp [numsT] at hl; simp <;> omega
      have hN := nums_loop (n :: ns) p r [] hp hl (by simp at hlen ⊢; omega)
      rw [List.append_nil] at hN
      simp only [h0, if_false, hi, bind_ok, k1, glyph_eq, glyphO_kind (x := (⟨2, B (dec m), m⟩ : Tk)) (by show (2 : Int) ≠ 3; decide), Bool.false_eq_true, if_true, hN]
  | mon => exact absurd hk (by show ¬ ((3 : Int) ≤ 2); decide)
  | dyA => exact absurd hk (by show ¬ ((4 : Int) ≤ 2); decide)
  | dyP => exact absurd hk (by show ¬ ((4 : Int) ≤ 2); decide)
/-- the function of a node -/
theorem func_ok {f ax : Int} (h1 : 1 ≤ f) (h6 : f ≤ 6) (hax : ax = -1 ∨ (axF ax ∧ (f = 3 ∨ f = 6))) (hl : (p ++ (fnT f ax ++ r)).length ≤ 65536) : m_ref09_function (p ++ (fnT f ax ++ r), ((p ++ fnT f ax).length : Int) - 1) = some (f, ax, (p.length : Int) - 1, true) := by
  have hv : fnV (gl (gB f)) = f := by
    have : f = 1 ∨ f = 2 ∨ f = 3 ∨ f = 4 ∨ f = 5 ∨ f = 6 := by omega
    rcases this with h | h | h | h | h | h <;> rw [h] <;> simp [fnV, gl, gB, B_inj]
  unfold m_ref09_function
  dsimp only
  simp only [glyph_eq, bind_ok, fn_eq]
  by_cases ha : ax ≥ 0
  · have hx : axF ax ∧ (f = 3 ∨ f = 6) := by
      rcases hax with h | h
      · omega
      · exact h
    have e : fnT f ax = [gl (gB f)] ++ ([gl [91]] ++ ([(⟨2, B (digsF 19 ax.natAbs), ax⟩ : Tk)] ++ [gl [93]])) := by unfold fnT axT; rw [if_pos ha]; rfl
    rw [e] at hl ⊢
    simp only [List.length_append, List.length_singleton] at hl
    have n1 : (((p ++ ([gl (gB f)] ++ ([gl [91]] ++ ([(⟨2, B (digsF 19 ax.natAbs), ax⟩ : Tk)] ++ [gl [93]])))).length : Int) - 1) = (p.length : Int) + 3 := by simp <;> omega
    rw [n1]
    have i3 : idx (p ++ (([gl (gB f)] ++ ([gl [91]] ++ ([(⟨2, B (digsF 19 ax.natAbs), ax⟩ : Tk)] ++ [gl [93]]))) ++ r)) ((p.length : Int) + 3) = some (gl [93]) := by
      have := last_idx (p := p ++ [gl (gB f)] ++ [gl [91]] ++ [(⟨2, B (digsF 19 ax.natAbs), ax⟩ : Tk)]) (r := r) (x := gl [93])
      rw [show (((p ++ [gl (gB f)] ++ [gl [91]] ++ [(⟨2, B (digsF 19 ax.natAbs), ax⟩ : Tk)] ++ [gl [93]]).length : Int) - 1) = (p.length : Int) + 3 by simp <;> omega] at this
      simpa using this
    have i2 : idx (p ++ (([gl (gB f)] ++ ([gl [91]] ++ ([(⟨2, B (digsF 19 ax.natAbs), ax⟩ : Tk)] ++ [gl [93]]))) ++ r)) ((p.length : Int) + 2) = some (⟨2, B (digsF 19 ax.natAbs), ax⟩ : Tk) := by
      have := last_idx (p := p ++ [gl (gB f)] ++ [gl [91]]) (r := [gl [93]] ++ r) (x := (⟨2, B (digsF 19 ax.natAbs), ax⟩ : Tk))
      rw [show (((p ++ [gl (gB f)] ++ [gl [91]] ++ [(⟨2, B (digsF 19 ax.natAbs), ax⟩ : Tk)]).length : Int) - 1) = (p.length : Int) + 2 by simp <;> omega] at this
      simpa using this
    have i1 : idx (p ++ (([gl (gB f)] ++ ([gl [91]] ++ ([(⟨2, B (digsF 19 ax.natAbs), ax⟩ : Tk)] ++ [gl [93]]))) ++ r)) ((p.length : Int) + 1) = some (gl [91]) := by
      have := last_idx (p := p ++ [gl (gB f)]) (r := [(⟨2, B (digsF 19 ax.natAbs), ax⟩ : Tk)] ++ [gl [93]] ++ r) (x := gl [91])
      rw [show (((p ++ [gl (gB f)] ++ [gl [91]]).length : Int) - 1) = (p.length : Int) + 1 by simp <;> omega] at this
      simpa using this
    have i0 : idx (p ++ (([gl (gB f)] ++ ([gl [91]] ++ ([(⟨2, B (digsF 19 ax.natAbs), ax⟩ : Tk)] ++ [gl [93]]))) ++ r)) (p.length : Int) = some (gl (gB f)) := by
      have := last_idx (p := p) (r := [gl [91]] ++ [(⟨2, B (digsF 19 ax.natAbs), ax⟩ : Tk)] ++ [gl [93]] ++ r) (x := gl (gB f))
      rw [show (((p ++ [gl (gB f)]).length : Int) - 1) = (p.length : Int) by simp] at this
      simpa using this
    have g93 : glyphO (some (gl [93])) (⟨#[93]⟩ : ByteArray) = true := by
      have : (B [93] : ByteArray) = ⟨#[93]⟩ := rfl
      simp [glyphO, gl, this]
    have g91 : glyphO (some (gl [91])) (⟨#[91]⟩ : ByteArray) = true := by
      have : (B [91] : ByteArray) = ⟨#[91]⟩ := rfl
      simp [glyphO, gl, this]
    have hn3 : ¬ ((p.length : Int) + 3 < 3) := by omega
    have w1 : W ((p.length : Int) + 3 - 1) = (p.length : Int) + 2 := by rw [W_sm (by omega) (by omega)]; omega
    have w2 : W ((p.length : Int) + 3 - 2) = (p.length : Int) + 1 := by rw [W_sm (by omega) (by omega)]; omega
    have w3 : W ((p.length : Int) + 3 - 3) = (p.length : Int) := by rw [W_sm (by omega) (by omega)]; omega
    have w4 : W ((p.length : Int) - 1) = (p.length : Int) - 1 := W_sm (by omega) (by omega)
    have hx0 : ¬ (ax < 0) := by omega
    have hx15 : ¬ (ax > 15) := by have := hx.1.2; omega
    have hp0 : ¬ ((p.length : Int) < 0) := by omega
    have hf0 : (f == 0) = false := by simp <;> omega
    simp only [i3, g93, if_true, hn3, if_false, w1, w2, w3, w4, i2, i1, i0, g91, bind_ok, hv, hx0, hx15, hp0, hf0, ha, decide_false, bne_self_eq_false, Bool.false_eq_true, Bool.not_true, ite_b]
    rcases hx.2 with h | h <;> simp [h]
  · have e : fnT f ax = [gl (gB f)] := by unfold fnT axT; rw [if_neg ha]
    have hax' : ax = -1 := by
      rcases hax with h | h
      · exact h
      · exact absurd h.1.1 (by omega)
    rw [e] at hl ⊢
    simp only [List.length_append, List.length_singleton] at hl
    have n1 : (((p ++ [gl (gB f)]).length : Int) - 1) = (p.length : Int) := by simp
    have i0 : idx (p ++ ([gl (gB f)] ++ r)) (p.length : Int) = some (gl (gB f)) := mid_idx
    have g93 : glyphO (some (gl (gB f))) (⟨#[93]⟩ : ByteArray) = false := by
      have hne : gB f ≠ [93] := by
        have : f = 1 ∨ f = 2 ∨ f = 3 ∨ f = 4 ∨ f = 5 ∨ f = 6 := by omega
        rcases this with h | h | h | h | h | h <;> rw [h] <;> decide
      have h93 : (⟨#[93]⟩ : ByteArray) = B [93] := rfl
      unfold glyphO gl
      rw [h93]
      simp [B_inj, hne]
    have w4 : W ((p.length : Int) - 1) = (p.length : Int) - 1 := W_sm (by omega) (by omega)
    have hp0 : ¬ ((p.length : Int) < 0) := by omega
    have hf0 : (f == 0) = false := by simp <;> omega
    rw [n1]
    simp only [i0, g93, Bool.false_eq_true, if_false, hp0, bind_ok, hv, hf0, w4, hax']
end
/-- tokens in balance -/
theorem open_skip {p r : List Tk} {x : Tk} {n : Int} (hx : x.text ≠ B [40] ∨ x.kind ≠ 3) (hx2 : x.text ≠ B [41] ∨ x.kind ≠ 3) (hn : 1 ≤ n) (hl : (p ++ ([x] ++ r)).length ≤ 65536) :
    m_ref09_open_L1 (p ++ ([x] ++ r), n, ((p ++ [x]).length : Int) - 1) = m_ref09_open_L1 (p ++ ([x] ++ r), n, (p.length : Int) - 1) := by
  rw [m_ref09_open_L1]
  have n1 : (((p ++ [x]).length : Int) - 1) = (p.length : Int) := by simp
  have i0 : idx (p ++ ([x] ++ r)) (p.length : Int) = some x := mid_idx
  have h40 : (⟨#[40]⟩ : ByteArray) = B [40] := rfl
  have h41 : (⟨#[41]⟩ : ByteArray) = B [41] := rfl
  have g1 : glyphO (some x) (B [40]) = false := by
    unfold glyphO; simp only [Bool.and_eq_false_iff, decide_eq_false_iff_not]; exact hx.symm
  have g2 : glyphO (some x) (B [41]) = false := by
    unfold glyphO; simp only [Bool.and_eq_false_iff, decide_eq_false_iff_not]; exact hx2.symm
  have h0 : (p.length : Int) ≥ 0 := by omega
  simp only [List.length_append] at hl
  have w : W ((p.length : Int) - 1) = (p.length : Int) - 1 := W_sm (by omega) (by omega)
  have hn0 : ¬ (n = 0) := by omega
  rw [n1]
  simp only [h0, if_true, glyph_eq, i0, h40, h41, g1, g2, Bool.false_eq_true, if_false, bind_ok, hn0, w]
end Go.Proofs.Tryd
namespace Go.Proofs.Tryd
open Go Go.Pm
set_option linter.unusedVariables false
set_option linter.unusedSimpArgs false
set_option maxRecDepth 2000
theorem run0 {t : T_api_Tree} (hk : t.kids = []) : m_simplify_simplified_L1 (t, 0, [], 0) = some (0, []) := by
  rw [m_simplify_simplified_L1]
  simp [hk]
theorem run1 {t k s : T_api_Tree} {c : Nat} (hc : c ≤ 1000) (hk : t.kids = [k]) (e : m_simplify_simplified k = some (s, (c : Int))) : m_simplify_simplified_L1 (t, 0, [], 0) = some ((c : Int), [s]) := by
  have w1 : W (0 + (c : Int)) = (c : Int) := by rw [W_ok (by omega) (by omega)]; omega
  have w2 : W (0 + 1) = 1 := by decide
  have ea : app 88 ([] : List T_api_Tree) [s] = some [s] := room_app (by simp) (by omega)
  rw [m_simplify_simplified_L1]
  simp only [hk, show (0 : Int) < (([k] : List T_api_Tree).length : Int) by simp, if_true, idx0 rfl, bind_ok, e, ea, w1, w2]
  rw [m_simplify_simplified_L1]
  simp [hk]
theorem run2 {t l k sl s : T_api_Tree} {cl c : Nat} (hc : c ≤ 1000) (hcl : cl ≤ 1000) (hk : t.kids = [l, k]) (el : m_simplify_simplified l = some (sl, (cl : Int))) (e : m_simplify_simplified k = some (s, (c : Int))) : m_simplify_simplified_L1 (t, 0, [], 0) = some (((cl + c : Nat) : Int), [sl, s]) := by
  have w1 : W (0 + (cl : Int)) = (cl : Int) := by rw [W_ok (by omega) (by omega)]; omega
  have w2 : W (0 + 1) = 1 := by decide
  have w3 : W (1 + 1) = 2 := by decide
  have w4 : W ((cl : Int) + (c : Int)) = ((cl + c : Nat) : Int) := W_add (by omega)
  have ea : app 88 ([] : List T_api_Tree) [sl] = some [sl] := room_app (by simp) (by omega)
  have eb : app 88 [sl] [s] = some [sl, s] := room_app (by simp) (by omega)
  rw [m_simplify_simplified_L1]
  simp only [hk, show (0 : Int) < (([l, k] : List T_api_Tree).length : Int) by simp, if_true, idx20 rfl, bind_ok, el, ea, w1, w2]
  rw [m_simplify_simplified_L1]
  simp only [hk, show (1 : Int) < (([l, k] : List T_api_Tree).length : Int) by simp, if_true, idx21 rfl, bind_ok, e, eb, w3, w4]
  rw [m_simplify_simplified_L1]
  simp [hk]
def out12 (s : T_api_Tree) (c : Int) : Option (Int × Int × Int × ByteArray × (List Int) × (List T_api_Tree) × Int × Int × Int × ByteArray × (List Int) × (List T_api_Tree) × Int) :=
  some (s.kind, s.fn, s.axis, s.name, s.nums, s.kids, s.kind, s.fn, s.axis, s.name, s.nums, s.kids, c)
theorem stop2 {u : T_api_Tree} {ks : List T_api_Tree} {c : Int} (e : m_simplify_once u = some (u, 0)) : m_simplify_simplified_L2 (ks, u.kind, u.fn, u.axis, u.name, u.nums, u.kids, c) = out12 u c := by
  rw [m_simplify_simplified_L2]
  simp only [etaT, e, bind_ok, if_true, out12]
theorem go2 {u v : T_api_Tree} {n : Int} {ks : List T_api_Tree} {c : Int} (e : m_simplify_once u = some (v, n)) (h : n ≠ 0) : m_simplify_simplified_L2 (ks, u.kind, u.fn, u.axis, u.name, u.nums, u.kids, c) = m_simplify_simplified_L2 (ks, v.kind, v.fn, v.axis, v.name, v.nums, v.kids, W (c + 1)) := by
  rw [m_simplify_simplified_L2]
  simp only [etaT, e, bind_ok, h, if_false]
theorem simp_run {t s : T_api_Tree} {ks : List T_api_Tree} {c c' : Int} (l1 : m_simplify_simplified_L1 (t, 0, [], 0) = some (c, ks)) (l2 : m_simplify_simplified_L2 (ks, t.kind, t.fn, t.axis, t.name, t.nums, ks, c) = out12 s c') : m_simplify_simplified t = some (s, c') := by
  rw [m_simplify_simplified]
  simp only [l1, bind_ok, l2, out12, etaT]
def aX : T_api_Tree := ⟨2, 0, -1, ⟨#[120]⟩, [], []⟩
def aL : T_api_Tree := ⟨1, 0, -1, ByteArray.empty, [2, 3], []⟩
def aRV : T_api_Tree := ⟨3, 6, -1, ByteArray.empty, [], [aX]⟩
def aRS : T_api_Tree := ⟨4, 5, -1, ByteArray.empty, [], [aL, aRV]⟩
def aRS' : T_api_Tree := ⟨4, 5, -1, ByteArray.empty, [], [aL, aX]⟩
def aM2 : T_api_Tree := ⟨3, 3, -1, ByteArray.empty, [], [aRS]⟩
def aM2' : T_api_Tree := ⟨3, 3, -1, ByteArray.empty, [], [aRS']⟩
def aM1 : T_api_Tree := ⟨3, 3, -1, ByteArray.empty, [], [aM2]⟩
def aM1' : T_api_Tree := ⟨3, 3, -1, ByteArray.empty, [], [aM2']⟩
theorem oX : m_simplify_once aX = some (aX, 0) := by kernel_rfl
theorem oL : m_simplify_once aL = some (aL, 0) := by kernel_rfl
theorem oRV : m_simplify_once aRV = some (aRV, 0) := by kernel_rfl
theorem oRS : m_simplify_once aRS = some (aRS', 4) := by kernel_rfl
theorem oRS' : m_simplify_once aRS' = some (aRS', 0) := by kernel_rfl
theorem oM2 : m_simplify_once aM2' = some (aM2', 0) := by kernel_rfl
theorem oM1 : m_simplify_once aM1 = some (aRS, 1) := by kernel_rfl
theorem oM1' : m_simplify_once aM1' = some (aRS', 1) := by kernel_rfl
theorem sX : m_simplify_simplified aX = some (aX, ((0 : Nat) : Int)) := simp_run (t := aX) (run0 rfl) (stop2 oX)
theorem sL : m_simplify_simplified aL = some (aL, ((0 : Nat) : Int)) := simp_run (t := aL) (run0 rfl) (stop2 oL)
theorem sRV : m_simplify_simplified aRV = some (aRV, ((0 : Nat) : Int)) := simp_run (t := aRV) (run1 (by omega) rfl sX) (stop2 oRV)
theorem sRS : m_simplify_simplified aRS = some (aRS', ((1 : Nat) : Int)) := simp_run (t := aRS) (run2 (by omega) (by omega) rfl sL sRV) ((go2 (u := aRS) oRS (by decide)).trans (stop2 (u := aRS') oRS'))
theorem sRS' : m_simplify_simplified aRS' = some (aRS', ((0 : Nat) : Int)) := simp_run (t := aRS') (run2 (by omega) (by omega) rfl sL sX) (stop2 (u := aRS') oRS')
theorem sM2 : m_simplify_simplified aM2 = some (aM2', ((1 : Nat) : Int)) := simp_run (t := aM2) (run1 (by omega) rfl sRS) (stop2 (u := aM2') oM2)
theorem sM1 : m_simplify_simplified aM1 = some (aRS', ((2 : Nat) : Int)) := simp_run (t := aM1) (run1 (by omega) rfl sM2) ((go2 (u := aM1') oM1' (by decide)).trans (stop2 (u := aRS') oRS'))
theorem awake_of (text1 : m_ref09_Text (⟨#[226, 140, 189, 226, 140, 189, 50, 32, 51, 226, 141, 180, 44, 120]⟩ : ByteArray) = some (aM1, 0)) (text2 : m_ref09_Text (⟨#[50, 32, 51, 226, 141, 180, 120]⟩ : ByteArray) = some (aRS', 0)) : m_law29_awake () = some true := by
  have c1 : m_tree_Copy aRS = some aRS := copy_ok aRS (by simp [aRS, aL, aRV, aX, szT, szTs]) (by simp [aRS, aL, aRV, aX, numT, numTs])
  have c2 : m_tree_Copy aRS' = some aRS' := copy_ok aRS' (by simp [aRS', aL, aRV, aX, szT, szTs]) (by simp [aRS', aL, aRV, aX, numT, numTs])
  have c3 : m_ref08_Same (aRS', aRS') = some true := same_self aRS' (by simp [aRS', aL, aRV, aX, szT, szTs]) (by simp [aRS', aL, aRV, aX, numT, numTs])
  have k : aRS.kind = 4 := rfl
  unfold m_law29_awake m_simplify_Rule m_simplify_Simplify m_simplify_Count
  simp only [text1, text2, bind_ok, etaT, oM1, c1, sM1, c2, c3, sRS', k, if_true, beq_self_eq_true]
  rfl
theorem few_of {s t : T_api_Tree} {c : Nat} (h : fewT t) (h1 : szT s + c ≤ szT t) (h2 : numT s ≤ numT t) (h3 : depT s ≤ depT t) : fewT s := by
  unfold fewT at h ⊢
  omega
/-- what the law needs of a tree that is right, with few nodes -/
theorem ends {t : T_api_Tree} (h : fewT t) (hg : good t) (hn : namesOk t) : ∃ s c, simpR t s c ∧ m_simplify_Simplify t = some s ∧ m_ref08_Same (s, s) = some true ∧ fewT s := by
  obtain ⟨s, c, r⟩ := simp_ok 300 t h.1 (by omega) hg hn
  have hs := few_of h r.sz r.num r.dep
  have e1 := copy_ok s (by have := hs.1; omega) (by have := hs.2.2; omega)
  refine ⟨s, c, r, ?_, same_self s (by have := hs.1; omega) (by have := hs.2.2; omega), hs⟩
  unfold m_simplify_Simplify
  simp only [r.e1, bind_ok, e1]
end Go.Proofs.Tryd
namespace Go.Proofs.Tryd
open Go Go.Pm
set_option linter.unusedVariables false
set_option linter.unusedSimpArgs false
set_option maxRecDepth 2000
def BAL (ts : List Tk) : Prop := ∀ (p r : List Tk) (n : Int), 1 ≤ n → n + (ts.length : Int) ≤ 200000 → (p ++ (ts ++ r)).length ≤ 65536 →
  m_ref09_open_L1 (p ++ (ts ++ r), n, ((p ++ ts).length : Int) - 1) = m_ref09_open_L1 (p ++ (ts ++ r), n, (p.length : Int) - 1)
theorem BAL_nil : BAL [] := by intro p r n _ _ _; simp
theorem BAL_app {a b : List Tk} (ha : BAL a) (hb : BAL b) : BAL (a ++ b) := by
  intro p r n h1 h2 h3
  rw [List.length_append] at h2
  have e1 := hb (p ++ a) r n h1 (by omega) (by simpa using h3)
  have e2 := ha p (b ++ r) n h1 (by omega) (by simpa using h3)
  have q1 : p ++ a ++ (b ++ r) = p ++ (a ++ b ++ r) := by simp
  have q2 : p ++ (a ++ (b ++ r)) = p ++ (a ++ b ++ r) := by simp
  have q3 : p ++ a ++ b = p ++ (a ++ b) := by simp
  rw [q1, q3] at e1
  rw [q2] at e2
  rw [e1, e2]
theorem BAL_all : ∀ (ts : List Tk), (∀ x ∈ ts, (x.text ≠ B [40] ∨ x.kind ≠ 3) ∧ (x.text ≠ B [41] ∨ x.kind ≠ 3)) → BAL ts
  | [], _ => BAL_nil
  | x :: ts, h => by
    have e : x :: ts = [x] ++ ts := rfl
    rw [e]
    refine BAL_app (fun p r n h1 h2 h3 => open_skip (h x (by simp)).1 (h x (by simp)).2 h1 h3) (BAL_all ts (fun y hy => h y (by simp [hy])))
theorem BAL_close {p r : List Tk} {n : Int} (hn : 0 ≤ n) (hn2 : n ≤ 200000) (hl : (p ++ ([gl [41]] ++ r)).length ≤ 65536) :
    m_ref09_open_L1 (p ++ ([gl [41]] ++ r), n, ((p ++ [gl [41]]).length : Int) - 1) = m_ref09_open_L1 (p ++ ([gl [41]] ++ r), n + 1, (p.length : Int) - 1) := by
  rw [m_ref09_open_L1]
  have n1 : (((p ++ [gl [41]]).length : Int) - 1) = (p.length : Int) := by simp
  have i0 : idx (p ++ ([gl [41]] ++ r)) (p.length : Int) = some (gl [41]) := mid_idx
  have h40 : (⟨#[40]⟩ : ByteArray) = B [40] := rfl
  have h41 : (⟨#[41]⟩ : ByteArray) = B [41] := rfl
  have g1 : glyphO (some (gl [41])) (B [40]) = false := by simp [glyphO, gl, B_inj]
  have g2 : glyphO (some (gl [41])) (B [41]) = true := by simp [glyphO, gl]
  have h0 : (p.length : Int) ≥ 0 := by omega
  simp only [List.length_append] at hl
  have w : W ((p.length : Int) - 1) = (p.length : Int) - 1 := W_sm (by omega) (by omega)
  have w1 : W (n + 1) = n + 1 := W_ok (by omega) (by omega)
  have hn0 : ¬ (n + 1 = 0) := by omega
  rw [n1]
  simp only [h0, if_true, glyph_eq, i0, h40, h41, g1, g2, Bool.false_eq_true, if_false, bind_ok, hn0, w, w1]
theorem BAL_open {p r : List Tk} {n : Int} (hn : 2 ≤ n) (hn2 : n ≤ 200000) (hl : (p ++ ([gl [40]] ++ r)).length ≤ 65536) :
    m_ref09_open_L1 (p ++ ([gl [40]] ++ r), n, ((p ++ [gl [40]]).length : Int) - 1) = m_ref09_open_L1 (p ++ ([gl [40]] ++ r), n - 1, (p.length : Int) - 1) := by
  rw [m_ref09_open_L1]
  have n1 : (((p ++ [gl [40]]).length : Int) - 1) = (p.length : Int) := by simp
  have i0 : idx (p ++ ([gl [40]] ++ r)) (p.length : Int) = some (gl [40]) := mid_idx
  have h40 : (⟨#[40]⟩ : ByteArray) = B [40] := rfl
  have h41 : (⟨#[41]⟩ : ByteArray) = B [41] := rfl
  have g1 : glyphO (some (gl [40])) (B [40]) = true := by simp [glyphO, gl]
  have g2 : glyphO (some (gl [40])) (B [41]) = false := by simp [glyphO, gl, B_inj]
  have h0 : (p.length : Int) ≥ 0 := by omega
  simp only [List.length_append] at hl
  have w : W ((p.length : Int) - 1) = (p.length : Int) - 1 := W_sm (by omega) (by omega)
  have w1 : W (n - 1) = n - 1 := W_ok (by omega) (by omega)
  have hn0 : ¬ (n - 1 = 0) := by omega
  rw [n1]
  simp only [h0, if_true, glyph_eq, i0, h40, h41, g1, g2, Bool.false_eq_true, if_false, bind_ok, hn0, w, w1]
theorem BAL_last {p r : List Tk} (hl : (p ++ ([gl [40]] ++ r)).length ≤ 65536) :
    m_ref09_open_L1 (p ++ ([gl [40]] ++ r), 1, ((p ++ [gl [40]]).length : Int) - 1) = some (.inl (p.length : Int)) := by
  rw [m_ref09_open_L1]
  have n1 : (((p ++ [gl [40]]).length : Int) - 1) = (p.length : Int) := by simp
  have i0 : idx (p ++ ([gl [40]] ++ r)) (p.length : Int) = some (gl [40]) := mid_idx
  have h40 : (⟨#[40]⟩ : ByteArray) = B [40] := rfl
  have h41 : (⟨#[41]⟩ : ByteArray) = B [41] := rfl
  have g1 : glyphO (some (gl [40])) (B [40]) = true := by simp [glyphO, gl]
  have g2 : glyphO (some (gl [40])) (B [41]) = false := by simp [glyphO, gl, B_inj]
  have h0 : (p.length : Int) ≥ 0 := by omega
  have w1 : W (1 - 1) = 0 := by decide
  rw [n1]
  simp only [h0, if_true, glyph_eq, i0, h40, h41, g1, g2, Bool.false_eq_true, if_false, bind_ok, w1]
theorem BAL_paren {ts : List Tk} (h : BAL ts) : BAL ([gl [40]] ++ (ts ++ [gl [41]])) := by
  intro p r n h1 h2 h3
  simp only [List.length_append, List.length_singleton] at h2
  have e1 := BAL_close (p := p ++ [gl [40]] ++ ts) (r := r) (n := n) (by omega) (by omega) (by simpa using h3)
  have e2 := h (p ++ [gl [40]]) ([gl [41]] ++ r) (n + 1) (by omega) (by omega) (by simpa using h3)
  have e3 := BAL_open (p := p) (r := ts ++ ([gl [41]] ++ r)) (n := n + 1) (by omega) (by omega) (by simpa using h3)
  rw [show n + 1 - 1 = n by omega] at e3
  have q1 : p ++ [gl [40]] ++ ts ++ ([gl [41]] ++ r) = p ++ ([gl [40]] ++ (ts ++ [gl [41]]) ++ r) := by simp
  have q2 : p ++ [gl [40]] ++ (ts ++ ([gl [41]] ++ r)) = p ++ ([gl [40]] ++ (ts ++ [gl [41]]) ++ r) := by simp
  have q3 : p ++ ([gl [40]] ++ (ts ++ ([gl [41]] ++ r))) = p ++ ([gl [40]] ++ (ts ++ [gl [41]]) ++ r) := by simp
  have q4 : p ++ [gl [40]] ++ ts ++ [gl [41]] = p ++ ([gl [40]] ++ (ts ++ [gl [41]])) := by simp
  rw [q1, q4] at e1
  rw [q2] at e2
  rw [q3] at e3
  rw [e1, e2, e3]
theorem gB_ne (f : Int) : gB f ≠ [40] ∧ gB f ≠ [41] ∧ gB f ≠ [226, 141, 172] := by
  unfold gB
  repeat' split
  all_goals decide
theorem BAL_fn (f ax : Int) : BAL (fnT f ax) := by
  refine BAL_all _ (fun x hx => ?_)
  obtain ⟨h1, h2, _⟩ := gB_ne f
  unfold fnT axT at hx
  rcases List.mem_cons.1 hx with rfl | hx
  · simp [gl, B_inj, h1, h2]
  · split at hx
    · simp only [List.mem_cons, List.not_mem_nil, or_false] at hx
      rcases hx with rfl | rfl | rfl
      · simp [gl, B_inj]
      · exact ⟨Or.inr (by show (2 : Int) ≠ 3; decide), Or.inr (by show (2 : Int) ≠ 3; decide)⟩
      · simp [gl, B_inj]
    · cases hx
theorem BAL_shown {t : T_api_Tree} {b : List UInt8} {ts : List Tk} (h : Shown t b ts) : BAL ts := by
  induction h with
  | name c w hL hw =>
    refine BAL_all _ (fun x hx => ?_)
    rw [List.mem_singleton] at hx
    subst hx
    exact ⟨Or.inr (by show (1 : Int) ≠ 3; decide), Or.inr (by show (1 : Int) ≠ 3; decide)⟩
  | nil =>
    refine BAL_all _ (fun x hx => ?_)
    rw [List.mem_singleton] at hx
    subst hx
    simp [gl, B_inj]
  | nums n ns h =>
    refine BAL_all _ (fun x hx => ?_)
    obtain ⟨m, _, rfl⟩ := List.mem_map.1 hx
    exact ⟨Or.inr (by show (2 : Int) ≠ 3; decide), Or.inr (by show (2 : Int) ≠ 3; decide)⟩
  | mon f ax x b ts hf h ih => exact BAL_app (BAL_fn f ax) ih
  | dyA f ax x y bx by_ tx ty h1 h6 hax hk hx hy ihx ihy => exact BAL_app ihx (BAL_app (BAL_fn f ax) ihy)
  | dyP ax x y bx by_ tx ty hax hk hx hy ihx ihy =>
    have := BAL_app (BAL_paren ihx) (BAL_app (BAL_fn 6 ax) ihy)
    simpa using this
/-! parsing -/
def RUN (l : List Tk) (t : T_api_Tree) (n : Int) := m_ref09_Expr_L1 (true, l, t.kind, t.fn, t.axis, t.name, t.nums, t.kids, n)
theorem fin3_fn (p : List Tk) (f ax : Int) : fin3 (p ++ fnT f ax) := by
  intro x hx
  obtain ⟨_, h2, h3⟩ := gB_ne f
  unfold fnT axT at hx
  split at hx
  · simp at hx
    subst hx
    simp [gl, B_inj]
  · simp at hx
    subst hx
    simp [gl, B_inj, h2, h3]
theorem fnT_pos (f ax : Int) : 1 ≤ (fnT f ax).length := by unfold fnT; simp
theorem step_mon {l p r : List Tk} {f ax : Int} {x : T_api_Tree} (hl : l = p ++ (fnT f ax ++ r)) (hlen : l.length ≤ 65536) (hp : fin3 p) (hf : (f = 3 ∧ (ax = -1 ∨ axF ax)) ∨ ((f = 4 ∨ f = 6) ∧ ax = -1)) :
    RUN l x (((p ++ fnT f ax).length : Int) - 1) = RUN l ⟨3, f, ax, ByteArray.empty, [], [x]⟩ ((p.length : Int) - 1) := by
  have hax : ax = -1 ∨ (axF ax ∧ (f = 3 ∨ f = 6)) := by
    rcases hf with ⟨h1, h2 | h2⟩ | ⟨h1, h2⟩
    · exact Or.inl h2
    · exact Or.inr ⟨h2, Or.inl h1⟩
    · exact Or.inl h2
  have ef := func_ok (p := p) (r := r) (f := f) (ax := ax) (by omega) (by omega) hax (by rw [← hl]; exact hlen)
  obtain ⟨t0, j0, eo⟩ := opnd_none (p := p) (r := fnT f ax ++ r) hp (by rw [← hl]; exact hlen)
  rw [← hl] at ef eo
  have hpos := fnT_pos f ax
  have hge : decide (((p ++ fnT f ax).length : Int) - 1 ≥ 0) = true := by rw [decide_eq_true_eq, List.length_append]; omega
  have hb : (if ((p.length : Int) - 1) ≥ 0 then (if glyphO (idx l ((p.length : Int) - 1)) (⟨#[41]⟩ : ByteArray) = true then some true else idx l ((p.length : Int) - 1) >>= fun v640 => some (v640.kind != 3)) else some false) = some false := by
    rcases List.eq_nil_or_concat p with rfl | ⟨q, y, rfl⟩
    · exact if_neg (by decide)
    · rw [List.concat_eq_append] at *
      obtain ⟨h3, h41, hz⟩ := hp y (by simp)
      have hi := last_idx (p := q) (r := fnT f ax ++ r) (x := y)
      rw [← hl] at hi
      have h0 : (((q ++ [y]).length : Int) - 1 ≥ 0) := by simp <;> omega
      have g2 : glyphO (some y) (⟨#[41]⟩ : ByteArray) = false := by
        unfold glyphO; simp only [Bool.and_eq_false_iff, decide_eq_false_iff_not]; exact Or.inr h41
      simp only [h0, if_true, hi, g2, Bool.false_eq_true, if_false, bind_ok, h3]
      rfl
  unfold RUN
  rw [m_ref09_Expr_L1]
  simp only [if_true, hge, bind_ok, ef, Bool.true_eq_false, if_false, eo, Bool.false_eq_true, glyph_eq, hb, etaT]
  rcases hf with ⟨h1, h2⟩ | ⟨h1 | h1, h2⟩
  · have k6 : ¬ ((3 : Int) = 6) := by decide
    simp [h1, bind_ok]
  · simp [h1, bind_ok]
  · simp [h1, h2, bind_ok]
theorem step_dy {l q r : List Tk} {f ax j : Int} {x y : T_api_Tree} (hl : l = q ++ (fnT f ax ++ r)) (hlen : l.length ≤ 65536) (h1 : 1 ≤ f) (h6 : f ≤ 6) (hax : ax = -1 ∨ (axF ax ∧ (f = 3 ∨ f = 6))) (ho : m_ref09_operand (l, (q.length : Int) - 1) = some (x, j, true)) (hk : f = 6 ∨ x.kind ≤ 2) :
    RUN l y (((q ++ fnT f ax).length : Int) - 1) = RUN l ⟨4, f, ax, ByteArray.empty, [], [x, y]⟩ j := by
  have ef := func_ok (p := q) (r := r) h1 h6 hax (by rw [← hl]; exact hlen)
  rw [← hl] at ef
  have hpos := fnT_pos f ax
  have hge : decide (((q ++ fnT f ax).length : Int) - 1 ≥ 0) = true := by rw [decide_eq_true_eq, List.length_append]; omega
  have hb : (if f ≠ 6 then some (decide (x.kind > 2)) else some false) = some false := by
    rcases hk with h | h
    · simp [h]
    · by_cases h6 : f = 6
      · simp [h6]
      · rw [if_pos h6, decide_eq_false (by omega)]
  unfold RUN
  rw [m_ref09_Expr_L1]
  simp only [if_true, hge, bind_ok, ef, Bool.true_eq_false, if_false, ho, Bool.false_eq_true, hb, etaT]
theorem expr_of {ts : List Tk} {t t0 : T_api_Tree} {j0 : Int} (hlen : ts.length ≤ 65536) (e1 : m_ref09_operand (ts, (ts.length : Int) - 1) = some (t0, j0, true)) (e2 : RUN ts t0 j0 = RUN ts t (-1)) : m_ref09_Expr ts = some (t, true) := by
  rw [m_ref09_Expr]
  have w : W ((ts.length : Int) - 1) = (ts.length : Int) - 1 := W_sm (by omega) (by omega)
  have e3 : RUN ts t (-1) = some (.inr (.inr (t.kind, t.fn, t.axis, t.name, t.nums, t.kids))) := by
    unfold RUN
    rw [m_ref09_Expr_L1]
    rfl
  rw [e3] at e2
  unfold RUN at e2
  simp only [w, e1, bind_ok, e2, etaT]
theorem opnd_paren {p r tx : List Tk} {x : T_api_Tree} (hb : BAL tx) (hx : m_ref09_Expr tx = some (x, true)) (hl : (p ++ (([gl [40]] ++ (tx ++ [gl [41]])) ++ r)).length ≤ 65536) :
    m_ref09_operand (p ++ (([gl [40]] ++ (tx ++ [gl [41]])) ++ r), ((p ++ ([gl [40]] ++ (tx ++ [gl [41]]))).length : Int) - 1) = some (x, (p.length : Int) - 1, true) := by
  have hi := last_idx (p := p ++ [gl [40]] ++ tx) (r := r) (x := gl [41])
  have e1 := BAL_close (p := p ++ [gl [40]] ++ tx) (r := r) (n := 0) (by omega) (by omega) (by simpa using hl)
  have hlen := hl
  simp only [List.length_append, List.length_singleton] at hlen
  have e2 := hb (p ++ [gl [40]]) ([gl [41]] ++ r) 1 (by omega) (by omega) (by simpa using hl)
  have e3 := BAL_last (p := p) (r := tx ++ ([gl [41]] ++ r)) (by simpa using hl)
  have q0 : (p ++ [gl [40]] ++ tx ++ [gl [41]]) ++ r = p ++ ([gl [40]] ++ (tx ++ [gl [41]]) ++ r) := by simp
  have q1 : p ++ [gl [40]] ++ tx ++ ([gl [41]] ++ r) = p ++ ([gl [40]] ++ (tx ++ [gl [41]]) ++ r) := by simp
  have q2 : p ++ [gl [40]] ++ (tx ++ ([gl [41]] ++ r)) = p ++ ([gl [40]] ++ (tx ++ [gl [41]]) ++ r) := by simp
  have q3 : p ++ ([gl [40]] ++ (tx ++ ([gl [41]] ++ r))) = p ++ ([gl [40]] ++ (tx ++ [gl [41]]) ++ r) := by simp
  have q4 : p ++ [gl [40]] ++ tx ++ [gl [41]] = p ++ ([gl [40]] ++ (tx ++ [gl [41]])) := by simp
  rw [q0, q4] at hi
  rw [q1, q4] at e1
  rw [q2] at e2
  rw [q3] at e3
  rw [m_ref09_operand]
  dsimp only
  have n1 : ((p ++ ([gl [40]] ++ (tx ++ [gl [41]]))).length : Int) - 1 = ((p.length + 1 + tx.length : Nat) : Int) := by simp <;> omega
  have eo : m_ref09_open (p ++ ([gl [40]] ++ (tx ++ [gl [41]]) ++ r), ((p ++ ([gl [40]] ++ (tx ++ [gl [41]]))).length : Int) - 1) = some (p.length : Int) := by
    unfold m_ref09_open
    dsimp only
    rw [e1]
    rw [show (0 : Int) + 1 = 1 by rfl, e2, e3]
    rfl
  have h0 : ¬ (((p ++ ([gl [40]] ++ (tx ++ [gl [41]]))).length : Int) - 1 < 0) := by rw [n1]; omega
  have k1 : ¬ ((gl [41]).kind = 1) := by decide
  have k2 : ¬ ((gl [41]).kind = 2) := by decide
  have h41 : (⟨#[41]⟩ : ByteArray) = B [41] := rfl
  have hz : (⟨#[226, 141, 172]⟩ : ByteArray) = B [226, 141, 172] := rfl
  have g1 : glyphO (some (gl [41])) (B [226, 141, 172]) = false := by simp [glyphO, gl, B_inj]
  have g2 : glyphO (some (gl [41])) (B [41]) = true := by simp [glyphO, gl]
  have hp0 : ¬ ((p.length : Int) < 0) := by omega
  have w1 : W ((p.length : Int) + 1) = ((p.length + 1 : Nat) : Int) := by rw [W_sm (by omega) (by omega)]; omega
  have w2 : W ((p.length : Int) - 1) = (p.length : Int) - 1 := W_sm (by omega) (by omega)
  have es : sub (p ++ ([gl [40]] ++ (tx ++ [gl [41]]) ++ r)) ((p.length + 1 : Nat) : Int) (((p ++ ([gl [40]] ++ (tx ++ [gl [41]]))).length : Int) - 1) = some tx := by
    rw [n1, sub_ok (by omega) (by simp <;> omega)]
    congr 1
    have : p ++ ([gl [40]] ++ (tx ++ [gl [41]]) ++ r) = (p ++ [gl [40]]) ++ (tx ++ ([gl [41]] ++ r)) := by simp
    rw [this]
    have t1 : ((p ++ [gl [40]]) ++ (tx ++ ([gl [41]] ++ r))).take (p.length + 1 + tx.length) = (p ++ [gl [40]]) ++ tx := by
      rw [← List.append_assoc]; exact List.take_left' (by simp <;> omega)
    rw [t1]
    exact List.drop_left' (by simp)
  simp only [h0, if_false, hi, bind_ok, k1, k2, glyph_eq, h41, hz, g1, g2, Bool.false_eq_true, if_true, eo, hp0, w1, w2, es, hx]
theorem parse_shown {t : T_api_Tree} {b : List UInt8} {ts : List Tk} (h : Shown t b ts) : ∀ p : List Tk, fin3 p → (p ++ ts).length ≤ 65536 →
    ∃ t0 j0, m_ref09_operand (p ++ ts, ((p ++ ts).length : Int) - 1) = some (t0, j0, true) ∧ RUN (p ++ ts) t0 j0 = RUN (p ++ ts) t ((p.length : Int) - 1) := by
  have atom : ∀ {t : T_api_Tree} {b : List UInt8} {ts : List Tk}, Shown t b ts → t.kind ≤ 2 → ∀ p : List Tk, fin3 p → (p ++ ts).length ≤ 65536 →
    ∃ t0 j0, m_ref09_operand (p ++ ts, ((p ++ ts).length : Int) - 1) = some (t0, j0, true) ∧ RUN (p ++ ts) t0 j0 = RUN (p ++ ts) t ((p.length : Int) - 1) := by
    intro t b ts h hk p hp hl
    have e := opnd_atom (p := p) (r := []) h hk hp (by simpa using hl)
    rw [List.append_nil] at e
    exact ⟨_, _, e, rfl⟩
  induction h with
  | name c w hL hw => exact atom (Shown.name c w hL hw) (by show (2 : Int) ≤ 2; decide)
  | nil => exact atom Shown.nil (by show (1 : Int) ≤ 2; decide)
  | nums n ns h => exact atom (Shown.nums n ns h) (by show (1 : Int) ≤ 2; decide)
  | mon f ax x b ts hf h ih =>
    intro p hp hl
    obtain ⟨t0, j0, e1, e2⟩ := ih (p ++ fnT f ax) (fin3_fn p f ax) (by simpa using hl)
    have q : p ++ fnT f ax ++ ts = p ++ (fnT f ax ++ ts) := by simp
    rw [q] at e1 e2
    refine ⟨t0, j0, e1, ?_⟩
    rw [e2]
    exact step_mon rfl hl hp hf
  | dyA f ax x y bx by_ tx ty h1 h6 hax hk hx hy ihx ihy =>
    intro p hp hl
    obtain ⟨t0, j0, e1, e2⟩ := ihy (p ++ tx ++ fnT f ax) (fin3_fn _ f ax) (by simpa using hl)
    have q : p ++ tx ++ fnT f ax ++ ty = p ++ (tx ++ (fnT f ax ++ ty)) := by simp
    rw [q] at e1 e2
    refine ⟨t0, j0, e1, ?_⟩
    rw [e2]
    exact step_dy (q := p ++ tx) (r := ty) (by simp) hl h1 h6 hax (opnd_atom hx hk hp hl) (Or.inr hk)
  | dyP ax x y bx by_ tx ty hax hk hx hy ihx ihy =>
    intro p hp hl
    obtain ⟨t0, j0, e1, e2⟩ := ihy (p ++ ([gl [40]] ++ (tx ++ [gl [41]])) ++ fnT 6 ax) (fin3_fn _ 6 ax) (by simpa using hl)
    have q : p ++ ([gl [40]] ++ (tx ++ [gl [41]])) ++ fnT 6 ax ++ ty = p ++ ([gl [40]] ++ (tx ++ ([gl [41]] ++ (fnT 6 ax ++ ty)))) := by simp
    rw [q] at e1 e2
    refine ⟨t0, j0, e1, ?_⟩
    rw [e2]
    obtain ⟨t1, j1, e3, e4⟩ := ihx [] (by intro x hx; cases hx) (by simp at hl ⊢; omega)
    have ex := expr_of (t := x) (by simp at hl ⊢; omega) e3 e4
    have eo := opnd_paren (p := p) (r := fnT 6 ax ++ ty) (BAL_shown hx) ex (by simpa using hl)
    have q2 : p ++ ([gl [40]] ++ (tx ++ [gl [41]]) ++ (fnT 6 ax ++ ty)) = p ++ ([gl [40]] ++ (tx ++ ([gl [41]] ++ (fnT 6 ax ++ ty)))) := by simp
    rw [q2] at eo
    refine step_dy (q := p ++ ([gl [40]] ++ (tx ++ [gl [41]]))) (r := ty) (by simp) hl (by decide) (by decide) ?_ eo (Or.inl rfl)
    rcases hax with h | h
    · exact Or.inl h
    · exact Or.inr ⟨h, Or.inr rfl⟩
theorem Text_shown {t : T_api_Tree} {b : List UInt8} {ts : List Tk} (h : Shown t b ts) (hb : b.length ≤ 60000) (ht : ts.length ≤ 60000) (hs : szT t ≤ 100000) (hd : depT t ≤ 100) : m_ref09_Text (B b) = some (t, 0) := by
  have e1 := lex_ok h (by omega) ht
  obtain ⟨t0, j0, e2, e3⟩ := parse_shown h [] (by intro x hx; cases hx) (by simp; omega)
  rw [List.nil_append] at e2 e3
  have e4 := expr_of (t := t) (by omega) e2 e3
  have e5 := tdep_ok t hs
  have hdd : ¬ ((depT t : Int) > 100) := by omega
  unfold m_ref09_Text m_ref09_tokens
  simp only [e1, bind_ok, Bool.true_eq_false, if_false, e4, e5, hdd]
theorem shX : Shown aX [120] [⟨1, B [120], 0⟩] := Shown.name 120 [] (by decide) (by simp)
theorem shL : Shown aL (dec 2 ++ restB [3]) (numsT [2, 3]) := Shown.nums 2 [3] (by intro n hn; simp at hn; unfold i64; omega)
theorem shRV : Shown aRV (fnB 6 (-1) ++ [120]) (fnT 6 (-1) ++ [⟨1, B [120], 0⟩]) := Shown.mon 6 (-1) aX _ _ (Or.inr ⟨Or.inr rfl, rfl⟩) shX
theorem text1 : m_ref09_Text (⟨#[226, 140, 189, 226, 140, 189, 50, 32, 51, 226, 141, 180, 44, 120]⟩ : ByteArray) = some (aM1, 0) := by
  have h1 : Shown aRS _ _ := Shown.dyA 5 (-1) aL aRV _ _ _ _ (by decide) (by decide) (Or.inl rfl) (by decide) shL shRV
  have h2 : Shown aM2 _ _ := Shown.mon 3 (-1) aRS _ _ (Or.inl ⟨rfl, Or.inl rfl⟩) h1
  have h3 : Shown aM1 _ _ := Shown.mon 3 (-1) aM2 _ _ (Or.inl ⟨rfl, Or.inl rfl⟩) h2
  have hb : [226, 140, 189, 226, 140, 189, 50, 32, 51, 226, 141, 180, 44, 120] = (fnB 3 (-1) ++ (fnB 3 (-1) ++ ((dec 2 ++ restB [3]) ++ (fnB 5 (-1) ++ (fnB 6 (-1) ++ [120]))))) := by decide +kernel
  show m_ref09_Text (B [226, 140, 189, 226, 140, 189, 50, 32, 51, 226, 141, 180, 44, 120]) = _
  rw [hb]
  exact Text_shown h3 (by decide +kernel) (by decide +kernel) (by simp [aM1, aM2, aRS, aL, aRV, aX, szT, szTs]) (by simp [aM1, aM2, aRS, aL, aRV, aX, depT, depTs])
theorem text2 : m_ref09_Text (⟨#[50, 32, 51, 226, 141, 180, 120]⟩ : ByteArray) = some (aRS', 0) := by
  have h1 : Shown aRS' _ _ := Shown.dyA 5 (-1) aL aX _ _ _ _ (by decide) (by decide) (Or.inl rfl) (by decide) shL shX
  have hb : [50, 32, 51, 226, 141, 180, 120] = ((dec 2 ++ restB [3]) ++ (fnB 5 (-1) ++ [120])) := by decide +kernel
  show m_ref09_Text (B [50, 32, 51, 226, 141, 180, 120]) = _
  rw [hb]
  exact Text_shown h1 (by decide +kernel) (by decide +kernel) (by simp [aRS', aL, aX, szT, szTs]) (by simp [aRS', aL, aX, depT, depTs])
theorem awake_ok : m_law29_awake () = some true := awake_of text1 text2
theorem SimplifyTexts_ok (s : ByteArray) : m_law29_SimplifyTexts s = some true := by
  rw [← B_eta s]
  generalize s.data.toList = l
  obtain ⟨t, f, e, ht⟩ := Text_tot l
  unfold m_law29_SimplifyTexts
  simp only [e, bind_ok, awake_ok, Bool.true_eq_false, if_false, B_size, ite_b]
  by_cases hsz : (l.length : Int) > 300
  · simp [hsz]
  · by_cases hf : f = 0
    · obtain ⟨hg, hn, h1, h2, h3, h4⟩ := ht hf
      obtain ⟨s1, c1, r1, ea, es, hs1⟩ := ends (t := t) ⟨by omega, by omega, by omega⟩ hg hn
      obtain ⟨s2, c2, r2, ea2, es2, hs2⟩ := ends hs1 r1.gd r1.nm
      obtain ⟨rfl, rfl⟩ := r2.still r1.nrm
      have hnum : numT s2 ≤ szT s2 * 140737488351232 := by
        have := szT_pos s2
        have := hs1.2.2
        have : 1 * 140737488351232 ≤ szT s2 * 140737488351232 := Nat.mul_le_mul_right _ (by omega)
        omega
      obtain ⟨b, eb, hb⟩ := Small_ok s2 hnum r1.nm
      have hdep := r1.dep
      have hb' := hb.2 ⟨hs1, by omega, r1.gd⟩
      subst hb'
      have hwt := r1.wt
      obtain ⟨bs, ts, hsh, hb1, hb2⟩ := shown_of (szT s2) s2 (Nat.le_refl _) r1.gd r1.nm (by omega)
      have ep := print_ok hsh (by omega) (by omega)
      have et := Text_shown hsh (by omega) (by omega) (by have := hs1.1; omega) (by omega)
      subst hf
      simp only [hsz, decide_false, Bool.false_eq_true, if_false, bne_self_eq_false, ea, bind_ok, etaT, eb, Bool.true_eq_false, ep, et, if_true, ea2, es2]
    · have hfb : (f != 0) = true := by simp [hf]
      simp only [hsz, decide_false, Bool.false_eq_true, if_false, hfb, if_true]
end Go.Proofs.Tryd
namespace Go.Proofs.Tryd
open Go Go.Pm
set_option linter.unusedVariables false
set_option linter.unusedSimpArgs false
set_option maxHeartbeats 2000000
set_option maxRecDepth 2000
theorem ua9 : prog.underlying 9 = some TypeDesc.string := by kernel_rfl
theorem ua4 : prog.underlying 4 = some TypeDesc.bool := by kernel_rfl
theorem exists_map {α β : Type} {f : β → α} {p : β → Prop} : ∀ {L : List α}, (∀ x ∈ L, ∃ y, x = f y ∧ p y) → ∃ l : List β, L = l.map f ∧ ∀ y ∈ l, p y
  | [], _ => ⟨[], rfl, fun y h => by cases h⟩
  | x :: L, h => by
    obtain ⟨y, rfl, hy⟩ := h x (List.mem_cons_self ..)
    obtain ⟨l, rfl, hl⟩ := exists_map (fun x hx => h x (List.mem_cons_of_mem _ hx))
    exact ⟨y :: l, rfl, fun z hz => by
      rcases List.mem_cons.1 hz with rfl | hz
      · exact hy
      · exact hl z hz⟩
variable {B : Nat} {n : Nat} {cs : List Dat}
theorem tc9 (h : TyC prog B n 9 cs) : ∃ m : ByteArray, cs = [strD m] ∧ m.size ≤ B := by
  cases n with
  | zero => exact h.elim
  | succ n =>
    simp only [TyC, ua9] at h
    obtain ⟨m, rfl, hm⟩ := h
    exact ⟨m, rfl, hm⟩
theorem ty9 {d : Dat} (h : TyA prog B 9 d) : ∃ m : ByteArray, d = (strD m) ∧ (m.size ≤ B) := by
  obtain ⟨n, cs, h, hd⟩ := h
  obtain ⟨m, rfl, hm⟩ := tc9 h
  exact ⟨m, by rw [hd]; simp [elemD, aggB, ua9], hm⟩
def argTs : List TypeId := [9, 4]
theorem argTs_closed : closedTs prog argTs = true := by kernel_rfl
theorem laidOut : laidOutB prog = true := by kernel_rfl
theorem summ : SummOK prog env := fun f s h => by cases h
theorem mixed : prog.follows .mixedOrders = true := by kernel_rfl
/-- a call that comes to a value keeps it in the model -/
theorem pure_of {f : FuncId} {dss : List Dat} {p : PV} (ho : p.out = true) (h : PC prog env f (dss.map .dat) [] p []) : PureCall prog f dss p := by
  obtain ⟨N, hN⟩ := h
  exact pure_sound summ mixed (hN N (Nat.le_refl _)) ho
end Go.Proofs.Tryd
