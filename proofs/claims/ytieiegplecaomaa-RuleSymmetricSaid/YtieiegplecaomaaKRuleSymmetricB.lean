/-
  Models of functions, their walks, and plain laws.
-/
import Derived.Test.YtieiegplecaomaaPmLaw
import Derived.Test.YtieiegplecaomaaKRuleSymmetricA
namespace Go.Proofs.Try
open Go Go.Pm
set_option linter.unusedVariables false
set_option maxHeartbeats 2000000
set_option maxRecDepth 2000
def m_slices_IndexFunc_int64_int64_spec_Dimensions_1_L1 (x : ((List Int) × Int)) : Option (Int ⊕ Unit) :=
  match x with
  | (p0, v201) =>
  if v201 < (p0.length : Int) then
    idx p0 v201 >>= fun v602 =>
    m_spec_Dimensions_1 v602 >>= fun (v603 : Bool) =>
    if v603 = true then
      some (Sum.inl v201)
    else
    m_slices_IndexFunc_int64_int64_spec_Dimensions_1_L1 (p0, (W (v201 + 1)))
  else
  some (Sum.inr ())
  partial_fixpoint
def P_slices_IndexFunc_int64_int64_spec_Dimensions_1_L1 : ((List Int) × Int) → (Int ⊕ Unit) → Prop := fun x r => match x with
  | (p0, v201) => ∀ st, prune 0 ((firstRegion (codeAt [1, 0, 1, 0, 0] (bodyOf f104))).bind (env.hint 104).keepAt) st = ⟨kp 19 [(0, (.dat (.lst ((List.map intD) p0)))), (1, (.dat (.raw (.func (.func 85) #[] #[])))), (7, (intPV (p0.length : Int))), (8, (intPV v201))], []⟩ →
    RL prog env (env.hint 104) true (codeAt [1, 0, 1, 0, 0] (bodyOf f104)) 0 st (fun e s => match r with | .inl v601 => e = .ret ∧ ∃ d, s = ⟨sl d 19 [(4, (intPV v601))], []⟩ | .inr (_) => e = .exit 0 ∧ ∃ d, s = ⟨sl d 19 [], []⟩)
theorem w_slices_IndexFunc_int64_int64_spec_Dimensions_1_L1 : ∀ x r, m_slices_IndexFunc_int64_int64_spec_Dimensions_1_L1 x = some r → P_slices_IndexFunc_int64_int64_spec_Dimensions_1_L1 x r := by
  refine m_slices_IndexFunc_int64_int64_spec_Dimensions_1_L1.partial_correctness _ (fun m_slices_IndexFunc_int64_int64_spec_Dimensions_1_L1 w_slices_IndexFunc_int64_int64_spec_Dimensions_1_L1 x r hm => ?_)
  unfold P_slices_IndexFunc_int64_int64_spec_Dimensions_1_L1
  obtain ⟨p0, v201⟩ := x
  intro st hst
  refine RL_at hst ?_
  clear hst
  refine R_seq ?_
  refine R_G ?_
  refine G_run 1 ?_
  refine G_end ?_
  refine R_seq ?_
  refine R_ifp (p := v201 < (p0.length : Int)) (rfl) (fun hc => ?_) (fun hc => ?_)
  · replace hm := pos_inv hc hm
    refine R_skip ?_
    refine R_seq ?_
    refine R_block ?_
    refine R_seq ?_
    refine R_G ?_
    refine G_run 2 ?_
    refine G_end ?_
    refine R_seq ?_
    refine R_G ?_
    refine G_run 3 ?_
    obtain ⟨v602, hx, hm⟩ := bind_inv hm
    refine I_idx 1 intD p0 v201 v602 (es := (List.map intD) p0) (d := (intD v602)) rfl hx rfl rfl ?_
    refine G_run 1 ?_
    obtain ⟨v603, hx, hm⟩ := bind_inv hm
    have hq := w_spec_Dimensions_1 _ _ hx []
    refine G_callP hq ?_
    refine G_end ?_
    refine R_ifp (p := v603 = true) (bool_dec _) (fun hc => ?_) (fun hc => ?_)
    · replace hm := pos_inv hc hm
      refine R_seq ?_
      refine R_G ?_
      refine G_run 2 ?_
      refine G_end ?_
      refine R_ret ?_
      obtain rfl := inj1 hm
      exact ⟨rfl, cut_leaf (by kernel_rfl)⟩
    replace hm := neg_inv hc hm
    refine R_skip ?_
    refine R_G ?_
    refine G_run 2 ?_
    refine G_end ?_
    exact w_slices_IndexFunc_int64_int64_spec_Dimensions_1_L1 _ _ hm _ (by kernel_rfl)
  replace hm := neg_inv hc hm
  refine R_exit ?_
  obtain rfl := inj1 hm
  exact ⟨rfl, cut_leaf (by kernel_rfl)⟩
def m_slices_IndexFunc_int64_int64_spec_Dimensions_1 (x : (List Int)) : Option Int :=
  match x with
  | p0 =>
  (
  m_slices_IndexFunc_int64_int64_spec_Dimensions_1_L1 (p0, 0) >>= fun (out : Int ⊕ Unit) =>
  match out with
  | .inl v601 =>
    some v601
  | .inr (_) =>
    some (-1)
  )
def P_slices_IndexFunc_int64_int64_spec_Dimensions_1 : (List Int) → Int → Prop := fun x r => match x, r with
  | p0, r0 => ∀ H, PC prog env 104 ([(.lst ((List.map intD) p0)), (.raw (.func (.func 85) #[] #[]))].map .dat) H (intPV r0) H
theorem w_slices_IndexFunc_int64_int64_spec_Dimensions_1 : ∀ x r, m_slices_IndexFunc_int64_int64_spec_Dimensions_1 x = some r → P_slices_IndexFunc_int64_int64_spec_Dimensions_1 x r := by
  intro p0 r0 hm
  unfold m_slices_IndexFunc_int64_int64_spec_Dimensions_1 at hm
  unfold P_slices_IndexFunc_int64_int64_spec_Dimensions_1
  intro H
  refine PC_sx (ds := [(.lst ((List.map intD) p0)), (.raw (.func (.func 85) #[] #[]))]) (fn := f104) (by kernel_rfl) (by kernel_rfl) rfl ?_ (by kernel_rfl)
  refine R_seq ?_
  refine R_G ?_
  refine G_run 1 ?_
  refine G_end ?_
  refine R_seq ?_
  refine R_seq ?_
  refine R_G ?_
  refine G_run 1 ?_
  refine I_len intD p0 (es := (List.map intD) p0) rfl ?_
  refine G_run 1 ?_
  refine G_end ?_
  refine R_block ?_
  obtain ⟨out, hs, hm⟩ := bind_inv hm
  refine R_loop ?_
  rcases out with v601 | _
  · refine RL_use (w_slices_IndexFunc_int64_int64_spec_Dimensions_1_L1 _ _ hs) (by kernel_rfl) ?_
    clear hs
    intro e s hp
    obtain ⟨rfl, d, rfl⟩ := hp
    obtain rfl := inj1 hm
    exact ⟨trivial, fin_pure (by kernel_rfl)⟩
  · refine RL_use (w_slices_IndexFunc_int64_int64_spec_Dimensions_1_L1 _ _ hs) (by kernel_rfl) ?_
    clear hs
    intro e s hp
    obtain ⟨rfl, d, rfl⟩ := hp
    refine R_seq ?_
    refine R_G ?_
    refine G_run 1 ?_
    refine G_end ?_
    refine R_ret ?_
    obtain rfl := inj1 hm
    exact ⟨trivial, fin_pure (by kernel_rfl)⟩
end Go.Proofs.Try
namespace Go.Proofs.Try
open Go Go.Pm
set_option linter.unusedVariables false
set_option maxHeartbeats 2000000
set_option maxRecDepth 2000
def m_slices_ContainsFunc_int64_int64_spec_Dimensions_1 (x : (List Int)) : Option Bool :=
  match x with
  | p0 =>
  m_slices_IndexFunc_int64_int64_spec_Dimensions_1 p0 >>= fun (v1 : Int) =>
  some (decide (v1 ≥ 0))
def P_slices_ContainsFunc_int64_int64_spec_Dimensions_1 : (List Int) → Bool → Prop := fun x r => match x, r with
  | p0, r0 => ∀ H, PC prog env 84 ([(.lst ((List.map intD) p0)), (.raw (.func (.func 85) #[] #[]))].map .dat) H (boolPV r0) H
theorem w_slices_ContainsFunc_int64_int64_spec_Dimensions_1 : ∀ x r, m_slices_ContainsFunc_int64_int64_spec_Dimensions_1 x = some r → P_slices_ContainsFunc_int64_int64_spec_Dimensions_1 x r := by
  intro p0 r0 hm
  unfold m_slices_ContainsFunc_int64_int64_spec_Dimensions_1 at hm
  unfold P_slices_ContainsFunc_int64_int64_spec_Dimensions_1
  intro H
  refine PC_sx (ds := [(.lst ((List.map intD) p0)), (.raw (.func (.func 85) #[] #[]))]) (fn := f84) (by kernel_rfl) (by kernel_rfl) rfl ?_ (by kernel_rfl)
  refine R_seq ?_
  refine R_G ?_
  refine G_run 1 ?_
  refine G_end ?_
  refine R_seq ?_
  refine R_G ?_
  refine G_run 2 ?_
  obtain ⟨v1, hx, hm⟩ := bind_inv hm
  have hq := w_slices_IndexFunc_int64_int64_spec_Dimensions_1 _ _ hx []
  refine G_callP hq ?_
  refine G_run 2 ?_
  refine G_end ?_
  refine R_ret ?_
  obtain rfl := inj1 hm
  exact ⟨trivial, fin_pure (by kernel_rfl)⟩
end Go.Proofs.Try
namespace Go.Proofs.Try
open Go Go.Pm
set_option linter.unusedVariables false
set_option maxHeartbeats 2000000
set_option maxRecDepth 2000
def m_size_Dimension (x : Int) : Option (Int × Int) :=
  match x with
  | p0 =>
  if p0 < 0 then
    some (0, 6)
  else
  if p0 > 65536 then
    some (0, 7)
  else
  some (p0, 0)
def P_size_Dimension : Int → (Int × Int) → Prop := fun x r => match x, r with
  | p0, (r0, r1) => ∀ H, PC prog env 86 ([(intD p0)].map .dat) H (.tup [(intPV r0), (intPV r1)]) H
theorem w_size_Dimension : ∀ x r, m_size_Dimension x = some r → P_size_Dimension x r := by
  intro p0 r hm
  unfold m_size_Dimension at hm
  unfold P_size_Dimension
  obtain ⟨r0, r1⟩ := r
  intro H
  refine PC_sx (ds := [(intD p0)]) (fn := f86) (by kernel_rfl) (by kernel_rfl) rfl ?_ (by kernel_rfl)
  refine R_seq ?_
  refine R_G ?_
  refine G_run 2 ?_
  refine G_end ?_
  refine R_seq ?_
  refine R_block ?_
  refine R_seq ?_
  refine R_G ?_
  refine G_run 3 ?_
  refine G_end ?_
  refine R_ifp (p := p0 < 0) (rfl) (fun hc => ?_) (fun hc => ?_)
  · replace hm := pos_inv hc hm
    refine R_seq ?_
    refine R_G ?_
    refine G_run 2 ?_
    refine G_end ?_
    refine R_ret ?_
    obtain ⟨rfl, rfl⟩ := inj2 hm
    exact ⟨trivial, fin_pure (by kernel_rfl)⟩
  replace hm := neg_inv hc hm
  refine R_seq ?_
  refine R_G ?_
  refine G_run 3 ?_
  refine G_end ?_
  refine R_ifp (p := p0 > 65536) (rfl) (fun hc => ?_) (fun hc => ?_)
  · replace hm := pos_inv hc hm
    refine R_seq ?_
    refine R_G ?_
    refine G_run 2 ?_
    refine G_end ?_
    refine R_ret ?_
    obtain ⟨rfl, rfl⟩ := inj2 hm
    exact ⟨trivial, fin_pure (by kernel_rfl)⟩
  replace hm := neg_inv hc hm
  refine R_skip ?_
  refine R_seq ?_
  refine R_G ?_
  refine G_run 3 ?_
  refine G_end ?_
  refine R_ret ?_
  obtain ⟨rfl, rfl⟩ := inj2 hm
  exact ⟨trivial, fin_pure (by kernel_rfl)⟩
end Go.Proofs.Try
namespace Go.Proofs.Try
open Go Go.Pm
set_option linter.unusedVariables false
set_option maxHeartbeats 2000000
set_option maxRecDepth 2000
def m_spec_converted_int64_int_b1de0_L1 (x : ((List Int) × Bool × (List Int) × Int)) : Option ((Int × Nat) ⊕ (List Int)) :=
  match x with
  | (q0, q1, v201, v202) =>
  if v202 < (q0.length : Int) then
    idx q0 v202 >>= fun v604 =>
    m_size_Dimension v604 >>= fun ((v605, v606) : (Int × Int)) =>
    if v606 ≠ 0 then
      some (Sum.inl (v606, v201.length))
    else
    app 8 v201 ([v605] : List Int) >>= fun v607 =>
    m_spec_converted_int64_int_b1de0_L1 (q0, q1, v607, (W (v202 + 1)))
  else
  some (Sum.inr v201)
  partial_fixpoint
def P_spec_converted_int64_int_b1de0_L1 : ((List Int) × Bool × (List Int) × Int) → ((Int × Nat) ⊕ (List Int)) → Prop := fun x r => match x with
  | (q0, q1, v201, v202) => ∀ st, prune 2 ((firstRegion (codeAt [1, 1, 0, 1, 0, 0] (bodyOf f78))).bind (env.hint 78).keepAt) st = ⟨kp 35 [(1, (.dat (.raw (.func (.func 86) #[] #[])))), (6, (.vec 1 ((List.map intD) v201))), (14, (.dat (.lst ((List.map intD) q0)))), (15, (intPV (q0.length : Int))), (16, (intPV v202))], [(.box [(.dat (.lst ((List.map intD) q0))), (boolPV q1)]), (.tok 3 v201.length)]⟩ →
    RL prog env (env.hint 78) true (codeAt [1, 1, 0, 1, 0, 0] (bodyOf f78)) 2 st (fun e s => match r with | .inl (v601, v602) => e = .ret ∧ ∃ d, s = ⟨sl d 35 [(4, (.dat (.lst ((List.map intD) [])))), (5, (intPV v601))], [(.box [(.dat (.lst ((List.map intD) q0))), (boolPV q1)]), (.tok 3 v602)]⟩ | .inr (v603) => e = .exit 0 ∧ ∃ d, s = ⟨sl d 35 [(6, (.vec 1 ((List.map intD) v603)))], [(.box [(.dat (.lst ((List.map intD) q0))), (boolPV q1)]), (.tok 3 v603.length)]⟩)
theorem w_spec_converted_int64_int_b1de0_L1 : ∀ x r, m_spec_converted_int64_int_b1de0_L1 x = some r → P_spec_converted_int64_int_b1de0_L1 x r := by
  refine m_spec_converted_int64_int_b1de0_L1.partial_correctness _ (fun m_spec_converted_int64_int_b1de0_L1 w_spec_converted_int64_int_b1de0_L1 x r hm => ?_)
  unfold P_spec_converted_int64_int_b1de0_L1
  obtain ⟨q0, q1, v201, v202⟩ := x
  intro st hst
  refine RL_at hst ?_
  clear hst
  refine R_seq ?_
  refine R_G ?_
  refine G_run 1 ?_
  refine G_end ?_
  refine R_seq ?_
  refine R_ifp (p := v202 < (q0.length : Int)) (rfl) (fun hc => ?_) (fun hc => ?_)
  · replace hm := pos_inv hc hm
    refine R_skip ?_
    refine R_seq ?_
    refine R_block ?_
    refine R_seq ?_
    refine R_G ?_
    obtain ⟨v604, hx, hm⟩ := bind_inv hm
    refine I_idx 1 intD q0 v202 v604 (es := (List.map intD) q0) (d := (intD v604)) rfl hx rfl rfl ?_
    refine G_run 2 ?_
    refine G_end ?_
    refine R_seq ?_
    refine R_G ?_
    refine G_run 2 ?_
    obtain ⟨⟨v605, v606⟩, hx, hm⟩ := bind_inv hm
    have hq := w_size_Dimension _ _ hx []
    refine G_callP hq ?_
    refine G_run 5 ?_
    refine G_end ?_
    refine R_seq ?_
    refine R_seq ?_
    refine R_G ?_
    refine G_run 2 ?_
    refine G_end ?_
    refine R_ifp (p := v606 ≠ 0) (ne_dec _ _) (fun hc => ?_) (fun hc => ?_)
    · replace hm := pos_inv hc hm
      refine R_seq ?_
      refine R_G ?_
      refine G_run 3 ?_
      refine G_end ?_
      refine R_ret ?_
      obtain rfl := inj1 hm
      exact ⟨rfl, cut_leaf (by kernel_rfl)⟩
    replace hm := neg_inv hc hm
    refine R_skip ?_
    refine R_G ?_
    refine G_run 3 ?_
    obtain ⟨v607, hx, hm⟩ := bind_inv hm
    refine I_app 3 1 8 1 intD v201 ([v605] : List Int) v607 (xs := (List.map intD) v201) (es := (List.map intD) ([v605] : List Int)) (L := (List.map intD)) (fun _ => rfl) rfl rfl (fun _ => rfl) hx ?_
    refine G_run 1 ?_
    refine G_end ?_
    refine R_G ?_
    refine G_run 2 ?_
    refine G_end ?_
    exact w_spec_converted_int64_int_b1de0_L1 _ _ hm _ (by kernel_rfl)
  replace hm := neg_inv hc hm
  refine R_exit ?_
  obtain rfl := inj1 hm
  exact ⟨rfl, cut_leaf (by kernel_rfl)⟩
def m_spec_converted_int64_int_b1de0 (x : ((List Int) × Bool)) : Option ((Int × Nat) ⊕ (List Int)) :=
  match x with
  | (q0, q1) =>
  guardM (0 ≤ (q0.length : Int) ∧ (q0.length : Int) * (8 : Int) ≤ (room : Int) ∧ (q0.length : Int) ≤ 9223372036854775807) >>= fun (_ : Unit) =>
  (
  m_spec_converted_int64_int_b1de0_L1 (q0, q1, ([] : List Int), 0) >>= fun (out : (Int × Nat) ⊕ (List Int)) =>
  match out with
  | .inl (v601, v602) =>
    some (Sum.inl (v601, v602))
  | .inr (v603) =>
    some (Sum.inr v603)
  )
def P_spec_converted_int64_int_b1de0 : ((List Int) × Bool) → ((Int × Nat) ⊕ (List Int)) → Prop := fun x r => match x with
  | (q0, q1) => PC prog env 78 [(.dat (.lst ((List.map intD) q0))), (.dat (.raw (.func (.func 86) #[] #[])))] [(.box [(.dat (.lst ((List.map intD) q0))), (boolPV q1)])] (match r with | .inl (v5001, v5002) => (.tup [(.dat (.lst ((List.map intD) []))), (intPV v5001)]) | .inr (v5003) => (.tup [(.vec 1 ((List.map intD) v5003)), (intPV 0)])) (match r with | .inl (v5001, v5002) => [(.box [(.dat (.lst ((List.map intD) q0))), (boolPV q1)]), (.tok 3 v5002)] | .inr (v5003) => [(.box [(.dat (.lst ((List.map intD) q0))), (boolPV q1)]), (.tok 3 v5003.length)])
theorem w_spec_converted_int64_int_b1de0 : ∀ x r, m_spec_converted_int64_int_b1de0 x = some r → P_spec_converted_int64_int_b1de0 x r := by
  intro x r hm
  unfold m_spec_converted_int64_int_b1de0 at hm
  unfold P_spec_converted_int64_int_b1de0
  obtain ⟨q0, q1⟩ := x
  refine PC_sxB (fn := f78) (by kernel_rfl) (by kernel_rfl) rfl ?_
  refine R_seq ?_
  refine R_G ?_
  refine G_run 2 ?_
  refine G_end ?_
  refine R_seq ?_
  refine R_G ?_
  refine G_run 1 ?_
  refine I_len intD q0 (es := (List.map intD) q0) rfl ?_
  obtain ⟨_, hx, hm⟩ := bind_inv hm
  replace hx := guard_inv hx
  refine G_semH (v := .vec 1 []) (fun H => H ++ [.tok 3 0]) rfl (by kernel_rfl) ?_ ?_
  · intro K hk
    exact E_mkOwnN 1 (n := (q0.length : Int)) (j := 0) (os := []) (bytes := 8) (z := (intD 0)) hx (by kernel_rfl) (by kernel_rfl) (by kernel_rfl) (by kernel_rfl) (by kernel_rfl) (by kernel_rfl) rfl (by kernel_rfl) (by kernel_rfl) hk
  refine G_run 1 ?_
  refine G_end ?_
  refine R_seq ?_
  refine R_seq ?_
  refine R_G ?_
  refine G_run 1 ?_
  refine I_len intD q0 (es := (List.map intD) q0) rfl ?_
  refine G_run 1 ?_
  refine G_end ?_
  refine R_block ?_
  obtain ⟨out, hs, hm⟩ := bind_inv hm
  refine R_loop ?_
  rcases out with ⟨v601, v602⟩ | v603
  · refine RL_use (w_spec_converted_int64_int_b1de0_L1 _ _ hs) (by kernel_rfl) ?_
    clear hs
    intro e s hp
    obtain ⟨rfl, d, rfl⟩ := hp
    obtain rfl := inj1 hm
    exact ⟨trivial, fin_body (by kernel_rfl) (by kernel_rfl)⟩
  · refine RL_use (w_spec_converted_int64_int_b1de0_L1 _ _ hs) (by kernel_rfl) ?_
    clear hs
    intro e s hp
    obtain ⟨rfl, d, rfl⟩ := hp
    refine R_seq ?_
    refine R_G ?_
    refine G_run 3 ?_
    refine G_end ?_
    refine R_ret ?_
    obtain rfl := inj1 hm
    exact ⟨trivial, fin_body (by kernel_rfl) (by kernel_rfl)⟩
end Go.Proofs.Try
namespace Go.Proofs.Try
open Go Go.Pm
set_option linter.unusedVariables false
set_option maxHeartbeats 2000000
set_option maxRecDepth 2000
def m_spec_Dimensions (x : T_spec_Spec) : Option ((List Int) × Int) :=
  match x with
  | p0 =>
  m_slices_ContainsFunc_int64_int64_spec_Dimensions_1 p0.values >>= fun (v1 : Bool) =>
  if v1 = true then
    some (([] : (List Int)), 6)
  else
  (
  m_spec_converted_int64_int_b1de0 (p0.values, p0.scalar) >>= fun (out : (Int × Nat) ⊕ (List Int)) =>
  match out with
  | .inl (v2, v3) =>
    (if v2 = 0 then
      m_shape_Check ([] : (List Int)) >>= fun (v6 : Int) =>
      some v6
    else
    some v2
    ) >>= fun (v5 : Int) =>
    if v5 ≠ 0 then
      some (([] : (List Int)), v5)
    else
    some (([] : (List Int)), 0)
  | .inr (v4) =>
    m_shape_Check v4 >>= fun (v7 : Int) =>
    if v7 ≠ 0 then
      some (([] : (List Int)), v7)
    else
    some (v4, 0)
  )
def P_spec_Dimensions : T_spec_Spec → ((List Int) × Int) → Prop := fun x r => match x, r with
  | p0, (r0, r1) => ∀ H, PC prog env 50 ([(T_spec_Spec.toD p0)].map .dat) H (.tup [(.dat (.lst ((List.map intD) r0))), (intPV r1)]) H
theorem w_spec_Dimensions : ∀ x r, m_spec_Dimensions x = some r → P_spec_Dimensions x r := by
  intro p0 r hm
  unfold m_spec_Dimensions at hm
  unfold P_spec_Dimensions
  obtain ⟨r0, r1⟩ := r
  intro H
  refine PC_sx (ds := [(T_spec_Spec.toD p0)]) (fn := f50) (by kernel_rfl) (by kernel_rfl) rfl ?_ (by kernel_rfl)
  refine R_seq ?_
  refine R_G ?_
  refine G_run 3 ?_
  refine G_end ?_
  refine R_seq ?_
  refine R_seq ?_
  refine R_G ?_
  refine G_run 2 ?_
  obtain ⟨v1, hx, hm⟩ := bind_inv hm
  have hq := w_slices_ContainsFunc_int64_int64_spec_Dimensions_1 _ _ hx []
  refine G_callP hq ?_
  refine G_end ?_
  refine R_ifp (p := v1 = true) (bool_dec _) (fun hc => ?_) (fun hc => ?_)
  · replace hm := pos_inv hc hm
    refine R_seq ?_
    refine R_G ?_
    refine G_run 2 ?_
    refine G_end ?_
    refine R_ret ?_
    obtain ⟨rfl, rfl⟩ := inj2 hm
    exact ⟨trivial, fin_pure (by kernel_rfl)⟩
  replace hm := neg_inv hc hm
  refine R_skip ?_
  refine R_seq ?_
  refine R_G ?_
  refine G_run 2 ?_
  obtain ⟨out, hx, hm⟩ := bind_inv hm
  rcases out with ⟨v2, v3⟩ | v4
  · have hq := w_spec_converted_int64_int_b1de0 _ _ hx
    dsimp only [P_spec_converted_int64_int_b1de0] at hq
    refine G_callB hq ?_
    refine G_run 5 ?_
    refine G_end ?_
    refine R_seq ?_
    refine R_seq ?_
    refine R_G ?_
    refine G_run 2 ?_
    refine G_end ?_
    obtain ⟨v5, hs, hm⟩ := bind_inv hm
    refine R_cut (fun d => ⟨sl d 23 [(4, (.dat (.lst ((List.map intD) [])))), (5, (intPV v5))], [(.box [(.dat (.lst ((List.map intD) p0.values))), (boolPV p0.scalar)]), (.tok 3 v3)]⟩) ?_ (fun d => ?_)
    · replace hm := hs
      clear hs
      refine R_ifp (p := v2 = 0) (eq_dec _ _) (fun hc => ?_) (fun hc => ?_)
      · replace hm := pos_inv hc hm
        refine R_G ?_
        refine G_run 1 ?_
        obtain ⟨v6, hx, hm⟩ := bind_inv hm
        have hq := w_shape_Check _ _ hx []
        refine G_callP hq ?_
        refine G_run 1 ?_
        refine G_end ?_
        obtain rfl := inj1 hm
        exact cut_leaf (by kernel_rfl)
      replace hm := neg_inv hc hm
      refine R_skip ?_
      obtain rfl := inj1 hm
      exact cut_leaf (by kernel_rfl)
    clear hs
    refine R_seq ?_
    refine R_seq ?_
    refine R_G ?_
    refine G_run 2 ?_
    refine G_end ?_
    refine R_ifp (p := v5 ≠ 0) (ne_dec _ _) (fun hc => ?_) (fun hc => ?_)
    · replace hm := pos_inv hc hm
      refine R_seq ?_
      refine R_G ?_
      refine G_run 3 ?_
      refine G_end ?_
      refine R_ret ?_
      obtain ⟨rfl, rfl⟩ := inj2 hm
      exact ⟨trivial, fin_pure (by kernel_rfl)⟩
    replace hm := neg_inv hc hm
    refine R_skip ?_
    refine R_seq ?_
    refine R_G ?_
    refine G_run 3 ?_
    refine G_end ?_
    refine R_ret ?_
    obtain ⟨rfl, rfl⟩ := inj2 hm
    exact ⟨trivial, fin_pure (by kernel_rfl)⟩
  · have hq := w_spec_converted_int64_int_b1de0 _ _ hx
    dsimp only [P_spec_converted_int64_int_b1de0] at hq
    refine G_callB hq ?_
    refine G_run 5 ?_
    refine G_end ?_
    refine R_seq ?_
    refine R_seq ?_
    refine R_G ?_
    refine G_run 2 ?_
    refine G_end ?_
    refine R_true (by kernel_rfl) ?_
    refine R_G ?_
    refine G_run 1 ?_
    obtain ⟨v7, hx, hm⟩ := bind_inv hm
    have hq := w_shape_Check _ _ hx []
    refine G_callP hq ?_
    refine G_run 1 ?_
    refine G_end ?_
    refine R_seq ?_
    refine R_seq ?_
    refine R_G ?_
    refine G_run 2 ?_
    refine G_end ?_
    refine R_ifp (p := v7 ≠ 0) (ne_dec _ _) (fun hc => ?_) (fun hc => ?_)
    · replace hm := pos_inv hc hm
      refine R_seq ?_
      refine R_G ?_
      refine G_run 3 ?_
      refine G_end ?_
      refine R_ret ?_
      obtain ⟨rfl, rfl⟩ := inj2 hm
      exact ⟨trivial, fin_pure (by kernel_rfl)⟩
    replace hm := neg_inv hc hm
    refine R_skip ?_
    refine R_seq ?_
    refine R_G ?_
    refine G_run 3 ?_
    refine G_end ?_
    refine R_ret ?_
    obtain ⟨rfl, rfl⟩ := inj2 hm
    exact ⟨trivial, fin_pure (by kernel_rfl)⟩
end Go.Proofs.Try
namespace Go.Proofs.Try
open Go Go.Pm
set_option linter.unusedVariables false
set_option maxHeartbeats 2000000
set_option maxRecDepth 2000
def m_rule_made_ba438 (x : ((List Int) × (List Int) × (List Int) × Bool)) : Option (Int ⊕ ((List Int) × (List Int))) :=
  match x with
  | (q0, q1, q2, q3) =>
  m_shape_Check q1 >>= fun (v1 : Int) =>
  if v1 ≠ 0 then
    some (Sum.inl v1)
  else
  m_slices_Clone_int_int q0 >>= fun v2 =>
  m_slices_Clone_int_int q1 >>= fun v3 =>
  some (Sum.inr (v2, v3))
def P_rule_made_ba438 : ((List Int) × (List Int) × (List Int) × Bool) → (Int ⊕ ((List Int) × (List Int))) → Prop := fun x r => match x with
  | (q0, q1, q2, q3) => PC prog env 40 [(.dat (.lst ((List.map intD) q0))), (.dat (.lst ((List.map intD) q1))), (.dat (.lst []))] [(.box [(.dat (.lst ((List.map intD) q2))), (boolPV q3)]), (.box [(.dat (.lst ((List.map intD) []))), (.dat (.lst ((List.map intD) []))), (.dat (.lst ((List.map intD) []))), (.dat (.lst ((List.map intD) []))), (intPV 0), (intPV 0), (.dat (.lst ((List.map intD) [])))])] (match r with | .inl v5001 => (.tup [(.dat (.agg [(.lst ((List.map intD) [])), (.lst ((List.map intD) [])), (.lst ((List.map intD) [])), (.lst ((List.map intD) [])), (intD 0), (intD 0), (.lst ((List.map intD) []))])), (intPV v5001)]) | .inr ((v5002, v5003)) => (.tup [(.agg [(.dat (.lst ((List.map intD) []))), (.ms 3 1 0 v5002.length v5002.length), (.ms 4 1 0 v5003.length v5003.length), (.dat (.lst ((List.map intD) []))), (intPV (-1)), (intPV 0), (.dat (.lst ((List.map intD) [])))]), (intPV 0)])) (match r with | .inl v5001 => [(.box [(.dat (.lst ((List.map intD) q2))), (boolPV q3)]), (.box [(.dat (.lst ((List.map intD) []))), (.dat (.lst ((List.map intD) []))), (.dat (.lst ((List.map intD) []))), (.dat (.lst ((List.map intD) []))), (intPV 0), (intPV 0), (.dat (.lst ((List.map intD) [])))]), (.box [(.dat (.lst ((List.map intD) []))), (.dat (.lst ((List.map intD) []))), (.dat (.lst ((List.map intD) []))), (.dat (.lst ((List.map intD) []))), (intPV 0), (intPV 0), (.dat (.lst ((List.map intD) [])))])] | .inr ((v5002, v5003)) => [(.box [(.dat (.lst ((List.map intD) q2))), (boolPV q3)]), (.box [(.dat (.lst ((List.map intD) []))), (.dat (.lst ((List.map intD) []))), (.dat (.lst ((List.map intD) []))), (.dat (.lst ((List.map intD) []))), (intPV 0), (intPV 0), (.dat (.lst ((List.map intD) [])))]), (.box [(.dat (.lst ((List.map intD) []))), (.ms 3 1 0 v5002.length v5002.length), (.ms 4 1 0 v5003.length v5003.length), (.dat (.lst ((List.map intD) []))), (intPV (-1)), (intPV 0), (.dat (.lst ((List.map intD) [])))]), (.mt 3 1 (cellsOf intD v5002)), (.mt 3 1 (cellsOf intD v5003)), (.box [(.dat (.lst ((List.map intD) []))), (.ms 3 1 0 v5002.length v5002.length), (.ms 4 1 0 v5003.length v5003.length), (.dat (.lst ((List.map intD) []))), (intPV (-1)), (intPV 0), (.dat (.lst ((List.map intD) [])))])])
theorem w_rule_made_ba438 : ∀ x r, m_rule_made_ba438 x = some r → P_rule_made_ba438 x r := by
  intro x r hm
  unfold m_rule_made_ba438 at hm
  unfold P_rule_made_ba438
  obtain ⟨q0, q1, q2, q3⟩ := x
  refine PC_sxB (fn := f40) (by kernel_rfl) (by kernel_rfl) rfl ?_
  refine R_seq ?_
  refine R_G ?_
  refine G_run 2 ?_
  refine G_end ?_
  refine R_seq ?_
  refine R_seq ?_
  refine R_G ?_
  refine G_run 1 ?_
  obtain ⟨v1, hx, hm⟩ := bind_inv hm
  have hq := w_shape_Check _ _ hx []
  refine G_callP hq ?_
  refine G_run 1 ?_
  refine G_end ?_
  refine R_seq ?_
  refine R_G ?_
  refine G_run 2 ?_
  refine G_end ?_
  refine R_ifp (p := v1 ≠ 0) (ne_dec _ _) (fun hc => ?_) (fun hc => ?_)
  · replace hm := pos_inv hc hm
    refine R_seq ?_
    refine R_G ?_
    refine G_run 4 ?_
    refine G_end ?_
    refine R_ret ?_
    obtain rfl := inj1 hm
    exact ⟨trivial, fin_body (by kernel_rfl) (by kernel_rfl)⟩
  replace hm := neg_inv hc hm
  refine R_skip ?_
  refine R_seq ?_
  refine R_G ?_
  refine G_run 1 ?_
  obtain ⟨v2, hx, hm⟩ := bind_inv hm
  have hq := w_slices_Clone_int_int _ _ hx
  dsimp only [P_slices_Clone_int_int] at hq
  have hl9 : mtOf [Blk.mt 3 (cgm_slices_Clone_int_int v2) (cellsOf intD v2)] 0 = some (3, cgm_slices_Clone_int_int v2, cellsOf intD v2) := mtOf_at (by kernel_rfl)
  refine G_semH (v := .ms 3 1 0 v2.length v2.length) (fun H => H ++ [.mt 3 1 (cellsOf intD v2)]) rfl (by kernel_rfl) ?_ ?_
  · intro K hk
    refine E_callOwnN 3 (first := #[]) (cap := #[]) (j := (0, 3)) (ow' := []) (f0 := intD) (l := v2) rfl ?_ ?_ ?_ (ds := [.lst ((List.map intD) q0)]) ?_ hq hl9 ?_ ?_ ?_
    · kernel_rfl
    · kernel_rfl
    · kernel_rfl
    · kernel_rfl
    · exact hk
    · kernel_rfl
    · decide
  refine G_run 1 ?_
  obtain ⟨v3, hx, hm⟩ := bind_inv hm
  have hq := w_slices_Clone_int_int _ _ hx
  dsimp only [P_slices_Clone_int_int] at hq
  have hl9 : mtOf [Blk.mt 3 (cgm_slices_Clone_int_int v3) (cellsOf intD v3)] 0 = some (3, cgm_slices_Clone_int_int v3, cellsOf intD v3) := mtOf_at (by kernel_rfl)
  refine G_semH (v := .ms 4 1 0 v3.length v3.length) (fun H => H ++ [.mt 3 1 (cellsOf intD v3)]) rfl (by kernel_rfl) ?_ ?_
  · intro K hk
    refine E_callOwnN 4 (first := #[]) (cap := #[]) (j := (0, 3)) (ow' := []) (f0 := intD) (l := v3) rfl ?_ ?_ ?_ (ds := [.lst ((List.map intD) q1)]) ?_ hq hl9 ?_ ?_ ?_
    · kernel_rfl
    · kernel_rfl
    · kernel_rfl
    · kernel_rfl
    · exact hk
    · kernel_rfl
    · decide
  refine G_run 3 ?_
  refine G_end ?_
  refine R_seq ?_
  refine R_seq ?_
  refine R_G ?_
  refine G_run 1 ?_
  refine G_run 1 ?_
  refine G_run 1 ?_
  refine G_end ?_
  refine R_block ?_
  refine R_loop ?_
  refine RL_at (st' := ⟨kp 33 [(6, (.ptr 2 0)), (9, (.ptr 5 0)), (23, (.dat (.lst []))), (24, (intPV 0)), (25, (intPV 0))], [(.box [(.dat (.lst ((List.map intD) q2))), (boolPV q3)]), (.box [(.dat (.lst ((List.map intD) []))), (.dat (.lst ((List.map intD) []))), (.dat (.lst ((List.map intD) []))), (.dat (.lst ((List.map intD) []))), (intPV 0), (intPV 0), (.dat (.lst ((List.map intD) [])))]), (.box [(.dat (.lst ((List.map intD) []))), (.dat (.lst ((List.map intD) []))), (.dat (.lst ((List.map intD) []))), (.dat (.lst ((List.map intD) []))), (intPV 0), (intPV 0), (.dat (.lst ((List.map intD) [])))]), (.mt 3 1 (cellsOf intD v2)), (.mt 3 1 (cellsOf intD v3)), (.box [(.dat (.lst ((List.map intD) []))), (.ms 3 1 0 v2.length v2.length), (.ms 4 1 0 v3.length v3.length), (.dat (.lst ((List.map intD) []))), (intPV (-1)), (intPV 0), (.dat (.lst ((List.map intD) [])))])]⟩) (prune_of2 [(.box [(.dat (.lst ((List.map intD) q2))), (boolPV q3)]), (.box [(.dat (.lst ((List.map intD) []))), (.dat (.lst ((List.map intD) []))), (.dat (.lst ((List.map intD) []))), (.dat (.lst ((List.map intD) []))), (intPV 0), (intPV 0), (.dat (.lst ((List.map intD) [])))]), (.box [(.dat (.lst ((List.map intD) []))), (.dat (.lst ((List.map intD) []))), (.dat (.lst ((List.map intD) []))), (.dat (.lst ((List.map intD) []))), (intPV 0), (intPV 0), (.dat (.lst ((List.map intD) [])))]), (.mt 3 1 (cellsOf intD v2)), (.mt 3 1 (cellsOf intD v3)), (.box [(.dat (.lst ((List.map intD) []))), (.ms 3 1 0 v2.length v2.length), (.ms 4 1 0 v3.length v3.length), (.dat (.lst ((List.map intD) []))), (intPV (-1)), (intPV 0), (.dat (.lst ((List.map intD) [])))])] (fun _ => (pg_cons (by kernel_rfl) (pg_cons (by kernel_rfl) (pg_cons (by kernel_rfl) (pg_cons (purge_mt intD _ _ _ _ _) (pg_cons (purge_mt intD _ _ _ _ _) (pg_cons (by kernel_rfl) pg_nil))))))) rfl) ?_
  refine R_seq ?_
  refine R_G ?_
  refine G_run 1 ?_
  refine G_end ?_
  refine R_seq ?_
  refine R_false (by kernel_rfl) ?_
  refine R_exit ?_
  refine R_seq ?_
  refine R_G ?_
  refine G_run 3 ?_
  refine G_end ?_
  refine R_ret ?_
  obtain rfl := inj1 hm
  exact ⟨trivial, fin_body (by kernel_rfl) (by kernel_rfl)⟩
end Go.Proofs.Try
namespace Go.Proofs.Try
open Go Go.Pm
set_option linter.unusedVariables false
set_option maxHeartbeats 2000000
set_option maxRecDepth 2000
def m_rule_Reshape (x : (T_spec_Spec × (List Int))) : Option (T_rule_Rule × Int) :=
  match x with
  | (p0, p1) =>
  m_spec_Dimensions (⟨p0.values, p0.scalar⟩ : T_spec_Spec) >>= fun ((v1, v2) : ((List Int) × Int)) =>
  if v2 ≠ 0 then
    m_rule_failed v2 >>= fun ((v3, v4) : (T_rule_Rule × Int)) =>
    some (v3, v4)
  else
  (
  m_rule_made_ba438 (p1, v1, p0.values, p0.scalar) >>= fun (out : Int ⊕ ((List Int) × (List Int))) =>
  match out with
  | .inl v5 =>
    some ((⟨([] : (List Int)), ([] : (List Int)), ([] : (List Int)), ([] : (List Int)), 0, 0, ([] : (List Int))⟩ : T_rule_Rule), v5)
  | .inr ((v6, v7)) =>
    some ((⟨([] : (List Int)), v6, v7, ([] : (List Int)), (-1), 0, ([] : (List Int))⟩ : T_rule_Rule), 0)
  )
def P_rule_Reshape : (T_spec_Spec × (List Int)) → (T_rule_Rule × Int) → Prop := fun x r => match x, r with
  | (p0, p1), (r0, r1) => ∀ H, PC prog env 19 ([(T_spec_Spec.toD p0), (.lst ((List.map intD) p1))].map .dat) H (.tup [(.dat (T_rule_Rule.toD r0)), (intPV r1)]) H
theorem w_rule_Reshape : ∀ x r, m_rule_Reshape x = some r → P_rule_Reshape x r := by
  intro x r hm
  unfold m_rule_Reshape at hm
  unfold P_rule_Reshape
  obtain ⟨p0, p1⟩ := x
  obtain ⟨r0, r1⟩ := r
  intro H
  refine PC_sx (ds := [(T_spec_Spec.toD p0), (.lst ((List.map intD) p1))]) (fn := f19) (by kernel_rfl) (by kernel_rfl) rfl ?_ (by kernel_rfl)
  refine R_seq ?_
  refine R_G ?_
  refine G_run 3 ?_
  refine G_end ?_
  refine R_seq ?_
  refine R_G ?_
  refine G_run 1 ?_
  obtain ⟨⟨v1, v2⟩, hx, hm⟩ := bind_inv hm
  have hq := w_spec_Dimensions _ _ hx []
  refine G_callP hq ?_
  refine G_run 5 ?_
  refine G_end ?_
  refine R_seq ?_
  refine R_seq ?_
  refine R_G ?_
  refine G_run 2 ?_
  refine G_end ?_
  refine R_ifp (p := v2 ≠ 0) (ne_dec _ _) (fun hc => ?_) (fun hc => ?_)
  · replace hm := pos_inv hc hm
    refine R_seq ?_
    refine R_G ?_
    refine G_run 1 ?_
    obtain ⟨⟨v3, v4⟩, hx, hm⟩ := bind_inv hm
    have hq := w_rule_failed _ _ hx []
    refine G_callP hq ?_
    refine G_run 4 ?_
    refine G_end ?_
    refine R_ret ?_
    obtain ⟨rfl, rfl⟩ := inj2 hm
    exact ⟨trivial, fin_pure (by kernel_rfl)⟩
  replace hm := neg_inv hc hm
  refine R_skip ?_
  refine R_seq ?_
  refine R_G ?_
  refine G_run 2 ?_
  obtain ⟨out, hx, hm⟩ := bind_inv hm
  rcases out with v5 | ⟨v6, v7⟩
  · have hq := w_rule_made_ba438 _ _ hx
    dsimp only [P_rule_made_ba438] at hq
    refine G_callB hq ?_
    refine G_run 4 ?_
    refine G_end ?_
    refine R_ret ?_
    obtain ⟨rfl, rfl⟩ := inj2 hm
    exact ⟨trivial, fin_pure (by kernel_rfl)⟩
  · have hq := w_rule_made_ba438 _ _ hx
    dsimp only [P_rule_made_ba438] at hq
    refine G_callB hq ?_
    refine G_run 4 ?_
    refine G_end ?_
    refine R_ret ?_
    obtain ⟨rfl, rfl⟩ := inj2 hm
    exact ⟨trivial, fin_pureX [(.agg [(.dat (.lst ((List.map intD) []))), (.ms 3 1 0 v6.length v6.length), (.ms 4 1 0 v7.length v7.length), (.dat (.lst ((List.map intD) []))), (intPV (-1)), (intPV 0), (.dat (.lst ((List.map intD) [])))]), (intPV 0)] (by kernel_rfl) (po_tup (ps_cons (p1_agg (pc_cons (by kernel_rfl) (pc_cons (pc_ms (e := 3) intD v6 rfl (fun _ => rfl) (by kernel_rfl)) (pc_cons (pc_ms (e := 3) intD v7 rfl (fun _ => rfl) (by kernel_rfl)) (pc_cons (by kernel_rfl) (pc_cons (by kernel_rfl) (pc_cons (by kernel_rfl) (pc_cons (by kernel_rfl) pc_nil)))))))) (ps_cons (by kernel_rfl) ps_nil)))⟩
end Go.Proofs.Try
namespace Go.Proofs.Try
open Go Go.Pm
set_option linter.unusedVariables false
set_option maxHeartbeats 2000000
set_option maxRecDepth 2000
def m_shape_one (x : Int) : Option Int :=
  match x with
  | p0 =>
  some p0
def P_shape_one : Int → Int → Prop := fun x r => match x, r with
  | p0, v5001 => ∀ H, PC prog env 98 ([(intD p0)].map .dat) H (.fn 118 [(.iptr [(intD v5001)])]) H
theorem w_shape_one : ∀ x r, m_shape_one x = some r → P_shape_one x r := by
  intro p0 v5001 hm
  unfold m_shape_one at hm
  unfold P_shape_one
  intro H
  refine PC_sx (ds := [(intD p0)]) (fn := f98) (by kernel_rfl) (by kernel_rfl) rfl ?_ (by kernel_rfl)
  refine R_seq ?_
  refine R_G ?_
  refine G_run 2 ?_
  refine G_end ?_
  refine R_seq ?_
  refine R_G ?_
  refine G_run 2 ?_
  refine G_end ?_
  refine R_ret ?_
  obtain rfl := inj1 hm
  exact ⟨trivial, fin_pure (by kernel_rfl)⟩
end Go.Proofs.Try
namespace Go.Proofs.Try
open Go Go.Pm
set_option linter.unusedVariables false
set_option maxHeartbeats 2000000
set_option maxRecDepth 2000
def m_shape_one_1_b9040 (x : Int) : Option (Unit) :=
  match x with
  | q0 =>
  some ()
def P_shape_one_1_b9040 : Int → Unit → Prop := fun x r => match x with
  | q0 => PC prog env 118 [(.iptr [(intD q0)])] [] (match r with | _ => (.dat (.lst ((List.map intD) ([q0] : List Int))))) (match r with | _ => [])
theorem w_shape_one_1_b9040 : ∀ x r, m_shape_one_1_b9040 x = some r → P_shape_one_1_b9040 x r := by
  intro q0 r hm
  unfold m_shape_one_1_b9040 at hm
  unfold P_shape_one_1_b9040
  refine PC_sxB (fn := f118) (by kernel_rfl) (by kernel_rfl) rfl ?_
  refine R_seq ?_
  refine R_G ?_
  refine G_run 1 ?_
  refine G_end ?_
  refine R_seq ?_
  refine R_G ?_
  refine G_run 3 ?_
  refine G_end ?_
  refine R_ret ?_
  obtain rfl := inj1 hm
  exact ⟨trivial, fin_body (by kernel_rfl) (by kernel_rfl)⟩
end Go.Proofs.Try
namespace Go.Proofs.Try
open Go Go.Pm
set_option linter.unusedVariables false
set_option maxHeartbeats 2000000
set_option maxRecDepth 2000
def m_shape_edited_int_b8179 (x : ((List Int) × Int × Int)) : Option (((List Int) × Int)) :=
  match x with
  | (q0, q1, q2) =>
  ((if q1 < 0 then
    some true
  else
  some (decide (q1 > (q0.length : Int)))
  ) >>= fun (v2 : Bool) =>
  if v2 = true then
    some true
  else
  some (decide (q1 > q1))
  ) >>= fun (v1 : Bool) =>
  if v1 = true then
    some (([] : List Int), 4)
  else
  sub q0 0 q1 >>= fun v3 =>
  m_shape_one_1_b9040 q2 >>= fun (_ : Unit) =>
  sub q0 q1 (q0.length : Int) >>= fun v4 =>
  m_slices_Concat_int_int ([v3, ([q2] : List Int), v4] : List (List Int)) >>= fun (v5 : (List Int)) =>
  some (v5, 0)
def P_shape_edited_int_b8179 : ((List Int) × Int × Int) → ((List Int) × Int) → Prop := fun x r => match x with
  | (q0, q1, q2) => PC prog env 97 [(.dat (.lst ((List.map intD) q0))), (intPV q1), (intPV q1), (.fn 118 [(.iptr [(intD q2)])])] [] (match r with | (v5001, v5002) => (.tup [(.dat (.lst ((List.map intD) v5001))), (intPV v5002)])) (match r with | (v5001, v5002) => [])
theorem w_shape_edited_int_b8179 : ∀ x r, m_shape_edited_int_b8179 x = some r → P_shape_edited_int_b8179 x r := by
  intro x r hm
  unfold m_shape_edited_int_b8179 at hm
  unfold P_shape_edited_int_b8179
  obtain ⟨q0, q1, q2⟩ := x
  refine PC_sxB (fn := f97) (by kernel_rfl) (by kernel_rfl) rfl ?_
  refine R_seq ?_
  refine R_G ?_
  refine G_run 2 ?_
  refine G_end ?_
  refine R_seq ?_
  refine R_seq ?_
  obtain ⟨v1, hs, hm⟩ := bind_inv hm
  refine R_cut (fun d => ⟨sl d 33 [(0, (.dat (.lst ((List.map intD) q0)))), (1, (intPV q1)), (2, (intPV q1)), (3, (.fn 118 [(.iptr [(intD q2)])])), (22, (boolPV v1))], []⟩) ?_ (fun d => ?_)
  · replace hm := hs
    clear hs
    refine R_GN ?_
    refine G_run 3 ?_
    obtain ⟨v2, hs, hm⟩ := bind_inv hm
    refine G_cut (j := 8) (fun d => ⟨sl d 33 [(0, (.dat (.lst ((List.map intD) q0)))), (1, (intPV q1)), (2, (intPV q1)), (3, (.fn 118 [(.iptr [(intD q2)])])), (8, (.dat (.lst ((List.map intD) [])))), (9, (intPV 0)), (10, (intPV q1)), (11, (boolPV (decide (q1 < 0)))), (17, (boolPV v2))], []⟩) (fun d => ?_) (fun hJ => ?_)
    · clear hs
      refine G_run 1 ?_
      refine G_split (p := v2 = true) 18 (bool_dec _) (fun hc => ?_) (fun hc => ?_)
      · replace hm := pos_inv hc hm
        refine G_run 4 ?_
        refine G_end ⟨by kernel_rfl, ?_⟩
        obtain rfl := inj1 hm
        exact cut_leaf (by kernel_rfl)
      replace hm := neg_inv hc hm
      refine G_run 4 ?_
      refine G_end ⟨by kernel_rfl, ?_⟩
      obtain rfl := inj1 hm
      exact cut_leaf (by kernel_rfl)
    replace hm := hs
    clear hs
    refine G_split (p := q1 < 0) 12 (rfl) (fun hc => ?_) (fun hc => ?_)
    · replace hm := pos_inv hc hm
      refine G_run 5 ?_
      obtain rfl := inj1 hm
      exact hJ _ _ (by kernel_rfl) (by kernel_rfl)
    replace hm := neg_inv hc hm
    refine G_run 2 ?_
    refine I_len intD q0 (es := (List.map intD) q0) rfl ?_
    refine G_run 2 ?_
    obtain rfl := inj1 hm
    exact hJ _ _ (by kernel_rfl) (by kernel_rfl)
  clear hs
  refine R_ifp (p := v1 = true) (bool_dec _) (fun hc => ?_) (fun hc => ?_)
  · replace hm := pos_inv hc hm
    refine R_seq ?_
    refine R_G ?_
    refine G_run 2 ?_
    refine G_end ?_
    refine R_ret ?_
    obtain rfl := inj1 hm
    exact ⟨trivial, fin_body (by kernel_rfl) (by kernel_rfl)⟩
  replace hm := neg_inv hc hm
  refine R_skip ?_
  refine R_seq ?_
  refine R_GD ?_
  refine G_run 2 ?_
  obtain ⟨v3, hx, hm⟩ := bind_inv hm
  refine I_sub 1 intD q0 v3 0 q1 (es := (List.map intD) q0) (L := (List.map intD)) (a := natI 0) (b := natI q1) (fun _ => rfl) rfl (fun _ => by first | rfl | exact num_of_fit ((fun _ => rfl) _)) hx rfl (Or.inl rfl) ?_
  refine G_run 1 ?_
  obtain ⟨_, hx, hm⟩ := bind_inv hm
  have hq := w_shape_one_1_b9040 _ _ hx
  dsimp only [P_shape_one_1_b9040] at hq
  refine G_callB hq ?_
  refine G_run 2 ?_
  obtain ⟨v4, hx, hm⟩ := bind_inv hm
  refine I_sub 1 intD q0 v4 q1 (q0.length : Int) (es := (List.map intD) q0) (L := (List.map intD)) (a := natI q1) (b := some ((List.map intD) q0).length) (fun _ => rfl) rfl (fun _ => by first | rfl | exact num_of_fit ((fun _ => rfl) _)) hx rfl (Or.inr ⟨rfl, rfl⟩) ?_
  refine G_run 1 ?_
  obtain ⟨v5, hx, hm⟩ := bind_inv hm
  have hq := w_slices_Concat_int_int _ _ hx []
  refine G_callP hq ?_
  refine G_run 2 ?_
  refine G_end ⟨by kernel_rfl, ?_⟩
  refine R_ret ?_
  obtain rfl := inj1 hm
  exact ⟨trivial, fin_body (by kernel_rfl) (by kernel_rfl)⟩
end Go.Proofs.Try
namespace Go.Proofs.Try
open Go Go.Pm
set_option linter.unusedVariables false
set_option maxHeartbeats 2000000
set_option maxRecDepth 2000
def m_shape_Insert (x : ((List Int) × Int × Int)) : Option ((List Int) × Int) :=
  match x with
  | (p0, p1, p2) =>
  m_shape_one p2 >>= fun (v1 : Int) =>
  m_shape_edited_int_b8179 (p0, p1, v1) >>= fun ((v2, v3) : ((List Int) × Int)) =>
  some (v2, v3)
def P_shape_Insert : ((List Int) × Int × Int) → ((List Int) × Int) → Prop := fun x r => match x, r with
  | (p0, p1, p2), (r0, r1) => ∀ H, PC prog env 70 ([(.lst ((List.map intD) p0)), (intD p1), (intD p2)].map .dat) H (.tup [(.dat (.lst ((List.map intD) r0))), (intPV r1)]) H
theorem w_shape_Insert : ∀ x r, m_shape_Insert x = some r → P_shape_Insert x r := by
  intro x r hm
  unfold m_shape_Insert at hm
  unfold P_shape_Insert
  obtain ⟨p0, p1, p2⟩ := x
  obtain ⟨r0, r1⟩ := r
  intro H
  refine PC_sx (ds := [(.lst ((List.map intD) p0)), (intD p1), (intD p2)]) (fn := f70) (by kernel_rfl) (by kernel_rfl) rfl ?_ (by kernel_rfl)
  refine R_seq ?_
  refine R_G ?_
  refine G_run 2 ?_
  refine G_end ?_
  refine R_seq ?_
  refine R_G ?_
  refine G_run 4 ?_
  obtain ⟨v1, hx, hm⟩ := bind_inv hm
  have hq := w_shape_one _ _ hx []
  refine G_callP hq ?_
  obtain ⟨⟨v2, v3⟩, hx, hm⟩ := bind_inv hm
  have hq := w_shape_edited_int_b8179 _ _ hx
  dsimp only [P_shape_edited_int_b8179] at hq
  refine G_callB hq ?_
  refine G_run 4 ?_
  refine G_end ?_
  refine R_ret ?_
  obtain ⟨rfl, rfl⟩ := inj2 hm
  exact ⟨trivial, fin_pure (by kernel_rfl)⟩
end Go.Proofs.Try
namespace Go.Proofs.Try
open Go Go.Pm
set_option linter.unusedVariables false
set_option maxHeartbeats 2000000
set_option maxRecDepth 2000
def m_shape_edited_int_b9faf (x : ((List Int) × Int × Int × Int)) : Option (((List Int) × Int)) :=
  match x with
  | (q0, q1, q2, q3) =>
  ((if q1 < 0 then
    some true
  else
  some (decide (q2 > (q0.length : Int)))
  ) >>= fun (v2 : Bool) =>
  if v2 = true then
    some true
  else
  some (decide (q1 > q2))
  ) >>= fun (v1 : Bool) =>
  if v1 = true then
    some (([] : List Int), 4)
  else
  sub q0 0 q1 >>= fun v3 =>
  m_shape_one_1_b9040 q3 >>= fun (_ : Unit) =>
  sub q0 q2 (q0.length : Int) >>= fun v4 =>
  m_slices_Concat_int_int ([v3, ([q3] : List Int), v4] : List (List Int)) >>= fun (v5 : (List Int)) =>
  some (v5, 0)
def P_shape_edited_int_b9faf : ((List Int) × Int × Int × Int) → ((List Int) × Int) → Prop := fun x r => match x with
  | (q0, q1, q2, q3) => PC prog env 97 [(.dat (.lst ((List.map intD) q0))), (intPV q1), (intPV q2), (.fn 118 [(.iptr [(intD q3)])])] [] (match r with | (v5001, v5002) => (.tup [(.dat (.lst ((List.map intD) v5001))), (intPV v5002)])) (match r with | (v5001, v5002) => [])
theorem w_shape_edited_int_b9faf : ∀ x r, m_shape_edited_int_b9faf x = some r → P_shape_edited_int_b9faf x r := by
  intro x r hm
  unfold m_shape_edited_int_b9faf at hm
  unfold P_shape_edited_int_b9faf
  obtain ⟨q0, q1, q2, q3⟩ := x
  refine PC_sxB (fn := f97) (by kernel_rfl) (by kernel_rfl) rfl ?_
  refine R_seq ?_
  refine R_G ?_
  refine G_run 2 ?_
  refine G_end ?_
  refine R_seq ?_
  refine R_seq ?_
  obtain ⟨v1, hs, hm⟩ := bind_inv hm
  refine R_cut (fun d => ⟨sl d 33 [(0, (.dat (.lst ((List.map intD) q0)))), (1, (intPV q1)), (2, (intPV q2)), (3, (.fn 118 [(.iptr [(intD q3)])])), (22, (boolPV v1))], []⟩) ?_ (fun d => ?_)
  · replace hm := hs
    clear hs
    refine R_GN ?_
    refine G_run 3 ?_
    obtain ⟨v2, hs, hm⟩ := bind_inv hm
    refine G_cut (j := 8) (fun d => ⟨sl d 33 [(0, (.dat (.lst ((List.map intD) q0)))), (1, (intPV q1)), (2, (intPV q2)), (3, (.fn 118 [(.iptr [(intD q3)])])), (8, (.dat (.lst ((List.map intD) [])))), (9, (intPV 0)), (10, (intPV q1)), (11, (boolPV (decide (q1 < 0)))), (17, (boolPV v2))], []⟩) (fun d => ?_) (fun hJ => ?_)
    · clear hs
      refine G_run 1 ?_
      refine G_split (p := v2 = true) 18 (bool_dec _) (fun hc => ?_) (fun hc => ?_)
      · replace hm := pos_inv hc hm
        refine G_run 4 ?_
        refine G_end ⟨by kernel_rfl, ?_⟩
        obtain rfl := inj1 hm
        exact cut_leaf (by kernel_rfl)
      replace hm := neg_inv hc hm
      refine G_run 4 ?_
      refine G_end ⟨by kernel_rfl, ?_⟩
      obtain rfl := inj1 hm
      exact cut_leaf (by kernel_rfl)
    replace hm := hs
    clear hs
    refine G_split (p := q1 < 0) 12 (rfl) (fun hc => ?_) (fun hc => ?_)
    · replace hm := pos_inv hc hm
      refine G_run 5 ?_
      obtain rfl := inj1 hm
      exact hJ _ _ (by kernel_rfl) (by kernel_rfl)
    replace hm := neg_inv hc hm
    refine G_run 2 ?_
    refine I_len intD q0 (es := (List.map intD) q0) rfl ?_
    refine G_run 2 ?_
    obtain rfl := inj1 hm
    exact hJ _ _ (by kernel_rfl) (by kernel_rfl)
  clear hs
  refine R_ifp (p := v1 = true) (bool_dec _) (fun hc => ?_) (fun hc => ?_)
  · replace hm := pos_inv hc hm
    refine R_seq ?_
    refine R_G ?_
    refine G_run 2 ?_
    refine G_end ?_
    refine R_ret ?_
    obtain rfl := inj1 hm
    exact ⟨trivial, fin_body (by kernel_rfl) (by kernel_rfl)⟩
  replace hm := neg_inv hc hm
  refine R_skip ?_
  refine R_seq ?_
  refine R_GD ?_
  refine G_run 2 ?_
  obtain ⟨v3, hx, hm⟩ := bind_inv hm
  refine I_sub 1 intD q0 v3 0 q1 (es := (List.map intD) q0) (L := (List.map intD)) (a := natI 0) (b := natI q1) (fun _ => rfl) rfl (fun _ => by first | rfl | exact num_of_fit ((fun _ => rfl) _)) hx rfl (Or.inl rfl) ?_
  refine G_run 1 ?_
  obtain ⟨_, hx, hm⟩ := bind_inv hm
  have hq := w_shape_one_1_b9040 _ _ hx
  dsimp only [P_shape_one_1_b9040] at hq
  refine G_callB hq ?_
  refine G_run 2 ?_
  obtain ⟨v4, hx, hm⟩ := bind_inv hm
  refine I_sub 1 intD q0 v4 q2 (q0.length : Int) (es := (List.map intD) q0) (L := (List.map intD)) (a := natI q2) (b := some ((List.map intD) q0).length) (fun _ => rfl) rfl (fun _ => by first | rfl | exact num_of_fit ((fun _ => rfl) _)) hx rfl (Or.inr ⟨rfl, rfl⟩) ?_
  refine G_run 1 ?_
  obtain ⟨v5, hx, hm⟩ := bind_inv hm
  have hq := w_slices_Concat_int_int _ _ hx []
  refine G_callP hq ?_
  refine G_run 2 ?_
  refine G_end ⟨by kernel_rfl, ?_⟩
  refine R_ret ?_
  obtain rfl := inj1 hm
  exact ⟨trivial, fin_body (by kernel_rfl) (by kernel_rfl)⟩
end Go.Proofs.Try
namespace Go.Proofs.Try
open Go Go.Pm
set_option linter.unusedVariables false
set_option maxHeartbeats 2000000
set_option maxRecDepth 2000
def m_shape_Replace (x : ((List Int) × Int × Int)) : Option ((List Int) × Int) :=
  match x with
  | (p0, p1, p2) =>
  if p1 ≥ (p0.length : Int) then
    some (([] : (List Int)), 4)
  else
  m_shape_one p2 >>= fun (v1 : Int) =>
  m_shape_edited_int_b9faf (p0, p1, (W (p1 + 1)), v1) >>= fun ((v2, v3) : ((List Int) × Int)) =>
  some (v2, v3)
def P_shape_Replace : ((List Int) × Int × Int) → ((List Int) × Int) → Prop := fun x r => match x, r with
  | (p0, p1, p2), (r0, r1) => ∀ H, PC prog env 71 ([(.lst ((List.map intD) p0)), (intD p1), (intD p2)].map .dat) H (.tup [(.dat (.lst ((List.map intD) r0))), (intPV r1)]) H
theorem w_shape_Replace : ∀ x r, m_shape_Replace x = some r → P_shape_Replace x r := by
  intro x r hm
  unfold m_shape_Replace at hm
  unfold P_shape_Replace
  obtain ⟨p0, p1, p2⟩ := x
  obtain ⟨r0, r1⟩ := r
  intro H
  refine PC_sx (ds := [(.lst ((List.map intD) p0)), (intD p1), (intD p2)]) (fn := f71) (by kernel_rfl) (by kernel_rfl) rfl ?_ (by kernel_rfl)
  refine R_seq ?_
  refine R_G ?_
  refine G_run 2 ?_
  refine G_end ?_
  refine R_seq ?_
  refine R_seq ?_
  refine R_G ?_
  refine G_run 2 ?_
  refine I_len intD p0 (es := (List.map intD) p0) rfl ?_
  refine G_run 1 ?_
  refine G_end ?_
  refine R_ifp (p := p1 ≥ (p0.length : Int)) (rfl) (fun hc => ?_) (fun hc => ?_)
  · replace hm := pos_inv hc hm
    refine R_seq ?_
    refine R_G ?_
    refine G_run 2 ?_
    refine G_end ?_
    refine R_ret ?_
    obtain ⟨rfl, rfl⟩ := inj2 hm
    exact ⟨trivial, fin_pure (by kernel_rfl)⟩
  replace hm := neg_inv hc hm
  refine R_skip ?_
  refine R_seq ?_
  refine R_G ?_
  refine G_run 5 ?_
  obtain ⟨v1, hx, hm⟩ := bind_inv hm
  have hq := w_shape_one _ _ hx []
  refine G_callP hq ?_
  obtain ⟨⟨v2, v3⟩, hx, hm⟩ := bind_inv hm
  have hq := w_shape_edited_int_b9faf _ _ hx
  dsimp only [P_shape_edited_int_b9faf] at hq
  refine G_callB hq ?_
  refine G_run 4 ?_
  refine G_end ?_
  refine R_ret ?_
  obtain ⟨rfl, rfl⟩ := inj2 hm
  exact ⟨trivial, fin_pure (by kernel_rfl)⟩
end Go.Proofs.Try
namespace Go.Proofs.Try
open Go Go.Pm
set_option linter.unusedVariables false
set_option maxHeartbeats 2000000
set_option maxRecDepth 2000
def m_rule_widened (x : ((List Int) × (List Int) × Int × Int)) : Option ((List Int) × Int) :=
  match x with
  | (p0, p1, p2, p3) =>
  if (p0.length : Int) = p2 then
    m_slices_Clone_int_int p0 >>= fun v1 =>
    some (v1, 0)
  else
  if (p0.length : Int) = (W (p2 - 1)) then
    m_shape_Insert (p0, p3, 1) >>= fun ((v2, v3) : ((List Int) × Int)) =>
    some (v2, v3)
  else
  if (p0.length : Int) = 0 then
    m_shape_Replace (p1, p3, 1) >>= fun ((v4, v5) : ((List Int) × Int)) =>
    some (v4, v5)
  else
  some (([] : (List Int)), 4)
def P_rule_widened : ((List Int) × (List Int) × Int × Int) → ((List Int) × Int) → Prop := fun x r => match x, r with
  | (p0, p1, p2, p3), (r0, r1) => ∀ H, PC prog env 38 ([(.lst ((List.map intD) p0)), (.lst ((List.map intD) p1)), (intD p2), (intD p3)].map .dat) H (.tup [(.dat (.lst ((List.map intD) r0))), (intPV r1)]) H
theorem w_rule_widened : ∀ x r, m_rule_widened x = some r → P_rule_widened x r := by
  intro x r hm
  unfold m_rule_widened at hm
  unfold P_rule_widened
  obtain ⟨p0, p1, p2, p3⟩ := x
  obtain ⟨r0, r1⟩ := r
  intro H
  refine PC_sx (ds := [(.lst ((List.map intD) p0)), (.lst ((List.map intD) p1)), (intD p2), (intD p3)]) (fn := f38) (by kernel_rfl) (by kernel_rfl) rfl ?_ (by kernel_rfl)
  refine R_seq ?_
  refine R_G ?_
  refine G_run 2 ?_
  refine G_end ?_
  refine R_seq ?_
  refine R_seq ?_
  refine R_G ?_
  refine G_run 1 ?_
  refine I_len intD p0 (es := (List.map intD) p0) rfl ?_
  refine G_end ?_
  refine R_block ?_
  refine R_seq ?_
  refine R_G ?_
  refine G_run 3 ?_
  refine G_end ?_
  refine R_ifp (p := (p0.length : Int) = p2) (eq_dec _ _) (fun hc => ?_) (fun hc => ?_)
  · replace hm := pos_inv hc hm
    refine R_seq ?_
    refine R_G ?_
    refine G_run 1 ?_
    obtain ⟨v1, hx, hm⟩ := bind_inv hm
    have hq := w_slices_Clone_int_int _ _ hx
    dsimp only [P_slices_Clone_int_int] at hq
    have hl9 : mtOf [Blk.mt 3 (cgm_slices_Clone_int_int v1) (cellsOf intD v1)] 0 = some (3, cgm_slices_Clone_int_int v1, cellsOf intD v1) := mtOf_at (by kernel_rfl)
    refine G_semH (v := .ms 0 1 0 v1.length v1.length) (fun H => H ++ [.mt 3 1 (cellsOf intD v1)]) rfl (by kernel_rfl) ?_ ?_
    · intro K hk
      refine E_callOwnN 0 (first := #[]) (cap := #[]) (j := (0, 3)) (ow' := []) (f0 := intD) (l := v1) rfl ?_ ?_ ?_ (ds := [.lst ((List.map intD) p0)]) ?_ hq hl9 ?_ ?_ ?_
      · kernel_rfl
      · kernel_rfl
      · kernel_rfl
      · kernel_rfl
      · exact hk
      · kernel_rfl
      · decide
    refine G_run 2 ?_
    refine G_end ?_
    refine R_ret ?_
    obtain ⟨rfl, rfl⟩ := inj2 hm
    exact ⟨trivial, fin_pureX [(.ms 0 1 0 v1.length v1.length), (intPV 0)] (by kernel_rfl) (po_tup (ps_cons (p1_ms (pc_ms (e := 3) intD v1 rfl (fun _ => rfl) (by kernel_rfl))) (ps_cons (by kernel_rfl) ps_nil)))⟩
  replace hm := neg_inv hc hm
  refine R_seq ?_
  refine R_G ?_
  refine G_run 4 ?_
  refine G_end ?_
  refine R_ifp (p := (p0.length : Int) = (W (p2 - 1))) (eq_dec _ _) (fun hc => ?_) (fun hc => ?_)
  · replace hm := pos_inv hc hm
    refine R_seq ?_
    refine R_G ?_
    refine G_run 2 ?_
    obtain ⟨⟨v2, v3⟩, hx, hm⟩ := bind_inv hm
    have hq := w_shape_Insert _ _ hx []
    refine G_callP hq ?_
    refine G_run 4 ?_
    refine G_end ?_
    refine R_ret ?_
    obtain ⟨rfl, rfl⟩ := inj2 hm
    exact ⟨trivial, fin_pure (by kernel_rfl)⟩
  replace hm := neg_inv hc hm
  refine R_seq ?_
  refine R_G ?_
  refine G_run 2 ?_
  refine G_end ?_
  refine R_ifp (p := (p0.length : Int) = 0) (eq_dec _ _) (fun hc => ?_) (fun hc => ?_)
  · replace hm := pos_inv hc hm
    refine R_seq ?_
    refine R_G ?_
    refine G_run 2 ?_
    obtain ⟨⟨v4, v5⟩, hx, hm⟩ := bind_inv hm
    have hq := w_shape_Replace _ _ hx []
    refine G_callP hq ?_
    refine G_run 4 ?_
    refine G_end ?_
    refine R_ret ?_
    obtain ⟨rfl, rfl⟩ := inj2 hm
    exact ⟨trivial, fin_pure (by kernel_rfl)⟩
  replace hm := neg_inv hc hm
  refine R_skip ?_
  refine R_seq ?_
  refine R_G ?_
  refine G_run 2 ?_
  refine G_end ?_
  refine R_ret ?_
  obtain ⟨rfl, rfl⟩ := inj2 hm
  exact ⟨trivial, fin_pure (by kernel_rfl)⟩
end Go.Proofs.Try
namespace Go.Proofs.Try
open Go Go.Pm
set_option linter.unusedVariables false
set_option maxHeartbeats 2000000
set_option maxRecDepth 2000
def m_shape_Remove_1 (x : Unit) : Option (List Int) :=
  match x with
  | _ =>
  some ([] : (List Int))
def P_shape_Remove_1 : Unit → (List Int) → Prop := fun x r => match x, r with
  | _, r0 => ∀ H, PC prog env 99 ([].map .dat) H (.dat (.lst ((List.map intD) r0))) H
theorem w_shape_Remove_1 : ∀ x r, m_shape_Remove_1 x = some r → P_shape_Remove_1 x r := by
  intro x r0 hm
  unfold m_shape_Remove_1 at hm
  unfold P_shape_Remove_1
  intro H
  refine PC_sx (ds := []) (fn := f99) (by kernel_rfl) (by kernel_rfl) rfl ?_ (by kernel_rfl)
  refine R_seq ?_
  refine R_G ?_
  refine G_run 1 ?_
  refine G_end ?_
  refine R_seq ?_
  refine R_G ?_
  refine G_run 1 ?_
  refine G_end ?_
  refine R_ret ?_
  obtain rfl := inj1 hm
  exact ⟨trivial, fin_pure (by kernel_rfl)⟩
end Go.Proofs.Try
namespace Go.Proofs.Try
open Go Go.Pm
set_option linter.unusedVariables false
set_option maxHeartbeats 2000000
set_option maxRecDepth 2000
def m_shape_edited_int_b45f6 (x : ((List Int) × Int × Int)) : Option (((List Int) × Int)) :=
  match x with
  | (q0, q1, q2) =>
  ((if q1 < 0 then
    some true
  else
  some (decide (q2 > (q0.length : Int)))
  ) >>= fun (v2 : Bool) =>
  if v2 = true then
    some true
  else
  some (decide (q1 > q2))
  ) >>= fun (v1 : Bool) =>
  if v1 = true then
    some (([] : List Int), 4)
  else
  sub q0 0 q1 >>= fun v3 =>
  m_shape_Remove_1 () >>= fun (v4 : (List Int)) =>
  sub q0 q2 (q0.length : Int) >>= fun v5 =>
  m_slices_Concat_int_int ([v3, v4, v5] : List (List Int)) >>= fun (v6 : (List Int)) =>
  some (v6, 0)
def P_shape_edited_int_b45f6 : ((List Int) × Int × Int) → ((List Int) × Int) → Prop := fun x r => match x with
  | (q0, q1, q2) => PC prog env 97 [(.dat (.lst ((List.map intD) q0))), (intPV q1), (intPV q2), (.dat (.raw (.func (.func 99) #[] #[])))] [] (match r with | (v5001, v5002) => (.tup [(.dat (.lst ((List.map intD) v5001))), (intPV v5002)])) (match r with | (v5001, v5002) => [])
theorem w_shape_edited_int_b45f6 : ∀ x r, m_shape_edited_int_b45f6 x = some r → P_shape_edited_int_b45f6 x r := by
  intro x r hm
  unfold m_shape_edited_int_b45f6 at hm
  unfold P_shape_edited_int_b45f6
  obtain ⟨q0, q1, q2⟩ := x
  refine PC_sxB (fn := f97) (by kernel_rfl) (by kernel_rfl) rfl ?_
  refine R_seq ?_
  refine R_G ?_
  refine G_run 2 ?_
  refine G_end ?_
  refine R_seq ?_
  refine R_seq ?_
  obtain ⟨v1, hs, hm⟩ := bind_inv hm
  refine R_cut (fun d => ⟨sl d 33 [(0, (.dat (.lst ((List.map intD) q0)))), (1, (intPV q1)), (2, (intPV q2)), (3, (.dat (.raw (.func (.func 99) #[] #[])))), (22, (boolPV v1))], []⟩) ?_ (fun d => ?_)
  · replace hm := hs
    clear hs
    refine R_GN ?_
    refine G_run 3 ?_
    obtain ⟨v2, hs, hm⟩ := bind_inv hm
    refine G_cut (j := 8) (fun d => ⟨sl d 33 [(0, (.dat (.lst ((List.map intD) q0)))), (1, (intPV q1)), (2, (intPV q2)), (3, (.dat (.raw (.func (.func 99) #[] #[])))), (8, (.dat (.lst ((List.map intD) [])))), (9, (intPV 0)), (10, (intPV q1)), (11, (boolPV (decide (q1 < 0)))), (17, (boolPV v2))], []⟩) (fun d => ?_) (fun hJ => ?_)
    · clear hs
      refine G_run 1 ?_
      refine G_split (p := v2 = true) 18 (bool_dec _) (fun hc => ?_) (fun hc => ?_)
      · replace hm := pos_inv hc hm
        refine G_run 4 ?_
        refine G_end ⟨by kernel_rfl, ?_⟩
        obtain rfl := inj1 hm
        exact cut_leaf (by kernel_rfl)
      replace hm := neg_inv hc hm
      refine G_run 4 ?_
      refine G_end ⟨by kernel_rfl, ?_⟩
      obtain rfl := inj1 hm
      exact cut_leaf (by kernel_rfl)
    replace hm := hs
    clear hs
    refine G_split (p := q1 < 0) 12 (rfl) (fun hc => ?_) (fun hc => ?_)
    · replace hm := pos_inv hc hm
      refine G_run 5 ?_
      obtain rfl := inj1 hm
      exact hJ _ _ (by kernel_rfl) (by kernel_rfl)
    replace hm := neg_inv hc hm
    refine G_run 2 ?_
    refine I_len intD q0 (es := (List.map intD) q0) rfl ?_
    refine G_run 2 ?_
    obtain rfl := inj1 hm
    exact hJ _ _ (by kernel_rfl) (by kernel_rfl)
  clear hs
  refine R_ifp (p := v1 = true) (bool_dec _) (fun hc => ?_) (fun hc => ?_)
  · replace hm := pos_inv hc hm
    refine R_seq ?_
    refine R_G ?_
    refine G_run 2 ?_
    refine G_end ?_
    refine R_ret ?_
    obtain rfl := inj1 hm
    exact ⟨trivial, fin_body (by kernel_rfl) (by kernel_rfl)⟩
  replace hm := neg_inv hc hm
  refine R_skip ?_
  refine R_seq ?_
  refine R_GD ?_
  refine G_run 2 ?_
  obtain ⟨v3, hx, hm⟩ := bind_inv hm
  refine I_sub 1 intD q0 v3 0 q1 (es := (List.map intD) q0) (L := (List.map intD)) (a := natI 0) (b := natI q1) (fun _ => rfl) rfl (fun _ => by first | rfl | exact num_of_fit ((fun _ => rfl) _)) hx rfl (Or.inl rfl) ?_
  refine G_run 1 ?_
  obtain ⟨v4, hx, hm⟩ := bind_inv hm
  have hq := w_shape_Remove_1 _ _ hx []
  refine G_callP hq ?_
  refine G_run 2 ?_
  obtain ⟨v5, hx, hm⟩ := bind_inv hm
  refine I_sub 1 intD q0 v5 q2 (q0.length : Int) (es := (List.map intD) q0) (L := (List.map intD)) (a := natI q2) (b := some ((List.map intD) q0).length) (fun _ => rfl) rfl (fun _ => by first | rfl | exact num_of_fit ((fun _ => rfl) _)) hx rfl (Or.inr ⟨rfl, rfl⟩) ?_
  refine G_run 1 ?_
  obtain ⟨v6, hx, hm⟩ := bind_inv hm
  have hq := w_slices_Concat_int_int _ _ hx []
  refine G_callP hq ?_
  refine G_run 2 ?_
  refine G_end ⟨by kernel_rfl, ?_⟩
  refine R_ret ?_
  obtain rfl := inj1 hm
  exact ⟨trivial, fin_body (by kernel_rfl) (by kernel_rfl)⟩
end Go.Proofs.Try
namespace Go.Proofs.Try
open Go Go.Pm
set_option linter.unusedVariables false
set_option maxHeartbeats 2000000
set_option maxRecDepth 2000
def m_shape_Remove (x : ((List Int) × Int)) : Option ((List Int) × Int) :=
  match x with
  | (p0, p1) =>
  if p1 ≥ (p0.length : Int) then
    some (([] : (List Int)), 4)
  else
  m_shape_edited_int_b45f6 (p0, p1, (W (p1 + 1))) >>= fun ((v1, v2) : ((List Int) × Int)) =>
  some (v1, v2)
def P_shape_Remove : ((List Int) × Int) → ((List Int) × Int) → Prop := fun x r => match x, r with
  | (p0, p1), (r0, r1) => ∀ H, PC prog env 72 ([(.lst ((List.map intD) p0)), (intD p1)].map .dat) H (.tup [(.dat (.lst ((List.map intD) r0))), (intPV r1)]) H
theorem w_shape_Remove : ∀ x r, m_shape_Remove x = some r → P_shape_Remove x r := by
  intro x r hm
  unfold m_shape_Remove at hm
  unfold P_shape_Remove
  obtain ⟨p0, p1⟩ := x
  obtain ⟨r0, r1⟩ := r
  intro H
  refine PC_sx (ds := [(.lst ((List.map intD) p0)), (intD p1)]) (fn := f72) (by kernel_rfl) (by kernel_rfl) rfl ?_ (by kernel_rfl)
  refine R_seq ?_
  refine R_G ?_
  refine G_run 2 ?_
  refine G_end ?_
  refine R_seq ?_
  refine R_seq ?_
  refine R_G ?_
  refine G_run 2 ?_
  refine I_len intD p0 (es := (List.map intD) p0) rfl ?_
  refine G_run 1 ?_
  refine G_end ?_
  refine R_ifp (p := p1 ≥ (p0.length : Int)) (rfl) (fun hc => ?_) (fun hc => ?_)
  · replace hm := pos_inv hc hm
    refine R_seq ?_
    refine R_G ?_
    refine G_run 2 ?_
    refine G_end ?_
    refine R_ret ?_
    obtain ⟨rfl, rfl⟩ := inj2 hm
    exact ⟨trivial, fin_pure (by kernel_rfl)⟩
  replace hm := neg_inv hc hm
  refine R_skip ?_
  refine R_seq ?_
  refine R_G ?_
  refine G_run 4 ?_
  obtain ⟨⟨v1, v2⟩, hx, hm⟩ := bind_inv hm
  have hq := w_shape_edited_int_b45f6 _ _ hx
  dsimp only [P_shape_edited_int_b45f6] at hq
  refine G_callB hq ?_
  refine G_run 4 ?_
  refine G_end ?_
  refine R_ret ?_
  obtain ⟨rfl, rfl⟩ := inj2 hm
  exact ⟨trivial, fin_pure (by kernel_rfl)⟩
end Go.Proofs.Try
namespace Go.Proofs.Try
open Go Go.Pm
set_option linter.unusedVariables false
set_option maxHeartbeats 2000000
set_option maxRecDepth 2000
def m_slices_Equal_int_int_L1 (x : ((List Int) × (List Int) × Int)) : Option (Unit ⊕ Unit) :=
  match x with
  | (p0, p1, v201) =>
  if v201 < (p0.length : Int) then
    idx p0 v201 >>= fun v601 =>
    idx p1 v201 >>= fun v602 =>
    if v601 ≠ v602 then
      some (Sum.inl ())
    else
    m_slices_Equal_int_int_L1 (p0, p1, (W (v201 + 1)))
  else
  some (Sum.inr ())
  partial_fixpoint
def P_slices_Equal_int_int_L1 : ((List Int) × (List Int) × Int) → (Unit ⊕ Unit) → Prop := fun x r => match x with
  | (p0, p1, v201) => ∀ st, prune 0 ((firstRegion (codeAt [1, 1, 0, 1, 0, 0] (bodyOf f60))).bind (env.hint 60).keepAt) st = ⟨kp 26 [(0, (.dat (.lst ((List.map intD) p0)))), (1, (.dat (.lst ((List.map intD) p1)))), (12, (intPV (p0.length : Int))), (13, (intPV v201))], []⟩ →
    RL prog env (env.hint 60) true (codeAt [1, 1, 0, 1, 0, 0] (bodyOf f60)) 0 st (fun e s => match r with | .inl _ => e = .ret ∧ ∃ d, s = ⟨sl d 26 [(4, (boolPV false))], []⟩ | .inr (_) => e = .exit 0 ∧ ∃ d, s = ⟨sl d 26 [], []⟩)
theorem w_slices_Equal_int_int_L1 : ∀ x r, m_slices_Equal_int_int_L1 x = some r → P_slices_Equal_int_int_L1 x r := by
  refine m_slices_Equal_int_int_L1.partial_correctness _ (fun m_slices_Equal_int_int_L1 w_slices_Equal_int_int_L1 x r hm => ?_)
  unfold P_slices_Equal_int_int_L1
  obtain ⟨p0, p1, v201⟩ := x
  intro st hst
  refine RL_at hst ?_
  clear hst
  refine R_seq ?_
  refine R_G ?_
  refine G_run 1 ?_
  refine G_end ?_
  refine R_seq ?_
  refine R_ifp (p := v201 < (p0.length : Int)) (rfl) (fun hc => ?_) (fun hc => ?_)
  · replace hm := pos_inv hc hm
    refine R_skip ?_
    refine R_seq ?_
    refine R_block ?_
    refine R_seq ?_
    refine R_G ?_
    refine G_run 2 ?_
    refine G_end ?_
    refine R_seq ?_
    refine R_GD ?_
    refine G_run 2 ?_
    obtain ⟨v601, hx, hm⟩ := bind_inv hm
    refine I_idx 1 intD p0 v201 v601 (es := (List.map intD) p0) (d := (intD v601)) rfl hx rfl rfl ?_
    refine G_run 3 ?_
    obtain ⟨v602, hx, hm⟩ := bind_inv hm
    refine I_idx 1 intD p1 v201 v602 (es := (List.map intD) p1) (d := (intD v602)) rfl hx rfl rfl ?_
    refine G_run 2 ?_
    refine G_end ⟨by kernel_rfl, ?_⟩
    refine R_ifp (p := v601 ≠ v602) (ne_dec _ _) (fun hc => ?_) (fun hc => ?_)
    · replace hm := pos_inv hc hm
      refine R_seq ?_
      refine R_G ?_
      refine G_run 1 ?_
      refine G_end ?_
      refine R_ret ?_
      obtain rfl := inj1 hm
      exact ⟨rfl, cut_leaf (by kernel_rfl)⟩
    replace hm := neg_inv hc hm
    refine R_skip ?_
    refine R_G ?_
    refine G_run 2 ?_
    refine G_end ?_
    exact w_slices_Equal_int_int_L1 _ _ hm _ (by kernel_rfl)
  replace hm := neg_inv hc hm
  refine R_exit ?_
  obtain rfl := inj1 hm
  exact ⟨rfl, cut_leaf (by kernel_rfl)⟩
def m_slices_Equal_int_int (x : ((List Int) × (List Int))) : Option Bool :=
  match x with
  | (p0, p1) =>
  if (p0.length : Int) ≠ (p1.length : Int) then
    some false
  else
  (
  m_slices_Equal_int_int_L1 (p0, p1, 0) >>= fun (out : Unit ⊕ Unit) =>
  match out with
  | .inl _ =>
    some false
  | .inr (_) =>
    some true
  )
def P_slices_Equal_int_int : ((List Int) × (List Int)) → Bool → Prop := fun x r => match x, r with
  | (p0, p1), r0 => ∀ H, PC prog env 60 ([(.lst ((List.map intD) p0)), (.lst ((List.map intD) p1))].map .dat) H (boolPV r0) H
theorem w_slices_Equal_int_int : ∀ x r, m_slices_Equal_int_int x = some r → P_slices_Equal_int_int x r := by
  intro x r0 hm
  unfold m_slices_Equal_int_int at hm
  unfold P_slices_Equal_int_int
  obtain ⟨p0, p1⟩ := x
  intro H
  refine PC_sx (ds := [(.lst ((List.map intD) p0)), (.lst ((List.map intD) p1))]) (fn := f60) (by kernel_rfl) (by kernel_rfl) rfl ?_ (by kernel_rfl)
  refine R_seq ?_
  refine R_G ?_
  refine G_run 1 ?_
  refine G_end ?_
  refine R_seq ?_
  refine R_seq ?_
  refine R_G ?_
  refine G_run 1 ?_
  refine I_len intD p0 (es := (List.map intD) p0) rfl ?_
  refine G_run 1 ?_
  refine I_len intD p1 (es := (List.map intD) p1) rfl ?_
  refine G_run 1 ?_
  refine G_end ?_
  refine R_ifp (p := (p0.length : Int) ≠ (p1.length : Int)) (ne_dec _ _) (fun hc => ?_) (fun hc => ?_)
  · replace hm := pos_inv hc hm
    refine R_seq ?_
    refine R_G ?_
    refine G_run 1 ?_
    refine G_end ?_
    refine R_ret ?_
    obtain rfl := inj1 hm
    exact ⟨trivial, fin_pure (by kernel_rfl)⟩
  replace hm := neg_inv hc hm
  refine R_skip ?_
  refine R_seq ?_
  refine R_seq ?_
  refine R_G ?_
  refine G_run 1 ?_
  refine I_len intD p0 (es := (List.map intD) p0) rfl ?_
  refine G_run 1 ?_
  refine G_end ?_
  refine R_block ?_
  obtain ⟨out, hs, hm⟩ := bind_inv hm
  refine R_loop ?_
  rcases out with _ | _
  · refine RL_use (w_slices_Equal_int_int_L1 _ _ hs) (by kernel_rfl) ?_
    clear hs
    intro e s hp
    obtain ⟨rfl, d, rfl⟩ := hp
    obtain rfl := inj1 hm
    exact ⟨trivial, fin_pure (by kernel_rfl)⟩
  · refine RL_use (w_slices_Equal_int_int_L1 _ _ hs) (by kernel_rfl) ?_
    clear hs
    intro e s hp
    obtain ⟨rfl, d, rfl⟩ := hp
    refine R_seq ?_
    refine R_G ?_
    refine G_run 1 ?_
    refine G_end ?_
    refine R_ret ?_
    obtain rfl := inj1 hm
    exact ⟨trivial, fin_pure (by kernel_rfl)⟩
end Go.Proofs.Try
namespace Go.Proofs.Try
open Go Go.Pm
set_option linter.unusedVariables false
set_option maxHeartbeats 2000000
set_option maxRecDepth 2000
def m_shape_Equal (x : ((List Int) × (List Int))) : Option Bool :=
  match x with
  | (p0, p1) =>
  m_slices_Equal_int_int (p0, p1) >>= fun (v1 : Bool) =>
  some v1
def P_shape_Equal : ((List Int) × (List Int)) → Bool → Prop := fun x r => match x, r with
  | (p0, p1), r0 => ∀ H, PC prog env 73 ([(.lst ((List.map intD) p0)), (.lst ((List.map intD) p1))].map .dat) H (boolPV r0) H
theorem w_shape_Equal : ∀ x r, m_shape_Equal x = some r → P_shape_Equal x r := by
  intro x r0 hm
  unfold m_shape_Equal at hm
  unfold P_shape_Equal
  obtain ⟨p0, p1⟩ := x
  intro H
  refine PC_sx (ds := [(.lst ((List.map intD) p0)), (.lst ((List.map intD) p1))]) (fn := f73) (by kernel_rfl) (by kernel_rfl) rfl ?_ (by kernel_rfl)
  refine R_seq ?_
  refine R_G ?_
  refine G_run 1 ?_
  refine G_end ?_
  refine R_seq ?_
  refine R_G ?_
  refine G_run 2 ?_
  obtain ⟨v1, hx, hm⟩ := bind_inv hm
  have hq := w_slices_Equal_int_int _ _ hx []
  refine G_callP hq ?_
  refine G_run 1 ?_
  refine G_end ?_
  refine R_ret ?_
  obtain rfl := inj1 hm
  exact ⟨trivial, fin_pure (by kernel_rfl)⟩
end Go.Proofs.Try
namespace Go.Proofs.Try
open Go Go.Pm
set_option linter.unusedVariables false
set_option maxHeartbeats 2000000
set_option maxRecDepth 2000
def m_size_Sum_1 (x : (Int × Int)) : Option (Int × Bool) :=
  match x with
  | (p0, p1) =>
  some ((W (p0 + p1)), (decide ((W (p0 + p1)) ≤ 65536)))
def P_size_Sum_1 : (Int × Int) → (Int × Bool) → Prop := fun x r => match x, r with
  | (p0, p1), (r0, r1) => ∀ H, PC prog env 101 ([(intD p0), (intD p1)].map .dat) H (.tup [(intPV r0), (boolPV r1)]) H
theorem w_size_Sum_1 : ∀ x r, m_size_Sum_1 x = some r → P_size_Sum_1 x r := by
  intro x r hm
  unfold m_size_Sum_1 at hm
  unfold P_size_Sum_1
  obtain ⟨p0, p1⟩ := x
  obtain ⟨r0, r1⟩ := r
  intro H
  refine PC_sx (ds := [(intD p0), (intD p1)]) (fn := f101) (by kernel_rfl) (by kernel_rfl) rfl ?_ (by kernel_rfl)
  refine R_seq ?_
  refine R_G ?_
  refine G_run 2 ?_
  refine G_end ?_
  refine R_seq ?_
  refine R_G ?_
  refine G_run 9 ?_
  refine G_end ?_
  refine R_ret ?_
  obtain ⟨rfl, rfl⟩ := inj2 hm
  exact ⟨trivial, fin_pure (by kernel_rfl)⟩
end Go.Proofs.Try
namespace Go.Proofs.Try
open Go Go.Pm
set_option linter.unusedVariables false
set_option maxHeartbeats 2000000
set_option maxRecDepth 2000
def m_size_fold_int_size_Sum_1_L1 (x : ((List Int) × Int × Int)) : Option (Int ⊕ Int) :=
  match x with
  | (p0, v201, v202) =>
  if v202 < (p0.length : Int) then
    idx p0 v202 >>= fun v603 =>
    m_size_Sum_1 (v201, v603) >>= fun ((v604, v605) : (Int × Bool)) =>
    if v605 = false then
      some (Sum.inl v604)
    else
    m_size_fold_int_size_Sum_1_L1 (p0, v604, (W (v202 + 1)))
  else
  some (Sum.inr v201)
  partial_fixpoint
def P_size_fold_int_size_Sum_1_L1 : ((List Int) × Int × Int) → (Int ⊕ Int) → Prop := fun x r => match x with
  | (p0, v201, v202) => ∀ st, prune 0 ((firstRegion (codeAt [1, 1, 0, 1, 0, 0] (bodyOf f119))).bind (env.hint 119).keepAt) st = ⟨kp 31 [(2, (.dat (.raw (.func (.func 101) #[] #[])))), (8, (intPV v201)), (13, (.dat (.lst ((List.map intD) p0)))), (14, (intPV (p0.length : Int))), (15, (intPV v202))], []⟩ →
    RL prog env (env.hint 119) true (codeAt [1, 1, 0, 1, 0, 0] (bodyOf f119)) 0 st (fun e s => match r with | .inl v601 => e = .ret ∧ ∃ d, s = ⟨sl d 31 [(6, (intPV v601)), (7, (boolPV false))], []⟩ | .inr (v602) => e = .exit 0 ∧ ∃ d, s = ⟨sl d 31 [(8, (intPV v602))], []⟩)
theorem w_size_fold_int_size_Sum_1_L1 : ∀ x r, m_size_fold_int_size_Sum_1_L1 x = some r → P_size_fold_int_size_Sum_1_L1 x r := by
  refine m_size_fold_int_size_Sum_1_L1.partial_correctness _ (fun m_size_fold_int_size_Sum_1_L1 w_size_fold_int_size_Sum_1_L1 x r hm => ?_)
  unfold P_size_fold_int_size_Sum_1_L1
  obtain ⟨p0, v201, v202⟩ := x
  intro st hst
  refine RL_at hst ?_
  clear hst
  refine R_seq ?_
  refine R_G ?_
  refine G_run 1 ?_
  refine G_end ?_
  refine R_seq ?_
  refine R_ifp (p := v202 < (p0.length : Int)) (rfl) (fun hc => ?_) (fun hc => ?_)
  · replace hm := pos_inv hc hm
    refine R_skip ?_
    refine R_seq ?_
    refine R_block ?_
    refine R_seq ?_
    refine R_G ?_
    obtain ⟨v603, hx, hm⟩ := bind_inv hm
    refine I_idx 1 intD p0 v202 v603 (es := (List.map intD) p0) (d := (intD v603)) rfl hx rfl rfl ?_
    refine G_run 2 ?_
    refine G_end ?_
    refine R_seq ?_
    refine R_G ?_
    refine G_run 3 ?_
    obtain ⟨⟨v604, v605⟩, hx, hm⟩ := bind_inv hm
    have hq := w_size_Sum_1 _ _ hx []
    refine G_callP hq ?_
    refine G_run 5 ?_
    refine G_end ?_
    refine R_seq ?_
    refine R_G ?_
    refine G_run 2 ?_
    refine G_end ?_
    refine R_ifp (p := v605 = false) (not_dec _) (fun hc => ?_) (fun hc => ?_)
    · replace hm := pos_inv hc hm
      refine R_seq ?_
      refine R_G ?_
      refine G_run 3 ?_
      refine G_end ?_
      refine R_ret ?_
      obtain rfl := inj1 hm
      exact ⟨rfl, cut_leaf (by kernel_rfl)⟩
    replace hm := neg_inv hc hm
    refine R_skip ?_
    refine R_G ?_
    refine G_run 2 ?_
    refine G_end ?_
    exact w_size_fold_int_size_Sum_1_L1 _ _ hm _ (by kernel_rfl)
  replace hm := neg_inv hc hm
  refine R_exit ?_
  obtain rfl := inj1 hm
  exact ⟨rfl, cut_leaf (by kernel_rfl)⟩
def m_size_fold_int_size_Sum_1 (x : ((List Int) × Int)) : Option (Int × Bool) :=
  match x with
  | (p0, p1) =>
  (
  m_size_fold_int_size_Sum_1_L1 (p0, p1, 0) >>= fun (out : Int ⊕ Int) =>
  match out with
  | .inl v601 =>
    some (v601, false)
  | .inr (v602) =>
    some (v602, true)
  )
def P_size_fold_int_size_Sum_1 : ((List Int) × Int) → (Int × Bool) → Prop := fun x r => match x, r with
  | (p0, p1), (r0, r1) => ∀ H, PC prog env 119 ([(.lst ((List.map intD) p0)), (intD p1), (.raw (.func (.func 101) #[] #[]))].map .dat) H (.tup [(intPV r0), (boolPV r1)]) H
theorem w_size_fold_int_size_Sum_1 : ∀ x r, m_size_fold_int_size_Sum_1 x = some r → P_size_fold_int_size_Sum_1 x r := by
  intro x r hm
  unfold m_size_fold_int_size_Sum_1 at hm
  unfold P_size_fold_int_size_Sum_1
  obtain ⟨p0, p1⟩ := x
  obtain ⟨r0, r1⟩ := r
  intro H
  refine PC_sx (ds := [(.lst ((List.map intD) p0)), (intD p1), (.raw (.func (.func 101) #[] #[]))]) (fn := f119) (by kernel_rfl) (by kernel_rfl) rfl ?_ (by kernel_rfl)
  refine R_seq ?_
  refine R_G ?_
  refine G_run 2 ?_
  refine G_end ?_
  refine R_seq ?_
  refine R_G ?_
  refine G_run 3 ?_
  refine G_end ?_
  refine R_seq ?_
  refine R_seq ?_
  refine R_G ?_
  refine G_run 1 ?_
  refine I_len intD p0 (es := (List.map intD) p0) rfl ?_
  refine G_run 1 ?_
  refine G_end ?_
  refine R_block ?_
  obtain ⟨out, hs, hm⟩ := bind_inv hm
  refine R_loop ?_
  rcases out with v601 | v602
  · refine RL_use (w_size_fold_int_size_Sum_1_L1 _ _ hs) (by kernel_rfl) ?_
    clear hs
    intro e s hp
    obtain ⟨rfl, d, rfl⟩ := hp
    obtain ⟨rfl, rfl⟩ := inj2 hm
    exact ⟨trivial, fin_pure (by kernel_rfl)⟩
  · refine RL_use (w_size_fold_int_size_Sum_1_L1 _ _ hs) (by kernel_rfl) ?_
    clear hs
    intro e s hp
    obtain ⟨rfl, d, rfl⟩ := hp
    refine R_seq ?_
    refine R_G ?_
    refine G_run 3 ?_
    refine G_end ?_
    refine R_ret ?_
    obtain ⟨rfl, rfl⟩ := inj2 hm
    exact ⟨trivial, fin_pure (by kernel_rfl)⟩
end Go.Proofs.Try
namespace Go.Proofs.Try
open Go Go.Pm
set_option linter.unusedVariables false
set_option maxHeartbeats 2000000
set_option maxRecDepth 2000
def m_size_combined_size_Sum_1 (x : ((List Int) × Int)) : Option (Int × Int) :=
  match x with
  | (p0, p1) =>
  m_size_check p0 >>= fun (v1 : Int) =>
  if v1 ≠ 0 then
    some (0, v1)
  else
  m_size_fold_int_size_Sum_1 (p0, p1) >>= fun ((v2, v3) : (Int × Bool)) =>
  if v3 = false then
    some (0, 7)
  else
  some (v2, 0)
def P_size_combined_size_Sum_1 : ((List Int) × Int) → (Int × Int) → Prop := fun x r => match x, r with
  | (p0, p1), (r0, r1) => ∀ H, PC prog env 100 ([(.lst ((List.map intD) p0)), (intD p1), (.raw (.func (.func 101) #[] #[]))].map .dat) H (.tup [(intPV r0), (intPV r1)]) H
theorem w_size_combined_size_Sum_1 : ∀ x r, m_size_combined_size_Sum_1 x = some r → P_size_combined_size_Sum_1 x r := by
  intro x r hm
  unfold m_size_combined_size_Sum_1 at hm
  unfold P_size_combined_size_Sum_1
  obtain ⟨p0, p1⟩ := x
  obtain ⟨r0, r1⟩ := r
  intro H
  refine PC_sx (ds := [(.lst ((List.map intD) p0)), (intD p1), (.raw (.func (.func 101) #[] #[]))]) (fn := f100) (by kernel_rfl) (by kernel_rfl) rfl ?_ (by kernel_rfl)
  refine R_seq ?_
  refine R_G ?_
  refine G_run 2 ?_
  refine G_end ?_
  refine R_seq ?_
  refine R_seq ?_
  refine R_G ?_
  refine G_run 1 ?_
  obtain ⟨v1, hx, hm⟩ := bind_inv hm
  have hq := w_size_check _ _ hx []
  refine G_callP hq ?_
  refine G_run 1 ?_
  refine G_end ?_
  refine R_seq ?_
  refine R_G ?_
  refine G_run 2 ?_
  refine G_end ?_
  refine R_ifp (p := v1 ≠ 0) (ne_dec _ _) (fun hc => ?_) (fun hc => ?_)
  · replace hm := pos_inv hc hm
    refine R_seq ?_
    refine R_G ?_
    refine G_run 3 ?_
    refine G_end ?_
    refine R_ret ?_
    obtain ⟨rfl, rfl⟩ := inj2 hm
    exact ⟨trivial, fin_pure (by kernel_rfl)⟩
  replace hm := neg_inv hc hm
  refine R_skip ?_
  refine R_seq ?_
  refine R_G ?_
  refine G_run 3 ?_
  obtain ⟨⟨v2, v3⟩, hx, hm⟩ := bind_inv hm
  have hq := w_size_fold_int_size_Sum_1 _ _ hx []
  refine G_callP hq ?_
  refine G_run 5 ?_
  refine G_end ?_
  refine R_seq ?_
  refine R_seq ?_
  refine R_G ?_
  refine G_run 2 ?_
  refine G_end ?_
  refine R_ifp (p := v3 = false) (not_dec _) (fun hc => ?_) (fun hc => ?_)
  · replace hm := pos_inv hc hm
    refine R_seq ?_
    refine R_G ?_
    refine G_run 2 ?_
    refine G_end ?_
    refine R_ret ?_
    obtain ⟨rfl, rfl⟩ := inj2 hm
    exact ⟨trivial, fin_pure (by kernel_rfl)⟩
  replace hm := neg_inv hc hm
  refine R_skip ?_
  refine R_seq ?_
  refine R_G ?_
  refine G_run 3 ?_
  refine G_end ?_
  refine R_ret ?_
  obtain ⟨rfl, rfl⟩ := inj2 hm
  exact ⟨trivial, fin_pure (by kernel_rfl)⟩
end Go.Proofs.Try
namespace Go.Proofs.Try
open Go Go.Pm
set_option linter.unusedVariables false
set_option maxHeartbeats 2000000
set_option maxRecDepth 2000
def m_size_Sum (x : (List Int)) : Option (Int × Int) :=
  match x with
  | p0 =>
  m_size_combined_size_Sum_1 (p0, 0) >>= fun ((v1, v2) : (Int × Int)) =>
  some (v1, v2)
def P_size_Sum : (List Int) → (Int × Int) → Prop := fun x r => match x, r with
  | p0, (r0, r1) => ∀ H, PC prog env 74 ([(.lst ((List.map intD) p0))].map .dat) H (.tup [(intPV r0), (intPV r1)]) H
theorem w_size_Sum : ∀ x r, m_size_Sum x = some r → P_size_Sum x r := by
  intro p0 r hm
  unfold m_size_Sum at hm
  unfold P_size_Sum
  obtain ⟨r0, r1⟩ := r
  intro H
  refine PC_sx (ds := [(.lst ((List.map intD) p0))]) (fn := f74) (by kernel_rfl) (by kernel_rfl) rfl ?_ (by kernel_rfl)
  refine R_seq ?_
  refine R_G ?_
  refine G_run 2 ?_
  refine G_end ?_
  refine R_seq ?_
  refine R_G ?_
  refine G_run 1 ?_
  obtain ⟨⟨v1, v2⟩, hx, hm⟩ := bind_inv hm
  have hq := w_size_combined_size_Sum_1 _ _ hx []
  refine G_callP hq ?_
  refine G_run 4 ?_
  refine G_end ?_
  refine R_ret ?_
  obtain ⟨rfl, rfl⟩ := inj2 hm
  exact ⟨trivial, fin_pure (by kernel_rfl)⟩
end Go.Proofs.Try
namespace Go.Proofs.Try
open Go Go.Pm
set_option linter.unusedVariables false
set_option maxHeartbeats 2000000
set_option maxRecDepth 2000
def m_rule_joined (x : ((List Int) × (List Int) × Int)) : Option ((List Int) × Int) :=
  match x with
  | (p0, p1, p2) =>
  m_shape_Remove (p0, p2) >>= fun ((v1, v2) : ((List Int) × Int)) =>
  m_shape_Remove (p1, p2) >>= fun ((v3, v4) : ((List Int) × Int)) =>
  m_shape_Equal (v1, v3) >>= fun (v5 : Bool) =>
  if v5 = false then
    some (([] : (List Int)), 5)
  else
  idx p0 p2 >>= fun v6 =>
  idx p1 p2 >>= fun v7 =>
  m_size_Sum ([v6, v7] : List Int) >>= fun ((v8, v9) : (Int × Int)) =>
  if v9 ≠ 0 then
    some (([] : (List Int)), v9)
  else
  m_shape_Replace (p0, p2, v8) >>= fun ((v10, v11) : ((List Int) × Int)) =>
  some (v10, v11)
def P_rule_joined : ((List Int) × (List Int) × Int) → ((List Int) × Int) → Prop := fun x r => match x, r with
  | (p0, p1, p2), (r0, r1) => ∀ H, PC prog env 39 ([(.lst ((List.map intD) p0)), (.lst ((List.map intD) p1)), (intD p2)].map .dat) H (.tup [(.dat (.lst ((List.map intD) r0))), (intPV r1)]) H
theorem w_rule_joined : ∀ x r, m_rule_joined x = some r → P_rule_joined x r := by
  intro x r hm
  unfold m_rule_joined at hm
  unfold P_rule_joined
  obtain ⟨p0, p1, p2⟩ := x
  obtain ⟨r0, r1⟩ := r
  intro H
  refine PC_sx (ds := [(.lst ((List.map intD) p0)), (.lst ((List.map intD) p1)), (intD p2)]) (fn := f39) (by kernel_rfl) (by kernel_rfl) rfl ?_ (by kernel_rfl)
  refine R_seq ?_
  refine R_G ?_
  refine G_run 2 ?_
  refine G_end ?_
  refine R_seq ?_
  refine R_G ?_
  refine G_run 2 ?_
  obtain ⟨⟨v1, v2⟩, hx, hm⟩ := bind_inv hm
  have hq := w_shape_Remove _ _ hx []
  refine G_callP hq ?_
  refine G_run 5 ?_
  refine G_end ?_
  refine R_seq ?_
  refine R_G ?_
  refine G_run 2 ?_
  obtain ⟨⟨v3, v4⟩, hx, hm⟩ := bind_inv hm
  have hq := w_shape_Remove _ _ hx []
  refine G_callP hq ?_
  refine G_run 5 ?_
  refine G_end ?_
  refine R_seq ?_
  refine R_seq ?_
  refine R_G ?_
  refine G_run 2 ?_
  obtain ⟨v5, hx, hm⟩ := bind_inv hm
  have hq := w_shape_Equal _ _ hx []
  refine G_callP hq ?_
  refine G_run 1 ?_
  refine G_end ?_
  refine R_ifp (p := v5 = false) (not_dec _) (fun hc => ?_) (fun hc => ?_)
  · replace hm := pos_inv hc hm
    refine R_seq ?_
    refine R_G ?_
    refine G_run 2 ?_
    refine G_end ?_
    refine R_ret ?_
    obtain ⟨rfl, rfl⟩ := inj2 hm
    exact ⟨trivial, fin_pure (by kernel_rfl)⟩
  replace hm := neg_inv hc hm
  refine R_skip ?_
  refine R_seq ?_
  refine R_GD ?_
  refine G_run 2 ?_
  obtain ⟨v6, hx, hm⟩ := bind_inv hm
  refine I_idx 1 intD p0 p2 v6 (es := (List.map intD) p0) (d := (intD v6)) rfl hx rfl rfl ?_
  refine G_run 3 ?_
  obtain ⟨v7, hx, hm⟩ := bind_inv hm
  refine I_idx 1 intD p1 p2 v7 (es := (List.map intD) p1) (d := (intD v7)) rfl hx rfl rfl ?_
  refine G_run 2 ?_
  obtain ⟨⟨v8, v9⟩, hx, hm⟩ := bind_inv hm
  have hq := w_size_Sum _ _ hx []
  refine G_callP hq ?_
  refine G_run 5 ?_
  refine G_end ⟨by kernel_rfl, ?_⟩
  refine R_seq ?_
  refine R_seq ?_
  refine R_G ?_
  refine G_run 2 ?_
  refine G_end ?_
  refine R_ifp (p := v9 ≠ 0) (ne_dec _ _) (fun hc => ?_) (fun hc => ?_)
  · replace hm := pos_inv hc hm
    refine R_seq ?_
    refine R_G ?_
    refine G_run 3 ?_
    refine G_end ?_
    refine R_ret ?_
    obtain ⟨rfl, rfl⟩ := inj2 hm
    exact ⟨trivial, fin_pure (by kernel_rfl)⟩
  replace hm := neg_inv hc hm
  refine R_skip ?_
  refine R_seq ?_
  refine R_G ?_
  refine G_run 3 ?_
  obtain ⟨⟨v10, v11⟩, hx, hm⟩ := bind_inv hm
  have hq := w_shape_Replace _ _ hx []
  refine G_callP hq ?_
  refine G_run 4 ?_
  refine G_end ?_
  refine R_ret ?_
  obtain ⟨rfl, rfl⟩ := inj2 hm
  exact ⟨trivial, fin_pure (by kernel_rfl)⟩
end Go.Proofs.Try
namespace Go.Proofs.Try
open Go Go.Pm
set_option linter.unusedVariables false
set_option maxHeartbeats 2000000
set_option maxRecDepth 2000
def m_rule_along (x : (Int × Int)) : Option (Int × Int) :=
  match x with
  | (p0, p1) =>
  some (p0, p1)
def P_rule_along : (Int × Int) → (Int × Int) → Prop := fun x r => match x, r with
  | (p0, p1), (v5001, v5002) => ∀ H, PC prog env 41 ([(intD p0), (intD p1)].map .dat) H (.fn 76 [(.iptr [(intD v5001)]), (.iptr [(intD v5002)])]) H
theorem w_rule_along : ∀ x r, m_rule_along x = some r → P_rule_along x r := by
  intro x r hm
  unfold m_rule_along at hm
  unfold P_rule_along
  obtain ⟨p0, p1⟩ := x
  obtain ⟨v5001, v5002⟩ := r
  intro H
  refine PC_sx (ds := [(intD p0), (intD p1)]) (fn := f41) (by kernel_rfl) (by kernel_rfl) rfl ?_ (by kernel_rfl)
  refine R_seq ?_
  refine R_G ?_
  refine G_run 3 ?_
  refine G_end ?_
  refine R_seq ?_
  refine R_G ?_
  refine G_run 2 ?_
  refine G_end ?_
  refine R_ret ?_
  obtain ⟨rfl, rfl⟩ := inj2 hm
  exact ⟨trivial, fin_pure (by kernel_rfl)⟩
end Go.Proofs.Try
namespace Go.Proofs.Try
open Go Go.Pm
set_option linter.unusedVariables false
set_option maxHeartbeats 2000000
set_option maxRecDepth 2000
def m_rule_along_1_b2055 (x : (Int × Int × (List Int) × (List Int) × (List Int))) : Option (Unit) :=
  match x with
  | (q0, q1, q2, q3, q4) =>
  some ()
def P_rule_along_1_b2055 : (Int × Int × (List Int) × (List Int) × (List Int)) → Unit → Prop := fun x r => match x with
  | (q0, q1, q2, q3, q4) => PC prog env 76 [(.ptr 6 0), (.iptr [(intD q0)]), (.iptr [(intD q1)])] [(.box [(.dat (.lst ((List.map intD) []))), (.dat (.lst ((List.map intD) []))), (.dat (.lst ((List.map intD) []))), (.dat (.lst ((List.map intD) []))), (intPV 0), (intPV 0), (.dat (.lst ((List.map intD) [])))]), (.box [(.dat (.lst ((List.map intD) q2)))]), (.box [(.fn 76 [(.iptr [(intD q0)]), (.iptr [(intD q1)])]), (.fn 42 [(.ptr 1 0)])]), (.box [(.dat (.lst ((List.map intD) []))), (.dat (.lst ((List.map intD) []))), (.dat (.lst ((List.map intD) []))), (.dat (.lst ((List.map intD) []))), (intPV 0), (intPV 0), (.dat (.lst ((List.map intD) [])))]), (.mt 3 1 (cellsOf intD q3)), (.mt 3 1 (cellsOf intD q4)), (.box [(.dat (.lst ((List.map intD) []))), (.ms 4 1 0 q3.length q3.length), (.ms 5 1 0 q4.length q4.length), (.dat (.lst ((List.map intD) []))), (intPV (-1)), (intPV 0), (.dat (.lst ((List.map intD) [])))])] (match r with | _ => (.tup [])) (match r with | _ => [(.box [(.dat (.lst ((List.map intD) []))), (.dat (.lst ((List.map intD) []))), (.dat (.lst ((List.map intD) []))), (.dat (.lst ((List.map intD) []))), (intPV 0), (intPV 0), (.dat (.lst ((List.map intD) [])))]), (.box [(.dat (.lst ((List.map intD) q2)))]), (.box [(.fn 76 [(.iptr [(intD q0)]), (.iptr [(intD q1)])]), (.fn 42 [(.ptr 1 0)])]), (.box [(.dat (.lst ((List.map intD) []))), (.dat (.lst ((List.map intD) []))), (.dat (.lst ((List.map intD) []))), (.dat (.lst ((List.map intD) []))), (intPV 0), (intPV 0), (.dat (.lst ((List.map intD) [])))]), (.mt 3 1 (cellsOf intD q3)), (.mt 3 1 (cellsOf intD q4)), (.box [(.dat (.lst ((List.map intD) []))), (.ms 4 1 0 q3.length q3.length), (.ms 5 1 0 q4.length q4.length), (.dat (.lst ((List.map intD) []))), (intPV q0), (intPV q1), (.dat (.lst ((List.map intD) [])))])])
theorem w_rule_along_1_b2055 : ∀ x r, m_rule_along_1_b2055 x = some r → P_rule_along_1_b2055 x r := by
  intro x r hm
  unfold m_rule_along_1_b2055 at hm
  unfold P_rule_along_1_b2055
  obtain ⟨q0, q1, q2, q3, q4⟩ := x
  refine PC_sxB (fn := f76) (by kernel_rfl) (by kernel_rfl) rfl ?_
  refine R_GD ?_
  refine G_run 10 ?_
  refine G_end ⟨by kernel_rfl, ?_⟩
  obtain rfl := inj1 hm
  exact ⟨trivial, fin_body (by kernel_rfl) (by kernel_rfl)⟩
end Go.Proofs.Try
namespace Go.Proofs.Try
open Go Go.Pm
set_option linter.unusedVariables false
set_option maxHeartbeats 2000000
set_option maxRecDepth 2000
def m_rule_Catenate_1_b2332 (x : ((List Int) × Int × Int × (List Int) × (List Int))) : Option (Unit) :=
  match x with
  | (q0, q1, q2, q3, q4) =>
  some ()
def P_rule_Catenate_1_b2332 : ((List Int) × Int × Int × (List Int) × (List Int)) → Unit → Prop := fun x r => match x with
  | (q0, q1, q2, q3, q4) => PC prog env 42 [(.ptr 6 0), (.ptr 1 0)] [(.box [(.dat (.lst ((List.map intD) []))), (.dat (.lst ((List.map intD) []))), (.dat (.lst ((List.map intD) []))), (.dat (.lst ((List.map intD) []))), (intPV 0), (intPV 0), (.dat (.lst ((List.map intD) [])))]), (.box [(.dat (.lst ((List.map intD) q0)))]), (.box [(.fn 76 [(.iptr [(intD q1)]), (.iptr [(intD q2)])]), (.fn 42 [(.ptr 1 0)])]), (.box [(.dat (.lst ((List.map intD) []))), (.dat (.lst ((List.map intD) []))), (.dat (.lst ((List.map intD) []))), (.dat (.lst ((List.map intD) []))), (intPV 0), (intPV 0), (.dat (.lst ((List.map intD) [])))]), (.mt 3 1 (cellsOf intD q3)), (.mt 3 1 (cellsOf intD q4)), (.box [(.dat (.lst ((List.map intD) []))), (.ms 4 1 0 q3.length q3.length), (.ms 5 1 0 q4.length q4.length), (.dat (.lst ((List.map intD) []))), (intPV q1), (intPV q2), (.dat (.lst ((List.map intD) [])))])] (match r with | _ => (.tup [])) (match r with | _ => [(.box [(.dat (.lst ((List.map intD) []))), (.dat (.lst ((List.map intD) []))), (.dat (.lst ((List.map intD) []))), (.dat (.lst ((List.map intD) []))), (intPV 0), (intPV 0), (.dat (.lst ((List.map intD) [])))]), (.box [(.dat (.lst ((List.map intD) q0)))]), (.box [(.fn 76 [(.iptr [(intD q1)]), (.iptr [(intD q2)])]), (.fn 42 [(.ptr 1 0)])]), (.box [(.dat (.lst ((List.map intD) []))), (.dat (.lst ((List.map intD) []))), (.dat (.lst ((List.map intD) []))), (.dat (.lst ((List.map intD) []))), (intPV 0), (intPV 0), (.dat (.lst ((List.map intD) [])))]), (.mt 3 1 (cellsOf intD q3)), (.mt 3 1 (cellsOf intD q4)), (.box [(.dat (.lst ((List.map intD) q0))), (.ms 4 1 0 q3.length q3.length), (.ms 5 1 0 q4.length q4.length), (.dat (.lst ((List.map intD) []))), (intPV q1), (intPV q2), (.dat (.lst ((List.map intD) [])))])])
theorem w_rule_Catenate_1_b2332 : ∀ x r, m_rule_Catenate_1_b2332 x = some r → P_rule_Catenate_1_b2332 x r := by
  intro x r hm
  unfold m_rule_Catenate_1_b2332 at hm
  unfold P_rule_Catenate_1_b2332
  obtain ⟨q0, q1, q2, q3, q4⟩ := x
  refine PC_sxB (fn := f42) (by kernel_rfl) (by kernel_rfl) rfl ?_
  refine R_G ?_
  refine G_run 5 ?_
  refine G_end ?_
  obtain rfl := inj1 hm
  exact ⟨trivial, fin_body (by kernel_rfl) (by kernel_rfl)⟩
end Go.Proofs.Try
namespace Go.Proofs.Try
open Go Go.Pm
set_option linter.unusedVariables false
set_option maxHeartbeats 2000000
set_option maxRecDepth 2000
def m_rule_made_b82b3 (x : ((List Int) × (List Int) × (List Int) × Int × Int)) : Option (Int ⊕ ((List Int) × (List Int))) :=
  match x with
  | (q0, q1, q2, q3, q4) =>
  m_shape_Check q1 >>= fun (v1 : Int) =>
  if v1 ≠ 0 then
    some (Sum.inl v1)
  else
  m_slices_Clone_int_int q0 >>= fun v2 =>
  m_slices_Clone_int_int q1 >>= fun v3 =>
  m_rule_along_1_b2055 (q3, q4, q2, v2, v3) >>= fun (_ : Unit) =>
  m_rule_Catenate_1_b2332 (q2, q3, q4, v2, v3) >>= fun (_ : Unit) =>
  some (Sum.inr (v2, v3))
def P_rule_made_b82b3 : ((List Int) × (List Int) × (List Int) × Int × Int) → (Int ⊕ ((List Int) × (List Int))) → Prop := fun x r => match x with
  | (q0, q1, q2, q3, q4) => PC prog env 40 [(.dat (.lst ((List.map intD) q0))), (.dat (.lst ((List.map intD) q1))), (.arr 2 0 2 2)] [(.box [(.dat (.lst ((List.map intD) []))), (.dat (.lst ((List.map intD) []))), (.dat (.lst ((List.map intD) []))), (.dat (.lst ((List.map intD) []))), (intPV 0), (intPV 0), (.dat (.lst ((List.map intD) [])))]), (.box [(.dat (.lst ((List.map intD) q2)))]), (.box [(.fn 76 [(.iptr [(intD q3)]), (.iptr [(intD q4)])]), (.fn 42 [(.ptr 1 0)])])] (match r with | .inl v5001 => (.tup [(.dat (.agg [(.lst ((List.map intD) [])), (.lst ((List.map intD) [])), (.lst ((List.map intD) [])), (.lst ((List.map intD) [])), (intD 0), (intD 0), (.lst ((List.map intD) []))])), (intPV v5001)]) | .inr ((v5002, v5003)) => (.tup [(.agg [(.dat (.lst ((List.map intD) q2))), (.ms 4 1 0 v5002.length v5002.length), (.ms 5 1 0 v5003.length v5003.length), (.dat (.lst ((List.map intD) []))), (intPV q3), (intPV q4), (.dat (.lst ((List.map intD) [])))]), (intPV 0)])) (match r with | .inl v5001 => [(.box [(.dat (.lst ((List.map intD) []))), (.dat (.lst ((List.map intD) []))), (.dat (.lst ((List.map intD) []))), (.dat (.lst ((List.map intD) []))), (intPV 0), (intPV 0), (.dat (.lst ((List.map intD) [])))]), (.box [(.dat (.lst ((List.map intD) q2)))]), (.box [(.fn 76 [(.iptr [(intD q3)]), (.iptr [(intD q4)])]), (.fn 42 [(.ptr 1 0)])]), (.box [(.dat (.lst ((List.map intD) []))), (.dat (.lst ((List.map intD) []))), (.dat (.lst ((List.map intD) []))), (.dat (.lst ((List.map intD) []))), (intPV 0), (intPV 0), (.dat (.lst ((List.map intD) [])))])] | .inr ((v5002, v5003)) => [(.box [(.dat (.lst ((List.map intD) []))), (.dat (.lst ((List.map intD) []))), (.dat (.lst ((List.map intD) []))), (.dat (.lst ((List.map intD) []))), (intPV 0), (intPV 0), (.dat (.lst ((List.map intD) [])))]), (.box [(.dat (.lst ((List.map intD) q2)))]), (.box [(.fn 76 [(.iptr [(intD q3)]), (.iptr [(intD q4)])]), (.fn 42 [(.ptr 1 0)])]), (.box [(.dat (.lst ((List.map intD) q2))), (.ms 4 1 0 v5002.length v5002.length), (.ms 5 1 0 v5003.length v5003.length), (.dat (.lst ((List.map intD) []))), (intPV q3), (intPV q4), (.dat (.lst ((List.map intD) [])))]), (.mt 3 1 (cellsOf intD v5002)), (.mt 3 1 (cellsOf intD v5003)), (.box [(.dat (.lst ((List.map intD) q2))), (.ms 4 1 0 v5002.length v5002.length), (.ms 5 1 0 v5003.length v5003.length), (.dat (.lst ((List.map intD) []))), (intPV q3), (intPV q4), (.dat (.lst ((List.map intD) [])))])])
theorem w_rule_made_b82b3 : ∀ x r, m_rule_made_b82b3 x = some r → P_rule_made_b82b3 x r := by
  intro x r hm
  unfold m_rule_made_b82b3 at hm
  unfold P_rule_made_b82b3
  obtain ⟨q0, q1, q2, q3, q4⟩ := x
  refine PC_sxB (fn := f40) (by kernel_rfl) (by kernel_rfl) rfl ?_
  refine R_seq ?_
  refine R_G ?_
  refine G_run 2 ?_
  refine G_end ?_
  refine R_seq ?_
  refine R_seq ?_
  refine R_G ?_
  refine G_run 1 ?_
  obtain ⟨v1, hx, hm⟩ := bind_inv hm
  have hq := w_shape_Check _ _ hx []
  refine G_callP hq ?_
  refine G_run 1 ?_
  refine G_end ?_
  refine R_seq ?_
  refine R_G ?_
  refine G_run 2 ?_
  refine G_end ?_
  refine R_ifp (p := v1 ≠ 0) (ne_dec _ _) (fun hc => ?_) (fun hc => ?_)
  · replace hm := pos_inv hc hm
    refine R_seq ?_
    refine R_G ?_
    refine G_run 4 ?_
    refine G_end ?_
    refine R_ret ?_
    obtain rfl := inj1 hm
    exact ⟨trivial, fin_body (by kernel_rfl) (by kernel_rfl)⟩
  replace hm := neg_inv hc hm
  refine R_skip ?_
  refine R_seq ?_
  refine R_G ?_
  refine G_run 1 ?_
  obtain ⟨v2, hx, hm⟩ := bind_inv hm
  have hq := w_slices_Clone_int_int _ _ hx
  dsimp only [P_slices_Clone_int_int] at hq
  have hl9 : mtOf [Blk.mt 3 (cgm_slices_Clone_int_int v2) (cellsOf intD v2)] 0 = some (3, cgm_slices_Clone_int_int v2, cellsOf intD v2) := mtOf_at (by kernel_rfl)
  refine G_semH (v := .ms 4 1 0 v2.length v2.length) (fun H => H ++ [.mt 3 1 (cellsOf intD v2)]) rfl (by kernel_rfl) ?_ ?_
  · intro K hk
    refine E_callOwnN 4 (first := #[]) (cap := #[]) (j := (0, 3)) (ow' := []) (f0 := intD) (l := v2) rfl ?_ ?_ ?_ (ds := [.lst ((List.map intD) q0)]) ?_ hq hl9 ?_ ?_ ?_
    · kernel_rfl
    · kernel_rfl
    · kernel_rfl
    · kernel_rfl
    · exact hk
    · kernel_rfl
    · decide
  refine G_run 1 ?_
  obtain ⟨v3, hx, hm⟩ := bind_inv hm
  have hq := w_slices_Clone_int_int _ _ hx
  dsimp only [P_slices_Clone_int_int] at hq
  have hl9 : mtOf [Blk.mt 3 (cgm_slices_Clone_int_int v3) (cellsOf intD v3)] 0 = some (3, cgm_slices_Clone_int_int v3, cellsOf intD v3) := mtOf_at (by kernel_rfl)
  refine G_semH (v := .ms 5 1 0 v3.length v3.length) (fun H => H ++ [.mt 3 1 (cellsOf intD v3)]) rfl (by kernel_rfl) ?_ ?_
  · intro K hk
    refine E_callOwnN 5 (first := #[]) (cap := #[]) (j := (0, 3)) (ow' := []) (f0 := intD) (l := v3) rfl ?_ ?_ ?_ (ds := [.lst ((List.map intD) q1)]) ?_ hq hl9 ?_ ?_ ?_
    · kernel_rfl
    · kernel_rfl
    · kernel_rfl
    · kernel_rfl
    · exact hk
    · kernel_rfl
    · decide
  refine G_run 3 ?_
  refine G_end ?_
  refine R_seq ?_
  refine R_seq ?_
  refine R_G ?_
  refine G_run 1 ?_
  refine G_run 1 ?_
  refine G_run 1 ?_
  refine G_end ?_
  refine R_block ?_
  refine R_loop ?_
  refine RL_at (st' := ⟨kp 33 [(6, (.ptr 3 0)), (9, (.ptr 6 0)), (23, (.arr 2 0 2 2)), (24, (intPV 2)), (25, (intPV 0))], [(.box [(.dat (.lst ((List.map intD) []))), (.dat (.lst ((List.map intD) []))), (.dat (.lst ((List.map intD) []))), (.dat (.lst ((List.map intD) []))), (intPV 0), (intPV 0), (.dat (.lst ((List.map intD) [])))]), (.box [(.dat (.lst ((List.map intD) q2)))]), (.box [(.fn 76 [(.iptr [(intD q3)]), (.iptr [(intD q4)])]), (.fn 42 [(.ptr 1 0)])]), (.box [(.dat (.lst ((List.map intD) []))), (.dat (.lst ((List.map intD) []))), (.dat (.lst ((List.map intD) []))), (.dat (.lst ((List.map intD) []))), (intPV 0), (intPV 0), (.dat (.lst ((List.map intD) [])))]), (.mt 3 1 (cellsOf intD v2)), (.mt 3 1 (cellsOf intD v3)), (.box [(.dat (.lst ((List.map intD) []))), (.ms 4 1 0 v2.length v2.length), (.ms 5 1 0 v3.length v3.length), (.dat (.lst ((List.map intD) []))), (intPV (-1)), (intPV 0), (.dat (.lst ((List.map intD) [])))])]⟩) (prune_of2 [(.box [(.dat (.lst ((List.map intD) []))), (.dat (.lst ((List.map intD) []))), (.dat (.lst ((List.map intD) []))), (.dat (.lst ((List.map intD) []))), (intPV 0), (intPV 0), (.dat (.lst ((List.map intD) [])))]), (.box [(.dat (.lst ((List.map intD) q2)))]), (.box [(.fn 76 [(.iptr [(intD q3)]), (.iptr [(intD q4)])]), (.fn 42 [(.ptr 1 0)])]), (.box [(.dat (.lst ((List.map intD) []))), (.dat (.lst ((List.map intD) []))), (.dat (.lst ((List.map intD) []))), (.dat (.lst ((List.map intD) []))), (intPV 0), (intPV 0), (.dat (.lst ((List.map intD) [])))]), (.mt 3 1 (cellsOf intD v2)), (.mt 3 1 (cellsOf intD v3)), (.box [(.dat (.lst ((List.map intD) []))), (.ms 4 1 0 v2.length v2.length), (.ms 5 1 0 v3.length v3.length), (.dat (.lst ((List.map intD) []))), (intPV (-1)), (intPV 0), (.dat (.lst ((List.map intD) [])))])] (fun _ => (pg_cons (by kernel_rfl) (pg_cons (by kernel_rfl) (pg_cons (by kernel_rfl) (pg_cons (by kernel_rfl) (pg_cons (purge_mt intD _ _ _ _ _) (pg_cons (purge_mt intD _ _ _ _ _) (pg_cons (by kernel_rfl) pg_nil)))))))) rfl) ?_
  refine R_seq ?_
  refine R_G ?_
  refine G_run 1 ?_
  refine G_end ?_
  refine R_seq ?_
  refine R_true (by kernel_rfl) ?_
  refine R_skip ?_
  refine R_seq ?_
  refine R_block ?_
  refine R_seq ?_
  refine R_G ?_
  refine G_run 1 ?_
  refine G_run 2 ?_
  refine G_end ?_
  refine R_G ?_
  refine G_run 1 ?_
  obtain ⟨_, hx, hm⟩ := bind_inv hm
  have hq := w_rule_along_1_b2055 _ _ hx
  dsimp only [P_rule_along_1_b2055] at hq
  refine G_callB hq ?_
  refine G_end ?_
  refine R_G ?_
  refine G_run 2 ?_
  refine G_end ?_
  refine RL_at (st' := ⟨kp 33 [(6, (.ptr 3 0)), (9, (.ptr 6 0)), (23, (.arr 2 0 2 2)), (24, (intPV 2)), (25, (intPV 1))], [(.box [(.dat (.lst ((List.map intD) []))), (.dat (.lst ((List.map intD) []))), (.dat (.lst ((List.map intD) []))), (.dat (.lst ((List.map intD) []))), (intPV 0), (intPV 0), (.dat (.lst ((List.map intD) [])))]), (.box [(.dat (.lst ((List.map intD) q2)))]), (.box [(.fn 76 [(.iptr [(intD q3)]), (.iptr [(intD q4)])]), (.fn 42 [(.ptr 1 0)])]), (.box [(.dat (.lst ((List.map intD) []))), (.dat (.lst ((List.map intD) []))), (.dat (.lst ((List.map intD) []))), (.dat (.lst ((List.map intD) []))), (intPV 0), (intPV 0), (.dat (.lst ((List.map intD) [])))]), (.mt 3 1 (cellsOf intD v2)), (.mt 3 1 (cellsOf intD v3)), (.box [(.dat (.lst ((List.map intD) []))), (.ms 4 1 0 v2.length v2.length), (.ms 5 1 0 v3.length v3.length), (.dat (.lst ((List.map intD) []))), (intPV q3), (intPV q4), (.dat (.lst ((List.map intD) [])))])]⟩) (prune_of2 [(.box [(.dat (.lst ((List.map intD) []))), (.dat (.lst ((List.map intD) []))), (.dat (.lst ((List.map intD) []))), (.dat (.lst ((List.map intD) []))), (intPV 0), (intPV 0), (.dat (.lst ((List.map intD) [])))]), (.box [(.dat (.lst ((List.map intD) q2)))]), (.box [(.fn 76 [(.iptr [(intD q3)]), (.iptr [(intD q4)])]), (.fn 42 [(.ptr 1 0)])]), (.box [(.dat (.lst ((List.map intD) []))), (.dat (.lst ((List.map intD) []))), (.dat (.lst ((List.map intD) []))), (.dat (.lst ((List.map intD) []))), (intPV 0), (intPV 0), (.dat (.lst ((List.map intD) [])))]), (.mt 3 1 (cellsOf intD v2)), (.mt 3 1 (cellsOf intD v3)), (.box [(.dat (.lst ((List.map intD) []))), (.ms 4 1 0 v2.length v2.length), (.ms 5 1 0 v3.length v3.length), (.dat (.lst ((List.map intD) []))), (intPV q3), (intPV q4), (.dat (.lst ((List.map intD) [])))])] (fun _ => (pg_cons (by kernel_rfl) (pg_cons (by kernel_rfl) (pg_cons (by kernel_rfl) (pg_cons (by kernel_rfl) (pg_cons (purge_mt intD _ _ _ _ _) (pg_cons (purge_mt intD _ _ _ _ _) (pg_cons (by kernel_rfl) pg_nil)))))))) rfl) ?_
  refine R_seq ?_
  refine R_G ?_
  refine G_run 1 ?_
  refine G_end ?_
  refine R_seq ?_
  refine R_true (by kernel_rfl) ?_
  refine R_skip ?_
  refine R_seq ?_
  refine R_block ?_
  refine R_seq ?_
  refine R_G ?_
  refine G_run 1 ?_
  refine G_run 2 ?_
  refine G_end ?_
  refine R_G ?_
  refine G_run 1 ?_
  obtain ⟨_, hx, hm⟩ := bind_inv hm
  have hq := w_rule_Catenate_1_b2332 _ _ hx
  dsimp only [P_rule_Catenate_1_b2332] at hq
  refine G_callB hq ?_
  refine G_end ?_
  refine R_G ?_
  refine G_run 2 ?_
  refine G_end ?_
  refine RL_at (st' := ⟨kp 33 [(6, (.ptr 3 0)), (9, (.ptr 6 0)), (23, (.arr 2 0 2 2)), (24, (intPV 2)), (25, (intPV 2))], [(.box [(.dat (.lst ((List.map intD) []))), (.dat (.lst ((List.map intD) []))), (.dat (.lst ((List.map intD) []))), (.dat (.lst ((List.map intD) []))), (intPV 0), (intPV 0), (.dat (.lst ((List.map intD) [])))]), (.box [(.dat (.lst ((List.map intD) q2)))]), (.box [(.fn 76 [(.iptr [(intD q3)]), (.iptr [(intD q4)])]), (.fn 42 [(.ptr 1 0)])]), (.box [(.dat (.lst ((List.map intD) []))), (.dat (.lst ((List.map intD) []))), (.dat (.lst ((List.map intD) []))), (.dat (.lst ((List.map intD) []))), (intPV 0), (intPV 0), (.dat (.lst ((List.map intD) [])))]), (.mt 3 1 (cellsOf intD v2)), (.mt 3 1 (cellsOf intD v3)), (.box [(.dat (.lst ((List.map intD) q2))), (.ms 4 1 0 v2.length v2.length), (.ms 5 1 0 v3.length v3.length), (.dat (.lst ((List.map intD) []))), (intPV q3), (intPV q4), (.dat (.lst ((List.map intD) [])))])]⟩) (prune_of2 [(.box [(.dat (.lst ((List.map intD) []))), (.dat (.lst ((List.map intD) []))), (.dat (.lst ((List.map intD) []))), (.dat (.lst ((List.map intD) []))), (intPV 0), (intPV 0), (.dat (.lst ((List.map intD) [])))]), (.box [(.dat (.lst ((List.map intD) q2)))]), (.box [(.fn 76 [(.iptr [(intD q3)]), (.iptr [(intD q4)])]), (.fn 42 [(.ptr 1 0)])]), (.box [(.dat (.lst ((List.map intD) []))), (.dat (.lst ((List.map intD) []))), (.dat (.lst ((List.map intD) []))), (.dat (.lst ((List.map intD) []))), (intPV 0), (intPV 0), (.dat (.lst ((List.map intD) [])))]), (.mt 3 1 (cellsOf intD v2)), (.mt 3 1 (cellsOf intD v3)), (.box [(.dat (.lst ((List.map intD) q2))), (.ms 4 1 0 v2.length v2.length), (.ms 5 1 0 v3.length v3.length), (.dat (.lst ((List.map intD) []))), (intPV q3), (intPV q4), (.dat (.lst ((List.map intD) [])))])] (fun _ => (pg_cons (by kernel_rfl) (pg_cons (by kernel_rfl) (pg_cons (by kernel_rfl) (pg_cons (by kernel_rfl) (pg_cons (purge_mt intD _ _ _ _ _) (pg_cons (purge_mt intD _ _ _ _ _) (pg_cons (by kernel_rfl) pg_nil)))))))) rfl) ?_
  refine R_seq ?_
  refine R_G ?_
  refine G_run 1 ?_
  refine G_end ?_
  refine R_seq ?_
  refine R_false (by kernel_rfl) ?_
  refine R_exit ?_
  refine R_seq ?_
  refine R_G ?_
  refine G_run 3 ?_
  refine G_end ?_
  refine R_ret ?_
  obtain rfl := inj1 hm
  exact ⟨trivial, fin_body (by kernel_rfl) (by kernel_rfl)⟩
end Go.Proofs.Try
namespace Go.Proofs.Try
open Go Go.Pm
set_option linter.unusedVariables false
set_option maxHeartbeats 2000000
set_option maxRecDepth 2000
def m_rule_Catenate (x : (Int × (List Int) × (List Int))) : Option (T_rule_Rule × Int) :=
  match x with
  | (p0, p1, p2) =>
  (if p0 = (-1) then
    some (W ((max (max (p1.length : Int) (p2.length : Int)) 1) - 1))
  else
  some p0
  ) >>= fun (v1 : Int) =>
  if v1 ≥ (max (max (p1.length : Int) (p2.length : Int)) 1) then
    m_rule_failed 4 >>= fun ((v2, v3) : (T_rule_Rule × Int)) =>
    some (v2, v3)
  else
  m_rule_widened (p1, p2, (max (max (p1.length : Int) (p2.length : Int)) 1), v1) >>= fun ((v4, v5) : ((List Int) × Int)) =>
  m_rule_widened (p2, p1, (max (max (p1.length : Int) (p2.length : Int)) 1), v1) >>= fun ((v6, v7) : ((List Int) × Int)) =>
  (if v5 ≠ 0 then
    some true
  else
  some (v7 != 0)
  ) >>= fun (v8 : Bool) =>
  if v8 = true then
    m_rule_failed 4 >>= fun ((v9, v10) : (T_rule_Rule × Int)) =>
    some (v9, v10)
  else
  m_rule_joined (v4, v6, v1) >>= fun ((v11, v12) : ((List Int) × Int)) =>
  if v12 ≠ 0 then
    m_rule_failed v12 >>= fun ((v13, v14) : (T_rule_Rule × Int)) =>
    some (v13, v14)
  else
  m_rule_along (v1, 0) >>= fun ((v15, v16) : (Int × Int)) =>
  (
  m_rule_made_b82b3 (v6, v11, v4, v15, v16) >>= fun (out : Int ⊕ ((List Int) × (List Int))) =>
  match out with
  | .inl v17 =>
    some ((⟨([] : (List Int)), ([] : (List Int)), ([] : (List Int)), ([] : (List Int)), 0, 0, ([] : (List Int))⟩ : T_rule_Rule), v17)
  | .inr ((v18, v19)) =>
    some ((⟨v4, v18, v19, ([] : (List Int)), v15, v16, ([] : (List Int))⟩ : T_rule_Rule), 0)
  )
def P_rule_Catenate : (Int × (List Int) × (List Int)) → (T_rule_Rule × Int) → Prop := fun x r => match x, r with
  | (p0, p1, p2), (r0, r1) => ∀ H, PC prog env 12 ([(intD p0), (.lst ((List.map intD) p1)), (.lst ((List.map intD) p2))].map .dat) H (.tup [(.dat (T_rule_Rule.toD r0)), (intPV r1)]) H
theorem w_rule_Catenate : ∀ x r, m_rule_Catenate x = some r → P_rule_Catenate x r := by
  intro x r hm
  unfold m_rule_Catenate at hm
  unfold P_rule_Catenate
  obtain ⟨p0, p1, p2⟩ := x
  obtain ⟨r0, r1⟩ := r
  intro H
  refine PC_sx (ds := [(intD p0), (.lst ((List.map intD) p1)), (.lst ((List.map intD) p2))]) (fn := f12) (by kernel_rfl) (by kernel_rfl) rfl ?_ (by kernel_rfl)
  refine R_seq ?_
  refine R_G ?_
  refine G_run 2 ?_
  refine G_end ?_
  refine R_seq ?_
  refine R_G ?_
  refine G_run 1 ?_
  refine I_len intD p1 (es := (List.map intD) p1) rfl ?_
  refine G_run 1 ?_
  refine I_len intD p2 (es := (List.map intD) p2) rfl ?_
  refine G_semN rfl (by kernel_rfl) (fun _ => E_max3 (k := .i64) (m := (p1.length : Int)) (n := (p2.length : Int)) (q := 1) rfl (by kernel_rfl) (by kernel_rfl) (by kernel_rfl)) ?_
  refine G_run 1 ?_
  refine G_end ?_
  refine R_seq ?_
  refine R_seq ?_
  refine R_G ?_
  refine G_run 2 ?_
  refine G_end ?_
  obtain ⟨v1, hs, hm⟩ := bind_inv hm
  refine R_cut (fun d => ⟨sl d 76 [(0, (intPV v1)), (1, (.dat (.lst ((List.map intD) p1)))), (2, (.dat (.lst ((List.map intD) p2)))), (6, (.ptr 0 0)), (8, (intPV (max (max (p1.length : Int) (p2.length : Int)) 1)))], [(.box [(.dat (.lst ((List.map intD) []))), (.dat (.lst ((List.map intD) []))), (.dat (.lst ((List.map intD) []))), (.dat (.lst ((List.map intD) []))), (intPV 0), (intPV 0), (.dat (.lst ((List.map intD) [])))])]⟩) ?_ (fun d => ?_)
  · replace hm := hs
    clear hs
    refine R_ifp (p := p0 = (-1)) (eq_dec _ _) (fun hc => ?_) (fun hc => ?_)
    · replace hm := pos_inv hc hm
      refine R_G ?_
      refine G_run 3 ?_
      refine G_end ?_
      obtain rfl := inj1 hm
      exact cut_leaf (by kernel_rfl)
    replace hm := neg_inv hc hm
    refine R_skip ?_
    obtain rfl := inj1 hm
    exact cut_leaf (by kernel_rfl)
  clear hs
  refine R_seq ?_
  refine R_seq ?_
  refine R_G ?_
  refine G_run 3 ?_
  refine G_end ?_
  refine R_ifp (p := v1 ≥ (max (max (p1.length : Int) (p2.length : Int)) 1)) (rfl) (fun hc => ?_) (fun hc => ?_)
  · replace hm := pos_inv hc hm
    refine R_seq ?_
    refine R_G ?_
    obtain ⟨⟨v2, v3⟩, hx, hm⟩ := bind_inv hm
    have hq := w_rule_failed _ _ hx []
    refine G_callP hq ?_
    refine G_run 4 ?_
    refine G_end ?_
    refine R_ret ?_
    obtain ⟨rfl, rfl⟩ := inj2 hm
    exact ⟨trivial, fin_pure (by kernel_rfl)⟩
  replace hm := neg_inv hc hm
  refine R_skip ?_
  refine R_seq ?_
  refine R_G ?_
  refine G_run 4 ?_
  obtain ⟨⟨v4, v5⟩, hx, hm⟩ := bind_inv hm
  have hq := w_rule_widened _ _ hx []
  refine G_callP hq ?_
  refine G_run 6 ?_
  refine G_end ?_
  refine R_seq ?_
  refine R_G ?_
  refine G_run 4 ?_
  obtain ⟨⟨v6, v7⟩, hx, hm⟩ := bind_inv hm
  have hq := w_rule_widened _ _ hx []
  refine G_callP hq ?_
  refine G_run 5 ?_
  refine G_end ?_
  refine R_seq ?_
  refine R_seq ?_
  obtain ⟨v8, hs, hm⟩ := bind_inv hm
  refine R_cut (fun d => ⟨sl d 76 [(0, (intPV v1)), (6, (.ptr 0 0)), (9, (.ptr 1 0)), (11, (.dat (.lst ((List.map intD) v6)))), (50, (boolPV v8))], [(.box [(.dat (.lst ((List.map intD) []))), (.dat (.lst ((List.map intD) []))), (.dat (.lst ((List.map intD) []))), (.dat (.lst ((List.map intD) []))), (intPV 0), (intPV 0), (.dat (.lst ((List.map intD) [])))]), (.box [(.dat (.lst ((List.map intD) v4)))])]⟩) ?_ (fun d => ?_)
  · replace hm := hs
    clear hs
    refine R_G ?_
    refine G_run 3 ?_
    refine G_split (p := v5 ≠ 0) 47 (ne_dec _ _) (fun hc => ?_) (fun hc => ?_)
    · replace hm := pos_inv hc hm
      refine G_run 3 ?_
      refine G_end ?_
      obtain rfl := inj1 hm
      exact cut_leaf (by kernel_rfl)
    replace hm := neg_inv hc hm
    refine G_run 3 ?_
    refine G_end ?_
    obtain rfl := inj1 hm
    exact cut_leaf (by kernel_rfl)
  clear hs
  refine R_ifp (p := v8 = true) (bool_dec _) (fun hc => ?_) (fun hc => ?_)
  · replace hm := pos_inv hc hm
    refine R_seq ?_
    refine R_G ?_
    obtain ⟨⟨v9, v10⟩, hx, hm⟩ := bind_inv hm
    have hq := w_rule_failed _ _ hx []
    refine G_callP hq ?_
    refine G_run 4 ?_
    refine G_end ?_
    refine R_ret ?_
    obtain ⟨rfl, rfl⟩ := inj2 hm
    exact ⟨trivial, fin_pure (by kernel_rfl)⟩
  replace hm := neg_inv hc hm
  refine R_skip ?_
  refine R_seq ?_
  refine R_G ?_
  refine G_run 3 ?_
  obtain ⟨⟨v11, v12⟩, hx, hm⟩ := bind_inv hm
  have hq := w_rule_joined _ _ hx []
  refine G_callP hq ?_
  refine G_run 5 ?_
  refine G_end ?_
  refine R_seq ?_
  refine R_seq ?_
  refine R_G ?_
  refine G_run 2 ?_
  refine G_end ?_
  refine R_ifp (p := v12 ≠ 0) (ne_dec _ _) (fun hc => ?_) (fun hc => ?_)
  · replace hm := pos_inv hc hm
    refine R_seq ?_
    refine R_G ?_
    refine G_run 1 ?_
    obtain ⟨⟨v13, v14⟩, hx, hm⟩ := bind_inv hm
    have hq := w_rule_failed _ _ hx []
    refine G_callP hq ?_
    refine G_run 4 ?_
    refine G_end ?_
    refine R_ret ?_
    obtain ⟨rfl, rfl⟩ := inj2 hm
    exact ⟨trivial, fin_pure (by kernel_rfl)⟩
  replace hm := neg_inv hc hm
  refine R_skip ?_
  refine R_seq ?_
  refine R_G ?_
  refine G_run 3 ?_
  obtain ⟨⟨v15, v16⟩, hx, hm⟩ := bind_inv hm
  have hq := w_rule_along _ _ hx []
  refine G_callP hq ?_
  refine G_run 2 ?_
  obtain ⟨out, hx, hm⟩ := bind_inv hm
  rcases out with v17 | ⟨v18, v19⟩
  · have hq := w_rule_made_b82b3 _ _ hx
    dsimp only [P_rule_made_b82b3] at hq
    refine G_callB hq ?_
    refine G_run 4 ?_
    refine G_end ?_
    refine R_ret ?_
    obtain ⟨rfl, rfl⟩ := inj2 hm
    exact ⟨trivial, fin_pure (by kernel_rfl)⟩
  · have hq := w_rule_made_b82b3 _ _ hx
    dsimp only [P_rule_made_b82b3] at hq
    refine G_callB hq ?_
    refine G_run 4 ?_
    refine G_end ?_
    refine R_ret ?_
    obtain ⟨rfl, rfl⟩ := inj2 hm
    exact ⟨trivial, fin_pureX [(.agg [(.dat (.lst ((List.map intD) v4))), (.ms 4 1 0 v18.length v18.length), (.ms 5 1 0 v19.length v19.length), (.dat (.lst ((List.map intD) []))), (intPV v15), (intPV v16), (.dat (.lst ((List.map intD) [])))]), (intPV 0)] (by kernel_rfl) (po_tup (ps_cons (p1_agg (pc_cons (by kernel_rfl) (pc_cons (pc_ms (e := 3) intD v18 rfl (fun _ => rfl) (by kernel_rfl)) (pc_cons (pc_ms (e := 3) intD v19 rfl (fun _ => rfl) (by kernel_rfl)) (pc_cons (by kernel_rfl) (pc_cons (by kernel_rfl) (pc_cons (by kernel_rfl) (pc_cons (by kernel_rfl) pc_nil)))))))) (ps_cons (by kernel_rfl) ps_nil)))⟩
end Go.Proofs.Try
namespace Go.Proofs.Try
open Go Go.Pm
set_option linter.unusedVariables false
set_option maxHeartbeats 2000000
set_option maxRecDepth 2000
def m_law13_right (x : T_rule_Rule) : Option Bool :=
  match x with
  | p0 =>
  m_ref02_Check p0.left >>= fun (v1 : Int) =>
  (if v1 = 0 then
    m_ref02_Check p0.right >>= fun (v3 : Int) =>
    some (v3 == 0)
  else
  some false
  ) >>= fun (v2 : Bool) =>
  if v2 = true then
    m_ref02_Check p0.shape >>= fun (v4 : Int) =>
    some (v4 == 0)
  else
  some false
def P_law13_right : T_rule_Rule → Bool → Prop := fun x r => match x, r with
  | p0, r0 => ∀ H, PC prog env 20 ([(T_rule_Rule.toD p0)].map .dat) H (boolPV r0) H
theorem w_law13_right : ∀ x r, m_law13_right x = some r → P_law13_right x r := by
  intro p0 r0 hm
  unfold m_law13_right at hm
  unfold P_law13_right
  intro H
  refine PC_sx (ds := [(T_rule_Rule.toD p0)]) (fn := f20) (by kernel_rfl) (by kernel_rfl) rfl ?_ (by kernel_rfl)
  refine R_seq ?_
  refine R_G ?_
  refine G_run 2 ?_
  refine G_end ?_
  refine R_seq ?_
  refine R_GN ?_
  refine G_run 2 ?_
  obtain ⟨v1, hx, hm⟩ := bind_inv hm
  have hq := w_ref02_Check _ _ hx []
  refine G_callP hq ?_
  refine G_run 2 ?_
  obtain ⟨v2, hs, hm⟩ := bind_inv hm
  refine G_cut (j := 10) (fun d => ⟨sl d 19 [(0, (.dat (.agg [(.lst ((List.map intD) p0.left)), (.lst ((List.map intD) p0.right)), (.lst ((List.map intD) p0.shape)), (.lst ((List.map intD) p0.starts)), (intD p0.axis), (intD p0.amount), (.lst ((List.map intD) p0.perm))]))), (1, (.ptr 0 0)), (2, (boolPV false)), (3, (.ptr 0 0)), (4, (.dat (.lst ((List.map intD) p0.left)))), (5, (intPV v1)), (6, (boolPV (v1 == 0))), (12, (boolPV v2))], [(.box [(.dat (.lst ((List.map intD) p0.left))), (.dat (.lst ((List.map intD) p0.right))), (.dat (.lst ((List.map intD) p0.shape))), (.dat (.lst ((List.map intD) p0.starts))), (intPV p0.axis), (intPV p0.amount), (.dat (.lst ((List.map intD) p0.perm)))])]⟩) (fun d => ?_) (fun hJ => ?_)
  · clear hs
    refine G_run 1 ?_
    refine G_split (p := v2 = true) 13 (bool_dec _) (fun hc => ?_) (fun hc => ?_)
    · replace hm := pos_inv hc hm
      refine G_run 2 ?_
      obtain ⟨v4, hx, hm⟩ := bind_inv hm
      have hq := w_ref02_Check _ _ hx []
      refine G_callP hq ?_
      refine G_run 3 ?_
      refine G_end ⟨by kernel_rfl, ?_⟩
      refine R_ret ?_
      obtain rfl := inj1 hm
      exact ⟨trivial, fin_pure (by kernel_rfl)⟩
    replace hm := neg_inv hc hm
    refine G_run 6 ?_
    refine G_end ⟨by kernel_rfl, ?_⟩
    refine R_ret ?_
    obtain rfl := inj1 hm
    exact ⟨trivial, fin_pure (by kernel_rfl)⟩
  replace hm := hs
  clear hs
  refine G_split (p := v1 = 0) 7 (eq_dec _ _) (fun hc => ?_) (fun hc => ?_)
  · replace hm := pos_inv hc hm
    refine G_run 2 ?_
    obtain ⟨v3, hx, hm⟩ := bind_inv hm
    have hq := w_ref02_Check _ _ hx []
    refine G_callP hq ?_
    refine G_run 2 ?_
    obtain rfl := inj1 hm
    exact hJ _ _ (by kernel_rfl) (by kernel_rfl)
  replace hm := neg_inv hc hm
  refine G_run 5 ?_
  obtain rfl := inj1 hm
  exact hJ _ _ (by kernel_rfl) (by kernel_rfl)
end Go.Proofs.Try
namespace Go.Proofs.Try
open Go Go.Pm
set_option linter.unusedVariables false
set_option maxHeartbeats 2000000
set_option maxRecDepth 2000
def m_law13_RuleRight (x : ((List Int) × (List Int) × (List Int))) : Option Bool :=
  match x with
  | (p0, p1, p2) =>
  (m_law13_awake () >>= fun (v2 : Bool) =>
  (if v2 = false then
    some true
  else
  m_ref02_Check p1 >>= fun (v4 : Int) =>
  some (v4 != 0)
  ) >>= fun (v3 : Bool) =>
  (if v3 = true then
    some true
  else
  m_ref02_Check p2 >>= fun (v6 : Int) =>
  some (v6 != 0)
  ) >>= fun (v5 : Bool) =>
  if v5 = true then
    some true
  else
  some (decide ((p0.length : Int) > 100))
  ) >>= fun (v1 : Bool) =>
  if v1 = true then
    m_law13_awake () >>= fun (v7 : Bool) =>
    some v7
  else
  m_law13_left p0 >>= fun (v8 : T_spec_Spec) =>
  m_rule_Take (v8, p1) >>= fun ((v9, v10) : (T_rule_Rule × Int)) =>
  m_rule_Drop (v8, p1) >>= fun ((v11, v12) : (T_rule_Rule × Int)) =>
  m_rule_Transpose ((⟨v8.values, v8.scalar⟩ : T_spec_Spec), p1) >>= fun ((v13, v14) : (T_rule_Rule × Int)) =>
  m_rule_Reshape ((⟨v8.values, v8.scalar⟩ : T_spec_Spec), p1) >>= fun ((v15, v16) : (T_rule_Rule × Int)) =>
  m_rule_Catenate ((-1), p1, p2) >>= fun ((v17, v18) : (T_rule_Rule × Int)) =>
  m_law13_right (⟨v9.left, v9.right, v9.shape, v9.starts, v9.axis, v9.amount, v9.perm⟩ : T_rule_Rule) >>= fun (v19 : Bool) =>
  (if v19 = true then
    m_law13_right (⟨v11.left, v11.right, v11.shape, v11.starts, v11.axis, v11.amount, v11.perm⟩ : T_rule_Rule) >>= fun (v21 : Bool) =>
    some v21
  else
  some false
  ) >>= fun (v20 : Bool) =>
  (if v20 = true then
    m_law13_right v13 >>= fun (v23 : Bool) =>
    some v23
  else
  some false
  ) >>= fun (v22 : Bool) =>
  (if v22 = true then
    m_law13_right (⟨v15.left, v15.right, v15.shape, v15.starts, v15.axis, v15.amount, v15.perm⟩ : T_rule_Rule) >>= fun (v25 : Bool) =>
    some v25
  else
  some false
  ) >>= fun (v24 : Bool) =>
  if v24 = true then
    m_law13_right v17 >>= fun (v26 : Bool) =>
    some v26
  else
  some false
def P_law13_RuleRight : ((List Int) × (List Int) × (List Int)) → Bool → Prop := fun x r => match x, r with
  | (p0, p1, p2), r0 => ∀ H, PC prog env 5 ([(.lst ((List.map intD) p0)), (.lst ((List.map intD) p1)), (.lst ((List.map intD) p2))].map .dat) H (boolPV r0) H
theorem w_law13_RuleRight : ∀ x r, m_law13_RuleRight x = some r → P_law13_RuleRight x r := by
  intro x r0 hm
  unfold m_law13_RuleRight at hm
  unfold P_law13_RuleRight
  obtain ⟨p0, p1, p2⟩ := x
  intro H
  refine PC_sx (ds := [(.lst ((List.map intD) p0)), (.lst ((List.map intD) p1)), (.lst ((List.map intD) p2))]) (fn := f5) (by kernel_rfl) (by kernel_rfl) rfl ?_ (by kernel_rfl)
  refine R_seq ?_
  refine R_G ?_
  refine G_run 1 ?_
  refine G_end ?_
  refine R_seq ?_
  refine R_seq ?_
  obtain ⟨v1, hs, hm⟩ := bind_inv hm
  refine R_cut (fun d => ⟨sl d 86 [(0, (.dat (.lst ((List.map intD) p0)))), (1, (.dat (.lst ((List.map intD) p1)))), (2, (.dat (.lst ((List.map intD) p2)))), (34, (boolPV v1))], []⟩) ?_ (fun d => ?_)
  · replace hm := hs
    clear hs
    refine R_GN ?_
    obtain ⟨v2, hx, hm⟩ := bind_inv hm
    have hq := w_law13_awake _ _ hx []
    refine G_callP hq ?_
    refine G_run 2 ?_
    obtain ⟨v3, hs, hm⟩ := bind_inv hm
    refine G_cut (j := 7) (fun d => ⟨sl d 86 [(0, (.dat (.lst ((List.map intD) p0)))), (1, (.dat (.lst ((List.map intD) p1)))), (2, (.dat (.lst ((List.map intD) p2)))), (6, (boolPV false)), (18, (boolPV v2)), (19, (boolPV (!v2))), (24, (boolPV v3))], []⟩) (fun d => ?_) (fun hJ => ?_)
    · clear hs
      refine G_run 1 ?_
      obtain ⟨v5, hs, hm⟩ := bind_inv hm
      refine G_cut (j := 12) (fun d => ⟨sl d 86 [(0, (.dat (.lst ((List.map intD) p0)))), (1, (.dat (.lst ((List.map intD) p1)))), (2, (.dat (.lst ((List.map intD) p2)))), (6, (boolPV false)), (18, (boolPV v2)), (19, (boolPV (!v2))), (24, (boolPV v3)), (29, (boolPV v5))], []⟩) (fun d => ?_) (fun hJ => ?_)
      · clear hs
        refine G_run 1 ?_
        refine G_split (p := v5 = true) 30 (bool_dec _) (fun hc => ?_) (fun hc => ?_)
        · replace hm := pos_inv hc hm
          refine G_run 4 ?_
          refine G_end ⟨by kernel_rfl, ?_⟩
          obtain rfl := inj1 hm
          exact cut_leaf (by kernel_rfl)
        replace hm := neg_inv hc hm
        refine G_run 1 ?_
        refine I_len intD p0 (es := (List.map intD) p0) rfl ?_
        refine G_run 2 ?_
        refine G_end ⟨by kernel_rfl, ?_⟩
        obtain rfl := inj1 hm
        exact cut_leaf (by kernel_rfl)
      replace hm := hs
      clear hs
      refine G_split (p := v3 = true) 25 (bool_dec _) (fun hc => ?_) (fun hc => ?_)
      · replace hm := pos_inv hc hm
        refine G_run 4 ?_
        obtain rfl := inj1 hm
        exact hJ _ _ (by kernel_rfl) (by kernel_rfl)
      replace hm := neg_inv hc hm
      refine G_run 1 ?_
      obtain ⟨v6, hx, hm⟩ := bind_inv hm
      have hq := w_ref02_Check _ _ hx []
      refine G_callP hq ?_
      refine G_run 2 ?_
      obtain rfl := inj1 hm
      exact hJ _ _ (by kernel_rfl) (by kernel_rfl)
    replace hm := hs
    clear hs
    refine G_split (p := v2 = false) 20 (not_dec _) (fun hc => ?_) (fun hc => ?_)
    · replace hm := pos_inv hc hm
      refine G_run 4 ?_
      obtain rfl := inj1 hm
      exact hJ _ _ (by kernel_rfl) (by kernel_rfl)
    replace hm := neg_inv hc hm
    refine G_run 1 ?_
    obtain ⟨v4, hx, hm⟩ := bind_inv hm
    have hq := w_ref02_Check _ _ hx []
    refine G_callP hq ?_
    refine G_run 2 ?_
    obtain rfl := inj1 hm
    exact hJ _ _ (by kernel_rfl) (by kernel_rfl)
  clear hs
  refine R_ifp (p := v1 = true) (bool_dec _) (fun hc => ?_) (fun hc => ?_)
  · replace hm := pos_inv hc hm
    refine R_seq ?_
    refine R_G ?_
    obtain ⟨v7, hx, hm⟩ := bind_inv hm
    have hq := w_law13_awake _ _ hx []
    refine G_callP hq ?_
    refine G_run 1 ?_
    refine G_end ?_
    refine R_ret ?_
    obtain rfl := inj1 hm
    exact ⟨trivial, fin_pure (by kernel_rfl)⟩
  replace hm := neg_inv hc hm
  refine R_skip ?_
  refine R_seq ?_
  refine R_G ?_
  refine G_run 1 ?_
  obtain ⟨v8, hx, hm⟩ := bind_inv hm
  have hq := w_law13_left _ _ hx []
  refine G_callP hq ?_
  refine G_run 2 ?_
  refine G_end ?_
  refine R_seq ?_
  refine R_G ?_
  refine G_run 2 ?_
  obtain ⟨⟨v9, v10⟩, hx, hm⟩ := bind_inv hm
  have hq := w_rule_Take _ _ hx []
  refine G_callP hq ?_
  refine G_run 6 ?_
  refine G_end ?_
  refine R_seq ?_
  refine R_G ?_
  refine G_run 2 ?_
  obtain ⟨⟨v11, v12⟩, hx, hm⟩ := bind_inv hm
  have hq := w_rule_Drop _ _ hx []
  refine G_callP hq ?_
  refine G_run 6 ?_
  refine G_end ?_
  refine R_seq ?_
  refine R_G ?_
  refine G_run 2 ?_
  obtain ⟨⟨v13, v14⟩, hx, hm⟩ := bind_inv hm
  have hq := w_rule_Transpose _ _ hx []
  refine G_callP hq ?_
  refine G_run 6 ?_
  refine G_end ?_
  refine R_seq ?_
  refine R_G ?_
  refine G_run 2 ?_
  obtain ⟨⟨v15, v16⟩, hx, hm⟩ := bind_inv hm
  have hq := w_rule_Reshape _ _ hx []
  refine G_callP hq ?_
  refine G_run 6 ?_
  refine G_end ?_
  refine R_seq ?_
  refine R_G ?_
  refine G_run 2 ?_
  obtain ⟨⟨v17, v18⟩, hx, hm⟩ := bind_inv hm
  have hq := w_rule_Catenate _ _ hx []
  refine G_callP hq ?_
  refine G_run 6 ?_
  refine G_end ?_
  refine R_seq ?_
  refine R_GN ?_
  refine G_run 1 ?_
  obtain ⟨v19, hx, hm⟩ := bind_inv hm
  have hq := w_law13_right _ _ hx []
  refine G_callP hq ?_
  refine G_run 1 ?_
  obtain ⟨v20, hs, hm⟩ := bind_inv hm
  refine G_cut (j := 6) (fun d => ⟨sl d 86 [(0, (.dat (.lst ((List.map intD) p0)))), (1, (.dat (.lst ((List.map intD) p1)))), (2, (.dat (.lst ((List.map intD) p2)))), (7, (.ptr 0 0)), (8, (.ptr 1 0)), (9, (intPV v10)), (10, (.ptr 2 0)), (11, (intPV v12)), (12, (.ptr 3 0)), (13, (intPV v14)), (14, (.ptr 4 0)), (15, (intPV v16)), (16, (.ptr 5 0)), (17, (intPV v18)), (34, (boolPV v1)), (36, (.dat (.lst ((List.map intD) p0)))), (37, (.dat (.agg [(.lst ((List.map intD) v8.values)), (boolD v8.scalar)]))), (38, (.tup [(.dat (.agg [(.lst ((List.map intD) v9.left)), (.lst ((List.map intD) v9.right)), (.lst ((List.map intD) v9.shape)), (.lst ((List.map intD) v9.starts)), (intD v9.axis), (intD v9.amount), (.lst ((List.map intD) v9.perm))])), (intPV v10)])), (39, (.dat (.agg [(.lst ((List.map intD) v8.values)), (boolD v8.scalar)]))), (40, (.dat (.lst ((List.map intD) p1)))), (41, (.tup [(.dat (.agg [(.lst ((List.map intD) v9.left)), (.lst ((List.map intD) v9.right)), (.lst ((List.map intD) v9.shape)), (.lst ((List.map intD) v9.starts)), (intD v9.axis), (intD v9.amount), (.lst ((List.map intD) v9.perm))])), (intPV v10)])), (42, (.dat (.agg [(.lst ((List.map intD) v9.left)), (.lst ((List.map intD) v9.right)), (.lst ((List.map intD) v9.shape)), (.lst ((List.map intD) v9.starts)), (intD v9.axis), (intD v9.amount), (.lst ((List.map intD) v9.perm))]))), (43, (intPV v10)), (44, (.tup [(.dat (.agg [(.lst ((List.map intD) v11.left)), (.lst ((List.map intD) v11.right)), (.lst ((List.map intD) v11.shape)), (.lst ((List.map intD) v11.starts)), (intD v11.axis), (intD v11.amount), (.lst ((List.map intD) v11.perm))])), (intPV v12)])), (45, (.dat (.agg [(.lst ((List.map intD) v8.values)), (boolD v8.scalar)]))), (46, (.dat (.lst ((List.map intD) p1)))), (47, (.tup [(.dat (.agg [(.lst ((List.map intD) v11.left)), (.lst ((List.map intD) v11.right)), (.lst ((List.map intD) v11.shape)), (.lst ((List.map intD) v11.starts)), (intD v11.axis), (intD v11.amount), (.lst ((List.map intD) v11.perm))])), (intPV v12)])), (48, (.dat (.agg [(.lst ((List.map intD) v11.left)), (.lst ((List.map intD) v11.right)), (.lst ((List.map intD) v11.shape)), (.lst ((List.map intD) v11.starts)), (intD v11.axis), (intD v11.amount), (.lst ((List.map intD) v11.perm))]))), (49, (intPV v12)), (50, (.tup [(.dat (.agg [(.lst ((List.map intD) v13.left)), (.lst ((List.map intD) v13.right)), (.lst ((List.map intD) v13.shape)), (.lst ((List.map intD) v13.starts)), (intD v13.axis), (intD v13.amount), (.lst ((List.map intD) v13.perm))])), (intPV v14)])), (51, (.dat (.agg [(.lst ((List.map intD) v8.values)), (boolD v8.scalar)]))), (52, (.dat (.lst ((List.map intD) p1)))), (53, (.tup [(.dat (.agg [(.lst ((List.map intD) v13.left)), (.lst ((List.map intD) v13.right)), (.lst ((List.map intD) v13.shape)), (.lst ((List.map intD) v13.starts)), (intD v13.axis), (intD v13.amount), (.lst ((List.map intD) v13.perm))])), (intPV v14)])), (54, (.dat (.agg [(.lst ((List.map intD) v13.left)), (.lst ((List.map intD) v13.right)), (.lst ((List.map intD) v13.shape)), (.lst ((List.map intD) v13.starts)), (intD v13.axis), (intD v13.amount), (.lst ((List.map intD) v13.perm))]))), (55, (intPV v14)), (56, (.tup [(.dat (.agg [(.lst ((List.map intD) v15.left)), (.lst ((List.map intD) v15.right)), (.lst ((List.map intD) v15.shape)), (.lst ((List.map intD) v15.starts)), (intD v15.axis), (intD v15.amount), (.lst ((List.map intD) v15.perm))])), (intPV v16)])), (57, (.dat (.agg [(.lst ((List.map intD) v8.values)), (boolD v8.scalar)]))), (58, (.dat (.lst ((List.map intD) p1)))), (59, (.tup [(.dat (.agg [(.lst ((List.map intD) v15.left)), (.lst ((List.map intD) v15.right)), (.lst ((List.map intD) v15.shape)), (.lst ((List.map intD) v15.starts)), (intD v15.axis), (intD v15.amount), (.lst ((List.map intD) v15.perm))])), (intPV v16)])), (60, (.dat (.agg [(.lst ((List.map intD) v15.left)), (.lst ((List.map intD) v15.right)), (.lst ((List.map intD) v15.shape)), (.lst ((List.map intD) v15.starts)), (intD v15.axis), (intD v15.amount), (.lst ((List.map intD) v15.perm))]))), (61, (intPV v16)), (62, (.tup [(.dat (.agg [(.lst ((List.map intD) v17.left)), (.lst ((List.map intD) v17.right)), (.lst ((List.map intD) v17.shape)), (.lst ((List.map intD) v17.starts)), (intD v17.axis), (intD v17.amount), (.lst ((List.map intD) v17.perm))])), (intPV v18)])), (63, (.dat (.lst ((List.map intD) p1)))), (64, (.dat (.lst ((List.map intD) p2)))), (65, (.tup [(.dat (.agg [(.lst ((List.map intD) v17.left)), (.lst ((List.map intD) v17.right)), (.lst ((List.map intD) v17.shape)), (.lst ((List.map intD) v17.starts)), (intD v17.axis), (intD v17.amount), (.lst ((List.map intD) v17.perm))])), (intPV v18)])), (66, (.dat (.agg [(.lst ((List.map intD) v17.left)), (.lst ((List.map intD) v17.right)), (.lst ((List.map intD) v17.shape)), (.lst ((List.map intD) v17.starts)), (intD v17.axis), (intD v17.amount), (.lst ((List.map intD) v17.perm))]))), (67, (intPV v18)), (68, (.dat (.agg [(.lst ((List.map intD) v9.left)), (.lst ((List.map intD) v9.right)), (.lst ((List.map intD) v9.shape)), (.lst ((List.map intD) v9.starts)), (intD v9.axis), (intD v9.amount), (.lst ((List.map intD) v9.perm))]))), (69, (boolPV v19)), (73, (boolPV v20))], [(.box [(.dat (.lst ((List.map intD) v8.values))), (boolPV v8.scalar)]), (.box [(.dat (.lst ((List.map intD) v9.left))), (.dat (.lst ((List.map intD) v9.right))), (.dat (.lst ((List.map intD) v9.shape))), (.dat (.lst ((List.map intD) v9.starts))), (intPV v9.axis), (intPV v9.amount), (.dat (.lst ((List.map intD) v9.perm)))]), (.box [(.dat (.lst ((List.map intD) v11.left))), (.dat (.lst ((List.map intD) v11.right))), (.dat (.lst ((List.map intD) v11.shape))), (.dat (.lst ((List.map intD) v11.starts))), (intPV v11.axis), (intPV v11.amount), (.dat (.lst ((List.map intD) v11.perm)))]), (.box [(.dat (.lst ((List.map intD) v13.left))), (.dat (.lst ((List.map intD) v13.right))), (.dat (.lst ((List.map intD) v13.shape))), (.dat (.lst ((List.map intD) v13.starts))), (intPV v13.axis), (intPV v13.amount), (.dat (.lst ((List.map intD) v13.perm)))]), (.box [(.dat (.lst ((List.map intD) v15.left))), (.dat (.lst ((List.map intD) v15.right))), (.dat (.lst ((List.map intD) v15.shape))), (.dat (.lst ((List.map intD) v15.starts))), (intPV v15.axis), (intPV v15.amount), (.dat (.lst ((List.map intD) v15.perm)))]), (.box [(.dat (.lst ((List.map intD) v17.left))), (.dat (.lst ((List.map intD) v17.right))), (.dat (.lst ((List.map intD) v17.shape))), (.dat (.lst ((List.map intD) v17.starts))), (intPV v17.axis), (intPV v17.amount), (.dat (.lst ((List.map intD) v17.perm)))])]⟩) (fun d => ?_) (fun hJ => ?_)
  · clear hs
    refine G_run 1 ?_
    obtain ⟨v22, hs, hm⟩ := bind_inv hm
    refine G_cut (j := 10) (fun d => ⟨sl d 86 [(0, (.dat (.lst ((List.map intD) p0)))), (1, (.dat (.lst ((List.map intD) p1)))), (2, (.dat (.lst ((List.map intD) p2)))), (7, (.ptr 0 0)), (8, (.ptr 1 0)), (9, (intPV v10)), (10, (.ptr 2 0)), (11, (intPV v12)), (12, (.ptr 3 0)), (13, (intPV v14)), (14, (.ptr 4 0)), (15, (intPV v16)), (16, (.ptr 5 0)), (17, (intPV v18)), (34, (boolPV v1)), (36, (.dat (.lst ((List.map intD) p0)))), (37, (.dat (.agg [(.lst ((List.map intD) v8.values)), (boolD v8.scalar)]))), (38, (.tup [(.dat (.agg [(.lst ((List.map intD) v9.left)), (.lst ((List.map intD) v9.right)), (.lst ((List.map intD) v9.shape)), (.lst ((List.map intD) v9.starts)), (intD v9.axis), (intD v9.amount), (.lst ((List.map intD) v9.perm))])), (intPV v10)])), (39, (.dat (.agg [(.lst ((List.map intD) v8.values)), (boolD v8.scalar)]))), (40, (.dat (.lst ((List.map intD) p1)))), (41, (.tup [(.dat (.agg [(.lst ((List.map intD) v9.left)), (.lst ((List.map intD) v9.right)), (.lst ((List.map intD) v9.shape)), (.lst ((List.map intD) v9.starts)), (intD v9.axis), (intD v9.amount), (.lst ((List.map intD) v9.perm))])), (intPV v10)])), (42, (.dat (.agg [(.lst ((List.map intD) v9.left)), (.lst ((List.map intD) v9.right)), (.lst ((List.map intD) v9.shape)), (.lst ((List.map intD) v9.starts)), (intD v9.axis), (intD v9.amount), (.lst ((List.map intD) v9.perm))]))), (43, (intPV v10)), (44, (.tup [(.dat (.agg [(.lst ((List.map intD) v11.left)), (.lst ((List.map intD) v11.right)), (.lst ((List.map intD) v11.shape)), (.lst ((List.map intD) v11.starts)), (intD v11.axis), (intD v11.amount), (.lst ((List.map intD) v11.perm))])), (intPV v12)])), (45, (.dat (.agg [(.lst ((List.map intD) v8.values)), (boolD v8.scalar)]))), (46, (.dat (.lst ((List.map intD) p1)))), (47, (.tup [(.dat (.agg [(.lst ((List.map intD) v11.left)), (.lst ((List.map intD) v11.right)), (.lst ((List.map intD) v11.shape)), (.lst ((List.map intD) v11.starts)), (intD v11.axis), (intD v11.amount), (.lst ((List.map intD) v11.perm))])), (intPV v12)])), (48, (.dat (.agg [(.lst ((List.map intD) v11.left)), (.lst ((List.map intD) v11.right)), (.lst ((List.map intD) v11.shape)), (.lst ((List.map intD) v11.starts)), (intD v11.axis), (intD v11.amount), (.lst ((List.map intD) v11.perm))]))), (49, (intPV v12)), (50, (.tup [(.dat (.agg [(.lst ((List.map intD) v13.left)), (.lst ((List.map intD) v13.right)), (.lst ((List.map intD) v13.shape)), (.lst ((List.map intD) v13.starts)), (intD v13.axis), (intD v13.amount), (.lst ((List.map intD) v13.perm))])), (intPV v14)])), (51, (.dat (.agg [(.lst ((List.map intD) v8.values)), (boolD v8.scalar)]))), (52, (.dat (.lst ((List.map intD) p1)))), (53, (.tup [(.dat (.agg [(.lst ((List.map intD) v13.left)), (.lst ((List.map intD) v13.right)), (.lst ((List.map intD) v13.shape)), (.lst ((List.map intD) v13.starts)), (intD v13.axis), (intD v13.amount), (.lst ((List.map intD) v13.perm))])), (intPV v14)])), (54, (.dat (.agg [(.lst ((List.map intD) v13.left)), (.lst ((List.map intD) v13.right)), (.lst ((List.map intD) v13.shape)), (.lst ((List.map intD) v13.starts)), (intD v13.axis), (intD v13.amount), (.lst ((List.map intD) v13.perm))]))), (55, (intPV v14)), (56, (.tup [(.dat (.agg [(.lst ((List.map intD) v15.left)), (.lst ((List.map intD) v15.right)), (.lst ((List.map intD) v15.shape)), (.lst ((List.map intD) v15.starts)), (intD v15.axis), (intD v15.amount), (.lst ((List.map intD) v15.perm))])), (intPV v16)])), (57, (.dat (.agg [(.lst ((List.map intD) v8.values)), (boolD v8.scalar)]))), (58, (.dat (.lst ((List.map intD) p1)))), (59, (.tup [(.dat (.agg [(.lst ((List.map intD) v15.left)), (.lst ((List.map intD) v15.right)), (.lst ((List.map intD) v15.shape)), (.lst ((List.map intD) v15.starts)), (intD v15.axis), (intD v15.amount), (.lst ((List.map intD) v15.perm))])), (intPV v16)])), (60, (.dat (.agg [(.lst ((List.map intD) v15.left)), (.lst ((List.map intD) v15.right)), (.lst ((List.map intD) v15.shape)), (.lst ((List.map intD) v15.starts)), (intD v15.axis), (intD v15.amount), (.lst ((List.map intD) v15.perm))]))), (61, (intPV v16)), (62, (.tup [(.dat (.agg [(.lst ((List.map intD) v17.left)), (.lst ((List.map intD) v17.right)), (.lst ((List.map intD) v17.shape)), (.lst ((List.map intD) v17.starts)), (intD v17.axis), (intD v17.amount), (.lst ((List.map intD) v17.perm))])), (intPV v18)])), (63, (.dat (.lst ((List.map intD) p1)))), (64, (.dat (.lst ((List.map intD) p2)))), (65, (.tup [(.dat (.agg [(.lst ((List.map intD) v17.left)), (.lst ((List.map intD) v17.right)), (.lst ((List.map intD) v17.shape)), (.lst ((List.map intD) v17.starts)), (intD v17.axis), (intD v17.amount), (.lst ((List.map intD) v17.perm))])), (intPV v18)])), (66, (.dat (.agg [(.lst ((List.map intD) v17.left)), (.lst ((List.map intD) v17.right)), (.lst ((List.map intD) v17.shape)), (.lst ((List.map intD) v17.starts)), (intD v17.axis), (intD v17.amount), (.lst ((List.map intD) v17.perm))]))), (67, (intPV v18)), (68, (.dat (.agg [(.lst ((List.map intD) v9.left)), (.lst ((List.map intD) v9.right)), (.lst ((List.map intD) v9.shape)), (.lst ((List.map intD) v9.starts)), (intD v9.axis), (intD v9.amount), (.lst ((List.map intD) v9.perm))]))), (69, (boolPV v19)), (73, (boolPV v20)), (77, (boolPV v22))], [(.box [(.dat (.lst ((List.map intD) v8.values))), (boolPV v8.scalar)]), (.box [(.dat (.lst ((List.map intD) v9.left))), (.dat (.lst ((List.map intD) v9.right))), (.dat (.lst ((List.map intD) v9.shape))), (.dat (.lst ((List.map intD) v9.starts))), (intPV v9.axis), (intPV v9.amount), (.dat (.lst ((List.map intD) v9.perm)))]), (.box [(.dat (.lst ((List.map intD) v11.left))), (.dat (.lst ((List.map intD) v11.right))), (.dat (.lst ((List.map intD) v11.shape))), (.dat (.lst ((List.map intD) v11.starts))), (intPV v11.axis), (intPV v11.amount), (.dat (.lst ((List.map intD) v11.perm)))]), (.box [(.dat (.lst ((List.map intD) v13.left))), (.dat (.lst ((List.map intD) v13.right))), (.dat (.lst ((List.map intD) v13.shape))), (.dat (.lst ((List.map intD) v13.starts))), (intPV v13.axis), (intPV v13.amount), (.dat (.lst ((List.map intD) v13.perm)))]), (.box [(.dat (.lst ((List.map intD) v15.left))), (.dat (.lst ((List.map intD) v15.right))), (.dat (.lst ((List.map intD) v15.shape))), (.dat (.lst ((List.map intD) v15.starts))), (intPV v15.axis), (intPV v15.amount), (.dat (.lst ((List.map intD) v15.perm)))]), (.box [(.dat (.lst ((List.map intD) v17.left))), (.dat (.lst ((List.map intD) v17.right))), (.dat (.lst ((List.map intD) v17.shape))), (.dat (.lst ((List.map intD) v17.starts))), (intPV v17.axis), (intPV v17.amount), (.dat (.lst ((List.map intD) v17.perm)))])]⟩) (fun d => ?_) (fun hJ => ?_)
    · clear hs
      refine G_run 1 ?_
      obtain ⟨v24, hs, hm⟩ := bind_inv hm
      refine G_cut (j := 14) (fun d => ⟨sl d 86 [(0, (.dat (.lst ((List.map intD) p0)))), (1, (.dat (.lst ((List.map intD) p1)))), (2, (.dat (.lst ((List.map intD) p2)))), (7, (.ptr 0 0)), (8, (.ptr 1 0)), (9, (intPV v10)), (10, (.ptr 2 0)), (11, (intPV v12)), (12, (.ptr 3 0)), (13, (intPV v14)), (14, (.ptr 4 0)), (15, (intPV v16)), (16, (.ptr 5 0)), (17, (intPV v18)), (34, (boolPV v1)), (36, (.dat (.lst ((List.map intD) p0)))), (37, (.dat (.agg [(.lst ((List.map intD) v8.values)), (boolD v8.scalar)]))), (38, (.tup [(.dat (.agg [(.lst ((List.map intD) v9.left)), (.lst ((List.map intD) v9.right)), (.lst ((List.map intD) v9.shape)), (.lst ((List.map intD) v9.starts)), (intD v9.axis), (intD v9.amount), (.lst ((List.map intD) v9.perm))])), (intPV v10)])), (39, (.dat (.agg [(.lst ((List.map intD) v8.values)), (boolD v8.scalar)]))), (40, (.dat (.lst ((List.map intD) p1)))), (41, (.tup [(.dat (.agg [(.lst ((List.map intD) v9.left)), (.lst ((List.map intD) v9.right)), (.lst ((List.map intD) v9.shape)), (.lst ((List.map intD) v9.starts)), (intD v9.axis), (intD v9.amount), (.lst ((List.map intD) v9.perm))])), (intPV v10)])), (42, (.dat (.agg [(.lst ((List.map intD) v9.left)), (.lst ((List.map intD) v9.right)), (.lst ((List.map intD) v9.shape)), (.lst ((List.map intD) v9.starts)), (intD v9.axis), (intD v9.amount), (.lst ((List.map intD) v9.perm))]))), (43, (intPV v10)), (44, (.tup [(.dat (.agg [(.lst ((List.map intD) v11.left)), (.lst ((List.map intD) v11.right)), (.lst ((List.map intD) v11.shape)), (.lst ((List.map intD) v11.starts)), (intD v11.axis), (intD v11.amount), (.lst ((List.map intD) v11.perm))])), (intPV v12)])), (45, (.dat (.agg [(.lst ((List.map intD) v8.values)), (boolD v8.scalar)]))), (46, (.dat (.lst ((List.map intD) p1)))), (47, (.tup [(.dat (.agg [(.lst ((List.map intD) v11.left)), (.lst ((List.map intD) v11.right)), (.lst ((List.map intD) v11.shape)), (.lst ((List.map intD) v11.starts)), (intD v11.axis), (intD v11.amount), (.lst ((List.map intD) v11.perm))])), (intPV v12)])), (48, (.dat (.agg [(.lst ((List.map intD) v11.left)), (.lst ((List.map intD) v11.right)), (.lst ((List.map intD) v11.shape)), (.lst ((List.map intD) v11.starts)), (intD v11.axis), (intD v11.amount), (.lst ((List.map intD) v11.perm))]))), (49, (intPV v12)), (50, (.tup [(.dat (.agg [(.lst ((List.map intD) v13.left)), (.lst ((List.map intD) v13.right)), (.lst ((List.map intD) v13.shape)), (.lst ((List.map intD) v13.starts)), (intD v13.axis), (intD v13.amount), (.lst ((List.map intD) v13.perm))])), (intPV v14)])), (51, (.dat (.agg [(.lst ((List.map intD) v8.values)), (boolD v8.scalar)]))), (52, (.dat (.lst ((List.map intD) p1)))), (53, (.tup [(.dat (.agg [(.lst ((List.map intD) v13.left)), (.lst ((List.map intD) v13.right)), (.lst ((List.map intD) v13.shape)), (.lst ((List.map intD) v13.starts)), (intD v13.axis), (intD v13.amount), (.lst ((List.map intD) v13.perm))])), (intPV v14)])), (54, (.dat (.agg [(.lst ((List.map intD) v13.left)), (.lst ((List.map intD) v13.right)), (.lst ((List.map intD) v13.shape)), (.lst ((List.map intD) v13.starts)), (intD v13.axis), (intD v13.amount), (.lst ((List.map intD) v13.perm))]))), (55, (intPV v14)), (56, (.tup [(.dat (.agg [(.lst ((List.map intD) v15.left)), (.lst ((List.map intD) v15.right)), (.lst ((List.map intD) v15.shape)), (.lst ((List.map intD) v15.starts)), (intD v15.axis), (intD v15.amount), (.lst ((List.map intD) v15.perm))])), (intPV v16)])), (57, (.dat (.agg [(.lst ((List.map intD) v8.values)), (boolD v8.scalar)]))), (58, (.dat (.lst ((List.map intD) p1)))), (59, (.tup [(.dat (.agg [(.lst ((List.map intD) v15.left)), (.lst ((List.map intD) v15.right)), (.lst ((List.map intD) v15.shape)), (.lst ((List.map intD) v15.starts)), (intD v15.axis), (intD v15.amount), (.lst ((List.map intD) v15.perm))])), (intPV v16)])), (60, (.dat (.agg [(.lst ((List.map intD) v15.left)), (.lst ((List.map intD) v15.right)), (.lst ((List.map intD) v15.shape)), (.lst ((List.map intD) v15.starts)), (intD v15.axis), (intD v15.amount), (.lst ((List.map intD) v15.perm))]))), (61, (intPV v16)), (62, (.tup [(.dat (.agg [(.lst ((List.map intD) v17.left)), (.lst ((List.map intD) v17.right)), (.lst ((List.map intD) v17.shape)), (.lst ((List.map intD) v17.starts)), (intD v17.axis), (intD v17.amount), (.lst ((List.map intD) v17.perm))])), (intPV v18)])), (63, (.dat (.lst ((List.map intD) p1)))), (64, (.dat (.lst ((List.map intD) p2)))), (65, (.tup [(.dat (.agg [(.lst ((List.map intD) v17.left)), (.lst ((List.map intD) v17.right)), (.lst ((List.map intD) v17.shape)), (.lst ((List.map intD) v17.starts)), (intD v17.axis), (intD v17.amount), (.lst ((List.map intD) v17.perm))])), (intPV v18)])), (66, (.dat (.agg [(.lst ((List.map intD) v17.left)), (.lst ((List.map intD) v17.right)), (.lst ((List.map intD) v17.shape)), (.lst ((List.map intD) v17.starts)), (intD v17.axis), (intD v17.amount), (.lst ((List.map intD) v17.perm))]))), (67, (intPV v18)), (68, (.dat (.agg [(.lst ((List.map intD) v9.left)), (.lst ((List.map intD) v9.right)), (.lst ((List.map intD) v9.shape)), (.lst ((List.map intD) v9.starts)), (intD v9.axis), (intD v9.amount), (.lst ((List.map intD) v9.perm))]))), (69, (boolPV v19)), (73, (boolPV v20)), (77, (boolPV v22)), (81, (boolPV v24))], [(.box [(.dat (.lst ((List.map intD) v8.values))), (boolPV v8.scalar)]), (.box [(.dat (.lst ((List.map intD) v9.left))), (.dat (.lst ((List.map intD) v9.right))), (.dat (.lst ((List.map intD) v9.shape))), (.dat (.lst ((List.map intD) v9.starts))), (intPV v9.axis), (intPV v9.amount), (.dat (.lst ((List.map intD) v9.perm)))]), (.box [(.dat (.lst ((List.map intD) v11.left))), (.dat (.lst ((List.map intD) v11.right))), (.dat (.lst ((List.map intD) v11.shape))), (.dat (.lst ((List.map intD) v11.starts))), (intPV v11.axis), (intPV v11.amount), (.dat (.lst ((List.map intD) v11.perm)))]), (.box [(.dat (.lst ((List.map intD) v13.left))), (.dat (.lst ((List.map intD) v13.right))), (.dat (.lst ((List.map intD) v13.shape))), (.dat (.lst ((List.map intD) v13.starts))), (intPV v13.axis), (intPV v13.amount), (.dat (.lst ((List.map intD) v13.perm)))]), (.box [(.dat (.lst ((List.map intD) v15.left))), (.dat (.lst ((List.map intD) v15.right))), (.dat (.lst ((List.map intD) v15.shape))), (.dat (.lst ((List.map intD) v15.starts))), (intPV v15.axis), (intPV v15.amount), (.dat (.lst ((List.map intD) v15.perm)))]), (.box [(.dat (.lst ((List.map intD) v17.left))), (.dat (.lst ((List.map intD) v17.right))), (.dat (.lst ((List.map intD) v17.shape))), (.dat (.lst ((List.map intD) v17.starts))), (intPV v17.axis), (intPV v17.amount), (.dat (.lst ((List.map intD) v17.perm)))])]⟩) (fun d => ?_) (fun hJ => ?_)
      · clear hs
        refine G_run 1 ?_
        refine G_split (p := v24 = true) 82 (bool_dec _) (fun hc => ?_) (fun hc => ?_)
        · replace hm := pos_inv hc hm
          refine G_run 1 ?_
          obtain ⟨v26, hx, hm⟩ := bind_inv hm
          have hq := w_law13_right _ _ hx []
          refine G_callP hq ?_
          refine G_run 2 ?_
          refine G_end ⟨by kernel_rfl, ?_⟩
          refine R_ret ?_
          obtain rfl := inj1 hm
          exact ⟨trivial, fin_pure (by kernel_rfl)⟩
        replace hm := neg_inv hc hm
        refine G_run 4 ?_
        refine G_end ⟨by kernel_rfl, ?_⟩
        refine R_ret ?_
        obtain rfl := inj1 hm
        exact ⟨trivial, fin_pure (by kernel_rfl)⟩
      replace hm := hs
      clear hs
      refine G_split (p := v22 = true) 78 (bool_dec _) (fun hc => ?_) (fun hc => ?_)
      · replace hm := pos_inv hc hm
        refine G_run 1 ?_
        obtain ⟨v25, hx, hm⟩ := bind_inv hm
        have hq := w_law13_right _ _ hx []
        refine G_callP hq ?_
        refine G_run 1 ?_
        obtain rfl := inj1 hm
        exact hJ _ _ (by kernel_rfl) (by kernel_rfl)
      replace hm := neg_inv hc hm
      refine G_run 3 ?_
      obtain rfl := inj1 hm
      exact hJ _ _ (by kernel_rfl) (by kernel_rfl)
    replace hm := hs
    clear hs
    refine G_split (p := v20 = true) 74 (bool_dec _) (fun hc => ?_) (fun hc => ?_)
    · replace hm := pos_inv hc hm
      refine G_run 1 ?_
      obtain ⟨v23, hx, hm⟩ := bind_inv hm
      have hq := w_law13_right _ _ hx []
      refine G_callP hq ?_
      refine G_run 1 ?_
      obtain rfl := inj1 hm
      exact hJ _ _ (by kernel_rfl) (by kernel_rfl)
    replace hm := neg_inv hc hm
    refine G_run 3 ?_
    obtain rfl := inj1 hm
    exact hJ _ _ (by kernel_rfl) (by kernel_rfl)
  replace hm := hs
  clear hs
  refine G_split (p := v19 = true) 70 (bool_dec _) (fun hc => ?_) (fun hc => ?_)
  · replace hm := pos_inv hc hm
    refine G_run 1 ?_
    obtain ⟨v21, hx, hm⟩ := bind_inv hm
    have hq := w_law13_right _ _ hx []
    refine G_callP hq ?_
    refine G_run 1 ?_
    obtain rfl := inj1 hm
    exact hJ _ _ (by kernel_rfl) (by kernel_rfl)
  replace hm := neg_inv hc hm
  refine G_run 3 ?_
  obtain rfl := inj1 hm
  exact hJ _ _ (by kernel_rfl) (by kernel_rfl)
end Go.Proofs.Try
namespace Go.Proofs.Try
open Go Go.Pm
set_option linter.unusedVariables false
set_option maxHeartbeats 2000000
set_option maxRecDepth 2000
def m_law13_axis (x : Int) : Option Bool :=
  match x with
  | p0 =>
  if p0 ≥ (-1) then
    some (decide (p0 ≤ 15))
  else
  some false
def P_law13_axis : Int → Bool → Prop := fun x r => match x, r with
  | p0, r0 => ∀ H, PC prog env 11 ([(intD p0)].map .dat) H (boolPV r0) H
theorem w_law13_axis : ∀ x r, m_law13_axis x = some r → P_law13_axis x r := by
  intro p0 r0 hm
  unfold m_law13_axis at hm
  unfold P_law13_axis
  intro H
  refine PC_sx (ds := [(intD p0)]) (fn := f11) (by kernel_rfl) (by kernel_rfl) rfl ?_ (by kernel_rfl)
  refine R_seq ?_
  refine R_G ?_
  refine G_run 1 ?_
  refine G_end ?_
  refine R_seq ?_
  refine R_G ?_
  refine G_run 3 ?_
  refine G_split (p := p0 ≥ (-1)) 5 (rfl) (fun hc => ?_) (fun hc => ?_)
  · replace hm := pos_inv hc hm
    refine G_run 4 ?_
    refine G_end ?_
    refine R_ret ?_
    obtain rfl := inj1 hm
    exact ⟨trivial, fin_pure (by kernel_rfl)⟩
  replace hm := neg_inv hc hm
  refine G_run 4 ?_
  refine G_end ?_
  refine R_ret ?_
  obtain rfl := inj1 hm
  exact ⟨trivial, fin_pure (by kernel_rfl)⟩
end Go.Proofs.Try
namespace Go.Proofs.Try
open Go Go.Pm
set_option linter.unusedVariables false
set_option maxHeartbeats 2000000
set_option maxRecDepth 2000
def m_ref02_Equal_L1 (x : ((List Int) × (List Int) × Int)) : Option (Unit ⊕ Unit) :=
  match x with
  | (p0, p1, v201) =>
  if v201 < (p0.length : Int) then
    idx p0 v201 >>= fun v601 =>
    idx p1 v201 >>= fun v602 =>
    if v601 ≠ v602 then
      some (Sum.inl ())
    else
    m_ref02_Equal_L1 (p0, p1, (W (v201 + 1)))
  else
  some (Sum.inr ())
  partial_fixpoint
def P_ref02_Equal_L1 : ((List Int) × (List Int) × Int) → (Unit ⊕ Unit) → Prop := fun x r => match x with
  | (p0, p1, v201) => ∀ st, prune 0 ((firstRegion (codeAt [1, 1, 0, 1, 0, 0] (bodyOf f13))).bind (env.hint 13).keepAt) st = ⟨kp 26 [(0, (.dat (.lst ((List.map intD) p0)))), (1, (.dat (.lst ((List.map intD) p1)))), (5, (intPV v201))], []⟩ →
    RL prog env (env.hint 13) true (codeAt [1, 1, 0, 1, 0, 0] (bodyOf f13)) 0 st (fun e s => match r with | .inl _ => e = .ret ∧ ∃ d, s = ⟨sl d 26 [(4, (boolPV false))], []⟩ | .inr (_) => e = .exit 0 ∧ ∃ d, s = ⟨sl d 26 [], []⟩)
theorem w_ref02_Equal_L1 : ∀ x r, m_ref02_Equal_L1 x = some r → P_ref02_Equal_L1 x r := by
  refine m_ref02_Equal_L1.partial_correctness _ (fun m_ref02_Equal_L1 w_ref02_Equal_L1 x r hm => ?_)
  unfold P_ref02_Equal_L1
  obtain ⟨p0, p1, v201⟩ := x
  intro st hst
  refine RL_at hst ?_
  clear hst
  refine R_seq ?_
  refine R_seq ?_
  refine R_G ?_
  refine G_run 2 ?_
  refine I_len intD p0 (es := (List.map intD) p0) rfl ?_
  refine G_run 1 ?_
  refine G_end ?_
  refine R_ifp (p := v201 < (p0.length : Int)) (rfl) (fun hc => ?_) (fun hc => ?_)
  · replace hm := pos_inv hc hm
    refine R_skip ?_
    refine R_seq ?_
    refine R_block ?_
    refine R_seq ?_
    refine R_GD ?_
    refine G_run 2 ?_
    obtain ⟨v601, hx, hm⟩ := bind_inv hm
    refine I_idx 1 intD p0 v201 v601 (es := (List.map intD) p0) (d := (intD v601)) rfl hx rfl rfl ?_
    refine G_run 3 ?_
    obtain ⟨v602, hx, hm⟩ := bind_inv hm
    refine I_idx 1 intD p1 v201 v602 (es := (List.map intD) p1) (d := (intD v602)) rfl hx rfl rfl ?_
    refine G_run 2 ?_
    refine G_end ⟨by kernel_rfl, ?_⟩
    refine R_ifp (p := v601 ≠ v602) (ne_dec _ _) (fun hc => ?_) (fun hc => ?_)
    · replace hm := pos_inv hc hm
      refine R_seq ?_
      refine R_G ?_
      refine G_run 1 ?_
      refine G_end ?_
      refine R_ret ?_
      obtain rfl := inj1 hm
      exact ⟨rfl, cut_leaf (by kernel_rfl)⟩
    replace hm := neg_inv hc hm
    refine R_skip ?_
    refine R_G ?_
    refine G_run 3 ?_
    refine G_end ?_
    exact w_ref02_Equal_L1 _ _ hm _ (by kernel_rfl)
  replace hm := neg_inv hc hm
  refine R_exit ?_
  obtain rfl := inj1 hm
  exact ⟨rfl, cut_leaf (by kernel_rfl)⟩
def m_ref02_Equal (x : ((List Int) × (List Int))) : Option Bool :=
  match x with
  | (p0, p1) =>
  if (p0.length : Int) ≠ (p1.length : Int) then
    some false
  else
  (
  m_ref02_Equal_L1 (p0, p1, 0) >>= fun (out : Unit ⊕ Unit) =>
  match out with
  | .inl _ =>
    some false
  | .inr (_) =>
    some true
  )
def P_ref02_Equal : ((List Int) × (List Int)) → Bool → Prop := fun x r => match x, r with
  | (p0, p1), r0 => ∀ H, PC prog env 13 ([(.lst ((List.map intD) p0)), (.lst ((List.map intD) p1))].map .dat) H (boolPV r0) H
theorem w_ref02_Equal : ∀ x r, m_ref02_Equal x = some r → P_ref02_Equal x r := by
  intro x r0 hm
  unfold m_ref02_Equal at hm
  unfold P_ref02_Equal
  obtain ⟨p0, p1⟩ := x
  intro H
  refine PC_sx (ds := [(.lst ((List.map intD) p0)), (.lst ((List.map intD) p1))]) (fn := f13) (by kernel_rfl) (by kernel_rfl) rfl ?_ (by kernel_rfl)
  refine R_seq ?_
  refine R_G ?_
  refine G_run 1 ?_
  refine G_end ?_
  refine R_seq ?_
  refine R_seq ?_
  refine R_G ?_
  refine G_run 1 ?_
  refine I_len intD p0 (es := (List.map intD) p0) rfl ?_
  refine G_run 1 ?_
  refine I_len intD p1 (es := (List.map intD) p1) rfl ?_
  refine G_run 1 ?_
  refine G_end ?_
  refine R_ifp (p := (p0.length : Int) ≠ (p1.length : Int)) (ne_dec _ _) (fun hc => ?_) (fun hc => ?_)
  · replace hm := pos_inv hc hm
    refine R_seq ?_
    refine R_G ?_
    refine G_run 1 ?_
    refine G_end ?_
    refine R_ret ?_
    obtain rfl := inj1 hm
    exact ⟨trivial, fin_pure (by kernel_rfl)⟩
  replace hm := neg_inv hc hm
  refine R_skip ?_
  refine R_seq ?_
  refine R_seq ?_
  refine R_G ?_
  refine G_run 1 ?_
  refine G_end ?_
  refine R_block ?_
  obtain ⟨out, hs, hm⟩ := bind_inv hm
  refine R_loop ?_
  rcases out with _ | _
  · refine RL_use (w_ref02_Equal_L1 _ _ hs) (by kernel_rfl) ?_
    clear hs
    intro e s hp
    obtain ⟨rfl, d, rfl⟩ := hp
    obtain rfl := inj1 hm
    exact ⟨trivial, fin_pure (by kernel_rfl)⟩
  · refine RL_use (w_ref02_Equal_L1 _ _ hs) (by kernel_rfl) ?_
    clear hs
    intro e s hp
    obtain ⟨rfl, d, rfl⟩ := hp
    refine R_seq ?_
    refine R_G ?_
    refine G_run 1 ?_
    refine G_end ?_
    refine R_ret ?_
    obtain rfl := inj1 hm
    exact ⟨trivial, fin_pure (by kernel_rfl)⟩
end Go.Proofs.Try
namespace Go.Proofs.Try
open Go Go.Pm
set_option linter.unusedVariables false
set_option maxHeartbeats 2000000
set_option maxRecDepth 2000
def m_ref02_Cells (x : (List Int)) : Option Int :=
  match x with
  | p0 =>
  m_ref02_Check p0 >>= fun (v1 : Int) =>
  if v1 ≠ 0 then
    some 0
  else
  m_ref01_Product p0 >>= fun ((v2, v3) : (Int × Int)) =>
  some v2
def P_ref02_Cells : (List Int) → Int → Prop := fun x r => match x, r with
  | p0, r0 => ∀ H, PC prog env 16 ([(.lst ((List.map intD) p0))].map .dat) H (intPV r0) H
theorem w_ref02_Cells : ∀ x r, m_ref02_Cells x = some r → P_ref02_Cells x r := by
  intro p0 r0 hm
  unfold m_ref02_Cells at hm
  unfold P_ref02_Cells
  intro H
  refine PC_sx (ds := [(.lst ((List.map intD) p0))]) (fn := f16) (by kernel_rfl) (by kernel_rfl) rfl ?_ (by kernel_rfl)
  refine R_seq ?_
  refine R_G ?_
  refine G_run 1 ?_
  refine G_end ?_
  refine R_seq ?_
  refine R_seq ?_
  refine R_G ?_
  refine G_run 1 ?_
  obtain ⟨v1, hx, hm⟩ := bind_inv hm
  have hq := w_ref02_Check _ _ hx []
  refine G_callP hq ?_
  refine G_run 1 ?_
  refine G_end ?_
  refine R_ifp (p := v1 ≠ 0) (ne_dec _ _) (fun hc => ?_) (fun hc => ?_)
  · replace hm := pos_inv hc hm
    refine R_seq ?_
    refine R_G ?_
    refine G_run 1 ?_
    refine G_end ?_
    refine R_ret ?_
    obtain rfl := inj1 hm
    exact ⟨trivial, fin_pure (by kernel_rfl)⟩
  replace hm := neg_inv hc hm
  refine R_skip ?_
  refine R_seq ?_
  refine R_G ?_
  refine G_run 1 ?_
  obtain ⟨⟨v2, v3⟩, hx, hm⟩ := bind_inv hm
  have hq := w_ref01_Product _ _ hx []
  refine G_callP hq ?_
  refine G_run 5 ?_
  refine G_end ?_
  refine R_seq ?_
  refine R_G ?_
  refine G_run 2 ?_
  refine G_end ?_
  refine R_ret ?_
  obtain rfl := inj1 hm
  exact ⟨trivial, fin_pure (by kernel_rfl)⟩
end Go.Proofs.Try
namespace Go.Proofs.Try
open Go Go.Pm
set_option linter.unusedVariables false
set_option maxHeartbeats 2000000
set_option maxRecDepth 2000
def m_law13_RuleSymmetric (x : (Int × (List Int) × (List Int) × (List Int))) : Option Bool :=
  match x with
  | (p0, p1, p2, p3) =>
  (m_law13_awake () >>= fun (v2 : Bool) =>
  (if v2 = false then
    some true
  else
  m_ref02_Check p1 >>= fun (v4 : Int) =>
  some (v4 != 0)
  ) >>= fun (v3 : Bool) =>
  (if v3 = true then
    some true
  else
  m_ref02_Check p2 >>= fun (v6 : Int) =>
  some (v6 != 0)
  ) >>= fun (v5 : Bool) =>
  (if v5 = true then
    some true
  else
  m_law13_axis p0 >>= fun (v8 : Bool) =>
  some (!v8)
  ) >>= fun (v7 : Bool) =>
  if v7 = true then
    some true
  else
  some (decide ((p3.length : Int) > 100))
  ) >>= fun (v1 : Bool) =>
  if v1 = true then
    m_law13_awake () >>= fun (v9 : Bool) =>
    some v9
  else
  m_rule_Catenate (p0, p1, p2) >>= fun ((v10, v11) : (T_rule_Rule × Int)) =>
  m_rule_Catenate (p0, p2, p1) >>= fun ((v12, v13) : (T_rule_Rule × Int)) =>
  ((if v11 ≠ v13 then
    some true
  else
  m_ref02_Equal (v10.shape, v12.shape) >>= fun (v16 : Bool) =>
  some (!v16)
  ) >>= fun (v15 : Bool) =>
  (if v15 = true then
    some true
  else
  m_ref02_Equal (v10.left, v12.right) >>= fun (v18 : Bool) =>
  some (!v18)
  ) >>= fun (v17 : Bool) =>
  if v17 = true then
    some true
  else
  m_ref02_Equal (v10.right, v12.left) >>= fun (v19 : Bool) =>
  some (!v19)
  ) >>= fun (v14 : Bool) =>
  if v14 = true then
    some false
  else
  m_law13_left p3 >>= fun (v20 : T_spec_Spec) =>
  m_rule_Transpose (v20, p1) >>= fun ((v21, v22) : (T_rule_Rule × Int)) =>
  (if v22 ≠ 0 then
    some true
  else
  some ((v21.shape.length : Int) != (p1.length : Int))
  ) >>= fun (v23 : Bool) =>
  if v23 = true then
    some true
  else
  m_ref02_Cells v21.shape >>= fun (v24 : Int) =>
  m_ref02_Cells p1 >>= fun (v25 : Int) =>
  some (v24 == v25)
def P_law13_RuleSymmetric : (Int × (List Int) × (List Int) × (List Int)) → Bool → Prop := fun x r => match x, r with
  | (p0, p1, p2, p3), r0 => ∀ H, PC prog env 3 ([(intD p0), (.lst ((List.map intD) p1)), (.lst ((List.map intD) p2)), (.lst ((List.map intD) p3))].map .dat) H (boolPV r0) H
theorem w_law13_RuleSymmetric : ∀ x r, m_law13_RuleSymmetric x = some r → P_law13_RuleSymmetric x r := by
  intro x r0 hm
  unfold m_law13_RuleSymmetric at hm
  unfold P_law13_RuleSymmetric
  obtain ⟨p0, p1, p2, p3⟩ := x
  intro H
  refine PC_sx (ds := [(intD p0), (.lst ((List.map intD) p1)), (.lst ((List.map intD) p2)), (.lst ((List.map intD) p3))]) (fn := f3) (by kernel_rfl) (by kernel_rfl) rfl ?_ (by kernel_rfl)
  refine R_seq ?_
  refine R_G ?_
  refine G_run 1 ?_
  refine G_end ?_
  refine R_seq ?_
  refine R_seq ?_
  obtain ⟨v1, hs, hm⟩ := bind_inv hm
  refine R_cut (fun d => ⟨sl d 102 [(0, (intPV p0)), (1, (.dat (.lst ((List.map intD) p1)))), (2, (.dat (.lst ((List.map intD) p2)))), (3, (.dat (.lst ((List.map intD) p3)))), (36, (boolPV v1))], []⟩) ?_ (fun d => ?_)
  · replace hm := hs
    clear hs
    refine R_GN ?_
    obtain ⟨v2, hx, hm⟩ := bind_inv hm
    have hq := w_law13_awake _ _ hx []
    refine G_callP hq ?_
    refine G_run 2 ?_
    obtain ⟨v3, hs, hm⟩ := bind_inv hm
    refine G_cut (j := 7) (fun d => ⟨sl d 102 [(0, (intPV p0)), (1, (.dat (.lst ((List.map intD) p1)))), (2, (.dat (.lst ((List.map intD) p2)))), (3, (.dat (.lst ((List.map intD) p3)))), (8, (boolPV false)), (15, (boolPV v2)), (16, (boolPV (!v2))), (21, (boolPV v3))], []⟩) (fun d => ?_) (fun hJ => ?_)
    · clear hs
      refine G_run 1 ?_
      obtain ⟨v5, hs, hm⟩ := bind_inv hm
      refine G_cut (j := 12) (fun d => ⟨sl d 102 [(0, (intPV p0)), (1, (.dat (.lst ((List.map intD) p1)))), (2, (.dat (.lst ((List.map intD) p2)))), (3, (.dat (.lst ((List.map intD) p3)))), (8, (boolPV false)), (15, (boolPV v2)), (16, (boolPV (!v2))), (21, (boolPV v3)), (26, (boolPV v5))], []⟩) (fun d => ?_) (fun hJ => ?_)
      · clear hs
        refine G_run 1 ?_
        obtain ⟨v7, hs, hm⟩ := bind_inv hm
        refine G_cut (j := 17) (fun d => ⟨sl d 102 [(0, (intPV p0)), (1, (.dat (.lst ((List.map intD) p1)))), (2, (.dat (.lst ((List.map intD) p2)))), (3, (.dat (.lst ((List.map intD) p3)))), (8, (boolPV false)), (15, (boolPV v2)), (16, (boolPV (!v2))), (21, (boolPV v3)), (26, (boolPV v5)), (31, (boolPV v7))], []⟩) (fun d => ?_) (fun hJ => ?_)
        · clear hs
          refine G_run 1 ?_
          refine G_split (p := v7 = true) 32 (bool_dec _) (fun hc => ?_) (fun hc => ?_)
          · replace hm := pos_inv hc hm
            refine G_run 4 ?_
            refine G_end ⟨by kernel_rfl, ?_⟩
            obtain rfl := inj1 hm
            exact cut_leaf (by kernel_rfl)
          replace hm := neg_inv hc hm
          refine G_run 1 ?_
          refine I_len intD p3 (es := (List.map intD) p3) rfl ?_
          refine G_run 2 ?_
          refine G_end ⟨by kernel_rfl, ?_⟩
          obtain rfl := inj1 hm
          exact cut_leaf (by kernel_rfl)
        replace hm := hs
        clear hs
        refine G_split (p := v5 = true) 27 (bool_dec _) (fun hc => ?_) (fun hc => ?_)
        · replace hm := pos_inv hc hm
          refine G_run 4 ?_
          obtain rfl := inj1 hm
          exact hJ _ _ (by kernel_rfl) (by kernel_rfl)
        replace hm := neg_inv hc hm
        refine G_run 1 ?_
        obtain ⟨v8, hx, hm⟩ := bind_inv hm
        have hq := w_law13_axis _ _ hx []
        refine G_callP hq ?_
        refine G_run 2 ?_
        obtain rfl := inj1 hm
        exact hJ _ _ (by kernel_rfl) (by kernel_rfl)
      replace hm := hs
      clear hs
      refine G_split (p := v3 = true) 22 (bool_dec _) (fun hc => ?_) (fun hc => ?_)
      · replace hm := pos_inv hc hm
        refine G_run 4 ?_
        obtain rfl := inj1 hm
        exact hJ _ _ (by kernel_rfl) (by kernel_rfl)
      replace hm := neg_inv hc hm
      refine G_run 1 ?_
      obtain ⟨v6, hx, hm⟩ := bind_inv hm
      have hq := w_ref02_Check _ _ hx []
      refine G_callP hq ?_
      refine G_run 2 ?_
      obtain rfl := inj1 hm
      exact hJ _ _ (by kernel_rfl) (by kernel_rfl)
    replace hm := hs
    clear hs
    refine G_split (p := v2 = false) 17 (not_dec _) (fun hc => ?_) (fun hc => ?_)
    · replace hm := pos_inv hc hm
      refine G_run 4 ?_
      obtain rfl := inj1 hm
      exact hJ _ _ (by kernel_rfl) (by kernel_rfl)
    replace hm := neg_inv hc hm
    refine G_run 1 ?_
    obtain ⟨v4, hx, hm⟩ := bind_inv hm
    have hq := w_ref02_Check _ _ hx []
    refine G_callP hq ?_
    refine G_run 2 ?_
    obtain rfl := inj1 hm
    exact hJ _ _ (by kernel_rfl) (by kernel_rfl)
  clear hs
  refine R_ifp (p := v1 = true) (bool_dec _) (fun hc => ?_) (fun hc => ?_)
  · replace hm := pos_inv hc hm
    refine R_seq ?_
    refine R_G ?_
    obtain ⟨v9, hx, hm⟩ := bind_inv hm
    have hq := w_law13_awake _ _ hx []
    refine G_callP hq ?_
    refine G_run 1 ?_
    refine G_end ?_
    refine R_ret ?_
    obtain rfl := inj1 hm
    exact ⟨trivial, fin_pure (by kernel_rfl)⟩
  replace hm := neg_inv hc hm
  refine R_skip ?_
  refine R_seq ?_
  refine R_G ?_
  refine G_run 3 ?_
  obtain ⟨⟨v10, v11⟩, hx, hm⟩ := bind_inv hm
  have hq := w_rule_Catenate _ _ hx []
  refine G_callP hq ?_
  refine G_run 6 ?_
  refine G_end ?_
  refine R_seq ?_
  refine R_G ?_
  refine G_run 3 ?_
  obtain ⟨⟨v12, v13⟩, hx, hm⟩ := bind_inv hm
  have hq := w_rule_Catenate _ _ hx []
  refine G_callP hq ?_
  refine G_run 6 ?_
  refine G_end ?_
  refine R_seq ?_
  refine R_seq ?_
  obtain ⟨v14, hs, hm⟩ := bind_inv hm
  refine R_cut (fun d => ⟨sl d 102 [(1, (.dat (.lst ((List.map intD) p1)))), (3, (.dat (.lst ((List.map intD) p3)))), (78, (boolPV v14))], [(.box [(.dat (.lst ((List.map intD) v10.left))), (.dat (.lst ((List.map intD) v10.right))), (.dat (.lst ((List.map intD) v10.shape))), (.dat (.lst ((List.map intD) v10.starts))), (intPV v10.axis), (intPV v10.amount), (.dat (.lst ((List.map intD) v10.perm)))]), (.box [(.dat (.lst ((List.map intD) v12.left))), (.dat (.lst ((List.map intD) v12.right))), (.dat (.lst ((List.map intD) v12.shape))), (.dat (.lst ((List.map intD) v12.starts))), (intPV v12.axis), (intPV v12.amount), (.dat (.lst ((List.map intD) v12.perm)))])]⟩) ?_ (fun d => ?_)
  · replace hm := hs
    clear hs
    refine R_GN ?_
    refine G_run 4 ?_
    obtain ⟨v15, hs, hm⟩ := bind_inv hm
    refine G_cut (j := 11) (fun d => ⟨sl d 102 [(0, (intPV p0)), (1, (.dat (.lst ((List.map intD) p1)))), (2, (.dat (.lst ((List.map intD) p2)))), (3, (.dat (.lst ((List.map intD) p3)))), (9, (.ptr 0 0)), (10, (intPV v11)), (11, (.ptr 1 0)), (12, (intPV v13)), (36, (boolPV v1)), (38, (.tup [(.dat (.agg [(.lst ((List.map intD) v10.left)), (.lst ((List.map intD) v10.right)), (.lst ((List.map intD) v10.shape)), (.lst ((List.map intD) v10.starts)), (intD v10.axis), (intD v10.amount), (.lst ((List.map intD) v10.perm))])), (intPV v11)])), (39, (intPV p0)), (40, (.dat (.lst ((List.map intD) p1)))), (41, (.dat (.lst ((List.map intD) p2)))), (42, (.tup [(.dat (.agg [(.lst ((List.map intD) v10.left)), (.lst ((List.map intD) v10.right)), (.lst ((List.map intD) v10.shape)), (.lst ((List.map intD) v10.starts)), (intD v10.axis), (intD v10.amount), (.lst ((List.map intD) v10.perm))])), (intPV v11)])), (43, (.dat (.agg [(.lst ((List.map intD) v10.left)), (.lst ((List.map intD) v10.right)), (.lst ((List.map intD) v10.shape)), (.lst ((List.map intD) v10.starts)), (intD v10.axis), (intD v10.amount), (.lst ((List.map intD) v10.perm))]))), (44, (intPV v11)), (45, (.tup [(.dat (.agg [(.lst ((List.map intD) v12.left)), (.lst ((List.map intD) v12.right)), (.lst ((List.map intD) v12.shape)), (.lst ((List.map intD) v12.starts)), (intD v12.axis), (intD v12.amount), (.lst ((List.map intD) v12.perm))])), (intPV v13)])), (46, (intPV p0)), (47, (.dat (.lst ((List.map intD) p2)))), (48, (.dat (.lst ((List.map intD) p1)))), (49, (.tup [(.dat (.agg [(.lst ((List.map intD) v12.left)), (.lst ((List.map intD) v12.right)), (.lst ((List.map intD) v12.shape)), (.lst ((List.map intD) v12.starts)), (intD v12.axis), (intD v12.amount), (.lst ((List.map intD) v12.perm))])), (intPV v13)])), (50, (.dat (.agg [(.lst ((List.map intD) v12.left)), (.lst ((List.map intD) v12.right)), (.lst ((List.map intD) v12.shape)), (.lst ((List.map intD) v12.starts)), (intD v12.axis), (intD v12.amount), (.lst ((List.map intD) v12.perm))]))), (51, (intPV v13)), (52, (intPV v11)), (53, (intPV v13)), (54, (boolPV (v11 != v13))), (62, (boolPV v15))], [(.box [(.dat (.lst ((List.map intD) v10.left))), (.dat (.lst ((List.map intD) v10.right))), (.dat (.lst ((List.map intD) v10.shape))), (.dat (.lst ((List.map intD) v10.starts))), (intPV v10.axis), (intPV v10.amount), (.dat (.lst ((List.map intD) v10.perm)))]), (.box [(.dat (.lst ((List.map intD) v12.left))), (.dat (.lst ((List.map intD) v12.right))), (.dat (.lst ((List.map intD) v12.shape))), (.dat (.lst ((List.map intD) v12.starts))), (intPV v12.axis), (intPV v12.amount), (.dat (.lst ((List.map intD) v12.perm)))])]⟩) (fun d => ?_) (fun hJ => ?_)
    · clear hs
      refine G_run 1 ?_
      obtain ⟨v17, hs, hm⟩ := bind_inv hm
      refine G_cut (j := 19) (fun d => ⟨sl d 102 [(0, (intPV p0)), (1, (.dat (.lst ((List.map intD) p1)))), (2, (.dat (.lst ((List.map intD) p2)))), (3, (.dat (.lst ((List.map intD) p3)))), (9, (.ptr 0 0)), (10, (intPV v11)), (11, (.ptr 1 0)), (12, (intPV v13)), (36, (boolPV v1)), (38, (.tup [(.dat (.agg [(.lst ((List.map intD) v10.left)), (.lst ((List.map intD) v10.right)), (.lst ((List.map intD) v10.shape)), (.lst ((List.map intD) v10.starts)), (intD v10.axis), (intD v10.amount), (.lst ((List.map intD) v10.perm))])), (intPV v11)])), (39, (intPV p0)), (40, (.dat (.lst ((List.map intD) p1)))), (41, (.dat (.lst ((List.map intD) p2)))), (42, (.tup [(.dat (.agg [(.lst ((List.map intD) v10.left)), (.lst ((List.map intD) v10.right)), (.lst ((List.map intD) v10.shape)), (.lst ((List.map intD) v10.starts)), (intD v10.axis), (intD v10.amount), (.lst ((List.map intD) v10.perm))])), (intPV v11)])), (43, (.dat (.agg [(.lst ((List.map intD) v10.left)), (.lst ((List.map intD) v10.right)), (.lst ((List.map intD) v10.shape)), (.lst ((List.map intD) v10.starts)), (intD v10.axis), (intD v10.amount), (.lst ((List.map intD) v10.perm))]))), (44, (intPV v11)), (45, (.tup [(.dat (.agg [(.lst ((List.map intD) v12.left)), (.lst ((List.map intD) v12.right)), (.lst ((List.map intD) v12.shape)), (.lst ((List.map intD) v12.starts)), (intD v12.axis), (intD v12.amount), (.lst ((List.map intD) v12.perm))])), (intPV v13)])), (46, (intPV p0)), (47, (.dat (.lst ((List.map intD) p2)))), (48, (.dat (.lst ((List.map intD) p1)))), (49, (.tup [(.dat (.agg [(.lst ((List.map intD) v12.left)), (.lst ((List.map intD) v12.right)), (.lst ((List.map intD) v12.shape)), (.lst ((List.map intD) v12.starts)), (intD v12.axis), (intD v12.amount), (.lst ((List.map intD) v12.perm))])), (intPV v13)])), (50, (.dat (.agg [(.lst ((List.map intD) v12.left)), (.lst ((List.map intD) v12.right)), (.lst ((List.map intD) v12.shape)), (.lst ((List.map intD) v12.starts)), (intD v12.axis), (intD v12.amount), (.lst ((List.map intD) v12.perm))]))), (51, (intPV v13)), (52, (intPV v11)), (53, (intPV v13)), (54, (boolPV (v11 != v13))), (62, (boolPV v15)), (70, (boolPV v17))], [(.box [(.dat (.lst ((List.map intD) v10.left))), (.dat (.lst ((List.map intD) v10.right))), (.dat (.lst ((List.map intD) v10.shape))), (.dat (.lst ((List.map intD) v10.starts))), (intPV v10.axis), (intPV v10.amount), (.dat (.lst ((List.map intD) v10.perm)))]), (.box [(.dat (.lst ((List.map intD) v12.left))), (.dat (.lst ((List.map intD) v12.right))), (.dat (.lst ((List.map intD) v12.shape))), (.dat (.lst ((List.map intD) v12.starts))), (intPV v12.axis), (intPV v12.amount), (.dat (.lst ((List.map intD) v12.perm)))])]⟩) (fun d => ?_) (fun hJ => ?_)
      · clear hs
        refine G_run 1 ?_
        refine G_split (p := v17 = true) 71 (bool_dec _) (fun hc => ?_) (fun hc => ?_)
        · replace hm := pos_inv hc hm
          refine G_run 7 ?_
          refine G_end ⟨by kernel_rfl, ?_⟩
          obtain rfl := inj1 hm
          exact cut_leaf (by kernel_rfl)
        replace hm := neg_inv hc hm
        refine G_run 4 ?_
        obtain ⟨v19, hx, hm⟩ := bind_inv hm
        have hq := w_ref02_Equal _ _ hx []
        refine G_callP hq ?_
        refine G_run 2 ?_
        refine G_end ⟨by kernel_rfl, ?_⟩
        obtain rfl := inj1 hm
        exact cut_leaf (by kernel_rfl)
      replace hm := hs
      clear hs
      refine G_split (p := v15 = true) 63 (bool_dec _) (fun hc => ?_) (fun hc => ?_)
      · replace hm := pos_inv hc hm
        refine G_run 7 ?_
        obtain rfl := inj1 hm
        exact hJ _ _ (by kernel_rfl) (by kernel_rfl)
      replace hm := neg_inv hc hm
      refine G_run 4 ?_
      obtain ⟨v18, hx, hm⟩ := bind_inv hm
      have hq := w_ref02_Equal _ _ hx []
      refine G_callP hq ?_
      refine G_run 2 ?_
      obtain rfl := inj1 hm
      exact hJ _ _ (by kernel_rfl) (by kernel_rfl)
    replace hm := hs
    clear hs
    refine G_split (p := v11 ≠ v13) 55 (ne_dec _ _) (fun hc => ?_) (fun hc => ?_)
    · replace hm := pos_inv hc hm
      refine G_run 7 ?_
      obtain rfl := inj1 hm
      exact hJ _ _ (by kernel_rfl) (by kernel_rfl)
    replace hm := neg_inv hc hm
    refine G_run 4 ?_
    obtain ⟨v16, hx, hm⟩ := bind_inv hm
    have hq := w_ref02_Equal _ _ hx []
    refine G_callP hq ?_
    refine G_run 2 ?_
    obtain rfl := inj1 hm
    exact hJ _ _ (by kernel_rfl) (by kernel_rfl)
  clear hs
  refine R_ifp (p := v14 = true) (bool_dec _) (fun hc => ?_) (fun hc => ?_)
  · replace hm := pos_inv hc hm
    refine R_seq ?_
    refine R_G ?_
    refine G_run 1 ?_
    refine G_end ?_
    refine R_ret ?_
    obtain rfl := inj1 hm
    exact ⟨trivial, fin_pure (by kernel_rfl)⟩
  replace hm := neg_inv hc hm
  refine R_skip ?_
  refine R_seq ?_
  refine R_G ?_
  refine G_run 1 ?_
  obtain ⟨v20, hx, hm⟩ := bind_inv hm
  have hq := w_law13_left _ _ hx []
  refine G_callP hq ?_
  refine G_run 1 ?_
  obtain ⟨⟨v21, v22⟩, hx, hm⟩ := bind_inv hm
  have hq := w_rule_Transpose _ _ hx []
  refine G_callP hq ?_
  refine G_run 6 ?_
  refine G_end ?_
  refine R_seq ?_
  refine R_seq ?_
  obtain ⟨v23, hs, hm⟩ := bind_inv hm
  refine R_cut (fun d => ⟨sl d 102 [(1, (.dat (.lst ((List.map intD) p1)))), (13, (.ptr 2 0)), (95, (boolPV v23))], [(.box [(.dat (.lst ((List.map intD) v10.left))), (.dat (.lst ((List.map intD) v10.right))), (.dat (.lst ((List.map intD) v10.shape))), (.dat (.lst ((List.map intD) v10.starts))), (intPV v10.axis), (intPV v10.amount), (.dat (.lst ((List.map intD) v10.perm)))]), (.box [(.dat (.lst ((List.map intD) v12.left))), (.dat (.lst ((List.map intD) v12.right))), (.dat (.lst ((List.map intD) v12.shape))), (.dat (.lst ((List.map intD) v12.starts))), (intPV v12.axis), (intPV v12.amount), (.dat (.lst ((List.map intD) v12.perm)))]), (.box [(.dat (.lst ((List.map intD) v21.left))), (.dat (.lst ((List.map intD) v21.right))), (.dat (.lst ((List.map intD) v21.shape))), (.dat (.lst ((List.map intD) v21.starts))), (intPV v21.axis), (intPV v21.amount), (.dat (.lst ((List.map intD) v21.perm)))])]⟩) ?_ (fun d => ?_)
  · replace hm := hs
    clear hs
    refine R_G ?_
    refine G_run 3 ?_
    refine G_split (p := v22 ≠ 0) 88 (ne_dec _ _) (fun hc => ?_) (fun hc => ?_)
    · replace hm := pos_inv hc hm
      refine G_run 7 ?_
      refine G_end ?_
      obtain rfl := inj1 hm
      exact cut_leaf (by kernel_rfl)
    replace hm := neg_inv hc hm
    refine G_run 2 ?_
    refine I_len intD v21.shape (es := (List.map intD) v21.shape) rfl ?_
    refine G_run 1 ?_
    refine I_len intD p1 (es := (List.map intD) p1) rfl ?_
    refine G_run 2 ?_
    refine G_end ?_
    obtain rfl := inj1 hm
    exact cut_leaf (by kernel_rfl)
  clear hs
  refine R_ifp (p := v23 = true) (bool_dec _) (fun hc => ?_) (fun hc => ?_)
  · replace hm := pos_inv hc hm
    refine R_seq ?_
    refine R_G ?_
    refine G_run 1 ?_
    refine G_end ?_
    refine R_ret ?_
    obtain rfl := inj1 hm
    exact ⟨trivial, fin_pure (by kernel_rfl)⟩
  replace hm := neg_inv hc hm
  refine R_skip ?_
  refine R_seq ?_
  refine R_G ?_
  refine G_run 2 ?_
  obtain ⟨v24, hx, hm⟩ := bind_inv hm
  have hq := w_ref02_Cells _ _ hx []
  refine G_callP hq ?_
  refine G_run 1 ?_
  obtain ⟨v25, hx, hm⟩ := bind_inv hm
  have hq := w_ref02_Cells _ _ hx []
  refine G_callP hq ?_
  refine G_run 2 ?_
  refine G_end ?_
  refine R_ret ?_
  obtain rfl := inj1 hm
  exact ⟨trivial, fin_pure (by kernel_rfl)⟩
end Go.Proofs.Try
namespace Go.Proofs.Try
open Go Go.Pm
set_option linter.unusedVariables false
set_option linter.unusedSimpArgs false
set_option maxRecDepth 2000
theorem Equal_L1 : ∀ (s t p q : List Int), s.length = t.length → p.length = q.length → Sm (p ++ s).length → m_ref02_Equal_L1 (p ++ s, q ++ t, (p.length : Int)) = some (if s = t then .inr () else .inl ())
  | [], [], p, q, _, _, hs => by
    rw [m_ref02_Equal_L1]; simp only [end_lt, if_false, if_true]
  | x :: s, y :: t, p, q, h1, h2, hs => by
    rw [m_ref02_Equal_L1]
    have ih := Equal_L1 s t (p ++ [x]) (q ++ [y]) (by simpa using h1) (by simp [h2]) (by rw [← mid_app]; exact hs)
    rw [← mid_app, ← mid_app] at ih
    simp only [mid_lt, if_true, mid_idx, bind_ok, mid_W hs, ih]
    rw [h2, mid_idx]
    by_cases he : x = y <;> simp [he, bind_ok]
  | [], _ :: _, _, _, h, _, _ => by cases h
  | _ :: _, [], _, _, h, _, _ => by cases h
theorem Equal_ok (a b : List Int) (hs : Sm a.length) : m_ref02_Equal (a, b) = some (decide (a = b)) := by
  simp only [m_ref02_Equal]
  by_cases h : a.length = b.length
  · have e := Equal_L1 a b [] [] h rfl hs
    have e2 : ¬ ((a.length : Int) ≠ (b.length : Int)) := by omega
    simp only [e2, if_false]
    have e3 : m_ref02_Equal_L1 (a, b, 0) = _ := e
    rw [e3]
    by_cases hab : a = b
    · subst hab; simp
    · rw [if_neg hab, decide_eq_false hab]; rfl
  · have e2 : ((a.length : Int) ≠ (b.length : Int)) := by omega
    have e3 : a ≠ b := fun e => h (by rw [e])
    rw [if_pos e2, decide_eq_false e3]

/-- the product, exactly -/
def prodI (l : List Int) : Int := l.foldl (· * ·) 1
def negB (l : List Int) : Bool := l.any fun d => decide (d < 0)
def bigB (l : List Int) : Bool := l.any fun d => decide (d > 65536)
def prodR (l : List Int) : Int × Int := if negB l then (0, 6) else if bigB l then (0, 7) else if prodI l > 65536 then (0, 7) else (prodI l, 0)
def checkR (l : List Int) : Int := if negB l then 6 else if l.length > 16 ∨ bigB l = true ∨ prodI l > 65536 then 7 else 0
def cellsR (l : List Int) : Int := if checkR l = 0 then prodI l else 0
theorem foldl_mul : ∀ (l : List Int) (x : Int), l.foldl (· * ·) x = x * l.foldl (· * ·) 1
  | [], x => by simp
  | d :: l, x => by rw [List.foldl_cons, foldl_mul l (x * d), List.foldl_cons, foldl_mul l (1 * d), Int.one_mul, Int.mul_assoc]
theorem prodI_cons (d : Int) (l : List Int) : prodI (d :: l) = d * prodI l := by rw [prodI, List.foldl_cons, foldl_mul, Int.one_mul]; rfl
theorem prodI_nil : prodI [] = 1 := rfl
theorem prodI_append (a b : List Int) : prodI (a ++ b) = prodI a * prodI b := by rw [prodI, prodI, prodI, List.foldl_append, foldl_mul]
theorem prodI_pos : ∀ {l : List Int}, (∀ d ∈ l, 1 ≤ d) → 1 ≤ prodI l
  | [], _ => by simp [prodI]
  | d :: l, h => by
    have h1 := prodI_pos (l := l) (fun x hx => h x (List.mem_cons_of_mem _ hx))
    have h2 := h d (List.mem_cons_self ..)
    rw [prodI_cons]
    have := Int.mul_le_mul h2 h1 (by omega) (by omega)
    omega
theorem prodI_zero {l : List Int} (h : (0 : Int) ∈ l) : prodI l = 0 := by
  obtain ⟨s, t, rfl⟩ := List.append_of_mem h
  rw [prodI_append, prodI_cons]; simp
theorem negB_cons (d : Int) (l : List Int) : negB (d :: l) = (decide (d < 0) || negB l) := rfl
theorem bigB_cons (d : Int) (l : List Int) : bigB (d :: l) = (decide (d > 65536) || bigB l) := rfl

theorem Prod_L1 : ∀ (s p : List Int) (z : Bool), Sm (p ++ s).length → m_ref01_Product_L1 (p ++ s, z, (p.length : Int)) = some (if negB s then .inl () else .inr (z || s.any (· == 0)))
  | [], p, z, hs => by
    rw [m_ref01_Product_L1]; simp only [end_lt, if_false]; simp [negB]
  | x :: s, p, z, hs => by
    rw [m_ref01_Product_L1]
    have ih := fun z => Prod_L1 s (p ++ [x]) z (by rw [← mid_app]; exact hs)
    rw [← mid_app] at ih
    simp only [mid_lt, if_true, mid_idx, bind_ok, mid_W hs, ih, negB_cons]
    by_cases hn : x < 0
    · simp [hn]
    · cases z <;> by_cases hz : x = 0 <;> simp [hn, hz]
theorem Prod_L2 : ∀ (s p : List Int) (z : Bool), Sm (p ++ s).length → m_ref01_Product_L2 (p ++ s, z, (p.length : Int)) = some (if bigB s then .inl () else .inr ())
  | [], p, z, hs => by
    rw [m_ref01_Product_L2]; simp only [end_lt, if_false]; simp [bigB]
  | x :: s, p, z, hs => by
    rw [m_ref01_Product_L2]
    have ih := Prod_L2 s (p ++ [x]) z (by rw [← mid_app]; exact hs)
    rw [← mid_app] at ih
    simp only [mid_lt, if_true, mid_idx, bind_ok, mid_W hs, ih, bigB_cons]
    by_cases hn : x > 65536 <;> simp [hn]
theorem Prod_L3 : ∀ (s p : List Int) (m : Int), Sm (p ++ s).length → (∀ d ∈ s, 1 ≤ d ∧ d ≤ 65536) → 1 ≤ m → m ≤ 65536 → m_ref01_Product_L3 (p ++ s, m, (p.length : Int)) = some (if m * prodI s > 65536 then .inl () else .inr (m * prodI s))
  | [], p, m, hs, hd, h1, h2 => by
    rw [m_ref01_Product_L3]; simp only [end_lt, if_false, prodI_nil, Int.mul_one]
    rw [if_neg (by omega)]
  | x :: s, p, m, hs, hd, h1, h2 => by
    rw [m_ref01_Product_L3]
    have hx := hd x (List.mem_cons_self ..)
    have b1 := Int.mul_le_mul h2 hx.2 (by omega) (by omega)
    have b2 := Int.mul_le_mul h1 hx.1 (by omega) (by omega)
    have hw : W (m * x) = m * x := W_ok (by omega) (by omega)
    have hds : ∀ d ∈ s, 1 ≤ d ∧ d ≤ 65536 := fun d h => hd d (List.mem_cons_of_mem _ h)
    simp only [mid_lt, if_true, mid_idx, bind_ok, mid_W hs, hw, prodI_cons]
    rw [← Int.mul_assoc]
    by_cases hn : m * x > 65536
    · have hp := prodI_pos (l := s) (fun d h => (hds d h).1)
      have : m * x * 1 ≤ m * x * prodI s := Int.mul_le_mul_of_nonneg_left hp (by omega)
      rw [if_pos hn, if_pos (by omega)]
    · have ih := Prod_L3 s (p ++ [x]) (m * x) (by rw [← mid_app]; exact hs) hds (by omega) (by omega)
      rw [← mid_app] at ih
      rw [if_neg hn, ih]
theorem neg_all {l : List Int} (h : negB l = false) : ∀ d ∈ l, 0 ≤ d := fun d hd => by
  have := List.any_eq_false.1 h d hd
  simp at this; omega
theorem big_all {l : List Int} (h : bigB l = false) : ∀ d ∈ l, d ≤ 65536 := fun d hd => by
  have := List.any_eq_false.1 h d hd
  simp at this; omega
theorem Product_ok (l : List Int) (hs : Sm l.length) : m_ref01_Product l = some (prodR l) := by
  have e1 : m_ref01_Product_L1 (l, false, 0) = _ := Prod_L1 l [] false hs
  have e2 : ∀ z, m_ref01_Product_L2 (l, z, 0) = _ := fun z => Prod_L2 l [] z hs
  simp only [m_ref01_Product, e1, bind_ok, prodR]
  by_cases hn : negB l = true
  · simp [hn]
  · have hn' : negB l = false := by simpa using hn
    simp only [hn', Bool.false_eq_true, if_false, Bool.false_or, e2, bind_ok]
    by_cases hb : bigB l = true
    · simp [hb]
    · have hb' : bigB l = false := by simpa using hb
      simp only [hb', Bool.false_eq_true, if_false]
      by_cases hz : (l.any (· == 0)) = true
      · have : prodI l = 0 := prodI_zero (by simpa using hz)
        simp [hz, this]
      · have hz' : l.any (· == 0) = false := (Bool.not_eq_true _).mp hz
        have e3 : m_ref01_Product_L3 (l, 1, 0) = _ := Prod_L3 l [] 1 hs (fun d hd => by
          have h1 := neg_all hn' d hd
          have h2 := big_all hb' d hd
          have h3 : d ≠ 0 := fun e => by have := List.any_eq_false.1 hz' d hd; simp [e] at this
          omega) (by omega) (by omega)
        simp only [hz', Bool.false_eq_true, if_false, e3, bind_ok, Int.one_mul]
        by_cases hp : prodI l > 65536 <;> simp [hp]
theorem Check_L1 : ∀ (s p : List Int), Sm (p ++ s).length → m_ref02_Check_L1 (p ++ s, (p.length : Int)) = some (if negB s then .inl () else .inr ())
  | [], p, hs => by
    rw [m_ref02_Check_L1]; simp only [end_lt, if_false]; simp [negB]
  | x :: s, p, hs => by
    rw [m_ref02_Check_L1]
    have ih := Check_L1 s (p ++ [x]) (by rw [← mid_app]; exact hs)
    rw [← mid_app] at ih
    simp only [mid_lt, if_true, mid_idx, bind_ok, mid_W hs, ih, negB_cons]
    by_cases hn : x < 0 <;> simp [hn]
theorem Check_ok (l : List Int) (hs : Sm l.length) : m_ref02_Check l = some (checkR l) := by
  have e1 : m_ref02_Check_L1 (l, 0) = _ := Check_L1 l [] hs
  simp only [m_ref02_Check, e1, bind_ok, checkR, Product_ok l hs]
  by_cases hn : negB l = true
  · simp [hn]
  · simp only [hn, if_false, prodR, Bool.false_eq_true]
    by_cases hl : l.length > 16
    · have : (l.length : Int) > 16 := by omega
      simp [hl, this, bind_ok]
    · have : ¬ (l.length : Int) > 16 := by omega
      by_cases hb : bigB l = true
      · simp [hl, this, hb, bind_ok]
      · by_cases hp : prodI l > 65536 <;> simp [hl, this, hb, hp, bind_ok]
end Go.Proofs.Try
namespace Go.Proofs.Try
open Go Go.Pm
set_option linter.unusedVariables false
set_option linter.unusedSimpArgs false
set_option maxRecDepth 2000
def remL (l : List Int) (k : Nat) : List Int := l.take k ++ l.drop (k + 1)
def insL (l : List Int) (k : Nat) (v : Int) : List Int := l.take k ++ v :: l.drop k
def repL (l : List Int) (k : Nat) (v : Int) : List Int := l.take k ++ v :: l.drop (k + 1)
theorem checkR_zero {l : List Int} : checkR l = 0 ↔ (∀ d ∈ l, 0 ≤ d ∧ d ≤ 65536) ∧ l.length ≤ 16 ∧ prodI l ≤ 65536 := by
  unfold checkR
  constructor
  · intro h
    cases hn : negB l
    · rw [hn, if_neg (by decide)] at h
      split at h
      · cases h
      · rename_i h2
        have hb : bigB l = false := by
          cases hb : bigB l
          · rfl
          · exact absurd (Or.inr (Or.inl hb)) h2
        exact ⟨fun d hd => ⟨neg_all hn d hd, big_all hb d hd⟩, by have := fun h => h2 (Or.inl h); omega, by have := fun h => h2 (Or.inr (Or.inr h)); omega⟩
    · rw [hn] at h; cases h
  · rintro ⟨h1, h2, h3⟩
    have hn : negB l = false := List.any_eq_false.2 fun d hd => by have := h1 d hd; simp; omega
    have hb : bigB l = false := List.any_eq_false.2 fun d hd => by have := h1 d hd; simp; omega
    rw [hn, hb, if_neg (by decide), if_neg]
    rintro (h | h | h)
    · omega
    · cases h
    · omega
theorem prod_rep (l : List Int) (i : Nat) (x : Int) : prodI (repL l i x) = x * prodI (remL l i) := by
  rw [repL, remL, prodI_append, prodI_cons, prodI_append, Int.mul_left_comm]
theorem rep_self {l : List Int} {i : Nat} (hi : i < l.length) : repL l i l[i] = l := by
  rw [repL, ← List.drop_eq_getElem_cons hi, List.take_append_drop]
theorem rep_mem {l : List Int} {i : Nat} {x d : Int} : d ∈ repL l i x ↔ d = x ∨ d ∈ remL l i := by
  simp only [repL, remL, List.mem_append, List.mem_cons]
  constructor
  · rintro (h | h | h)
    · exact .inr (.inl h)
    · exact .inl h
    · exact .inr (.inr h)
  · rintro (h | h | h)
    · exact .inr (.inl h)
    · exact .inl h
    · exact .inr (.inr h)
theorem rep_len {l : List Int} {i : Nat} {x : Int} (hi : i < l.length) : (repL l i x).length = l.length := by simp [repL]; omega
theorem rem_mem {l : List Int} {i : Nat} {d : Int} (h : d ∈ remL l i) : d ∈ l := by
  simp only [remL, List.mem_append] at h
  rcases h with h | h
  · exact List.mem_of_mem_take h
  · exact List.mem_of_mem_drop h
theorem prodI_nonneg : ∀ {l : List Int}, (∀ d ∈ l, 0 ≤ d) → 0 ≤ prodI l
  | [], _ => by simp [prodI]
  | d :: l, h => by
    rw [prodI_cons]
    exact Int.mul_nonneg (h d (List.mem_cons_self ..)) (prodI_nonneg fun x hx => h x (List.mem_cons_of_mem _ hx))
/-- a part of a right shape is right -/
theorem part_right {l : List Int} {i : Nat} {x y : Int} (hi : i < l.length) (h : checkR (repL l i y) = 0) (h0 : 0 ≤ x) (hx : x ≤ y) : checkR (repL l i x) = 0 := by
  obtain ⟨h1, h2, h3⟩ := checkR_zero.1 h
  have hr : ∀ d ∈ remL l i, 0 ≤ d ∧ d ≤ 65536 := fun d hd => h1 d (rep_mem.2 (.inr hd))
  have hy := h1 y (rep_mem.2 (.inl rfl))
  refine checkR_zero.2 ⟨fun d hd => ?_, ?_, ?_⟩
  · rcases rep_mem.1 hd with rfl | hd
    · omega
    · exact hr d hd
  · rw [rep_len hi] at h2 ⊢; exact h2
  · rw [prod_rep] at h3 ⊢
    have := Int.mul_le_mul_of_nonneg_right hx (prodI_nonneg fun d hd => (hr d hd).1)
    omega
theorem rep_other {a b : List Int} {i : Nat} (ha : i < a.length) (hb : i < b.length) (hrem : remL a i = remL b i) (x : Int) : repL a i x = repL b i x := by
  have e1 : a.take i = b.take i := by
    have := congrArg (List.take i) hrem
    simpa [remL, List.take_append_of_le_length, Nat.le_of_lt ha, Nat.le_of_lt hb, List.length_take, List.take_take] using this
  have e2 : a.drop (i + 1) = b.drop (i + 1) := by
    have h3 : a.take i ++ a.drop (i + 1) = b.take i ++ b.drop (i + 1) := hrem
    rw [e1] at h3
    exact List.append_cancel_left h3
  rw [repL, repL, e1, e2]
theorem cells_cat {a b : List Int} {i : Nat} {s : Int} (ha : i < a.length) (hb : i < b.length) (hrem : remL a i = remL b i) (h0 : 0 ≤ a[i]) (h1 : 0 ≤ b[i]) (hs : s = a[i] + b[i]) (h : checkR (repL a i s) = 0) :
    cellsR (repL a i s) = cellsR a + cellsR b ∧ 0 ≤ cellsR a ∧ 0 ≤ cellsR b ∧ cellsR a + cellsR b ≤ 65536 := by
  have ra : checkR (repL a i a[i]) = 0 := part_right ha h h0 (by omega)
  have rb' : checkR (repL a i b[i]) = 0 := part_right ha h h1 (by omega)
  have e : repL a i b[i] = b := by rw [rep_other ha hb hrem]; exact rep_self hb
  rw [rep_self ha] at ra
  rw [e] at rb'
  have p0 := (checkR_zero.1 h).2.2
  have p1 := prod_rep a i a[i]
  have p2 := prod_rep b i b[i]
  rw [rep_self ha] at p1
  rw [rep_self hb] at p2
  have q1 := prodI_nonneg fun d hd => ((checkR_zero.1 ra).1 d hd).1
  have q2 := prodI_nonneg fun d hd => ((checkR_zero.1 rb').1 d hd).1
  rw [cellsR, cellsR, cellsR, if_pos h, if_pos ra, if_pos rb']
  have e3 : prodI (repL a i s) = prodI a + prodI b := by rw [prod_rep, p1, p2, hrem, hs, Int.add_mul]
  exact ⟨e3, q1, q2, by omega⟩

def Dims (X : List Int) : Prop := ∀ d ∈ X, 0 ≤ d ∧ d ≤ 65536
theorem getD_in {X : List Int} {k : Nat} (h : Dims X) (hk : k < X.length) : 0 ≤ X.getD k 0 ∧ X.getD k 0 ≤ 65536 := by
  rw [List.getD_eq_getElem?_getD, List.getElem?_eq_getElem hk]; exact h _ (List.getElem_mem hk)
theorem idx_getD {X : List Int} {k : Nat} (hk : k < X.length) : idx X (k : Int) = some (X.getD k 0) := by
  rw [idx_ok hk, List.getD_eq_getElem?_getD, List.getElem?_eq_getElem hk]; rfl
/-- below a right shape, place by place -/
inductive Below : List Int → List Int → Prop
  | nil : Below [] []
  | cons {x y : Int} {s t : List Int} (h0 : 0 ≤ x) (h1 : x ≤ y) (h : Below s t) : Below (x :: s) (y :: t)
theorem Below.len {s t : List Int} (h : Below s t) : s.length = t.length := by
  induction h with
  | nil => rfl
  | cons _ _ _ ih => simp [ih]
theorem Below.prod {s t : List Int} (h : Below s t) : 0 ≤ prodI s ∧ prodI s ≤ prodI t := by
  induction h with
  | nil => simp [prodI]
  | cons h0 h1 _ ih =>
    rw [prodI_cons, prodI_cons]
    exact ⟨Int.mul_nonneg h0 ih.1, Int.mul_le_mul h1 ih.2 ih.1 (by omega)⟩
theorem Below.dims {s t : List Int} (h : Below s t) (ht : Dims t) : Dims s := by
  induction h with
  | nil => intro d hd; cases hd
  | @cons x y s t h0 h1 _ ih =>
    intro d hd
    rcases List.mem_cons.1 hd with rfl | hd
    · have := ht y (List.mem_cons_self ..); omega
    · exact ih (fun z hz => ht z (List.mem_cons_of_mem _ hz)) d hd
theorem Below.right {s t : List Int} (h : Below s t) (ht : checkR t = 0) : checkR s = 0 := by
  obtain ⟨h1, h2, h3⟩ := checkR_zero.1 ht
  have := h.prod
  exact checkR_zero.2 ⟨h.dims h1, by rw [h.len]; exact h2, by omega⟩
theorem check_dims {X : List Int} (h0 : ∀ d ∈ X, 0 ≤ d) : checkR X = 0 ∨ checkR X = 7 := by
  have hn : negB X = false := List.any_eq_false.2 fun d hd => by have := h0 d hd; simp; omega
  unfold checkR
  rw [hn]
  simp only [Bool.false_eq_true, if_false]
  split
  · exact .inr rfl
  · exact .inl rfl
theorem prodI_ones : ∀ n : Nat, prodI (List.replicate n 1) = 1
  | 0 => rfl
  | n + 1 => by rw [List.replicate_succ, prodI_cons, prodI_ones n]; rfl
theorem check_ones {n : Nat} (h : n ≤ 16) : checkR (List.replicate n 1) = 0 :=
  checkR_zero.2 ⟨fun d hd => by rw [List.eq_of_mem_replicate hd]; omega, by simpa using h, by rw [prodI_ones]; omega⟩
end Go.Proofs.Try
namespace Go.Proofs.Try
open Go Go.Pm
set_option linter.unusedVariables false
set_option linter.unusedSimpArgs false
set_option maxRecDepth 2000
theorem Cont1_L1 : ∀ (s p : List Int), Sm (p ++ s).length → ∃ r, m_slices_IndexFunc_int_int_size_check_1_L1 (p ++ s, (p.length : Int)) = some r ∧ (negB s = true → ∃ j : Nat, r = .inl (j : Int)) ∧ (negB s = false → r = .inr ())
  | [], p, hs => by
    rw [m_slices_IndexFunc_int_int_size_check_1_L1]; simp only [end_lt, if_false]; exact ⟨_, rfl, fun h => (by cases h), fun _ => rfl⟩
  | x :: s, p, hs => by
    rw [m_slices_IndexFunc_int_int_size_check_1_L1]
    obtain ⟨r, h1, h2, h3⟩ := Cont1_L1 s (p ++ [x]) (by rw [← mid_app]; exact hs)
    rw [← mid_app] at h1
    simp only [mid_lt, if_true, mid_idx, bind_ok, mid_W hs, m_size_check_1, negB_cons]
    by_cases hn : x < 0
    · simp only [hn, decide_true, if_true]; exact ⟨_, rfl, fun _ => ⟨_, rfl⟩, fun h => by simp at h⟩
    · simp only [hn, decide_false, Bool.false_eq_true, if_false, Bool.false_or]; exact ⟨r, h1, h2, h3⟩
theorem Cont1_ok (l : List Int) (hs : Sm l.length) : m_slices_ContainsFunc_int_int_size_check_1 l = some (negB l) := by
  obtain ⟨r, h1, h2, h3⟩ := Cont1_L1 l [] hs
  have e : m_slices_IndexFunc_int_int_size_check_1_L1 (l, 0) = some r := h1
  simp only [m_slices_ContainsFunc_int_int_size_check_1, m_slices_IndexFunc_int_int_size_check_1, e, bind_ok]
  cases hn : negB l
  · rw [h3 hn]; rfl
  · obtain ⟨j, rfl⟩ := h2 hn; simp [bind_ok]
theorem Cont2_L1 : ∀ (s p : List Int), Sm (p ++ s).length → ∃ r, m_slices_IndexFunc_int_int_size_check_2_L1 (p ++ s, (p.length : Int)) = some r ∧ (bigB s = true → ∃ j : Nat, r = .inl (j : Int)) ∧ (bigB s = false → r = .inr ())
  | [], p, hs => by
    rw [m_slices_IndexFunc_int_int_size_check_2_L1]; simp only [end_lt, if_false]; exact ⟨_, rfl, fun h => (by cases h), fun _ => rfl⟩
  | x :: s, p, hs => by
    rw [m_slices_IndexFunc_int_int_size_check_2_L1]
    obtain ⟨r, h1, h2, h3⟩ := Cont2_L1 s (p ++ [x]) (by rw [← mid_app]; exact hs)
    rw [← mid_app] at h1
    simp only [mid_lt, if_true, mid_idx, bind_ok, mid_W hs, m_size_check_2, bigB_cons]
    by_cases hn : x > 65536
    · simp only [hn, decide_true, if_true]; exact ⟨_, rfl, fun _ => ⟨_, rfl⟩, fun h => by simp at h⟩
    · simp only [hn, decide_false, Bool.false_eq_true, if_false, Bool.false_or]; exact ⟨r, h1, h2, h3⟩
theorem Cont2_ok (l : List Int) (hs : Sm l.length) : m_slices_ContainsFunc_int_int_size_check_2 l = some (bigB l) := by
  obtain ⟨r, h1, h2, h3⟩ := Cont2_L1 l [] hs
  have e : m_slices_IndexFunc_int_int_size_check_2_L1 (l, 0) = some r := h1
  simp only [m_slices_ContainsFunc_int_int_size_check_2, m_slices_IndexFunc_int_int_size_check_2, e, bind_ok]
  cases hn : bigB l
  · rw [h3 hn]; rfl
  · obtain ⟨j, rfl⟩ := h2 hn; simp [bind_ok]
def errR (l : List Int) : Int := if negB l then 6 else if bigB l then 7 else 0
theorem sizecheck_ok (l : List Int) (hs : Sm l.length) : m_size_check l = some (errR l) := by
  simp only [m_size_check, Cont1_ok l hs, Cont2_ok l hs, bind_ok, errR]
  by_cases h1 : negB l = true
  · simp [h1]
  · by_cases h2 : bigB l = true <;> simp [h1, h2]
theorem Index_L1 (v : Int) : ∀ (s p : List Int), Sm (p ++ s).length → ∃ r, m_slices_Index_int_int_L1 (p ++ s, v, (p.length : Int)) = some r ∧ (s.any (v == ·) = true → ∃ j : Nat, r = .inl (j : Int)) ∧ (s.any (v == ·) = false → r = .inr ())
  | [], p, hs => by
    rw [m_slices_Index_int_int_L1]; simp only [end_lt, if_false]; exact ⟨_, rfl, fun h => (by cases h), fun _ => rfl⟩
  | x :: s, p, hs => by
    rw [m_slices_Index_int_int_L1]
    obtain ⟨r, h1, h2, h3⟩ := Index_L1 v s (p ++ [x]) (by rw [← mid_app]; exact hs)
    rw [← mid_app] at h1
    simp only [mid_lt, if_true, mid_idx, bind_ok, mid_W hs]
    by_cases hn : v = x
    · rw [if_pos hn]; exact ⟨_, rfl, fun _ => ⟨_, rfl⟩, fun h => by simp [hn] at h⟩
    · rw [if_neg hn]; exact ⟨r, h1, fun h => h2 (by simpa [hn] using h), fun h => h3 (by simpa [hn] using h)⟩
theorem Contains_ok (l : List Int) (v : Int) (hs : Sm l.length) : m_slices_Contains_int_int (l, v) = some (l.any (v == ·)) := by
  obtain ⟨r, h1, h2, h3⟩ := Index_L1 v l [] hs
  have e : m_slices_Index_int_int_L1 (l, v, 0) = some r := h1
  simp only [m_slices_Contains_int_int, m_slices_Index_int_int, e, bind_ok]
  cases hn : l.any (v == ·)
  · rw [h3 hn]; rfl
  · obtain ⟨j, rfl⟩ := h2 hn; simp [bind_ok]
theorem Mul_ok {a b : Int} (ha : 1 ≤ a ∧ a ≤ 65536) (hb : 1 ≤ b ∧ b ≤ 65536) : m_size_Mul (a, b, 65536) = some (if a * b > 65536 then (0, false) else (a * b, true)) := by
  have m1 := Int.mul_le_mul ha.2 hb.2 (by omega) (by omega)
  have m2 := Int.mul_le_mul ha.1 hb.1 (by omega) (by omega)
  have hq0 : (65536 : Int).tdiv b = 65536 / b := Int.tdiv_eq_ediv_of_nonneg (by omega)
  have hq1 : (65536 : Int) / b ≤ 65536 := Int.ediv_le_self _ (by omega)
  have hq2 : 0 ≤ (65536 : Int) / b := Int.ediv_nonneg (by omega) (by omega)
  have hq : quoM 65536 b = some (65536 / b) := by
    rw [quoM, if_neg (by omega), hq0, W_ok (by omega) (by omega)]
  have hlt : (a > 65536 / b) = (a * b > 65536) := by
    have := Int.ediv_lt_iff_lt_mul (a := 65536) (b := a) (c := b) (by omega)
    simp only [gt_iff_lt, eq_iff_iff]
    exact this
  simp only [m_size_Mul, show ¬ a < 0 by omega, show ¬ b < 0 by omega, show ¬ a > 65536 by omega, show ¬ b > 65536 by omega, show b > 0 by omega, if_false, if_true, hq, bind_ok, hlt, decide_false, Bool.false_eq_true]
  by_cases h : a * b > 65536
  · simp [h]
  · simp only [h, decide_false, bind_ok, Bool.false_eq_true, if_false]; rw [W_ok (by omega) (by omega)]
theorem foldP_L1 : ∀ (s p : List Int) (m : Int), Sm (p ++ s).length → (∀ d ∈ s, 1 ≤ d ∧ d ≤ 65536) → 1 ≤ m → m ≤ 65536 →
    ∃ r, m_size_fold_int_size_Product_1_L1 (p ++ s, m, (p.length : Int)) = some r ∧ (m * prodI s > 65536 → ∃ v, r = .inl v) ∧ (¬ m * prodI s > 65536 → r = .inr (m * prodI s))
  | [], p, m, hs, hd, h1, h2 => by
    rw [m_size_fold_int_size_Product_1_L1]; simp only [end_lt, if_false, prodI_nil, Int.mul_one]
    exact ⟨_, rfl, fun h => (by omega), fun _ => rfl⟩
  | x :: s, p, m, hs, hd, h1, h2 => by
    rw [m_size_fold_int_size_Product_1_L1]
    have hx := hd x (List.mem_cons_self ..)
    have hds : ∀ d ∈ s, 1 ≤ d ∧ d ≤ 65536 := fun d h => hd d (List.mem_cons_of_mem _ h)
    have b2 := Int.mul_le_mul h1 hx.1 (by omega) (by omega)
    simp only [mid_lt, if_true, mid_idx, bind_ok, mid_W hs, m_size_Product_1, Mul_ok ⟨h1, h2⟩ hx, prodI_cons]
    rw [← Int.mul_assoc]
    by_cases hn : m * x > 65536
    · have hp := prodI_pos (l := s) (fun d h => (hds d h).1)
      have : m * x * 1 ≤ m * x * prodI s := Int.mul_le_mul_of_nonneg_left hp (by omega)
      simp only [hn, if_true, bind_ok]
      exact ⟨_, rfl, fun _ => ⟨_, rfl⟩, fun h => absurd h (by omega)⟩
    · obtain ⟨r, e1, e2, e3⟩ := foldP_L1 s (p ++ [x]) (m * x) (by rw [← mid_app]; exact hs) hds (by omega) (by omega)
      rw [← mid_app] at e1
      simp only [hn, if_false, bind_ok, Bool.true_eq_false]
      exact ⟨r, e1, e2, e3⟩
theorem sProduct_ok (l : List Int) (hs : Sm l.length) : m_size_Product l = some (prodR l) := by
  simp only [m_size_Product, sizecheck_ok l hs, bind_ok, m_size_combined_size_Product_1, prodR, errR]
  by_cases hn : negB l = true
  · simp [hn, bind_ok]
  · have hn' : negB l = false := (Bool.not_eq_true _).mp hn
    by_cases hb : bigB l = true
    · simp [hn, hb, bind_ok]
    · have hb' : bigB l = false := (Bool.not_eq_true _).mp hb
      simp only [hn', hb', Bool.false_eq_true, if_false, if_true, Contains_ok l 0 hs, bind_ok]
      by_cases hz : l.any ((0 : Int) == ·) = true
      · have h0 : (0 : Int) ∈ l := by
          obtain ⟨x, hx, he⟩ := List.any_eq_true.1 hz
          have : (0 : Int) = x := by simpa using he
          rw [this]; exact hx
        have := prodI_zero h0
        simp [hz, this, bind_ok]
      · have hall : ∀ d ∈ l, 1 ≤ d ∧ d ≤ 65536 := fun d hd => by
          have h1 := neg_all hn' d hd
          have h2 := big_all hb' d hd
          have h3 : d ≠ 0 := fun e => hz (List.any_eq_true.2 ⟨d, hd, by simp [e]⟩)
          omega
        obtain ⟨r, e1, e2, e3⟩ := foldP_L1 l [] 1 hs hall (by omega) (by omega)
        have e4 : m_size_fold_int_size_Product_1_L1 (l, 1, 0) = some r := e1
        rw [Int.one_mul] at e2 e3
        simp only [hz, if_false, bind_ok, m_size_fold_int_size_Product_1, e4, ne_eq, not_true]
        by_cases hp : prodI l > 65536
        · obtain ⟨v, rfl⟩ := e2 hp; simp [hp, bind_ok]
        · rw [e3 hp]; simp [hp, bind_ok]
theorem shapeCheck_ok (l : List Int) (hs : Sm l.length) : m_shape_Check l = some (checkR l) := by
  simp only [m_shape_Check, sProduct_ok l hs, bind_ok, prodR, checkR]
  by_cases hn : negB l = true
  · simp [hn, bind_ok]
  · by_cases hl : l.length > 16
    · have h16 : (l.length : Int) > 16 := by omega
      by_cases hb : bigB l = true
      · simp [hn, hb, hl, h16, bind_ok]
      · by_cases hp : prodI l > 65536 <;> simp [hn, hb, hp, hl, h16, bind_ok]
    · have h16 : ¬ (l.length : Int) > 16 := by omega
      by_cases hb : bigB l = true
      · simp [hn, hb, hl, h16, bind_ok]
      · by_cases hp : prodI l > 65536 <;> simp [hn, hb, hp, hl, h16, bind_ok]
/-! sums of two dimensions -/
end Go.Proofs.Try
namespace Go.Proofs.Try
open Go Go.Pm
set_option linter.unusedVariables false
set_option linter.unusedSimpArgs false
set_option maxRecDepth 2000
theorem Sm_le {n : Nat} (h : n ≤ 1000) : Sm n := Sm_of (show n ≤ 1000 from h)
theorem Clone_ok (l : List Int) (hl : l.length ≤ 1000) : m_slices_Clone_int_int l = some l := by
  rw [m_slices_Clone_int_int, app_ok (by simp [room]; omega)]; rfl
theorem app1 {l : List Int} {v : Int} (hl : l.length ≤ 100000) : app 8 l [v] = some (l ++ [v]) := app_ok (by simp [room]; omega)
def zeroRule : T_rule_Rule := ⟨[], [], [], [], 0, 0, []⟩
theorem failed_ok (e : Int) : m_rule_failed e = some (zeroRule, e) := rfl
def absI (v : Int) : Int := if v < 0 then -v else v
def bigM (v : Int) : Bool := decide (v > 65536) || decide (v < -65536)
theorem Mag_ok (v : Int) : m_size_Magnitude v = some (if bigM v then (0, 7) else (absI v, 0)) := by
  simp only [m_size_Magnitude, bigM]
  by_cases h1 : v > 65536
  · simp [h1, bind_ok]
  · by_cases h2 : v < -65536
    · simp [h1, h2, bind_ok]
    · have w : W (0 - v) = 0 - v := W_ok (by omega) (by omega)
      have e : (if v < 0 - v then 0 - v else v) = absI v := by unfold absI; split <;> split <;> omega
      simp only [h1, h2, if_false, decide_false, bind_ok, Bool.false_eq_true, Bool.or_false, w, e]
def seenL (a : List Int) (n : Nat) : List Int := if a = [] then List.replicate n 1 else a
theorem seen_ok (a : List Int) (n : Nat) : m_rule_seen (a, (n : Int)) = some (if a = [] ∧ n > 16 then ([], 7) else (seenL a n, 0)) := by
  simp only [m_rule_seen, m_rule_ones, m_slices_Repeat_int_int]
  cases a with
  | cons x a => rw [if_pos (by simp)]; simp [seenL]
  | nil =>
    rw [if_neg (by simp)]
    by_cases h : n > 16
    · rw [if_pos (show (n : Int) > 16 by omega)]; simp [h]
    · rw [if_neg (show ¬ (n : Int) > 16 by omega), if_pos ⟨by simp, by omega, by omega⟩]
      simp [h, bind_ok, seenL]
theorem seen_check {a : List Int} {n : Nat} (h : checkR a = 0) (hn : ¬ (a = [] ∧ n > 16)) : checkR (seenL a n) = 0 := by
  unfold seenL
  split
  · rename_i he; exact check_ones (Nat.le_of_not_lt fun hc => hn ⟨he, hc⟩)
  · exact h
def stI (v d : Int) : Int := if v < 0 then d - absI v else 0
theorem zip_mid {f : Int → Int → Int} {p q : List Int} {x y : Int} (h : p.length = q.length) : List.zipWith f (p ++ [x]) (q ++ [y]) = List.zipWith f p q ++ [f x y] := by
  rw [List.zipWith_append h]; rfl
theorem take_L1 (sc : Bool) : ∀ (s t p q : List Int), s.length = t.length → p.length = q.length → (p ++ s).length ≤ 1000 → Dims t →
    ∃ o, m_rule_Take_L1 (⟨p ++ s, sc⟩, q ++ t, p.map absI, List.zipWith stI p q, (p.length : Int)) = some o ∧
      (s.any bigM = true → ∃ m n, o = .inl ([], [], [], [], 0, 0, [], 7, m, n)) ∧ (s.any bigM = false → o = .inr ((p ++ s).map absI, List.zipWith stI (p ++ s) (q ++ t)))
  | [], [], p, q, _, h2, h3, h4 => by
    rw [m_rule_Take_L1]; simp only [end_lt, if_false]
    exact ⟨_, rfl, (fun h => by simp at h), (fun _ => by simp)⟩
  | x :: s, y :: t, p, q, h1, h2, h3, h4 => by
    have hy := h4 y (List.mem_cons_self ..)
    have hlp : (p.map absI).length ≤ 100000 := by simp at h3 ⊢; omega
    have hlq : (List.zipWith stI p q).length ≤ 100000 := by simp at h3 ⊢; omega
    have hi : idx (q ++ y :: t) (p.length : Int) = some y := by rw [h2]; exact mid_idx
    rw [m_rule_Take_L1]
    simp only [mid_lt, if_true, mid_idx, hi, bind_ok, Mag_ok]
    cases hb : bigM x with
    | true =>
      simp only [if_true, ne_eq, failed_ok, bind_ok, zeroRule]
      rw [if_pos (by decide)]
      exact ⟨_, rfl, fun _ => ⟨_, _, rfl⟩, fun h => by simp [hb] at h⟩
    | false =>
      obtain ⟨o, e, ho⟩ := take_L1 sc s t (p ++ [x]) (q ++ [y]) (by simpa using h1) (by simp [h2]) (by rw [← mid_app]; exact h3) (fun d hd => h4 d (List.mem_cons_of_mem _ hd))
      rw [← mid_app, ← mid_app, zip_mid h2, List.map_append] at e
      rw [← mid_app, ← mid_app] at ho
      have hx : -65536 ≤ x ∧ x ≤ 65536 := by simp [bigM] at hb; omega
      have ha : 0 ≤ absI x ∧ absI x ≤ 65536 := by unfold absI; split <;> omega
      simp only [Bool.false_eq_true, if_false, app1 hlp, app1 hlq, mid_W (Sm_le h3), bind_ok]
      rw [if_neg (by decide)]
      have hbs : (x :: s).any bigM = s.any bigM := by simp [hb]
      rw [hbs]
      by_cases hn : x < 0
      · have w : W (y - absI x) = stI x y := by rw [W_ok (by omega) (by omega)]; simp [stI, hn]
        rw [if_pos hn, w]
        exact ⟨o, e, ho⟩
      · have w : stI x y = 0 := by simp [stI, hn]
        rw [if_neg hn]
        rw [w] at e
        exact ⟨o, e, ho⟩
  | [], _ :: _, _, _, h, _, _, _ => by cases h
  | _ :: _, [], _, _, h, _, _, _ => by cases h
/-- the error of a take -/
def takeE (l a : List Int) : Int := if a = [] ∧ l.length > 16 then 7 else if l.length ≠ (seenL a l.length).length then 5 else if l.any bigM then 7 else checkR (l.map absI)
def takeR (l a : List Int) : T_rule_Rule × Int := if takeE l a = 0 then (⟨[], seenL a l.length, l.map absI, List.zipWith stI l (seenL a l.length), -1, 0, []⟩, 0) else (zeroRule, takeE l a)
theorem Take_ok (l : List Int) (sc : Bool) (a : List Int) (hl : l.length ≤ 100) (ha : checkR a = 0) : m_rule_Take (⟨l, sc⟩, a) = some (takeR l a) := by
  simp only [m_rule_Take, seen_ok, bind_ok, takeR, takeE]
  by_cases h1 : a = [] ∧ l.length > 16
  · rw [if_pos h1]; simp [h1, failed_ok, bind_ok]
  · rw [if_neg h1]
    have hc := seen_check ha h1
    simp only [ne_eq, not_true, if_false]
    generalize seenL a l.length = r at hc ⊢
    obtain ⟨r1, r2, r3⟩ := checkR_zero.1 hc
    by_cases h2 : l.length = r.length
    · have h2' : ¬ ¬ (l.length : Int) = (r.length : Int) := by omega
      rw [if_neg h2']
      obtain ⟨o, e, ho1, ho2⟩ := take_L1 sc l r [] [] h2 rfl (by simp; omega) r1
      have e' : m_rule_Take_L1 (⟨l, sc⟩, r, [], [], 0) = some o := e
      rw [e']
      simp only [bind_ok, h2, not_true, if_false, h1]
      cases hb : l.any bigM with
      | true => obtain ⟨m, n, rfl⟩ := ho1 hb; simp [zeroRule]
      | false =>
        rw [ho2 hb]
        have hm : (l.map absI).length ≤ 1000 := by simp; omega
        have hr : r.length ≤ 1000 := by omega
        simp only [List.nil_append, m_rule_starts_b907d, bind_ok, m_rule_made_b9c47, shapeCheck_ok _ (Sm_le hm), Clone_ok _ hm, Clone_ok _ hr, m_rule_starts_1_b165d, Bool.false_eq_true, if_false]
        by_cases h4 : checkR (l.map absI) = 0
        · simp [h4, show ¬ 16 < r.length by omega]
        · simp [h4, zeroRule, show ¬ 16 < r.length by omega]
    · have h2' : (l.length : Int) ≠ (r.length : Int) := by omega
      rw [if_pos h2']; simp [h1, h2, failed_ok, bind_ok]
/-! drops -/
def dropD (d v : Int) : Int := d - (if absI v > d then d else absI v)
def dropS (d v : Int) : Int := if v < 0 then 0 else (if absI v > d then d else absI v)
theorem dropped_ok {d : Int} (hd : 0 ≤ d ∧ d ≤ 65536) (v : Int) : m_rule_dropped (d, v) = some (dropD d v, dropS d v) := by
  simp only [m_rule_dropped, Mag_ok, bind_ok]
  have hr : ∀ k : Int, 0 ≤ k → k ≤ d → W (d - k) = d - k := fun k h1 h2 => W_ok (by omega) (by omega)
  have ha : 0 ≤ absI v := by unfold absI; split <;> omega
  cases hb : bigM v with
  | true =>
    have h1 : absI v > d := by simp [bigM] at hb; unfold absI; split <;> omega
    have w : W 0 = 0 := by have := hr d hd.1 (by omega); simpa using this
    by_cases hn : v < 0 <;> simp [bind_ok, h1, hn, dropD, dropS, w]
  | false =>
    by_cases h1 : absI v > d
    · have w : W 0 = 0 := by have := hr d hd.1 (by omega); simpa using this
      by_cases hn : v < 0 <;> simp [bind_ok, h1, hn, dropD, dropS, w]
    · have w := hr (absI v) ha (by omega)
      by_cases hn : v < 0 <;> simp [bind_ok, h1, hn, dropD, dropS, w]
theorem set_at {α : Type} {p s : List α} {x y : α} {n : Nat} (h : n = p.length) : (p ++ x :: s).set n y = p ++ y :: s := by subst h; simp
theorem drop_L1 (sc : Bool) (v7 v8 : List Int) : ∀ (s p q t : List Int), s.length ≤ t.length → p.length = q.length → (q ++ t).length ≤ 1000 → v7.length = (q ++ t).length → v8.length = (q ++ t).length → Dims t →
    m_rule_Drop_L1 (⟨p ++ s, sc⟩, q ++ t, v7, v8, List.zipWith dropD q p ++ t, List.zipWith dropS q p ++ List.replicate t.length 0, (p.length : Int))
      = some (List.zipWith dropD q p ++ (List.zipWith dropD t s ++ t.drop s.length), List.zipWith dropS q p ++ (List.zipWith dropS t s ++ List.replicate (t.length - s.length) 0))
  | [], p, q, t, _, h2, h3, h4, h5, h6 => by
    rw [m_rule_Drop_L1]; simp only [end_lt, if_false]; simp
  | x :: s, p, q, y :: t, h1, h2, h3, h4, h5, h6 => by
    have hy := h6 y (List.mem_cons_self ..)
    have hz : (List.zipWith dropD q p).length = p.length := by simp; omega
    have hz2 : (List.zipWith dropS q p).length = p.length := by simp; omega
    have hi : idx (q ++ y :: t) (p.length : Int) = some y := by rw [h2]; exact mid_idx
    have g1 : (List.zipWith dropD q p ++ y :: t).length = v7.length := by rw [h4]; simp; omega
    have g2 : (List.zipWith dropS q p ++ List.replicate (y :: t).length 0).length = v8.length := by rw [h5]; simp; omega
    have j1 : p.length < (List.zipWith dropD q p ++ y :: t).length := by simp; omega
    have j2 : p.length < (List.zipWith dropS q p ++ List.replicate (y :: t).length 0).length := by simp; omega
    have s1 : (List.zipWith dropD q p ++ y :: t).set p.length (dropD y x) = List.zipWith dropD (q ++ [y]) (p ++ [x]) ++ t := by
      rw [zip_mid h2.symm, set_at hz.symm]; simp
    have s2 : (List.zipWith dropS q p ++ List.replicate (y :: t).length 0).set p.length (dropS y x) = List.zipWith dropS (q ++ [y]) (p ++ [x]) ++ List.replicate t.length 0 := by
      rw [zip_mid h2.symm, List.length_cons, List.replicate_succ, set_at hz2.symm]; simp
    have ih := drop_L1 sc v7 v8 s (p ++ [x]) (q ++ [y]) t (by simpa using h1) (by simp [h2]) (by rw [← mid_app]; exact h3) (by rw [← mid_app]; exact h4) (by rw [← mid_app]; exact h5) (fun d hd => h6 d (List.mem_cons_of_mem _ hd))
    rw [← mid_app, ← mid_app] at ih
    have hw : W ((p.length : Int) + 1) = ((p ++ [x]).length : Int) := by simp at h1 h3; rw [W_ok (by omega) (by omega)]; simp
    have m1 : setM (List.zipWith dropD q p ++ y :: t) (p.length : Int) (dropD y x) = some (List.zipWith dropD (q ++ [y]) (p ++ [x]) ++ t) := by
      rw [setM, if_pos ⟨by omega, by simpa using j1⟩, Int.toNat_natCast, s1]
    have m2 : setM (List.zipWith dropS q p ++ List.replicate (y :: t).length 0) (p.length : Int) (dropS y x) = some (List.zipWith dropS (q ++ [y]) (p ++ [x]) ++ List.replicate t.length 0) := by
      rw [setM, if_pos ⟨by omega, by simpa using j2⟩, Int.toNat_natCast, s2]
    have k1 : guardM ((List.zipWith dropD q p ++ y :: t).length = v7.length) = some () := if_pos g1
    have k2 : guardM ((List.zipWith dropS q p ++ List.replicate (y :: t).length 0).length = v8.length) = some () := if_pos g2
    rw [m_rule_Drop_L1]
    simp only [mid_lt, if_true, mid_idx, hi, bind_ok, dropped_ok hy, k1, k2, idx_ok j1, idx_ok j2, m1, m2, hw, ih]
    rw [zip_mid h2.symm, zip_mid h2.symm]
    simp
  | _ :: _, _, _, [], h, _, _, _, _, _ => by simp at h
/-- the error of a drop -/
def dropE (l a : List Int) : Int := if a = [] ∧ l.length > 16 then 7 else if l.length > (seenL a l.length).length then 5 else 0
def dropL (l r : List Int) : List Int := List.zipWith dropD r l ++ r.drop l.length
def dropF (l r : List Int) : List Int := List.zipWith dropS r l ++ List.replicate (r.length - l.length) 0
def dropR (l a : List Int) : T_rule_Rule × Int := if dropE l a = 0 then (⟨[], seenL a l.length, dropL l (seenL a l.length), dropF l (seenL a l.length), -1, 0, []⟩, 0) else (zeroRule, dropE l a)
theorem dropD_in {d : Int} (hd : 0 ≤ d) (v : Int) : 0 ≤ dropD d v ∧ dropD d v ≤ d := by
  have ha : 0 ≤ absI v := by unfold absI; split <;> omega
  unfold dropD; split <;> omega
theorem below_drop : ∀ (l r : List Int), l.length ≤ r.length → Dims r → Below (dropL l r) r
  | [], r, _, h => by
    have : dropL [] r = r := by simp [dropL]
    rw [this]
    induction r with
    | nil => exact .nil
    | cons y r ih => exact .cons (h y (List.mem_cons_self ..)).1 (Int.le_refl _) (ih (by simp) (fun d hd => h d (List.mem_cons_of_mem _ hd)) (by simp [dropL]))
  | x :: l, y :: r, h1, h => by
    have e : dropL (x :: l) (y :: r) = dropD y x :: dropL l r := by simp [dropL]
    have hy := h y (List.mem_cons_self ..)
    have hd := dropD_in hy.1 x
    rw [e]
    exact .cons hd.1 hd.2 (below_drop l r (by simpa using h1) fun d hd => h d (List.mem_cons_of_mem _ hd))
  | _ :: _, [], h, _ => by simp at h
theorem Drop_ok (l : List Int) (sc : Bool) (a : List Int) (hl : l.length ≤ 100) (ha : checkR a = 0) : m_rule_Drop (⟨l, sc⟩, a) = some (dropR l a) := by
  by_cases h1 : a = [] ∧ l.length > 16
  · simp only [m_rule_Drop, seen_ok, bind_ok, dropR, dropE]
    rw [if_pos h1]; simp [h1, failed_ok, bind_ok]
  · have hs : m_rule_seen (a, (l.length : Int)) = some (seenL a l.length, 0) := by rw [seen_ok, if_neg h1]
    have hc := seen_check ha h1
    unfold dropR dropE
    generalize seenL a l.length = r at hs hc ⊢
    simp only [m_rule_Drop, hs, bind_ok, ne_eq, not_true, if_false]
    obtain ⟨r1, r2, r3⟩ := checkR_zero.1 hc
    by_cases h2 : l.length > r.length
    · rw [if_pos (show (l.length : Int) > (r.length : Int) by omega)]; simp [h1, h2, failed_ok, bind_ok]
    · have hr : r.length ≤ 1000 := by omega
      have hm : makeM 8 (r.length : Int) 0 = some (List.replicate r.length (0 : Int)) := by
        rw [makeM, if_pos ⟨by omega, by simp [room]; omega, by omega⟩]; simp
      have e := drop_L1 sc r (List.replicate r.length 0) l [] [] r (by omega) rfl (by simpa using hr) rfl (by simp) r1
      have e' : m_rule_Drop_L1 (⟨l, sc⟩, r, r, List.replicate r.length 0, r, List.replicate r.length 0, 0) = some (dropL l r, dropF l r) := e
      have hb := below_drop l r (by omega) r1
      have hd : (dropL l r).length ≤ 1000 := by rw [hb.len]; omega
      have hf : (dropF l r).length = r.length := by simp [dropF]; omega
      rw [if_neg (show ¬ (l.length : Int) > (r.length : Int) by omega)]
      simp only [Clone_ok _ hr, hm, bind_ok, e', m_rule_starts_bbeab, m_rule_made_bfa0f, guardM, hb.len, if_true, shapeCheck_ok _ (Sm_le hd), hb.right hc, ne_eq, not_true, if_false, Clone_ok _ hd, m_rule_starts_1_bfee7, hf, List.length_replicate, h1, h2]
end Go.Proofs.Try
namespace Go.Proofs.Try
open Go Go.Pm
set_option linter.unusedVariables false
set_option linter.unusedSimpArgs false
set_option maxRecDepth 2000
theorem gEqual_L1 : ∀ (s t p q : List Int), s.length = t.length → p.length = q.length → Sm (p ++ s).length → m_slices_Equal_int_int_L1 (p ++ s, q ++ t, (p.length : Int)) = some (if s = t then .inr () else .inl ())
  | [], [], p, q, _, _, hs => by
    rw [m_slices_Equal_int_int_L1]; simp only [end_lt, if_false, if_true]
  | x :: s, y :: t, p, q, h1, h2, hs => by
    rw [m_slices_Equal_int_int_L1]
    have ih := gEqual_L1 s t (p ++ [x]) (q ++ [y]) (by simpa using h1) (by simp [h2]) (by rw [← mid_app]; exact hs)
    rw [← mid_app, ← mid_app] at ih
    simp only [mid_lt, if_true, mid_idx, bind_ok, mid_W hs, ih]
    rw [h2, mid_idx]
    by_cases he : x = y <;> simp [he, bind_ok]
  | [], _ :: _, _, _, h, _, _ => by cases h
  | _ :: _, [], _, _, h, _, _ => by cases h
theorem gEqual_ok (a b : List Int) (hs : Sm a.length) : m_slices_Equal_int_int (a, b) = some (decide (a = b)) := by
  simp only [m_slices_Equal_int_int]
  by_cases h : a.length = b.length
  · have e := gEqual_L1 a b [] [] h rfl hs
    have e2 : ¬ ((a.length : Int) ≠ (b.length : Int)) := by omega
    simp only [e2, if_false]
    have e3 : m_slices_Equal_int_int_L1 (a, b, 0) = _ := e
    rw [e3]
    by_cases hab : a = b
    · subst hab; simp
    · rw [if_neg hab, decide_eq_false hab]; rfl
  · have e2 : ((a.length : Int) ≠ (b.length : Int)) := by omega
    have e3 : a ≠ b := fun e => h (by rw [e])
    rw [if_pos e2, decide_eq_false e3]
theorem sEqual_ok (a b : List Int) (hs : Sm a.length) : m_shape_Equal (a, b) = some (decide (a = b)) := by
  simp only [m_shape_Equal, gEqual_ok a b hs, bind_ok]
theorem sEqual_ok' (a b : List Int) (hs : Sm b.length) : m_shape_Equal (a, b) = some (decide (a = b)) := by
  by_cases h : a.length = b.length
  · exact sEqual_ok a b (by rw [h]; exact hs)
  · have e2 : ((a.length : Int) ≠ (b.length : Int)) := by omega
    have e3 : a ≠ b := fun e => h (by rw [e])
    simp only [m_shape_Equal, m_slices_Equal_int_int]
    rw [if_pos e2, decide_eq_false e3]; rfl
end Go.Proofs.Try
namespace Go.Proofs.Try
open Go Go.Pm
set_option linter.unusedVariables false
set_option linter.unusedSimpArgs false
set_option maxRecDepth 2000
theorem Sum2_ok {a b : Int} (ha : 0 ≤ a ∧ a ≤ 65536) (hb : 0 ≤ b ∧ b ≤ 65536) : m_size_Sum [a, b] = some (if a + b > 65536 then (0, 7) else (a + b, 0)) := by
  have hs : Sm [a, b].length := by unfold Sm; simp
  have he : errR [a, b] = 0 := by
    have h1 : negB [a, b] = false := by simp [negB]; omega
    have h2 : bigB [a, b] = false := by simp [bigB]; omega
    simp [errR, h1, h2]
  have w0 : W (0 + a) = a := by rw [W_ok (by omega) (by omega)]; omega
  have w1 : W (a + b) = a + b := W_ok (by omega) (by omega)
  have i0 : idx [a, b] 0 = some a := rfl
  have i1 : idx [a, b] 1 = some b := rfl
  have c0 : W (0 + 1) = 1 := W_ok (by omega) (by omega)
  have c1 : W (1 + 1) = 2 := W_ok (by omega) (by omega)
  have hf : m_size_fold_int_size_Sum_1_L1 ([a, b], 0, 0) = some (if a + b > 65536 then .inl (a + b) else .inr (a + b)) := by
    rw [m_size_fold_int_size_Sum_1_L1]
    simp only [List.length_cons, List.length_nil, i0, bind_ok, m_size_Sum_1, w0, show a ≤ 65536 from ha.2, decide_true, Bool.true_eq_false, if_false, c0]
    rw [if_pos (by omega), m_size_fold_int_size_Sum_1_L1]
    simp only [List.length_cons, List.length_nil, i1, bind_ok, m_size_Sum_1, w1, c1]
    rw [if_pos (by omega)]
    by_cases h : a + b > 65536
    · have h' : ¬ a + b ≤ 65536 := by omega
      simp [h, h']
    · have h' : a + b ≤ 65536 := by omega
      simp only [h', decide_true, Bool.true_eq_false, if_false]
      rw [m_size_fold_int_size_Sum_1_L1]
      simp [h]
  simp only [m_size_Sum, m_size_combined_size_Sum_1, sizecheck_ok _ hs, he, bind_ok, m_size_fold_int_size_Sum_1, hf]
  by_cases h : a + b > 65536 <;> simp [h, bind_ok]
theorem sub_lo {l : List Int} {k : Nat} (h : k ≤ l.length) : sub l 0 (k : Int) = some (l.take k) := by
  rw [sub, if_pos ⟨by omega, by omega, by omega⟩]; simp
theorem sub_hi {l : List Int} {k : Nat} (h : k ≤ l.length) : sub l (k : Int) (l.length : Int) = some (l.drop k) := by
  rw [sub, if_pos ⟨by omega, by omega, by omega⟩]; simp
theorem Concat_ok (ls : List (List Int)) (h1 : ls.length ≤ 1000) (h2 : ls.flatten.length ≤ 1000000) : m_slices_Concat_int_int ls = some ls.flatten := if_pos ⟨h1, h2⟩
theorem W_nat {k : Nat} (h : k ≤ 1000000) : W ((k : Int) + 1) = ((k + 1 : Nat) : Int) := W_succ (by omega)
theorem Insert_ok (l : List Int) (k : Nat) (v : Int) (hk : k ≤ l.length) (hl : l.length ≤ 1000) : m_shape_Insert (l, (k : Int), v) = some (insL l k v, 0) := by
  have c := Concat_ok [l.take k, [v], l.drop k] (by simp) (by simp; omega)
  have a1 : ¬ ((k : Int) < 0) := by omega
  have a2 : ¬ ((k : Int) > (l.length : Int)) := by omega
  have a3 : ¬ ((k : Int) > (k : Int)) := by omega
  simp only [m_shape_Insert, m_shape_one, m_shape_edited_int_b8179, bind_ok, sub_lo hk, sub_hi hk, m_shape_one_1_b9040, c, a1, a2, a3, if_false, decide_false, Bool.false_eq_true]
  simp [insL]
theorem Replace_ok (l : List Int) (k : Nat) (v : Int) (hk : k < l.length) (hl : l.length ≤ 1000) : m_shape_Replace (l, (k : Int), v) = some (repL l k v, 0) := by
  have c := Concat_ok [l.take k, [v], l.drop (k + 1)] (by simp) (by simp; omega)
  have a0 : ¬ ((k : Int) ≥ (l.length : Int)) := by omega
  have a1 : ¬ ((k : Int) < 0) := by omega
  have a2 : ¬ (((k + 1 : Nat) : Int) > (l.length : Int)) := by omega
  have a3 : ¬ ((k : Int) > ((k + 1 : Nat) : Int)) := by omega
  simp only [m_shape_Replace, m_shape_one, W_nat (show k ≤ 1000000 by omega), m_shape_edited_int_b9faf, bind_ok, sub_lo (show k ≤ l.length by omega), sub_hi (show k + 1 ≤ l.length by omega), m_shape_one_1_b9040, c, a0, a1, a2, a3, if_false, decide_false, Bool.false_eq_true]
  simp [repL]
theorem Remove_ok (l : List Int) (k : Nat) (hk : k < l.length) (hl : l.length ≤ 1000) : m_shape_Remove (l, (k : Int)) = some (remL l k, 0) := by
  have c := Concat_ok [l.take k, [], l.drop (k + 1)] (by simp) (by simp; omega)
  have a0 : ¬ ((k : Int) ≥ (l.length : Int)) := by omega
  have a1 : ¬ ((k : Int) < 0) := by omega
  have a2 : ¬ (((k + 1 : Nat) : Int) > (l.length : Int)) := by omega
  have a3 : ¬ ((k : Int) > ((k + 1 : Nat) : Int)) := by omega
  simp only [m_shape_Remove, W_nat (show k ≤ 1000000 by omega), m_shape_edited_int_b45f6, bind_ok, sub_lo (show k ≤ l.length by omega), sub_hi (show k + 1 ≤ l.length by omega), m_shape_Remove_1, c, a0, a1, a2, a3, if_false, decide_false, Bool.false_eq_true]
  simp [remL]
theorem insL_len (p : List Int) (k : Nat) (v : Int) : (insL p k v).length = p.length + 1 := by simp [insL]; omega
theorem remL_len {l : List Int} {k : Nat} (hk : k < l.length) : (remL l k).length + 1 = l.length := by simp [remL]; omega
def sumAt (X Y : List Int) (k : Nat) : Int := X.getD k 0 + Y.getD k 0
def tailE (X Y : List Int) (k : Nat) : Int := if remL X k ≠ remL Y k then 5 else if checkR (repL X k (sumAt X Y k)) ≠ 0 then 7 else 0
theorem big_rep {X : List Int} {k : Nat} {n : Int} (hX : Dims X) (h0 : 0 ≤ n) (hn : n > 65536) : checkR (repL X k n) ≠ 0 := fun h => by
  have := (checkR_zero.1 h).1 n (rep_mem.2 (.inl rfl)); omega
theorem check_rep {X : List Int} {k : Nat} {n : Int} (hX : Dims X) (h0 : 0 ≤ n) (h : checkR (repL X k n) ≠ 0) : checkR (repL X k n) = 7 := by
  have hn : negB (repL X k n) = false := List.any_eq_false.2 fun d hd => by
    have : 0 ≤ d := by
      rcases rep_mem.1 hd with rfl | h
      · exact h0
      · exact (hX d (rem_mem h)).1
    simp; omega
  unfold checkR at h ⊢
  rw [hn] at h ⊢
  simp only [Bool.false_eq_true, if_false] at h ⊢
  split
  · rfl
  · rename_i h2; rw [if_neg h2] at h; exact absurd rfl h
theorem cat_tail {p0 : Int} {a b X Y : List Int} {k R : Nat} (hR : (max (max (a.length : Int) (b.length : Int)) 1) = (R : Int)) (hk : k < R) (hR16 : R ≤ 16) (hax : (if p0 = -1 then some (W ((R : Int) - 1)) else some p0) = some (k : Int))
    (hX : m_rule_widened (a, b, (R : Int), (k : Int)) = some (X, 0)) (hY : m_rule_widened (b, a, (R : Int), (k : Int)) = some (Y, 0)) (lX : X.length = R) (lY : Y.length = R) (dX : Dims X) (dY : Dims Y) :
    m_rule_Catenate (p0, a, b) = some (if tailE X Y k = 0 then ⟨X, Y, repL X k (sumAt X Y k), [], k, 0, []⟩ else zeroRule, tailE X Y k) := by
  have hkX : k < X.length := by omega
  have hkY : k < Y.length := by omega
  have gX := getD_in dX hkX
  have gY := getD_in dY hkY
  have eX : m_shape_Remove (X, (k : Int)) = _ := Remove_ok X k hkX (by omega)
  have eY : m_shape_Remove (Y, (k : Int)) = _ := Remove_ok Y k hkY (by omega)
  have rX := remL_len hkX
  have e0 : ∀ n : Int, m_shape_Replace (X, (k : Int), n) = some (repL X k n, 0) := fun n => Replace_ok X k n hkX (by omega)
  simp only [m_rule_Catenate, hR, hax, bind_ok, hX, hY]
  rw [if_neg (show ¬ ((k : Int) ≥ (R : Int)) by omega)]
  simp only [ne_eq, not_true, if_false, bind_ok, bne_self_eq_false, Bool.false_eq_true, m_rule_joined, eX, eY, sEqual_ok _ _ (Sm_le (show (remL X k).length ≤ 1000 by omega)), idx_getD hkX, idx_getD hkY, Sum2_ok gX gY, e0]
  unfold tailE
  by_cases h1 : remL X k = remL Y k
  · rw [decide_eq_true h1]
    simp only [Bool.true_eq_false, if_false, h1, not_true, ne_eq]
    by_cases h2 : X.getD k 0 + Y.getD k 0 > 65536
    · have h3 : checkR (repL X k (sumAt X Y k)) ≠ 0 := big_rep dX (by unfold sumAt; omega) h2
      simp only [h2, if_true, bind_ok, h3, not_false_eq_true, failed_ok]
      rfl
    · simp only [h2, if_false, bind_ok, not_true, m_rule_along, m_rule_made_b82b3, Clone_ok Y (show Y.length ≤ 1000 by omega), m_rule_along_1_b2055, m_rule_Catenate_1_b2332]
      have e5 : (repL X k (X.getD k 0 + Y.getD k 0)).length ≤ 1000 := by rw [rep_len hkX]; omega
      rw [shapeCheck_ok _ (Sm_le e5), Clone_ok _ e5]
      have e6 : X.getD k 0 + Y.getD k 0 = sumAt X Y k := rfl
      rw [e6]
      by_cases h4 : checkR (repL X k (sumAt X Y k)) = 0
      · simp [h4, bind_ok]
      · have h7 := check_rep dX (by unfold sumAt; omega) h4
        simp [h7, bind_ok, zeroRule]
  · rw [decide_eq_false h1]
    simp [h1, bind_ok, failed_ok]
theorem ins_mem {l : List Int} {i : Nat} {x d : Int} (h : d ∈ insL l i x) : d = x ∨ d ∈ l := by
  simp only [insL, List.mem_append, List.mem_cons] at h
  rcases h with h | h | h
  · exact .inr (List.mem_of_mem_take h)
  · exact .inl h
  · exact .inr (List.mem_of_mem_drop h)
def widR (a b : List Int) (R k : Nat) : List Int := if a.length = R then a else if a.length + 1 = R then insL a k 1 else repL b k 1
theorem widR_dims {a b : List Int} {R k : Nat} (ha : Dims a) (hb : Dims b) : Dims (widR a b R k) := by
  intro d hd
  unfold widR at hd
  split at hd
  · exact ha d hd
  · split at hd
    · rcases ins_mem hd with rfl | h
      · omega
      · exact ha d h
    · rcases rep_mem.1 hd with rfl | h
      · omega
      · exact hb d (rem_mem h)
theorem widR_len {a b : List Int} {R k : Nat} (hk : k < R) (h : a.length = R ∨ a.length + 1 = R ∨ b.length = R) : (widR a b R k).length = R := by
  unfold widR
  split
  · assumption
  · split
    · rw [insL_len]; assumption
    · rw [rep_len (by omega)]; omega
theorem wid_ok {a b : List Int} {R k : Nat} (hk : k < R) (hR : R ≤ 16) (h : a.length = R ∨ a.length + 1 = R ∨ (a.length = 0 ∧ b.length = R)) : m_rule_widened (a, b, (R : Int), (k : Int)) = some (widR a b R k, 0) := by
  have wR : W ((R : Int) - 1) = (R : Int) - 1 := W_ok (by omega) (by omega)
  simp only [m_rule_widened, wR, widR]
  by_cases h1 : a.length = R
  · rw [if_pos (by omega), if_pos h1, Clone_ok a (by omega)]; rfl
  · rw [if_neg (by omega), if_neg h1]
    by_cases h2 : a.length + 1 = R
    · rw [if_pos (by omega), if_pos h2, Insert_ok a k 1 (by omega) (by omega)]; rfl
    · rw [if_neg (by omega), if_neg h2, if_pos (by omega), Replace_ok b k 1 (by omega) (by omega)]; rfl
theorem wid_bad {a b : List Int} {R k : Nat} (hR : R ≤ 16) (h1 : a.length ≠ R) (h2 : a.length + 1 ≠ R) (h3 : a.length ≠ 0) : m_rule_widened (a, b, (R : Int), (k : Int)) = some ([], 4) := by
  by_cases hz : R = 0
  · subst hz
    have wR : W (((0 : Nat) : Int) - 1) = -1 := W_ok (by omega) (by omega)
    simp only [m_rule_widened, wR]
    rw [if_neg (by omega), if_neg (by omega), if_neg (by omega)]
  · have wR : W ((R : Int) - 1) = (R : Int) - 1 := W_ok (by omega) (by omega)
    simp only [m_rule_widened, wR]
    rw [if_neg (by omega), if_neg (by omega), if_neg (by omega)]

/-- the answer of the program -/
def catR (p0 : Int) (a b : List Int) : T_rule_Rule × Int :=
  let R := max (max a.length b.length) 1
  let k := (if p0 = -1 then (R : Int) - 1 else p0).toNat
  if p0 ≥ (R : Int) then (zeroRule, 4)
  else if (a.length ≠ R ∧ a.length + 1 ≠ R ∧ a.length ≠ 0) ∨ (b.length ≠ R ∧ b.length + 1 ≠ R ∧ b.length ≠ 0) then (zeroRule, 4)
  else if tailE (widR a b R k) (widR b a R k) k = 0 then (⟨widR a b R k, widR b a R k, repL (widR a b R k) k (sumAt (widR a b R k) (widR b a R k) k), [], k, 0, []⟩, 0)
  else (zeroRule, tailE (widR a b R k) (widR b a R k) k)
theorem Cat_ok {p0 : Int} {a b : List Int} (hp : -1 ≤ p0) (la : a.length ≤ 16) (lb : b.length ≤ 16) (da : Dims a) (db : Dims b) : m_rule_Catenate (p0, a, b) = some (catR p0 a b) := by
  unfold catR
  obtain ⟨R, hRdef⟩ : ∃ R, R = max (max a.length b.length) 1 := ⟨_, rfl⟩
  have hR : (max (max (a.length : Int) (b.length : Int)) 1) = (R : Int) := by omega
  have hR16 : R ≤ 16 := by omega
  have wR : W ((R : Int) - 1) = (R : Int) - 1 := W_ok (by omega) (by omega)
  simp only [← hRdef]
  by_cases hbig : p0 ≥ (R : Int)
  · rw [if_pos hbig]
    simp only [m_rule_Catenate, hR, show ¬ p0 = -1 by omega, if_false, bind_ok, hbig, if_true, failed_ok]
  obtain ⟨k, hk⟩ : ∃ k : Nat, (k : Int) = if p0 = -1 then (R : Int) - 1 else p0 := by
    by_cases h : p0 = -1
    · exact ⟨R - 1, by rw [if_pos h]; omega⟩
    · exact ⟨p0.toNat, by rw [if_neg h]; omega⟩
  have hkR : k < R := by by_cases h : p0 = -1 <;> simp [h] at hk <;> omega
  have hax1 : (if p0 = -1 then some (W ((R : Int) - 1)) else some p0) = some (k : Int) := by
    rw [wR, hk]; by_cases h : p0 = -1 <;> simp [h]
  rw [if_neg hbig, ← hk, Int.toNat_natCast]
  by_cases hbad : (a.length ≠ R ∧ a.length + 1 ≠ R ∧ a.length ≠ 0) ∨ (b.length ≠ R ∧ b.length + 1 ≠ R ∧ b.length ≠ 0)
  · rw [if_pos hbad]
    simp only [m_rule_Catenate, hR, hax1, bind_ok]
    rw [if_neg (show ¬ ((k : Int) ≥ (R : Int)) by omega)]
    rcases hbad with ⟨h1, h2, h3⟩ | ⟨h1, h2, h3⟩
    · have hb : b.length = R := by omega
      rw [wid_bad hR16 h1 h2 h3, wid_ok hkR hR16 (.inl hb)]; rfl
    · have ha : a.length = R := by omega
      rw [wid_bad hR16 h1 h2 h3, wid_ok hkR hR16 (.inl ha)]; rfl
  · have hA : a.length = R ∨ a.length + 1 = R ∨ (a.length = 0 ∧ b.length = R) := by omega
    have hB : b.length = R ∨ b.length + 1 = R ∨ (b.length = 0 ∧ a.length = R) := by omega
    rw [if_neg hbad, cat_tail hR hkR hR16 hax1 (wid_ok hkR hR16 hA) (wid_ok hkR hR16 hB) (widR_len hkR (by omega)) (widR_len hkR (by omega)) (widR_dims da db) (widR_dims db da)]
    split <;> rename_i h
    · rw [h]
    · rfl
end Go.Proofs.Try
namespace Go.Proofs.Try
open Go Go.Pm
set_option linter.unusedVariables false
set_option linter.unusedSimpArgs false
set_option maxRecDepth 2000
theorem guardT {h : Decidable True} : @guardM True h = some () := if_pos trivial
theorem Clone64_ok (l : List Int) (hl : l.length ≤ 1000) : m_slices_Clone_int64_int64 l = some l := by
  rw [m_slices_Clone_int64_int64, app_ok (by simp [room]; omega)]; rfl
theorem room_ok (n : Nat) (h : n ≤ 1000) : guardM (0 ≤ (n : Int) ∧ (n : Int) * (8 : Int) ≤ (room : Int) ∧ (n : Int) ≤ 9223372036854775807) = some () := if_pos ⟨by omega, by simp [room]; omega, by omega⟩
/-- the numbers that occur, in order -/
def setOf (l : List Int) : List Int := l.foldl insK []
theorem setOf_snoc (l : List Int) (x : Int) : setOf (l ++ [x]) = insK (setOf l) x := by simp [setOf]
theorem mem_insK {l : List Int} {x y : Int} : y ∈ insK l x ↔ y ∈ l ∨ y = x := by
  unfold insK
  split
  · rename_i h
    constructor
    · exact .inl
    · rintro (h' | rfl)
      · exact h'
      · exact h
  · simp
theorem insK_nodup {l : List Int} {x : Int} (h : l.Nodup) : (insK l x).Nodup := by
  unfold insK
  split
  · exact h
  · rename_i hx
    rw [List.nodup_append]
    exact ⟨h, by simp, fun a ha b hb => by rw [List.mem_singleton] at hb; subst hb; exact fun e => hx (e ▸ ha)⟩
theorem insK_len (l : List Int) (x : Int) : (insK l x).length = if x ∈ l then l.length else l.length + 1 := by
  unfold insK; split <;> simp
theorem snocInd {α : Type} {P : List α → Prop} (h0 : P []) (h1 : ∀ l x, P l → P (l ++ [x])) (l : List α) : P l := by
  have : ∀ m : List α, P m.reverse := fun m => by
    induction m with
    | nil => exact h0
    | cons x m ih => rw [List.reverse_cons]; exact h1 _ _ ih
  have := this l.reverse
  rwa [List.reverse_reverse] at this
theorem mem_setOf (l : List Int) : ∀ y, y ∈ setOf l ↔ y ∈ l := by
  induction l using snocInd with
  | h0 => intro y; simp [setOf]
  | h1 l x ih => intro y; rw [setOf_snoc, mem_insK, ih]; simp
theorem setOf_nodup (l : List Int) : (setOf l).Nodup := by
  induction l using snocInd with
  | h0 => simp [setOf]
  | h1 l x ih => rw [setOf_snoc]; exact insK_nodup ih
theorem setOf_len (l : List Int) : (setOf l).length ≤ l.length ∧ ((setOf l).length = l.length → l.Nodup) := by
  induction l using snocInd with
  | h0 => simp [setOf]
  | h1 l x ih =>
    rw [setOf_snoc, insK_len]
    split
    · rename_i h
      simp only [List.length_append, List.length_singleton]
      exact ⟨by omega, fun h => by omega⟩
    · rename_i h
      simp only [List.length_append, List.length_singleton]
      refine ⟨by omega, fun e => ?_⟩
      have hn := ih.2 (by omega)
      rw [List.nodup_append]
      exact ⟨hn, by simp, fun a ha b hb => by rw [List.mem_singleton] at hb; subst hb; exact fun e => h ((mem_setOf l _).2 (e ▸ ha))⟩
def inR (n : Nat) (v : Int) : Bool := decide (0 ≤ v) && decide (v < (n : Int))
theorem conv_L1 (q1 : List Int) (q2 : Bool) (n : Nat) : ∀ (s p : List Int), (p ++ s).length ≤ 1000 → ∃ o, m_spec_converted_int64_int_bf2e7_L1 (p ++ s, q1, q2, (n : Int), setOf p, p, (p.length : Int)) = some o ∧
    (s.all (inR n) = true → o = .inr (setOf (p ++ s), p ++ s)) ∧ (s.all (inR n) = false → ∃ a m, o = .inl (a, 6, m))
  | [], p, hs => by
    rw [m_spec_converted_int64_int_bf2e7_L1]; simp only [end_lt, if_false]
    exact ⟨_, rfl, (fun _ => by simp), (fun h => by simp at h)⟩
  | x :: s, p, hs => by
    rw [m_spec_converted_int64_int_bf2e7_L1]
    have hlp : p.length ≤ 100000 := by simp at hs; omega
    simp only [mid_lt, if_true, mid_idx, bind_ok, m_spec_Permutation_1_b8aa6, mid_W (Sm_le hs)]
    by_cases h1 : x < 0
    · simp only [h1, if_true, bind_ok, ne_eq]
      rw [if_pos (by decide)]
      exact ⟨_, rfl, (fun h => by simp [inR, show ¬ 0 ≤ x by omega] at h), (fun _ => ⟨_, _, rfl⟩)⟩
    · by_cases h2 : x ≥ (n : Int)
      · simp only [h1, if_false, bind_ok, h2, decide_true, if_true, ne_eq]
        rw [if_pos (by decide)]
        exact ⟨_, rfl, (fun h => by simp [inR, show ¬ x < (n : Int) by omega] at h), (fun _ => ⟨_, _, rfl⟩)⟩
      · obtain ⟨o, e, ho⟩ := conv_L1 q1 q2 n s (p ++ [x]) (by rw [← mid_app]; exact hs)
        rw [← mid_app, setOf_snoc] at e
        rw [← mid_app] at ho
        have hx : inR n x = true := by simp [inR]; omega
        have ha : (x :: s).all (inR n) = s.all (inR n) := by simp [hx]
        rw [ha]
        simp only [h1, if_false, bind_ok, h2, decide_false, Bool.false_eq_true, ne_eq, not_true, app1 hlp, e]
        exact ⟨o, rfl, ho⟩
def maxF (l : List Int) (m : Int) : Int := l.foldl (fun a x => if a < x then x else a) m
def maxL (l : List Int) : Int := match l with | [] => 0 | x :: s => maxF s x
theorem max_L1 : ∀ (s p : List Int) (m : Int), (p ++ s).length ≤ 1000 → m_slices_Max_int_int_L1 (p ++ s, m, (p.length : Int)) = some (maxF s m)
  | [], p, m, hs => by
    rw [m_slices_Max_int_int_L1]; simp only [end_lt, if_false]; rfl
  | x :: s, p, m, hs => by
    rw [m_slices_Max_int_int_L1]
    have ih := max_L1 s (p ++ [x]) (if m < x then x else m) (by rw [← mid_app]; exact hs)
    rw [← mid_app] at ih
    simp only [mid_lt, if_true, mid_idx, bind_ok, mid_W (Sm_le hs), ih]; rfl
theorem Max_ok {l : List Int} (hl : l.length ≤ 1000) (h0 : l ≠ []) : m_slices_Max_int_int l = some (maxL l) := by
  cases l with
  | nil => exact absurd rfl h0
  | cons x s =>
    have e : m_slices_Max_int_int_L1 (x :: s, x, 1) = some (maxF s x) := max_L1 s [x] x hl
    have hi : idx (x :: s) 0 = some x := rfl
    simp only [m_slices_Max_int_int, hi, bind_ok, e]
    rw [if_neg (by simp; omega)]; rfl
theorem maxF_ge : ∀ (l : List Int) (m : Int), m ≤ maxF l m ∧ (∀ x ∈ l, x ≤ maxF l m) ∧ (maxF l m = m ∨ maxF l m ∈ l)
  | [], m => ⟨Int.le_refl _, by simp, .inl rfl⟩
  | y :: l, m => by
    obtain ⟨h1, h2, h3⟩ := maxF_ge l (if m < y then y else m)
    have e : maxF (y :: l) m = maxF l (if m < y then y else m) := rfl
    rw [e]
    have hm : m ≤ (if m < y then y else m) ∧ y ≤ (if m < y then y else m) ∧ ((if m < y then y else m) = m ∨ (if m < y then y else m) = y) := by split <;> omega
    refine ⟨by omega, fun x hx => ?_, ?_⟩
    · rcases List.mem_cons.1 hx with rfl | hx
      · omega
      · exact h2 x hx
    · rcases h3 with h3 | h3
      · rcases hm.2.2 with h | h
        · left; omega
        · right; rw [h3, h]; exact List.mem_cons_self ..
      · right; exact List.mem_cons_of_mem _ h3
theorem maxL_ge {l : List Int} (h0 : l ≠ []) : (∀ x ∈ l, x ≤ maxL l) ∧ maxL l ∈ l := by
  cases l with
  | nil => exact absurd rfl h0
  | cons y l =>
    obtain ⟨h1, h2, h3⟩ := maxF_ge l y
    refine ⟨fun x hx => ?_, ?_⟩
    · rcases List.mem_cons.1 hx with rfl | hx
      · exact h1
      · exact h2 x hx
    · show maxF l y ∈ y :: l
      rcases h3 with h3 | h3
      · rw [h3]; exact List.mem_cons_self ..
      · exact List.mem_cons_of_mem _ h3
/-- the error of a permutation -/
def permE (v : List Int) (n : Nat) : Int := if v.length ≠ n then 5 else if v.all (inR n) = false then 6 else if n > 0 ∧ ((setOf v).length : Int) ≠ maxL v + 1 then 6 else 0
theorem Permutation_ok (v : List Int) (sc : Bool) (n : Nat) (hv : v.length ≤ 100) : m_spec_Permutation (⟨v, sc⟩, (n : Int)) = some (if permE v n = 0 then (v, 0) else ([], permE v n)) := by
  simp only [m_spec_Permutation, m_spec_Exactly, permE]
  by_cases h1 : v.length = n
  · subst h1
    obtain ⟨o, e, h2, h3⟩ := conv_L1 v sc v.length v [] (by simp; omega)
    have e' : m_spec_converted_int64_int_bf2e7_L1 (v, v, sc, (v.length : Int), [], [], 0) = some o := e
    simp only [if_false, Clone64_ok v (by omega), bind_ok, ne_eq, not_true, m_spec_converted_int64_int_bf2e7, room_ok _ (show v.length ≤ 1000 by omega), e']
    cases ha : v.all (inR v.length) with
    | false =>
      obtain ⟨a, m, rfl⟩ := h3 ha
      simp [bind_ok]
    | true =>
      rw [h2 ha]
      simp only [List.nil_append, Bool.true_eq_false, if_false, bind_ok]
      by_cases h4 : v.length > 0
      · have hn : v ≠ [] := by intro h; subst h; simp at h4
        have hm : 0 ≤ maxL v ∧ maxL v < v.length := by
          have := List.all_eq_true.1 ha _ (maxL_ge hn).2
          simpa [inR] using this
        have w : W (maxL v + 1) = maxL v + 1 := W_ok (by omega) (by omega)
        simp only [show (v.length : Int) > 0 by omega, if_true, Max_ok (show v.length ≤ 1000 by omega) hn, bind_ok, w, h4, true_and]
        by_cases h5 : ((setOf v).length : Int) = maxL v + 1 <;> simp [h5]
      · simp only [h4, bind_ok, show ¬ (v.length : Int) > 0 by omega, if_false, false_and, if_true]; rfl
  · have h1' : (v.length : Int) ≠ (n : Int) := by omega
    simp only [h1', if_true, bind_ok, ne_eq, not_false_eq_true, h1]
    simp
/-! the dimensions of a transpose -/
def padTo (l : List Int) (j : Nat) : List Int := l ++ List.replicate (j + 1 - l.length) 65536
def minI (a b : Int) : Int := if b < a then b else a
def stepP (l : List Int) (j : Nat) (x : Int) : List Int := (padTo l j).set j (minI ((padTo l j).getD j 0) x)
def permF : List Int → List Int → List Int → List Int
  | l, j :: p, x :: a => permF (stepP l j.toNat x) p a
  | l, _, _ => l
def permL (p a : List Int) : List Int := permF [] p a
theorem padTo_len (l : List Int) (j : Nat) : (padTo l j).length = max l.length (j + 1) := by simp [padTo]; omega
theorem stepP_len (l : List Int) (j : Nat) (x : Int) : (stepP l j x).length = max l.length (j + 1) := by simp [stepP, padTo_len]
theorem pad_L2 (j : Nat) (hj : j < 100) (p1 : List Int) (v204 : Int) (p0 : List Int) : ∀ (m : Nat) (l : List Int) (g : Nat), m = j + 1 - l.length → l.length ≤ 1000 → ∃ g', m_rule_permuted_L2 ((j : Int), p1, v204, p0, g, l, l.length) = some (g', padTo l j, (padTo l j).length)
  | 0, l, g, hm, hl => by
    have h : ¬ (l.length : Int) ≤ (j : Int) := by omega
    rw [m_rule_permuted_L2]
    simp only [h, if_false]
    refine ⟨g, ?_⟩
    have : padTo l j = l := by unfold padTo; rw [← hm]; simp
    rw [this]
  | m + 1, l, g, hm, hl => by
    have h : (l.length : Int) ≤ (j : Int) := by omega
    obtain ⟨g', e⟩ := pad_L2 j hj p1 v204 p0 m (l ++ [65536]) (gb g ([65536] : List Int).isEmpty) (by simp; omega) (by simp; omega)
    rw [m_rule_permuted_L2]
    have hg : guardM (l.length = l.length) = some () := if_pos rfl
    simp only [h, if_true, hg, bind_ok, app1 (show l.length ≤ 100000 by omega), e]
    have hp : padTo (l ++ [65536]) j = padTo l j := by
      unfold padTo
      rw [List.append_assoc, List.length_append, List.length_singleton, show j + 1 - l.length = (j + 1 - (l.length + 1)) + 1 by omega, List.replicate_succ]; rfl
    rw [hp]
    exact ⟨g', rfl⟩
theorem perm_L1 : ∀ (s t p q l : List Int) (g : Nat), s.length = t.length → p.length = q.length → (p ++ s).length ≤ 100 → (∀ x ∈ s, 0 ≤ x ∧ x < 100) → l.length ≤ 100 →
    ∃ g', m_rule_permuted_L1 (p ++ s, q ++ t, g, l, l.length, (p.length : Int)) = some (g', permF l s t, (permF l s t).length)
  | [], [], p, q, l, g, _, h2, h3, h4, h5 => by
    rw [m_rule_permuted_L1]; simp only [end_lt, if_false]
    exact ⟨g, rfl⟩
  | j :: s, x :: t, p, q, l, g, h1, h2, h3, h4, h5 => by
    have hj := h4 j (List.mem_cons_self ..)
    obtain ⟨k, rfl⟩ := Int.eq_ofNat_of_zero_le hj.1
    obtain ⟨g1, e1⟩ := pad_L2 k (by omega) (q ++ x :: t) (p.length : Int) (p ++ (k : Int) :: s) (k + 1 - l.length) l g rfl (by omega)
    obtain ⟨g2, e2⟩ := perm_L1 s t (p ++ [(k : Int)]) (q ++ [x]) (stepP l k x) g1 (by simpa using h1) (by simp [h2]) (by rw [← mid_app]; exact h3) (fun y hy => h4 y (List.mem_cons_of_mem _ hy)) (by rw [stepP_len]; omega)
    rw [← mid_app, ← mid_app] at e2
    have hk : k < (padTo l k).length := by rw [padTo_len]; omega
    have hi : idx (q ++ x :: t) (p.length : Int) = some x := by rw [h2]; exact mid_idx
    have hs : setM (padTo l k) (k : Int) (minI ((padTo l k).getD k 0) x) = some (stepP l k x) := by
      rw [setM, if_pos ⟨by omega, by simpa using hk⟩, Int.toNat_natCast]; rfl
    have hg : guardM ((padTo l k).length = (padTo l k).length) = some () := if_pos rfl
    have hlen : (padTo l k).length = (stepP l k x).length := by rw [padTo_len, stepP_len]
    rw [m_rule_permuted_L1]
    have hmin : (if x < (padTo l k).getD k 0 then x else (padTo l k).getD k 0) = minI ((padTo l k).getD k 0) x := rfl
    simp only [mid_lt, if_true, mid_idx, hi, bind_ok, e1, hg, idx_getD hk, hmin, hs, mid_W (Sm_le (show (p ++ (k : Int) :: s).length ≤ 1000 by omega))]
    rw [hlen, e2]
    exact ⟨g2, rfl⟩
  | [], _ :: _, _, _, _, _, h, _, _, _, _ => by cases h
  | _ :: _, [], _, _, _, _, h, _, _, _, _ => by cases h
theorem permF_len : ∀ (s t l : List Int), (∀ x ∈ s, 0 ≤ x ∧ x < 100) → l.length ≤ 100 → (permF l s t).length ≤ 100
  | [], _, l, _, h => by unfold permF; exact h
  | _ :: _, [], l, _, h => by unfold permF; exact h
  | j :: s, x :: t, l, hs, h => by
    have hj := hs j (List.mem_cons_self ..)
    rw [permF]
    exact permF_len s t _ (fun y hy => hs y (List.mem_cons_of_mem _ hy)) (by rw [stepP_len]; omega)
def transE (v a : List Int) : Int := if permE v a.length = 0 then checkR (permL v a) else permE v a.length
def transR (v a : List Int) : T_rule_Rule × Int := if transE v a = 0 then (⟨[], a, permL v a, [], -1, 0, v⟩, 0) else (zeroRule, transE v a)
theorem permE_zero {v : List Int} {n : Nat} (h : permE v n = 0) : v.length = n ∧ (∀ x ∈ v, 0 ≤ x ∧ x < (n : Int)) ∧ (n > 0 → ((setOf v).length : Int) = maxL v + 1) := by
  unfold permE at h
  by_cases h1 : v.length = n
  · rw [if_neg (by omega)] at h
    cases ha : v.all (inR n) with
    | false => rw [if_pos ha] at h; cases h
    | true =>
      rw [if_neg (by rw [ha]; decide)] at h
      refine ⟨h1, fun x hx => by have := List.all_eq_true.1 ha x hx; simpa [inR] using this, fun hn => ?_⟩
      by_cases h5 : ((setOf v).length : Int) = maxL v + 1
      · exact h5
      · rw [if_pos ⟨hn, h5⟩] at h; cases h
  · rw [if_pos h1] at h; cases h
theorem permuted_ok (v a : List Int) (ha : a.length ≤ 16) (hl : v.length = a.length) (hv : ∀ x ∈ v, 0 ≤ x ∧ x < (a.length : Int)) : m_rule_permuted (v, a) = some (if checkR (permL v a) = 0 then (⟨[], a, permL v a, [], -1, 0, v⟩, 0) else (zeroRule, checkR (permL v a))) := by
  have hv' : ∀ x ∈ v, 0 ≤ x ∧ x < 100 := fun x hx => by have := hv x hx; omega
  obtain ⟨g, e⟩ := perm_L1 v a [] [] [] 0 hl rfl (by simp; omega) hv' (by simp)
  have e' : m_rule_permuted_L1 (v, a, 0, [], ([] : List Int).length, 0) = some (g, permL v a, (permL v a).length) := e
  have hL : (permL v a).length ≤ 100 := permF_len v a [] hv' (by simp)
  have hg : guardM ((permL v a).length = (permL v a).length) = some () := if_pos rfl
  simp only [m_rule_permuted, e', bind_ok, m_rule_made_b0950, hg, shapeCheck_ok _ (Sm_le (show (permL v a).length ≤ 1000 by omega)), Clone_ok a (by omega), Clone_ok _ (show (permL v a).length ≤ 1000 by omega), m_rule_permuted_1_b7767]
  by_cases h : checkR (permL v a) = 0
  · simp [h, guardT]
  · simp [h, zeroRule, guardT]
theorem Transpose_ok (v : List Int) (sc : Bool) (a : List Int) (hv : v.length ≤ 100) (ha : a.length ≤ 16) : m_rule_Transpose (⟨v, sc⟩, a) = some (transR v a) := by
  simp only [m_rule_Transpose, Permutation_ok v sc a.length hv, bind_ok, transR, transE]
  by_cases h : permE v a.length = 0
  · obtain ⟨h1, h2, h3⟩ := permE_zero h
    simp only [h, if_true, ne_eq, not_true, if_false, permuted_ok v a ha h1 h2, bind_ok]
  · simp [h, failed_ok, bind_ok]
/-! reshapes -/
theorem dimN_L1 : ∀ (s p : List Int), Sm (p ++ s).length → ∃ r, m_slices_IndexFunc_int64_int64_spec_Dimensions_1_L1 (p ++ s, (p.length : Int)) = some r ∧ (negB s = true → ∃ j : Nat, r = .inl (j : Int)) ∧ (negB s = false → r = .inr ())
  | [], p, hs => by
    rw [m_slices_IndexFunc_int64_int64_spec_Dimensions_1_L1]; simp only [end_lt, if_false]; exact ⟨_, rfl, fun h => (by cases h), fun _ => rfl⟩
  | x :: s, p, hs => by
    rw [m_slices_IndexFunc_int64_int64_spec_Dimensions_1_L1]
    obtain ⟨r, h1, h2, h3⟩ := dimN_L1 s (p ++ [x]) (by rw [← mid_app]; exact hs)
    rw [← mid_app] at h1
    simp only [mid_lt, if_true, mid_idx, bind_ok, mid_W hs, m_spec_Dimensions_1, negB_cons]
    by_cases hn : x < 0
    · simp only [hn, decide_true, if_true]; exact ⟨_, rfl, fun _ => ⟨_, rfl⟩, fun h => by simp at h⟩
    · simp only [hn, decide_false, Bool.false_eq_true, if_false, Bool.false_or]; exact ⟨r, h1, h2, h3⟩
theorem dimN_ok (l : List Int) (hs : Sm l.length) : m_slices_ContainsFunc_int64_int64_spec_Dimensions_1 l = some (negB l) := by
  obtain ⟨r, h1, h2, h3⟩ := dimN_L1 l [] hs
  have e : m_slices_IndexFunc_int64_int64_spec_Dimensions_1_L1 (l, 0) = some r := h1
  simp only [m_slices_ContainsFunc_int64_int64_spec_Dimensions_1, m_slices_IndexFunc_int64_int64_spec_Dimensions_1, e, bind_ok]
  cases hn : negB l
  · rw [h3 hn]; rfl
  · obtain ⟨j, rfl⟩ := h2 hn; simp [bind_ok]
theorem dimC_L1 (sc : Bool) : ∀ (s p : List Int), (p ++ s).length ≤ 1000 → negB s = false → ∃ o, m_spec_converted_int64_int_b1de0_L1 (p ++ s, sc, p, (p.length : Int)) = some o ∧
    (bigB s = true → ∃ m, o = .inl (7, m)) ∧ (bigB s = false → o = .inr (p ++ s))
  | [], p, hs, _ => by
    rw [m_spec_converted_int64_int_b1de0_L1]; simp only [end_lt, if_false]
    exact ⟨_, rfl, (fun h => by simp [bigB] at h), (fun _ => by simp)⟩
  | x :: s, p, hs, hn => by
    rw [m_spec_converted_int64_int_b1de0_L1]
    have hlp : p.length ≤ 100000 := by simp at hs; omega
    rw [negB_cons, Bool.or_eq_false_iff] at hn
    have hx : ¬ x < 0 := by simpa using hn.1
    simp only [mid_lt, if_true, mid_idx, bind_ok, mid_W (Sm_le hs), m_size_Dimension, hx, if_false, bigB_cons]
    by_cases hb : x > 65536
    · simp only [hb, if_true, bind_ok, ne_eq]
      rw [if_pos (by decide)]
      exact ⟨_, rfl, (fun _ => ⟨_, rfl⟩), (fun h => by simp at h)⟩
    · obtain ⟨o, e, ho⟩ := dimC_L1 sc s (p ++ [x]) (by rw [← mid_app]; exact hs) hn.2
      rw [← mid_app] at e ho
      simp only [hb, if_false, bind_ok, ne_eq, not_true, app1 hlp, e, decide_false, Bool.false_or]
      exact ⟨o, rfl, ho⟩
theorem Dimensions_ok (l : List Int) (sc : Bool) (hl : l.length ≤ 1000) : m_spec_Dimensions ⟨l, sc⟩ = some (if checkR l = 0 then (l, 0) else ([], checkR l)) := by
  simp only [m_spec_Dimensions, dimN_ok l (Sm_le hl), bind_ok]
  cases hn : negB l with
  | true =>
    have hc : checkR l = 6 := by rw [checkR, hn]; rfl
    simp [hc]
  | false =>
    obtain ⟨o, e, h1, h2⟩ := dimC_L1 sc l [] hl hn
    have e' : m_spec_converted_int64_int_b1de0_L1 (l, sc, [], 0) = some o := e
    simp only [Bool.false_eq_true, if_false, m_spec_converted_int64_int_b1de0, room_ok _ hl, bind_ok, e']
    cases hb : bigB l with
    | true =>
      obtain ⟨m, rfl⟩ := h1 hb
      have hc : checkR l = 7 := by rw [checkR, hn, hb]; simp
      simp [hc, bind_ok]
    | false =>
      rw [h2 hb]
      simp only [List.nil_append, bind_ok, shapeCheck_ok l (Sm_le hl)]
      by_cases hc : checkR l = 0 <;> simp [hc]
def reshR (l a : List Int) : T_rule_Rule × Int := if checkR l = 0 then (⟨[], a, l, [], -1, 0, []⟩, 0) else (zeroRule, checkR l)
theorem Reshape_ok (l : List Int) (sc : Bool) (a : List Int) (hl : l.length ≤ 1000) (ha : a.length ≤ 1000) : m_rule_Reshape (⟨l, sc⟩, a) = some (reshR l a) := by
  simp only [m_rule_Reshape, Dimensions_ok l sc hl, bind_ok, reshR]
  by_cases h : checkR l = 0
  · simp [h, m_rule_made_ba438, shapeCheck_ok l (Sm_le hl), Clone_ok l hl, Clone_ok a ha, bind_ok]
  · simp [h, failed_ok, bind_ok]
end Go.Proofs.Try
namespace Go.Proofs.Try
open Go Go.Pm
set_option linter.unusedVariables false
set_option linter.unusedSimpArgs false
set_option maxRecDepth 2000
theorem check_nil : checkR [] = 0 := rfl
def okR (r : T_rule_Rule) : Prop := checkR r.left = 0 ∧ checkR r.right = 0 ∧ checkR r.shape = 0
theorem right_ok {r : T_rule_Rule} (h : okR r) : m_law13_right r = some true := by
  obtain ⟨h1, h2, h3⟩ := h
  have l1 := (checkR_zero.1 h1).2.1
  have l2 := (checkR_zero.1 h2).2.1
  have l3 := (checkR_zero.1 h3).2.1
  simp only [m_law13_right, Check_ok _ (Sm_le (show r.left.length ≤ 1000 by omega)), Check_ok _ (Sm_le (show r.right.length ≤ 1000 by omega)), Check_ok _ (Sm_le (show r.shape.length ≤ 1000 by omega)), h1, h2, h3, bind_ok, if_true, beq_self_eq_true]
theorem okR_zero : okR zeroRule := ⟨check_nil, check_nil, check_nil⟩
theorem okR_take {l a : List Int} (ha : checkR a = 0) : okR (takeR l a).1 := by
  unfold takeR
  split
  · rename_i h
    unfold takeE at h
    by_cases h1 : a = [] ∧ l.length > 16
    · rw [if_pos h1] at h; cases h
    · rw [if_neg h1] at h
      split at h
      · cases h
      · split at h
        · cases h
        · exact ⟨check_nil, seen_check ha h1, h⟩
  · exact okR_zero
theorem okR_drop {l a : List Int} (ha : checkR a = 0) : okR (dropR l a).1 := by
  unfold dropR
  split
  · rename_i h
    unfold dropE at h
    by_cases h1 : a = [] ∧ l.length > 16
    · rw [if_pos h1] at h; cases h
    · rw [if_neg h1] at h
      have hc := seen_check ha h1
      split at h
      · cases h
      · exact ⟨check_nil, hc, (below_drop l _ (by omega) (checkR_zero.1 hc).1).right hc⟩
  · exact okR_zero
theorem okR_trans {v a : List Int} (ha : checkR a = 0) : okR (transR v a).1 := by
  unfold transR
  split
  · rename_i h
    unfold transE at h
    split at h
    · exact ⟨check_nil, ha, h⟩
    · rename_i h2; exact absurd h h2
  · exact okR_zero
theorem okR_resh {v a : List Int} (ha : checkR a = 0) : okR (reshR v a).1 := by
  unfold reshR
  split
  · rename_i h; exact ⟨check_nil, ha, h⟩
  · exact okR_zero
theorem getD_el {X : List Int} {k : Nat} (h : k < X.length) : X.getD k 0 = X[k] := by simp [List.getD_eq_getElem?_getD, h]
theorem okR_cat {p0 : Int} {a b : List Int} (hp : -1 ≤ p0) (ha : checkR a = 0) (hb : checkR b = 0) : okR (catR p0 a b).1 := by
  obtain ⟨da, la, _⟩ := checkR_zero.1 ha
  obtain ⟨db, lb, _⟩ := checkR_zero.1 hb
  unfold catR
  obtain ⟨R, hR⟩ : ∃ R, R = max (max a.length b.length) 1 := ⟨_, rfl⟩
  simp only [← hR]
  split
  · exact okR_zero
  · rename_i hk
    obtain ⟨k, ek⟩ : ∃ k, k = (if p0 = -1 then (R : Int) - 1 else p0).toNat := ⟨_, rfl⟩
    have hkR : k < R := by rw [ek]; split <;> omega
    rw [← ek]
    split
    · exact okR_zero
    · rename_i hbad
      split
      · rename_i ht
        have lX : (widR a b R k).length = R := widR_len hkR (by omega)
        have lY : (widR b a R k).length = R := widR_len hkR (by omega)
        have dX : Dims (widR a b R k) := widR_dims da db
        have dY : Dims (widR b a R k) := widR_dims db da
        generalize widR a b R k = X at *
        generalize widR b a R k = Y at *
        unfold tailE at ht
        by_cases c1 : remL X k = remL Y k
        · rw [if_neg (fun h => h c1)] at ht
          by_cases c2 : checkR (repL X k (sumAt X Y k)) = 0
          · have gX := getD_in dX (show k < X.length by omega)
            have gY := getD_in dY (show k < Y.length by omega)
            have kX : k < X.length := by omega
            have kY : k < Y.length := by omega
            refine ⟨?_, ?_, c2⟩
            · have := part_right (x := X.getD k 0) (by omega) c2 gX.1 (by unfold sumAt; omega)
              rw [getD_el kX, rep_self kX] at this; exact this
            · have := part_right (x := Y.getD k 0) (by omega) c2 gY.1 (by unfold sumAt; omega)
              rw [rep_other kX kY c1, getD_el kY, rep_self kY] at this; exact this
          · rw [if_pos c2] at ht; cases ht
        · rw [if_pos c1] at ht; cases ht
      · exact okR_zero
theorem RuleRight_ok (v a b : List Int) (ha : Sm a.length) (hb : Sm b.length) : m_law13_RuleRight (v, a, b) = some true := by
  simp only [m_law13_RuleRight, m_law13_awake, bind_ok, Check_ok a ha, Check_ok b hb, Bool.true_eq_false, if_false]
  by_cases c1 : checkR a = 0
  · by_cases c2 : checkR b = 0
    · by_cases c3 : v.length > 100
      · simp [c1, c2, show (v.length : Int) > 100 by omega, bind_ok]
      · obtain ⟨da, la, _⟩ := checkR_zero.1 c1
        obtain ⟨db, lb, _⟩ := checkR_zero.1 c2
        have c3' : ¬ (v.length : Int) > 100 := by omega
        have o1 := right_ok (okR_take (l := v) c1)
        have o2 := right_ok (okR_drop (l := v) c1)
        have o3 := right_ok (okR_trans (v := v) c1)
        have o4 := right_ok (okR_resh (v := v) c1)
        have o5 := right_ok (okR_cat (p0 := -1) (by omega) c1 c2)
        simp only [c1, c2, c3', bne_self_eq_false, Bool.false_eq_true, if_false, decide_false, bind_ok, m_law13_left, Take_ok v _ a (show v.length ≤ 100 by omega) c1, Drop_ok v _ a (show v.length ≤ 100 by omega) c1, Transpose_ok v _ a (show v.length ≤ 100 by omega) la, Reshape_ok v _ a (show v.length ≤ 1000 by omega) (show a.length ≤ 1000 by omega), Cat_ok (p0 := -1) (by omega) la lb da db, o1, o2, o3, o4, o5, if_true]
    · simp [c1, c2, bind_ok]
  · simp [c1, bind_ok]
end Go.Proofs.Try
namespace Go.Proofs.Try
open Go Go.Pm
set_option linter.unusedVariables false
set_option linter.unusedSimpArgs false
set_option maxRecDepth 2000
theorem Cells_ok (l : List Int) (hs : Sm l.length) : m_ref02_Cells l = some (cellsR l) := by
  simp only [m_ref02_Cells, Check_ok l hs, bind_ok, Product_ok l hs, cellsR]
  by_cases hc : checkR l = 0
  · have : (prodR l).1 = prodI l := by
      unfold checkR at hc
      unfold prodR
      by_cases hn : negB l = true
      · simp [hn] at hc
      · by_cases hb : bigB l = true
        · simp [hn, hb] at hc
        · by_cases hp : prodI l > 65536
          · simp [hn, hb, hp] at hc
          · simp [hn, hb, hp]
    simp [hc, this]
  · simp [hc]
end Go.Proofs.Try
namespace Go.Proofs.Try
open Go Go.Pm
set_option linter.unusedVariables false
set_option linter.unusedSimpArgs false
set_option maxRecDepth 2000
theorem tail_sym {X Y : List Int} {k : Nat} (hX : k < X.length) (hY : k < Y.length) : tailE X Y k = tailE Y X k ∧ (tailE X Y k = 0 → repL X k (sumAt X Y k) = repL Y k (sumAt Y X k)) := by
  have hs : sumAt X Y k = sumAt Y X k := by unfold sumAt; omega
  unfold tailE
  by_cases c1 : remL X k = remL Y k
  · have e1 : ¬ (remL X k ≠ remL Y k) := fun h => h c1
    have e2 : ¬ (remL Y k ≠ remL X k) := fun h => h c1.symm
    rw [if_neg e1, if_neg e2, rep_other hX hY c1, hs]
    exact ⟨rfl, fun _ => rfl⟩
  · have e2 : remL Y k ≠ remL X k := fun h => c1 h.symm
    rw [if_pos c1, if_pos e2]
    exact ⟨rfl, fun h => by cases h⟩
theorem cat_sym {p0 : Int} {a b : List Int} (hp : -1 ≤ p0) : (catR p0 a b).2 = (catR p0 b a).2 ∧ (catR p0 a b).1.shape = (catR p0 b a).1.shape ∧ (catR p0 a b).1.left = (catR p0 b a).1.right ∧ (catR p0 a b).1.right = (catR p0 b a).1.left := by
  unfold catR
  obtain ⟨R, hR⟩ : ∃ R, R = max (max a.length b.length) 1 := ⟨_, rfl⟩
  have hR2 : max (max b.length a.length) 1 = R := by omega
  simp only [← hR, hR2]
  split
  · exact ⟨rfl, rfl, rfl, rfl⟩
  · rename_i hk
    obtain ⟨k, ek⟩ : ∃ k, k = (if p0 = -1 then (R : Int) - 1 else p0).toNat := ⟨_, rfl⟩
    have hkR : k < R := by rw [ek]; split <;> omega
    rw [← ek]
    by_cases hbad : (a.length ≠ R ∧ a.length + 1 ≠ R ∧ a.length ≠ 0) ∨ (b.length ≠ R ∧ b.length + 1 ≠ R ∧ b.length ≠ 0)
    · have hb2 := hbad.symm
      rw [if_pos hbad, if_pos hb2]; exact ⟨rfl, rfl, rfl, rfl⟩
    · have hb2 : ¬ ((b.length ≠ R ∧ b.length + 1 ≠ R ∧ b.length ≠ 0) ∨ (a.length ≠ R ∧ a.length + 1 ≠ R ∧ a.length ≠ 0)) := fun h => hbad h.symm
      rw [if_neg hbad, if_neg hb2]
      have lX : (widR a b R k).length = R := widR_len hkR (by omega)
      have lY : (widR b a R k).length = R := widR_len hkR (by omega)
      generalize widR a b R k = X at *
      generalize widR b a R k = Y at *
      obtain ⟨h1, h2⟩ := tail_sym (X := X) (Y := Y) (k := k) (by omega) (by omega)
      by_cases ht : tailE X Y k = 0
      · have ht2 : tailE Y X k = 0 := h1 ▸ ht
        rw [if_pos ht, if_pos ht2, h2 ht]; exact ⟨rfl, rfl, rfl, rfl⟩
      · have ht2 : ¬ tailE Y X k = 0 := h1 ▸ ht
        rw [if_neg ht, if_neg ht2, h1]; exact ⟨rfl, rfl, rfl, rfl⟩
/-! transposes by permutations -/
theorem stepP_get (l : List Int) (j : Nat) (x : Int) (i : Nat) : (stepP l j x).getD i 65536 = if i = j then minI (l.getD j 65536) x else l.getD i 65536 := by
  have hp : ∀ i, (padTo l j).getD i 65536 = l.getD i 65536 := fun i => by
    unfold padTo
    simp only [List.getD_eq_getElem?_getD]
    by_cases h : i < l.length
    · rw [List.getElem?_append_left h]
    · rw [List.getElem?_append_right (by omega), List.getElem?_eq_none (l := l) (by omega)]
      by_cases h2 : i - l.length < j + 1 - l.length
      · rw [List.getElem?_replicate]; simp [h2]
      · rw [List.getElem?_eq_none (by simp; omega)]
  have hk : j < (padTo l j).length := by rw [padTo_len]; omega
  have h0 : (padTo l j).getD j 0 = l.getD j 65536 := by
    rw [← hp j]; simp [List.getD_eq_getElem?_getD, hk]
  unfold stepP
  rw [h0, List.getD_eq_getElem?_getD, List.getElem?_set]
  by_cases h : i = j
  · subst h; simp [hk]
  · rw [if_neg (fun e => h e.symm), if_neg h, ← List.getD_eq_getElem?_getD, hp]
theorem permF_other : ∀ (p a l : List Int) (i : Nat), (∀ x ∈ p, 0 ≤ x) → ((i : Int) ∉ p) → (permF l p a).getD i 65536 = l.getD i 65536
  | [], _, l, i, _, _ => by unfold permF; rfl
  | _ :: _, [], l, i, _, _ => by unfold permF; rfl
  | j :: p, x :: a, l, i, h0, h => by
    rw [permF, permF_other p a _ i (fun y hy => h0 y (List.mem_cons_of_mem _ hy)) (fun hm => h (List.mem_cons_of_mem _ hm)), stepP_get, if_neg]
    intro e
    have := h0 j (List.mem_cons_self ..)
    apply h
    rw [e, Int.toNat_of_nonneg this]
    exact List.mem_cons_self ..
theorem permF_get : ∀ (p a l : List Int), p.length = a.length → p.Nodup → (∀ x ∈ p, 0 ≤ x) → Dims a → (∀ x ∈ p, l.getD x.toNat 65536 = 65536) → p.map (fun j => (permF l p a).getD j.toNat 65536) = a
  | [], [], l, _, _, _, _, _ => rfl
  | j :: p, x :: a, l, h1, h2, h3, h4, h5 => by
    have hj := h3 j (List.mem_cons_self ..)
    have hx := h4 x (List.mem_cons_self ..)
    rw [List.nodup_cons] at h2
    rw [List.map_cons, permF]
    have e1 : (permF (stepP l j.toNat x) p a).getD j.toNat 65536 = x := by
      rw [permF_other p a _ _ (fun y hy => h3 y (List.mem_cons_of_mem _ hy)) (by rw [Int.toNat_of_nonneg hj]; exact h2.1), stepP_get, if_pos rfl, h5 j (List.mem_cons_self ..)]
      unfold minI; split <;> omega
    have e2 := permF_get p a (stepP l j.toNat x) (by simpa using h1) h2.2 (fun y hy => h3 y (List.mem_cons_of_mem _ hy)) (fun d hd => h4 d (List.mem_cons_of_mem _ hd)) (fun y hy => by
      rw [stepP_get, if_neg]
      · exact h5 y (List.mem_cons_of_mem _ hy)
      · intro e
        have := h3 y (List.mem_cons_of_mem _ hy)
        have e' : y = j := by omega
        exact h2.1 (e' ▸ hy))
    rw [e1, e2]
  | [], _ :: _, _, h, _, _, _, _ => by cases h
  | _ :: _, [], _, h, _, _, _, _ => by cases h
theorem prodI_perm {a b : List Int} (h : a.Perm b) : prodI a = prodI b := by
  induction h with
  | nil => rfl
  | cons x _ ih => rw [prodI_cons, prodI_cons, ih]
  | swap x y l => rw [prodI_cons, prodI_cons, prodI_cons, prodI_cons, Int.mul_left_comm]
  | trans _ _ h1 h2 => rw [h1, h2]
def rng (n : Nat) : List Int := (List.range n).map fun (k : Nat) => (k : Int)
theorem rng_nodup (n : Nat) : (rng n).Nodup := List.Pairwise.map _ (fun a b h e => h (by omega)) List.nodup_range
theorem mem_rng {n : Nat} {x : Int} : x ∈ rng n ↔ 0 ≤ x ∧ x < (n : Int) := by
  unfold rng
  rw [List.mem_map]
  constructor
  · rintro ⟨k, hk, rfl⟩; have := List.mem_range.1 hk; omega
  · intro h; exact ⟨x.toNat, List.mem_range.2 (by omega), by omega⟩
/-- a list of different numbers below its length is a permutation -/
theorem perm_rng {v : List Int} (h1 : v.Nodup) (h2 : ∀ x ∈ v, 0 ≤ x ∧ x < (v.length : Int)) : v.Perm (rng v.length) := by
  refine (List.perm_ext_iff_of_nodup h1 (rng_nodup _)).2 fun x => ⟨fun h => mem_rng.2 (h2 x h), fun h => ?_⟩
  rcases Classical.em (x ∈ v) with hx | hx
  · exact hx
  · have hle := List.Nodup.length_le_of_subset (l₁ := x :: v) (l₂ := rng v.length) (List.nodup_cons.2 ⟨hx, h1⟩) (fun y hy => by
      rcases List.mem_cons.1 hy with rfl | hy
      · exact h
      · exact mem_rng.2 (h2 y hy))
    simp [rng] at hle
    omega
theorem map_rng (l : List Int) : (rng l.length).map (fun j => l.getD j.toNat 65536) = l := by
  unfold rng
  rw [List.map_map]
  apply List.ext_getElem
  · simp
  · intro i h1 h2
    simp [List.getD_eq_getElem?_getD, h2]
theorem perm_cells {v a : List Int} (da : Dims a) (h : permE v a.length = 0) (hl : (permL v a).length = a.length) : prodI (permL v a) = prodI a := by
  obtain ⟨h1, h2, h3⟩ := permE_zero h
  by_cases h0 : a.length = 0
  · have ha := List.eq_nil_of_length_eq_zero h0
    have hp := List.eq_nil_of_length_eq_zero (hl.trans h0)
    rw [hp, ha]
  · have hlen : ∀ (s t l : List Int), s.length = t.length → (∀ x ∈ s, 0 ≤ x) → (∀ m, l.length ≤ m → (∀ x ∈ s, x.toNat < m) → (permF l s t).length ≤ m) := by
      intro s
      induction s with
      | nil => intro t l _ _ m hm _; unfold permF; exact hm
      | cons j s ih =>
        intro t l ht hs m hm hj
        cases t with
        | nil => cases ht
        | cons x t =>
          rw [permF]
          exact ih t _ (by simpa using ht) (fun y hy => hs y (List.mem_cons_of_mem _ hy)) m (by rw [stepP_len]; have := hj j (List.mem_cons_self ..); omega) (fun y hy => hj y (List.mem_cons_of_mem _ hy))
    have hv : v ≠ [] := by intro e; subst e; simp at h1; omega
    obtain ⟨m1, m2⟩ := maxL_ge hv
    have hM := h2 _ m2
    have hle := hlen v a [] h1 (fun x hx => (h2 x hx).1) ((maxL v).toNat + 1) (by simp) (fun x hx => by have := m1 x hx; have := h2 x hx; omega)
    have hle' : (permL v a).length ≤ (maxL v).toNat + 1 := hle
    have hs := h3 (by omega)
    have hnd := (setOf_len v).2 (by have := (setOf_len v).1; omega)
    have hp := perm_rng hnd (fun x hx => by rw [h1]; exact h2 x hx)
    have hm := permF_get v a [] h1 hnd (fun x hx => (h2 x hx).1) da (fun x hx => by simp)
    have hq := hp.map (fun j => (permL v a).getD j.toNat 65536)
    have e1 : v.map (fun j => (permL v a).getD j.toNat 65536) = a := hm
    rw [e1, h1, ← hl, map_rng] at hq
    exact (prodI_perm hq).symm
theorem Equal_self {a b : List Int} (h : a = b) (hl : a.length ≤ 1000) : m_ref02_Equal (a, b) = some true := by rw [Equal_ok a b (Sm_le hl), decide_eq_true h]
theorem cat_lens {p0 : Int} {a b : List Int} (hp : -1 ≤ p0) (ha : checkR a = 0) (hb : checkR b = 0) : (catR p0 a b).1.left.length ≤ 1000 ∧ (catR p0 a b).1.right.length ≤ 1000 ∧ (catR p0 a b).1.shape.length ≤ 1000 := by
  obtain ⟨h1, h2, h3⟩ := okR_cat hp ha hb
  have := (checkR_zero.1 h1).2.1
  have := (checkR_zero.1 h2).2.1
  have := (checkR_zero.1 h3).2.1
  omega
theorem RuleSymmetric_ok (p0 : Int) (a b v : List Int) (ha : Sm a.length) (hb : Sm b.length) : m_law13_RuleSymmetric (p0, a, b, v) = some true := by
  simp only [m_law13_RuleSymmetric, m_law13_awake, bind_ok, Check_ok a ha, Check_ok b hb, Bool.true_eq_false, if_false]
  by_cases c1 : checkR a = 0
  · by_cases c2 : checkR b = 0
    · have hax : m_law13_axis p0 = some (decide (p0 ≥ -1) && decide (p0 ≤ 15)) := by
        simp only [m_law13_axis]
        by_cases h : p0 ≥ -1 <;> simp [h]
      by_cases c4 : p0 ≥ -1 ∧ p0 ≤ 15
      · by_cases c3 : v.length > 100
        · simp [c1, c2, hax, show (v.length : Int) > 100 by omega, c4, bind_ok]
        · obtain ⟨da, la, _⟩ := checkR_zero.1 c1
          obtain ⟨db, lb, _⟩ := checkR_zero.1 c2
          have c3' : ¬ (v.length : Int) > 100 := by omega
          have hp : -1 ≤ p0 := c4.1
          obtain ⟨s1, s2, s3, s4⟩ := cat_sym (a := a) (b := b) hp
          obtain ⟨n1, n2, n3⟩ := cat_lens hp c1 c2
          simp only [c1, c2, hax, c3', c4.1, c4.2, bne_self_eq_false, Bool.false_eq_true, if_false, decide_false, decide_true, Bool.and_self, Bool.not_true, bind_ok, Cat_ok hp la lb da db, Cat_ok hp lb la db da, s1, ne_eq, not_true, Equal_self s2 n3, Equal_self s3 n1, Equal_self s4 n2, m_law13_left, Transpose_ok v _ a (show v.length ≤ 100 by omega) la]
          unfold transR
          by_cases ht : transE v a = 0
          · rw [if_pos ht]
            simp only [not_true, if_false]
            by_cases hl : (permL v a).length = a.length
            · have hpe : permE v a.length = 0 := by
                unfold transE at ht
                split at ht
                · assumption
                · rename_i h; exact absurd ht h
              have hc : checkR (permL v a) = 0 := by unfold transE at ht; rw [if_pos hpe] at ht; exact ht
              have hpr := perm_cells da hpe hl
              simp only [hl, bne_self_eq_false, Bool.false_eq_true, if_false, Cells_ok a ha, Cells_ok _ (Sm_le (show (permL v a).length ≤ 1000 by omega)), bind_ok, cellsR, hc, c1, if_true, hpr, beq_self_eq_true]
            · have hl' : ¬ ((permL v a).length : Int) = (a.length : Int) := by omega
              simp [hl', bind_ok]
          · rw [if_neg ht]
            simp [ht, bind_ok]
      · have hf : (decide (p0 ≥ -1) && decide (p0 ≤ 15)) = false := by
          simp only [Bool.and_eq_false_iff, decide_eq_false_iff_not]
          omega
        simp only [hax, hf, c1, c2, bind_ok, bne_self_eq_false, Bool.false_eq_true, if_false, Bool.not_false, if_true]
    · simp [c1, c2, bind_ok]
  · simp [c1, bind_ok]
end Go.Proofs.Try
namespace Go.Proofs.Try
open Go Go.Pm
set_option linter.unusedVariables false
set_option linter.unusedSimpArgs false
set_option maxHeartbeats 2000000
set_option maxRecDepth 2000
theorem ua3 : prog.underlying 3 = some (TypeDesc.int IntKind.i64) := by kernel_rfl
theorem ua22 : prog.underlying 22 = some (TypeDesc.slice 3) := by kernel_rfl
theorem ua2 : prog.underlying 2 = some (TypeDesc.int IntKind.i64) := by kernel_rfl
theorem ua23 : prog.underlying 23 = some (TypeDesc.slice 2) := by kernel_rfl
theorem ua39 : prog.underlying 39 = some (TypeDesc.int IntKind.i8) := by kernel_rfl
theorem ua38 : prog.underlying 38 = some (TypeDesc.slice 39) := by kernel_rfl
theorem ua4 : prog.underlying 4 = some TypeDesc.bool := by kernel_rfl
theorem exists_map {α β : Type} {f : β → α} {p : β → Prop} : ∀ {L : List α}, (∀ x ∈ L, ∃ y, x = f y ∧ p y) → ∃ l : List β, L = l.map f ∧ ∀ y ∈ l, p y
  | [], _ => ⟨[], rfl, fun y h => by cases h⟩
  | x :: L, h => by
    obtain ⟨y, rfl, hy⟩ := h x (List.mem_cons_self ..)
    obtain ⟨l, rfl, hl⟩ := exists_map (fun x hx => h x (List.mem_cons_of_mem _ hx))
    exact ⟨y :: l, rfl, fun z hz => by
      rcases List.mem_cons.1 hz with rfl | hz
      · exact hy
      · exact hl z hz⟩
variable {B : Nat} {n : Nat} {cs : List Dat}
theorem tc3 (h : TyC prog B n 3 cs) : ∃ m : Int, cs = [(intD m)] ∧ ((-9223372036854775808) ≤ m ∧ m ≤ 9223372036854775807) := by
  cases n with
  | zero => exact h.elim
  | succ n =>
    simp only [TyC, ua3] at h
    obtain ⟨m, rfl, hm⟩ := h
    refine ⟨m, rfl, ?_⟩
    simpa [Lit.wf, IntKind.min, IntKind.max, IntKind.signed, IntKind.bits] using hm
def ok22 (B : Nat) (x : (List Int)) : Prop := x.length ≤ B ∧ ∀ m ∈ x, ((-9223372036854775808) ≤ m ∧ m ≤ 9223372036854775807)
theorem tc22 (h : TyC prog B n 22 cs) : ∃ l : (List Int), cs = [.lst ((List.map intD) l)] ∧ ok22 B l := by
  cases n with
  | zero => exact h.elim
  | succ n =>
    simp only [TyC, ua22] at h
    obtain ⟨L, rfl, hl, hx⟩ := h
    obtain ⟨l, rfl, hm⟩ := exists_map (f := fun m => [(intD m)]) (p := fun m => ((-9223372036854775808) ≤ m ∧ m ≤ 9223372036854775807)) (fun x hx' => tc3 (hx x hx'))
    refine ⟨l, ?_, by simpa using hl, hm⟩
    have e : (l.map (fun m => [(intD m)])).map (elemD prog 3) = l.map intD := by
      rw [List.map_map]; exact List.map_congr_left (fun m _ => by simp only [Function.comp_apply]; simp [elemD, aggB, ua3])
    rw [e]
theorem tc2 (h : TyC prog B n 2 cs) : ∃ m : Int, cs = [(intD m)] ∧ ((-9223372036854775808) ≤ m ∧ m ≤ 9223372036854775807) := by
  cases n with
  | zero => exact h.elim
  | succ n =>
    simp only [TyC, ua2] at h
    obtain ⟨m, rfl, hm⟩ := h
    refine ⟨m, rfl, ?_⟩
    simpa [Lit.wf, IntKind.min, IntKind.max, IntKind.signed, IntKind.bits] using hm
def ok23 (B : Nat) (x : (List Int)) : Prop := x.length ≤ B ∧ ∀ m ∈ x, ((-9223372036854775808) ≤ m ∧ m ≤ 9223372036854775807)
theorem tc23 (h : TyC prog B n 23 cs) : ∃ l : (List Int), cs = [.lst ((List.map intD) l)] ∧ ok23 B l := by
  cases n with
  | zero => exact h.elim
  | succ n =>
    simp only [TyC, ua23] at h
    obtain ⟨L, rfl, hl, hx⟩ := h
    obtain ⟨l, rfl, hm⟩ := exists_map (f := fun m => [(intD m)]) (p := fun m => ((-9223372036854775808) ≤ m ∧ m ≤ 9223372036854775807)) (fun x hx' => tc2 (hx x hx'))
    refine ⟨l, ?_, by simpa using hl, hm⟩
    have e : (l.map (fun m => [(intD m)])).map (elemD prog 2) = l.map intD := by
      rw [List.map_map]; exact List.map_congr_left (fun m _ => by simp only [Function.comp_apply]; simp [elemD, aggB, ua2])
    rw [e]
theorem tc39 (h : TyC prog B n 39 cs) : ∃ m : Int, cs = [(numD .i8 m)] ∧ ((-128) ≤ m ∧ m ≤ 127) := by
  cases n with
  | zero => exact h.elim
  | succ n =>
    simp only [TyC, ua39] at h
    obtain ⟨m, rfl, hm⟩ := h
    refine ⟨m, rfl, ?_⟩
    simpa [Lit.wf, IntKind.min, IntKind.max, IntKind.signed, IntKind.bits] using hm
def ok38 (B : Nat) (x : (List Int)) : Prop := x.length ≤ B ∧ ∀ m ∈ x, ((-128) ≤ m ∧ m ≤ 127)
theorem tc38 (h : TyC prog B n 38 cs) : ∃ l : (List Int), cs = [.lst ((List.map (numD .i8)) l)] ∧ ok38 B l := by
  cases n with
  | zero => exact h.elim
  | succ n =>
    simp only [TyC, ua38] at h
    obtain ⟨L, rfl, hl, hx⟩ := h
    obtain ⟨l, rfl, hm⟩ := exists_map (f := fun m => [(numD .i8 m)]) (p := fun m => ((-128) ≤ m ∧ m ≤ 127)) (fun x hx' => tc39 (hx x hx'))
    refine ⟨l, ?_, by simpa using hl, hm⟩
    have e : (l.map (fun m => [(numD .i8 m)])).map (elemD prog 39) = l.map (numD .i8) := by
      rw [List.map_map]; exact List.map_congr_left (fun m _ => by simp only [Function.comp_apply]; simp [elemD, aggB, ua39])
    rw [e]
theorem ty3 {d : Dat} (h : TyA prog B 3 d) : ∃ m : Int, d = (intD m) ∧ ((-9223372036854775808) ≤ m ∧ m ≤ 9223372036854775807) := by
  obtain ⟨n, cs, h, hd⟩ := h
  obtain ⟨m, rfl, hm⟩ := tc3 h
  exact ⟨m, by rw [hd]; simp [elemD, aggB, ua3], hm⟩
theorem ty22 {d : Dat} (h : TyA prog B 22 d) : ∃ m : (List Int), d = (.lst ((List.map intD) m)) ∧ (ok22 B m) := by
  obtain ⟨n, cs, h, hd⟩ := h
  obtain ⟨m, rfl, hm⟩ := tc22 h
  exact ⟨m, by rw [hd]; simp [elemD, aggB, ua22], hm⟩
theorem ty23 {d : Dat} (h : TyA prog B 23 d) : ∃ m : (List Int), d = (.lst ((List.map intD) m)) ∧ (ok23 B m) := by
  obtain ⟨n, cs, h, hd⟩ := h
  obtain ⟨m, rfl, hm⟩ := tc23 h
  exact ⟨m, by rw [hd]; simp [elemD, aggB, ua23], hm⟩
theorem ty38 {d : Dat} (h : TyA prog B 38 d) : ∃ m : (List Int), d = (.lst ((List.map (numD .i8)) m)) ∧ (ok38 B m) := by
  obtain ⟨n, cs, h, hd⟩ := h
  obtain ⟨m, rfl, hm⟩ := tc38 h
  exact ⟨m, by rw [hd]; simp [elemD, aggB, ua38], hm⟩
def argTs : List TypeId := [3, 22, 2, 23, 39, 38, 4]
theorem argTs_closed : closedTs prog argTs = true := by kernel_rfl
theorem laidOut : laidOutB prog = true := by kernel_rfl
theorem summ : SummOK prog env := fun f s h => by cases h
theorem mixed : prog.follows .mixedOrders = true := by kernel_rfl
/-- a call that comes to a value keeps it in the model -/
theorem pure_of {f : FuncId} {dss : List Dat} {p : PV} (ho : p.out = true) (h : PC prog env f (dss.map .dat) [] p []) : PureCall prog f dss p := by
  obtain ⟨N, hN⟩ := h
  exact pure_sound summ mixed (hN N (Nat.le_refl _)) ho
end Go.Proofs.Try
