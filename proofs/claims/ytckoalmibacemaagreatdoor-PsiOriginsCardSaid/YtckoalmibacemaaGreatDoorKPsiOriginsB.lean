/-
  Models of functions, their walks, and plain laws.
-/
import Derived.Test.YtckoalmibacemaaGreatDoorKPsiOriginsA
namespace Go.Proofs.Tryz
open Go Go.Pm
set_option linter.unusedVariables false
set_option maxRecDepth 2000
def m_core_Step (x : (T_core_Core × (List Int))) : Option (Int × (List Int) × Bool) :=
  match x with
  | (p0, p1) =>
  m_gamma_Valid (p0.shape, p1) >>= fun (v1 : Bool) =>
  if v1 = false then
    some (0, ([] : (List Int)), false)
  else
  guardM (0 ≤ p0.kind ∧ p0.kind < 8) >>= fun (_ : Unit) =>
  if p0.kind = 0 then
    none
  else
  if p0.kind = 1 then
    m_slices_Clone_int_int p1 >>= fun v3 =>
    m_core_stays_b7a05 (p0.kind, p0.shape, p0.buffer, p0.starts, p0.axis, p0.amount, p0.perm, p0.kids, v3) >>= fun (_ : Unit) =>
    some (0, ([] : (List Int)), false)
  else
  if p0.kind = 2 then
    m_slices_Clone_int_int p1 >>= fun v4 =>
    (
    m_core_stepWindow_b7a05 (p0.kind, p0.shape, p0.buffer, p0.starts, p0.axis, p0.amount, p0.perm, p0.kids, v4) >>= fun (out : (List Int) ⊕ (List Int)) =>
    match out with
    | .inl v5 =>
      some (0, ([] : (List Int)), false)
    | .inr (v6) =>
      guardM (v6.length = v4.length) >>= fun (_ : Unit) =>
      some (0, v6, true)
    )
  else
  if p0.kind = 3 then
    m_slices_Clone_int_int p1 >>= fun v8 =>
    m_core_stepReverse_b7a05 (p0.kind, p0.shape, p0.buffer, p0.starts, p0.axis, p0.amount, p0.perm, p0.kids, v8) >>= fun (v9 : (List Int)) =>
    guardM (v9.length = v8.length) >>= fun (_ : Unit) =>
    some (0, v9, true)
  else
  if p0.kind = 4 then
    m_slices_Clone_int_int p1 >>= fun v11 =>
    m_core_stepRotate_b7a05 (p0.kind, p0.shape, p0.buffer, p0.starts, p0.axis, p0.amount, p0.perm, p0.kids, v11) >>= fun (v12 : (List Int)) =>
    guardM (v12.length = v11.length) >>= fun (_ : Unit) =>
    some (0, v12, true)
  else
  if p0.kind = 5 then
    m_slices_Clone_int_int p1 >>= fun v14 =>
    m_core_stepTranspose_b7a05 (p0.kind, p0.shape, p0.buffer, p0.starts, p0.axis, p0.amount, p0.perm, p0.kids, v14) >>= fun (v15 : (List Int)) =>
    some (0, v15, true)
  else
  if p0.kind = 6 then
    m_slices_Clone_int_int p1 >>= fun v16 =>
    m_core_stepReshape_b7a05 (p0.kind, p0.shape, p0.buffer, p0.starts, p0.axis, p0.amount, p0.perm, p0.kids, v16) >>= fun ((v17, v18) : ((List Int) × Bool)) =>
    some (0, v17, v18)
  else
  if p0.kind = 7 then
    m_slices_Clone_int_int p1 >>= fun v19 =>
    m_core_stepCatenate_b7a05 (p0.kind, p0.shape, p0.buffer, p0.starts, p0.axis, p0.amount, p0.perm, p0.kids, v19) >>= fun ((v20, v21) : ((List Int) × Int)) =>
    guardM (v20.length = v19.length) >>= fun (_ : Unit) =>
    some (v21, v20, true)
  else
  none
def P_core_Step : (T_core_Core × (List Int)) → (Int × (List Int) × Bool) → Prop := fun x r => match x, r with
  | (p0, p1), (r0, r1, r2) => ∀ H, PC prog env 50 ([(T_core_Core.ex p0), (.lst ((List.map intD) p1))].map .dat) H (.tup [(intPV r0), (.dat (.lst ((List.map intD) r1))), (boolPV r2)]) H
theorem w_core_Step : ∀ x r, m_core_Step x = some r → P_core_Step x r := by
  intro x r hm
  unfold m_core_Step at hm
  unfold P_core_Step
  obtain ⟨p0, p1⟩ := x
  obtain ⟨r0, r1, r2⟩ := r
  intro H
  refine PC_sx (ds := [(T_core_Core.ex p0), (.lst ((List.map intD) p1))]) (fn := f50) (by kernel_rfl) (by kernel_rfl) rfl ?_ (by kernel_rfl)
  refine R_seq ?_
  refine R_G ?_
  refine G_run 4 ?_
  refine G_end ?_
  refine R_seq ?_
  refine R_seq ?_
  refine R_G ?_
  refine G_run 3 ?_
  obtain ⟨v1, hx, hm⟩ := bind_inv hm
  have hq := w_gamma_Valid _ _ hx []
  refine G_callP hq ?_
  refine G_run 1 ?_
  refine G_end ?_
  refine R_ifp (p := v1 = false) (not_dec _) (fun hc => ?_) (fun hc => ?_)
  · replace hm := pos_inv hc hm
    refine R_seq ?_
    refine R_G ?_
    refine G_run 3 ?_
    refine G_end ?_
    refine R_ret ?_
    obtain ⟨rfl, rfl, rfl⟩ := inj3 hm
    exact ⟨trivial, fin_pure (by kernel_rfl)⟩
  replace hm := neg_inv hc hm
  refine R_skip ?_
  refine R_seq ?_
  refine R_GD ?_
  refine G_run 2 ?_
  obtain ⟨_, hl2, hm⟩ := bind_inv hm
  replace hl2 := guard_inv hl2
  refine I_garr 8 3 [(intD 0), (.raw .nilFunc), (.raw .nilFunc), (intD 0), (.raw (.func (.func 246) #[] #[])), (.raw (.func (.func 247) #[] #[])), (intD 1), (.raw (.func (.func 248) #[] #[])), (.raw (.func (.func 249) #[] #[])), (intD 1), (.raw (.func (.func 250) #[] #[])), (.raw (.func (.func 251) #[] #[])), (intD 1), (.raw (.func (.func 252) #[] #[])), (.raw (.func (.func 253) #[] #[])), (intD 1), (.raw (.func (.func 254) #[] #[])), (.raw (.func (.func 255) #[] #[])), (intD 1), (.raw (.func (.func 246) #[] #[])), (.raw (.func (.func 256) #[] #[])), (intD 2), (.raw (.func (.func 257) #[] #[])), (.raw (.func (.func 258) #[] #[]))] p0.kind hl2 ?_
  refine G_run 1 ?_
  by_cases hc : p0.kind = ((0 : Nat) : Int)
  · replace hm := pos_inv (show p0.kind = 0 from hc) hm
    exact (none_inv hm).elim
  replace hm := neg_inv (show ¬ p0.kind = 0 from hc) hm
  by_cases hc : p0.kind = ((1 : Nat) : Int)
  · replace hm := pos_inv (show p0.kind = 1 from hc) hm
    refine I_gfun 1 3 2 [(intD 0), (.raw .nilFunc), (.raw .nilFunc), (intD 0), (.raw (.func (.func 246) #[] #[])), (.raw (.func (.func 247) #[] #[])), (intD 1), (.raw (.func (.func 248) #[] #[])), (.raw (.func (.func 249) #[] #[])), (intD 1), (.raw (.func (.func 250) #[] #[])), (.raw (.func (.func 251) #[] #[])), (intD 1), (.raw (.func (.func 252) #[] #[])), (.raw (.func (.func 253) #[] #[])), (intD 1), (.raw (.func (.func 254) #[] #[])), (.raw (.func (.func 255) #[] #[])), (intD 1), (.raw (.func (.func 246) #[] #[])), (.raw (.func (.func 256) #[] #[])), (intD 2), (.raw (.func (.func 257) #[] #[])), (.raw (.func (.func 258) #[] #[]))] p0.kind (.raw (.func (.func 247) #[] #[])) hc ?_
    refine G_run 2 ?_
    obtain ⟨v3, hx, hm⟩ := bind_inv hm
    have hq := w_slices_Clone_int_int _ _ hx
    dsimp only [P_slices_Clone_int_int] at hq
    have hl9 : mtOf [Blk.mt 3 (cgm_slices_Clone_int_int v3) (cellsOf intD v3)] 0 = some (3, cgm_slices_Clone_int_int v3, cellsOf intD v3) := mtOf_at (by kernel_rfl)
    refine G_semH (v := .ms 1 1 0 v3.length v3.length) (fun H => H ++ [.mt 3 1 (cellsOf intD v3)]) rfl (by kernel_rfl) ?_ ?_
    · intro K hk
      refine E_callOwnN 1 (first := #[]) (cap := #[]) (j := (0, 3)) (ow' := []) (f0 := intD) (l := v3) rfl ?_ ?_ ?_ (ds := [.lst ((List.map intD) p1)]) ?_ hq hl9 ?_ ?_ ?_
      · kernel_rfl
      · kernel_rfl
      · kernel_rfl
      · kernel_rfl
      · exact hk
      · kernel_rfl
      · decide
    obtain ⟨_, hx, hm⟩ := bind_inv hm
    have hq := w_core_stays_b7a05 _ _ hx
    dsimp only [P_core_stays_b7a05] at hq
    refine G_callB hq ?_
    refine G_run 6 ?_
    refine G_end ⟨by kernel_rfl, ?_⟩
    refine R_ret ?_
    obtain ⟨rfl, rfl, rfl⟩ := inj3 hm
    exact ⟨trivial, fin_pure (by kernel_rfl)⟩
  replace hm := neg_inv (show ¬ p0.kind = 1 from hc) hm
  by_cases hc : p0.kind = ((2 : Nat) : Int)
  · replace hm := pos_inv (show p0.kind = 2 from hc) hm
    refine I_gfun 2 3 2 [(intD 0), (.raw .nilFunc), (.raw .nilFunc), (intD 0), (.raw (.func (.func 246) #[] #[])), (.raw (.func (.func 247) #[] #[])), (intD 1), (.raw (.func (.func 248) #[] #[])), (.raw (.func (.func 249) #[] #[])), (intD 1), (.raw (.func (.func 250) #[] #[])), (.raw (.func (.func 251) #[] #[])), (intD 1), (.raw (.func (.func 252) #[] #[])), (.raw (.func (.func 253) #[] #[])), (intD 1), (.raw (.func (.func 254) #[] #[])), (.raw (.func (.func 255) #[] #[])), (intD 1), (.raw (.func (.func 246) #[] #[])), (.raw (.func (.func 256) #[] #[])), (intD 2), (.raw (.func (.func 257) #[] #[])), (.raw (.func (.func 258) #[] #[]))] p0.kind (.raw (.func (.func 249) #[] #[])) hc ?_
    refine G_run 2 ?_
    obtain ⟨v4, hx, hm⟩ := bind_inv hm
    have hq := w_slices_Clone_int_int _ _ hx
    dsimp only [P_slices_Clone_int_int] at hq
    have hl9 : mtOf [Blk.mt 3 (cgm_slices_Clone_int_int v4) (cellsOf intD v4)] 0 = some (3, cgm_slices_Clone_int_int v4, cellsOf intD v4) := mtOf_at (by kernel_rfl)
    refine G_semH (v := .ms 1 1 0 v4.length v4.length) (fun H => H ++ [.mt 3 1 (cellsOf intD v4)]) rfl (by kernel_rfl) ?_ ?_
    · intro K hk
      refine E_callOwnN 1 (first := #[]) (cap := #[]) (j := (0, 3)) (ow' := []) (f0 := intD) (l := v4) rfl ?_ ?_ ?_ (ds := [.lst ((List.map intD) p1)]) ?_ hq hl9 ?_ ?_ ?_
      · kernel_rfl
      · kernel_rfl
      · kernel_rfl
      · kernel_rfl
      · exact hk
      · kernel_rfl
      · decide
    obtain ⟨out, hx, hm⟩ := bind_inv hm
    rcases out with v5 | v6
    · have hq := w_core_stepWindow_b7a05 _ _ hx
      dsimp only [P_core_stepWindow_b7a05] at hq
      refine G_callB hq ?_
      refine G_run 6 ?_
      refine G_end ⟨by kernel_rfl, ?_⟩
      refine R_ret ?_
      obtain ⟨rfl, rfl, rfl⟩ := inj3 hm
      exact ⟨trivial, fin_pure (by kernel_rfl)⟩
    · have hq := w_core_stepWindow_b7a05 _ _ hx
      dsimp only [P_core_stepWindow_b7a05] at hq
      refine G_callB hq ?_
      refine G_run 6 ?_
      refine G_end ⟨by kernel_rfl, ?_⟩
      refine R_ret ?_
      obtain ⟨_, hl7, hm⟩ := bind_inv hm
      replace hl7 := guard_inv hl7
      obtain ⟨rfl, rfl, rfl⟩ := inj3 hm
      exact ⟨trivial, fin_pureX [(intPV 0), (.ms 1 1 0 v4.length v4.length), (boolPV true)] (by kernel_rfl) (po_tup (ps_cons (by kernel_rfl) (ps_cons (p1_ms (pc_ms (e := 3) intD v6 hl7 (fun _ => rfl) (by kernel_rfl))) (ps_cons (by kernel_rfl) ps_nil))))⟩
  replace hm := neg_inv (show ¬ p0.kind = 2 from hc) hm
  by_cases hc : p0.kind = ((3 : Nat) : Int)
  · replace hm := pos_inv (show p0.kind = 3 from hc) hm
    refine I_gfun 3 3 2 [(intD 0), (.raw .nilFunc), (.raw .nilFunc), (intD 0), (.raw (.func (.func 246) #[] #[])), (.raw (.func (.func 247) #[] #[])), (intD 1), (.raw (.func (.func 248) #[] #[])), (.raw (.func (.func 249) #[] #[])), (intD 1), (.raw (.func (.func 250) #[] #[])), (.raw (.func (.func 251) #[] #[])), (intD 1), (.raw (.func (.func 252) #[] #[])), (.raw (.func (.func 253) #[] #[])), (intD 1), (.raw (.func (.func 254) #[] #[])), (.raw (.func (.func 255) #[] #[])), (intD 1), (.raw (.func (.func 246) #[] #[])), (.raw (.func (.func 256) #[] #[])), (intD 2), (.raw (.func (.func 257) #[] #[])), (.raw (.func (.func 258) #[] #[]))] p0.kind (.raw (.func (.func 251) #[] #[])) hc ?_
    refine G_run 2 ?_
    obtain ⟨v8, hx, hm⟩ := bind_inv hm
    have hq := w_slices_Clone_int_int _ _ hx
    dsimp only [P_slices_Clone_int_int] at hq
    have hl9 : mtOf [Blk.mt 3 (cgm_slices_Clone_int_int v8) (cellsOf intD v8)] 0 = some (3, cgm_slices_Clone_int_int v8, cellsOf intD v8) := mtOf_at (by kernel_rfl)
    refine G_semH (v := .ms 1 1 0 v8.length v8.length) (fun H => H ++ [.mt 3 1 (cellsOf intD v8)]) rfl (by kernel_rfl) ?_ ?_
    · intro K hk
      refine E_callOwnN 1 (first := #[]) (cap := #[]) (j := (0, 3)) (ow' := []) (f0 := intD) (l := v8) rfl ?_ ?_ ?_ (ds := [.lst ((List.map intD) p1)]) ?_ hq hl9 ?_ ?_ ?_
      · kernel_rfl
      · kernel_rfl
      · kernel_rfl
      · kernel_rfl
      · exact hk
      · kernel_rfl
      · decide
    obtain ⟨v9, hx, hm⟩ := bind_inv hm
    have hq := w_core_stepReverse_b7a05 _ _ hx
    dsimp only [P_core_stepReverse_b7a05] at hq
    refine G_callB hq ?_
    refine G_run 6 ?_
    refine G_end ⟨by kernel_rfl, ?_⟩
    refine R_ret ?_
    obtain ⟨_, hl10, hm⟩ := bind_inv hm
    replace hl10 := guard_inv hl10
    obtain ⟨rfl, rfl, rfl⟩ := inj3 hm
    exact ⟨trivial, fin_pureX [(intPV 0), (.ms 1 1 0 v8.length v8.length), (boolPV true)] (by kernel_rfl) (po_tup (ps_cons (by kernel_rfl) (ps_cons (p1_ms (pc_ms (e := 3) intD v9 hl10 (fun _ => rfl) (by kernel_rfl))) (ps_cons (by kernel_rfl) ps_nil))))⟩
  replace hm := neg_inv (show ¬ p0.kind = 3 from hc) hm
  by_cases hc : p0.kind = ((4 : Nat) : Int)
  · replace hm := pos_inv (show p0.kind = 4 from hc) hm
    refine I_gfun 4 3 2 [(intD 0), (.raw .nilFunc), (.raw .nilFunc), (intD 0), (.raw (.func (.func 246) #[] #[])), (.raw (.func (.func 247) #[] #[])), (intD 1), (.raw (.func (.func 248) #[] #[])), (.raw (.func (.func 249) #[] #[])), (intD 1), (.raw (.func (.func 250) #[] #[])), (.raw (.func (.func 251) #[] #[])), (intD 1), (.raw (.func (.func 252) #[] #[])), (.raw (.func (.func 253) #[] #[])), (intD 1), (.raw (.func (.func 254) #[] #[])), (.raw (.func (.func 255) #[] #[])), (intD 1), (.raw (.func (.func 246) #[] #[])), (.raw (.func (.func 256) #[] #[])), (intD 2), (.raw (.func (.func 257) #[] #[])), (.raw (.func (.func 258) #[] #[]))] p0.kind (.raw (.func (.func 253) #[] #[])) hc ?_
    refine G_run 2 ?_
    obtain ⟨v11, hx, hm⟩ := bind_inv hm
    have hq := w_slices_Clone_int_int _ _ hx
    dsimp only [P_slices_Clone_int_int] at hq
    have hl9 : mtOf [Blk.mt 3 (cgm_slices_Clone_int_int v11) (cellsOf intD v11)] 0 = some (3, cgm_slices_Clone_int_int v11, cellsOf intD v11) := mtOf_at (by kernel_rfl)
    refine G_semH (v := .ms 1 1 0 v11.length v11.length) (fun H => H ++ [.mt 3 1 (cellsOf intD v11)]) rfl (by kernel_rfl) ?_ ?_
    · intro K hk
      refine E_callOwnN 1 (first := #[]) (cap := #[]) (j := (0, 3)) (ow' := []) (f0 := intD) (l := v11) rfl ?_ ?_ ?_ (ds := [.lst ((List.map intD) p1)]) ?_ hq hl9 ?_ ?_ ?_
      · kernel_rfl
      · kernel_rfl
      · kernel_rfl
      · kernel_rfl
      · exact hk
      · kernel_rfl
      · decide
    obtain ⟨v12, hx, hm⟩ := bind_inv hm
    have hq := w_core_stepRotate_b7a05 _ _ hx
    dsimp only [P_core_stepRotate_b7a05] at hq
    refine G_callB hq ?_
    refine G_run 6 ?_
    refine G_end ⟨by kernel_rfl, ?_⟩
    refine R_ret ?_
    obtain ⟨_, hl13, hm⟩ := bind_inv hm
    replace hl13 := guard_inv hl13
    obtain ⟨rfl, rfl, rfl⟩ := inj3 hm
    exact ⟨trivial, fin_pureX [(intPV 0), (.ms 1 1 0 v11.length v11.length), (boolPV true)] (by kernel_rfl) (po_tup (ps_cons (by kernel_rfl) (ps_cons (p1_ms (pc_ms (e := 3) intD v12 hl13 (fun _ => rfl) (by kernel_rfl))) (ps_cons (by kernel_rfl) ps_nil))))⟩
  replace hm := neg_inv (show ¬ p0.kind = 4 from hc) hm
  by_cases hc : p0.kind = ((5 : Nat) : Int)
  · replace hm := pos_inv (show p0.kind = 5 from hc) hm
    refine I_gfun 5 3 2 [(intD 0), (.raw .nilFunc), (.raw .nilFunc), (intD 0), (.raw (.func (.func 246) #[] #[])), (.raw (.func (.func 247) #[] #[])), (intD 1), (.raw (.func (.func 248) #[] #[])), (.raw (.func (.func 249) #[] #[])), (intD 1), (.raw (.func (.func 250) #[] #[])), (.raw (.func (.func 251) #[] #[])), (intD 1), (.raw (.func (.func 252) #[] #[])), (.raw (.func (.func 253) #[] #[])), (intD 1), (.raw (.func (.func 254) #[] #[])), (.raw (.func (.func 255) #[] #[])), (intD 1), (.raw (.func (.func 246) #[] #[])), (.raw (.func (.func 256) #[] #[])), (intD 2), (.raw (.func (.func 257) #[] #[])), (.raw (.func (.func 258) #[] #[]))] p0.kind (.raw (.func (.func 255) #[] #[])) hc ?_
    refine G_run 2 ?_
    obtain ⟨v14, hx, hm⟩ := bind_inv hm
    have hq := w_slices_Clone_int_int _ _ hx
    dsimp only [P_slices_Clone_int_int] at hq
    have hl9 : mtOf [Blk.mt 3 (cgm_slices_Clone_int_int v14) (cellsOf intD v14)] 0 = some (3, cgm_slices_Clone_int_int v14, cellsOf intD v14) := mtOf_at (by kernel_rfl)
    refine G_semH (v := .ms 1 1 0 v14.length v14.length) (fun H => H ++ [.mt 3 1 (cellsOf intD v14)]) rfl (by kernel_rfl) ?_ ?_
    · intro K hk
      refine E_callOwnN 1 (first := #[]) (cap := #[]) (j := (0, 3)) (ow' := []) (f0 := intD) (l := v14) rfl ?_ ?_ ?_ (ds := [.lst ((List.map intD) p1)]) ?_ hq hl9 ?_ ?_ ?_
      · kernel_rfl
      · kernel_rfl
      · kernel_rfl
      · kernel_rfl
      · exact hk
      · kernel_rfl
      · decide
    obtain ⟨v15, hx, hm⟩ := bind_inv hm
    have hq := w_core_stepTranspose_b7a05 _ _ hx
    dsimp only [P_core_stepTranspose_b7a05] at hq
    refine G_callB hq ?_
    refine G_run 6 ?_
    refine G_end ⟨by kernel_rfl, ?_⟩
    refine R_ret ?_
    obtain ⟨rfl, rfl, rfl⟩ := inj3 hm
    exact ⟨trivial, fin_pure (by kernel_rfl)⟩
  replace hm := neg_inv (show ¬ p0.kind = 5 from hc) hm
  by_cases hc : p0.kind = ((6 : Nat) : Int)
  · replace hm := pos_inv (show p0.kind = 6 from hc) hm
    refine I_gfun 6 3 2 [(intD 0), (.raw .nilFunc), (.raw .nilFunc), (intD 0), (.raw (.func (.func 246) #[] #[])), (.raw (.func (.func 247) #[] #[])), (intD 1), (.raw (.func (.func 248) #[] #[])), (.raw (.func (.func 249) #[] #[])), (intD 1), (.raw (.func (.func 250) #[] #[])), (.raw (.func (.func 251) #[] #[])), (intD 1), (.raw (.func (.func 252) #[] #[])), (.raw (.func (.func 253) #[] #[])), (intD 1), (.raw (.func (.func 254) #[] #[])), (.raw (.func (.func 255) #[] #[])), (intD 1), (.raw (.func (.func 246) #[] #[])), (.raw (.func (.func 256) #[] #[])), (intD 2), (.raw (.func (.func 257) #[] #[])), (.raw (.func (.func 258) #[] #[]))] p0.kind (.raw (.func (.func 256) #[] #[])) hc ?_
    refine G_run 2 ?_
    obtain ⟨v16, hx, hm⟩ := bind_inv hm
    have hq := w_slices_Clone_int_int _ _ hx
    dsimp only [P_slices_Clone_int_int] at hq
    have hl9 : mtOf [Blk.mt 3 (cgm_slices_Clone_int_int v16) (cellsOf intD v16)] 0 = some (3, cgm_slices_Clone_int_int v16, cellsOf intD v16) := mtOf_at (by kernel_rfl)
    refine G_semH (v := .ms 1 1 0 v16.length v16.length) (fun H => H ++ [.mt 3 1 (cellsOf intD v16)]) rfl (by kernel_rfl) ?_ ?_
    · intro K hk
      refine E_callOwnN 1 (first := #[]) (cap := #[]) (j := (0, 3)) (ow' := []) (f0 := intD) (l := v16) rfl ?_ ?_ ?_ (ds := [.lst ((List.map intD) p1)]) ?_ hq hl9 ?_ ?_ ?_
      · kernel_rfl
      · kernel_rfl
      · kernel_rfl
      · kernel_rfl
      · exact hk
      · kernel_rfl
      · decide
    obtain ⟨⟨v17, v18⟩, hx, hm⟩ := bind_inv hm
    have hq := w_core_stepReshape_b7a05 _ _ hx
    dsimp only [P_core_stepReshape_b7a05] at hq
    refine G_callB hq ?_
    refine G_run 6 ?_
    refine G_end ⟨by kernel_rfl, ?_⟩
    refine R_ret ?_
    obtain ⟨rfl, rfl, rfl⟩ := inj3 hm
    exact ⟨trivial, fin_pure (by kernel_rfl)⟩
  replace hm := neg_inv (show ¬ p0.kind = 6 from hc) hm
  by_cases hc : p0.kind = ((7 : Nat) : Int)
  · replace hm := pos_inv (show p0.kind = 7 from hc) hm
    refine I_gfun 7 3 2 [(intD 0), (.raw .nilFunc), (.raw .nilFunc), (intD 0), (.raw (.func (.func 246) #[] #[])), (.raw (.func (.func 247) #[] #[])), (intD 1), (.raw (.func (.func 248) #[] #[])), (.raw (.func (.func 249) #[] #[])), (intD 1), (.raw (.func (.func 250) #[] #[])), (.raw (.func (.func 251) #[] #[])), (intD 1), (.raw (.func (.func 252) #[] #[])), (.raw (.func (.func 253) #[] #[])), (intD 1), (.raw (.func (.func 254) #[] #[])), (.raw (.func (.func 255) #[] #[])), (intD 1), (.raw (.func (.func 246) #[] #[])), (.raw (.func (.func 256) #[] #[])), (intD 2), (.raw (.func (.func 257) #[] #[])), (.raw (.func (.func 258) #[] #[]))] p0.kind (.raw (.func (.func 258) #[] #[])) hc ?_
    refine G_run 2 ?_
    obtain ⟨v19, hx, hm⟩ := bind_inv hm
    have hq := w_slices_Clone_int_int _ _ hx
    dsimp only [P_slices_Clone_int_int] at hq
    have hl9 : mtOf [Blk.mt 3 (cgm_slices_Clone_int_int v19) (cellsOf intD v19)] 0 = some (3, cgm_slices_Clone_int_int v19, cellsOf intD v19) := mtOf_at (by kernel_rfl)
    refine G_semH (v := .ms 1 1 0 v19.length v19.length) (fun H => H ++ [.mt 3 1 (cellsOf intD v19)]) rfl (by kernel_rfl) ?_ ?_
    · intro K hk
      refine E_callOwnN 1 (first := #[]) (cap := #[]) (j := (0, 3)) (ow' := []) (f0 := intD) (l := v19) rfl ?_ ?_ ?_ (ds := [.lst ((List.map intD) p1)]) ?_ hq hl9 ?_ ?_ ?_
      · kernel_rfl
      · kernel_rfl
      · kernel_rfl
      · kernel_rfl
      · exact hk
      · kernel_rfl
      · decide
    obtain ⟨⟨v20, v21⟩, hx, hm⟩ := bind_inv hm
    have hq := w_core_stepCatenate_b7a05 _ _ hx
    dsimp only [P_core_stepCatenate_b7a05] at hq
    refine G_callB hq ?_
    refine G_run 6 ?_
    refine G_end ⟨by kernel_rfl, ?_⟩
    refine R_ret ?_
    obtain ⟨_, hl22, hm⟩ := bind_inv hm
    replace hl22 := guard_inv hl22
    obtain ⟨rfl, rfl, rfl⟩ := inj3 hm
    exact ⟨trivial, fin_pureX [(intPV v21), (.ms 1 1 0 v19.length v19.length), (boolPV true)] (by kernel_rfl) (po_tup (ps_cons (by kernel_rfl) (ps_cons (p1_ms (pc_ms (e := 3) intD v20 hl22 (fun _ => rfl) (by kernel_rfl))) (ps_cons (by kernel_rfl) ps_nil))))⟩
  replace hm := neg_inv (show ¬ p0.kind = 7 from hc) hm
  exact (none_inv hm).elim
end Go.Proofs.Tryz
namespace Go.Proofs.Tryz
open Go Go.Pm
set_option linter.unusedVariables false
set_option maxRecDepth 2000
def m_psi_Origin_L1 (x : (Int × (List Int) × Int × (List Int) × Int × Int × (List Int) × (List T_core_Core) × (List Int))) : Option ((Int × (List Int) × Int × (List Int) × Int × Int × (List Int) × (List T_core_Core) × Bool × Int × Int)) :=
  match x with
  | (v202, v203, v204, v205, v206, v207, v208, v209, v210) =>
  if v202 = 1 then
    m_gamma_Offset (v203, v210) >>= fun ((v613, v614) : (Int × Bool)) =>
    some (v202, v203, v204, v205, v206, v207, v208, v209, false, v204, v613)
  else
  m_core_Step ((⟨v202, v203, v204, v205, v206, v207, v208, v209⟩ : T_core_Core), v210) >>= fun ((v615, v616, v617) : (Int × (List Int) × Bool)) =>
  if v617 = false then
    some (v202, v203, v204, v205, v206, v207, v208, v209, true, 0, 0)
  else
  idx v209 v615 >>= fun v618 =>
  m_psi_Origin_L1 (v618.kind, v618.shape, v618.buffer, v618.starts, v618.axis, v618.amount, v618.perm, v618.kids, v616)
  partial_fixpoint
def P_psi_Origin_L1 : (Int × (List Int) × Int × (List Int) × Int × Int × (List Int) × (List T_core_Core) × (List Int)) → (Int × (List Int) × Int × (List Int) × Int × Int × (List Int) × (List T_core_Core) × Bool × Int × Int) → Prop := fun x r => match x with
  | (v202, v203, v204, v205, v206, v207, v208, v209, v210) => ∀ st, prune 3 ((firstRegion (codeAt [1, 0, 1, 1, 1, 0, 0, 0] (bodyOf f21))).bind (env.hint 21).keepAt) st = ⟨kp 49 [(1, (.dat (.lst ((List.map intD) v210)))), (2, (.ptr 0 0)), (4, (.ptr 1 0)), (6, (.ptr 2 0))], [(.box [(intPV v202), (.dat (.lst ((List.map intD) v203))), (intPV v204), (.dat (.lst ((List.map intD) v205))), (intPV v206), (intPV v207), (.dat (.lst ((List.map intD) v208))), (.dat (.lst (T_core_Core.toDs v209)))]), (.box [(boolPV false), (intPV 0), (intPV 0)]), (.box [(boolPV true), (intPV 0), (intPV 0)])]⟩ →
    RL prog env (env.hint 21) true (codeAt [1, 0, 1, 1, 1, 0, 0, 0] (bodyOf f21)) 3 st (fun e s => match r with | (v602, v603, v604, v605, v606, v607, v608, v609, v610, v611, v612) => e = .exit 0 ∧ ∃ d, s = ⟨sl d 49 [(4, (.ptr 1 0)), (6, (.ptr 2 0))], [(.box [(intPV v602), (.dat (.lst ((List.map intD) v603))), (intPV v604), (.dat (.lst ((List.map intD) v605))), (intPV v606), (intPV v607), (.dat (.lst ((List.map intD) v608))), (.dat (.lst (T_core_Core.toDs v609)))]), (.box [(boolPV false), (intPV 0), (intPV 0)]), (.box [(boolPV v610), (intPV v611), (intPV v612)])]⟩)
theorem w_psi_Origin_L1 : ∀ x r, m_psi_Origin_L1 x = some r → P_psi_Origin_L1 x r := by
  refine m_psi_Origin_L1.partial_correctness _ (fun m_psi_Origin_L1 w_psi_Origin_L1 x r hm => ?_)
  unfold P_psi_Origin_L1
  obtain ⟨v202, v203, v204, v205, v206, v207, v208, v209, v210⟩ := x
  intro st hst
  refine RL_at hst ?_
  clear hst
  refine R_block ?_
  refine R_seq ?_
  refine R_seq ?_
  refine R_G ?_
  refine G_run 3 ?_
  refine G_end ?_
  refine R_ifp (p := v202 = 1) (eq_dec _ _) (fun hc => ?_) (fun hc => ?_)
  · replace hm := pos_inv hc hm
    refine R_seq ?_
    refine R_G ?_
    refine G_run 3 ?_
    obtain ⟨⟨v613, v614⟩, hx, hm⟩ := bind_inv hm
    have hq := w_gamma_Offset _ _ hx []
    refine G_callP hq ?_
    refine G_run 5 ?_
    refine G_end ?_
    refine R_seq ?_
    refine R_G ?_
    refine G_run 5 ?_
    refine G_end ?_
    refine R_exit ?_
    obtain rfl := inj1 hm
    exact ⟨rfl, cut_leaf (by kernel_rfl)⟩
  replace hm := neg_inv hc hm
  refine R_skip ?_
  refine R_seq ?_
  refine R_G ?_
  refine G_run 2 ?_
  obtain ⟨⟨v615, v616, v617⟩, hx, hm⟩ := bind_inv hm
  have hq := w_core_Step _ _ hx []
  refine G_callP hq ?_
  refine G_run 7 ?_
  refine G_end ?_
  refine R_seq ?_
  refine R_seq ?_
  refine R_G ?_
  refine G_run 2 ?_
  refine G_end ?_
  refine R_ifp (p := v617 = false) (not_dec _) (fun hc => ?_) (fun hc => ?_)
  · replace hm := pos_inv hc hm
    refine R_exit ?_
    obtain rfl := inj1 hm
    exact ⟨rfl, cut_leaf (by kernel_rfl)⟩
  replace hm := neg_inv hc hm
  refine R_skip ?_
  refine R_G ?_
  refine G_run 3 ?_
  obtain ⟨v618, hx, hm⟩ := bind_inv hm
  refine I_idx 8 T_core_Core.toD v209 v615 v618 (es := T_core_Core.toDs v209) (d := (T_core_Core.ex v618)) (T_core_Core.toDs_eq _) hx (T_core_Core.toD_eq v618) rfl ?_
  refine G_run 4 ?_
  refine G_end ?_
  exact w_psi_Origin_L1 _ _ hm _ (by kernel_rfl)
def m_psi_Origin (x : (T_core_Core × (List Int))) : Option (T_psi_Cell × Bool) :=
  match x with
  | (p0, p1) =>
  m_gamma_Valid (p0.shape, p1) >>= fun (v1 : Bool) =>
  if v1 = false then
    some ((⟨false, 0, 0⟩ : T_psi_Cell), false)
  else
  m_psi_Origin_L1 (p0.kind, p0.shape, p0.buffer, p0.starts, p0.axis, p0.amount, p0.perm, p0.kids, p1) >>= fun ((v602, v603, v604, v605, v606, v607, v608, v609, v610, v611, v612) : (Int × (List Int) × Int × (List Int) × Int × Int × (List Int) × (List T_core_Core) × Bool × Int × Int)) =>
  some ((⟨v610, v611, v612⟩ : T_psi_Cell), true)
def P_psi_Origin : (T_core_Core × (List Int)) → (T_psi_Cell × Bool) → Prop := fun x r => match x, r with
  | (p0, p1), (r0, r1) => ∀ H, PC prog env 21 ([(T_core_Core.ex p0), (.lst ((List.map intD) p1))].map .dat) H (.tup [(.dat (T_psi_Cell.toD r0)), (boolPV r1)]) H
theorem w_psi_Origin : ∀ x r, m_psi_Origin x = some r → P_psi_Origin x r := by
  intro x r hm
  unfold m_psi_Origin at hm
  unfold P_psi_Origin
  obtain ⟨p0, p1⟩ := x
  obtain ⟨r0, r1⟩ := r
  intro H
  refine PC_sx (ds := [(T_core_Core.ex p0), (.lst ((List.map intD) p1))]) (fn := f21) (by kernel_rfl) (by kernel_rfl) rfl ?_ (by kernel_rfl)
  refine R_seq ?_
  refine R_G ?_
  refine G_run 3 ?_
  refine G_end ?_
  refine R_scope ?_
  refine R_seq ?_
  refine R_seq ?_
  refine R_G ?_
  refine G_run 3 ?_
  obtain ⟨v1, hx, hm⟩ := bind_inv hm
  have hq := w_gamma_Valid _ _ hx []
  refine G_callP hq ?_
  refine G_run 1 ?_
  refine G_end ?_
  refine R_ifp (p := v1 = false) (not_dec _) (fun hc => ?_) (fun hc => ?_)
  · replace hm := pos_inv hc hm
    refine R_seq ?_
    refine R_G ?_
    refine G_run 3 ?_
    refine G_end ?_
    refine R_ret ?_
    obtain ⟨rfl, rfl⟩ := inj2 hm
    exact ⟨trivial, fin_pure (by kernel_rfl)⟩
  replace hm := neg_inv hc hm
  refine R_skip ?_
  refine R_seq ?_
  refine R_G ?_
  refine G_run 3 ?_
  refine G_end ?_
  refine R_seq ?_
  refine R_label ?_
  refine R_seq ?_
  refine R_block ?_
  obtain ⟨⟨v602, v603, v604, v605, v606, v607, v608, v609, v610, v611, v612⟩, hs, hm⟩ := bind_inv hm
  refine R_loop ?_
  refine RL_use (w_psi_Origin_L1 _ _ hs) (by kernel_rfl) ?_
  clear hs
  intro e s hp
  obtain ⟨rfl, d, rfl⟩ := hp
  refine R_seq ?_
  refine R_G ?_
  refine G_run 3 ?_
  refine G_end ?_
  refine R_ret ?_
  obtain ⟨rfl, rfl⟩ := inj2 hm
  exact ⟨trivial, fin_pure (by kernel_rfl)⟩
end Go.Proofs.Tryz
namespace Go.Proofs.Tryz
open Go Go.Pm
set_option linter.unusedVariables false
set_option maxRecDepth 2000
def m_ref03_Valid_L1 (x : ((List Int) × (List Int) × Int)) : Option (Unit ⊕ Unit) :=
  match x with
  | (p0, p1, v201) =>
  if v201 < (p0.length : Int) then
    (idx p1 v201 >>= fun v602 =>
    if v602 < 0 then
      some true
    else
    idx p1 v201 >>= fun v603 =>
    idx p0 v201 >>= fun v604 =>
    some (decide (v603 ≥ v604))
    ) >>= fun (v601 : Bool) =>
    if v601 = true then
      some (Sum.inl ())
    else
    m_ref03_Valid_L1 (p0, p1, (W (v201 + 1)))
  else
  some (Sum.inr ())
  partial_fixpoint
def P_ref03_Valid_L1 : ((List Int) × (List Int) × Int) → (Unit ⊕ Unit) → Prop := fun x r => match x with
  | (p0, p1, v201) => ∀ st, prune 0 ((firstRegion (codeAt [1, 1, 0, 1, 0, 0] (bodyOf f22))).bind (env.hint 22).keepAt) st = ⟨kp 33 [(0, (.dat (.lst ((List.map intD) p0)))), (1, (.dat (.lst ((List.map intD) p1)))), (5, (intPV v201))], []⟩ →
    RL prog env (env.hint 22) true (codeAt [1, 1, 0, 1, 0, 0] (bodyOf f22)) 0 st (fun e s => match r with | .inl _ => e = .ret ∧ ∃ d, s = ⟨sl d 33 [(4, (boolPV false))], []⟩ | .inr (_) => e = .exit 0 ∧ ∃ d, s = ⟨sl d 33 [], []⟩)
theorem w_ref03_Valid_L1 : ∀ x r, m_ref03_Valid_L1 x = some r → P_ref03_Valid_L1 x r := by
  refine m_ref03_Valid_L1.partial_correctness _ (fun m_ref03_Valid_L1 w_ref03_Valid_L1 x r hm => ?_)
  unfold P_ref03_Valid_L1
  obtain ⟨p0, p1, v201⟩ := x
  intro st hst
  refine RL_at hst ?_
  clear hst
  refine R_seq ?_
  refine R_seq ?_
  refine R_G ?_
  refine G_run 2 ?_
  refine I_len intD p0 (es := (List.map intD) p0) rfl ?_
  refine G_run 1 ?_
  refine G_end ?_
  refine R_ifp (p := v201 < (p0.length : Int)) (rfl) (fun hc => ?_) (fun hc => ?_)
  · replace hm := pos_inv hc hm
    refine R_skip ?_
    refine R_seq ?_
    refine R_block ?_
    refine R_seq ?_
    obtain ⟨v601, hs, hm⟩ := bind_inv hm
    refine R_cut (fun d => ⟨sl d 33 [(0, (.dat (.lst ((List.map intD) p0)))), (1, (.dat (.lst ((List.map intD) p1)))), (5, (intPV v201)), (32, (boolPV v601))], []⟩) ?_ (fun d => ?_)
    · replace hm := hs
      clear hs
      refine R_GD ?_
      refine G_run 2 ?_
      obtain ⟨v602, hx, hm⟩ := bind_inv hm
      refine I_idx 1 intD p1 v201 v602 (es := (List.map intD) p1) (d := (intD v602)) rfl hx rfl rfl ?_
      refine G_run 3 ?_
      refine G_split (p := v602 < 0) 22 (rfl) (fun hc => ?_) (fun hc => ?_)
      · replace hm := pos_inv hc hm
        refine G_run 10 ?_
        refine G_end ⟨by kernel_rfl, ?_⟩
        obtain rfl := inj1 hm
        exact cut_leaf (by kernel_rfl)
      replace hm := neg_inv hc hm
      refine G_run 2 ?_
      obtain ⟨v603, hx, hm⟩ := bind_inv hm
      refine I_idx 1 intD p1 v201 v603 (es := (List.map intD) p1) (d := (intD v603)) rfl hx rfl rfl ?_
      refine G_run 3 ?_
      obtain ⟨v604, hx, hm⟩ := bind_inv hm
      refine I_idx 1 intD p0 v201 v604 (es := (List.map intD) p0) (d := (intD v604)) rfl hx rfl rfl ?_
      refine G_run 3 ?_
      refine G_end ⟨by kernel_rfl, ?_⟩
      obtain rfl := inj1 hm
      exact cut_leaf (by kernel_rfl)
    clear hs
    refine R_ifp (p := v601 = true) (bool_dec _) (fun hc => ?_) (fun hc => ?_)
    · replace hm := pos_inv hc hm
      refine R_seq ?_
      refine R_G ?_
      refine G_run 1 ?_
      refine G_end ?_
      refine R_ret ?_
      obtain rfl := inj1 hm
      exact ⟨rfl, cut_leaf (by kernel_rfl)⟩
    replace hm := neg_inv hc hm
    refine R_skip ?_
    refine R_G ?_
    refine G_run 3 ?_
    refine G_end ?_
    exact w_ref03_Valid_L1 _ _ hm _ (by kernel_rfl)
  replace hm := neg_inv hc hm
  refine R_exit ?_
  obtain rfl := inj1 hm
  exact ⟨rfl, cut_leaf (by kernel_rfl)⟩
def m_ref03_Valid (x : ((List Int) × (List Int))) : Option Bool :=
  match x with
  | (p0, p1) =>
  if (p0.length : Int) ≠ (p1.length : Int) then
    some false
  else
  (
  m_ref03_Valid_L1 (p0, p1, 0) >>= fun (out : Unit ⊕ Unit) =>
  match out with
  | .inl _ =>
    some false
  | .inr (_) =>
    some true
  )
def P_ref03_Valid : ((List Int) × (List Int)) → Bool → Prop := fun x r => match x, r with
  | (p0, p1), r0 => ∀ H, PC prog env 22 ([(.lst ((List.map intD) p0)), (.lst ((List.map intD) p1))].map .dat) H (boolPV r0) H
theorem w_ref03_Valid : ∀ x r, m_ref03_Valid x = some r → P_ref03_Valid x r := by
  intro x r0 hm
  unfold m_ref03_Valid at hm
  unfold P_ref03_Valid
  obtain ⟨p0, p1⟩ := x
  intro H
  refine PC_sx (ds := [(.lst ((List.map intD) p0)), (.lst ((List.map intD) p1))]) (fn := f22) (by kernel_rfl) (by kernel_rfl) rfl ?_ (by kernel_rfl)
  refine R_seq ?_
  refine R_G ?_
  refine G_run 1 ?_
  refine G_end ?_
  refine R_seq ?_
  refine R_seq ?_
  refine R_G ?_
  refine G_run 1 ?_
  refine I_len intD p0 (es := (List.map intD) p0) rfl ?_
  refine G_run 1 ?_
  refine I_len intD p1 (es := (List.map intD) p1) rfl ?_
  refine G_run 1 ?_
  refine G_end ?_
  refine R_ifp (p := (p0.length : Int) ≠ (p1.length : Int)) (ne_dec _ _) (fun hc => ?_) (fun hc => ?_)
  · replace hm := pos_inv hc hm
    refine R_seq ?_
    refine R_G ?_
    refine G_run 1 ?_
    refine G_end ?_
    refine R_ret ?_
    obtain rfl := inj1 hm
    exact ⟨trivial, fin_pure (by kernel_rfl)⟩
  replace hm := neg_inv hc hm
  refine R_skip ?_
  refine R_seq ?_
  refine R_seq ?_
  refine R_G ?_
  refine G_run 1 ?_
  refine G_end ?_
  refine R_block ?_
  obtain ⟨out, hs, hm⟩ := bind_inv hm
  refine R_loop ?_
  rcases out with _ | _
  · refine RL_use (w_ref03_Valid_L1 _ _ hs) (by kernel_rfl) ?_
    clear hs
    intro e s hp
    obtain ⟨rfl, d, rfl⟩ := hp
    obtain rfl := inj1 hm
    exact ⟨trivial, fin_pure (by kernel_rfl)⟩
  · refine RL_use (w_ref03_Valid_L1 _ _ hs) (by kernel_rfl) ?_
    clear hs
    intro e s hp
    obtain ⟨rfl, d, rfl⟩ := hp
    refine R_seq ?_
    refine R_G ?_
    refine G_run 1 ?_
    refine G_end ?_
    refine R_ret ?_
    obtain rfl := inj1 hm
    exact ⟨trivial, fin_pure (by kernel_rfl)⟩
end Go.Proofs.Tryz
namespace Go.Proofs.Tryz
open Go Go.Pm
set_option linter.unusedVariables false
set_option maxRecDepth 2000
def m_ref03_Offset_L1 (x : ((List Int) × (List Int) × Int × Int)) : Option (Int) :=
  match x with
  | (p0, p1, v202, v203) =>
  if v203 < (p0.length : Int) then
    idx p0 v203 >>= fun v603 =>
    idx p1 v203 >>= fun v604 =>
    m_ref03_Offset_L1 (p0, p1, (W ((W (v202 * v603)) + v604)), (W (v203 + 1)))
  else
  some v202
  partial_fixpoint
def P_ref03_Offset_L1 : ((List Int) × (List Int) × Int × Int) → Int → Prop := fun x r => match x with
  | (p0, p1, v202, v203) => ∀ st, prune 0 ((firstRegion (codeAt [1, 1, 1, 0, 1, 0, 0] (bodyOf f37))).bind (env.hint 37).keepAt) st = ⟨kp 29 [(0, (.dat (.lst ((List.map intD) p0)))), (1, (.dat (.lst ((List.map intD) p1)))), (5, (intPV v202)), (6, (intPV v203))], []⟩ →
    RL prog env (env.hint 37) true (codeAt [1, 1, 1, 0, 1, 0, 0] (bodyOf f37)) 0 st (fun e s => match r with | v602 => e = .exit 0 ∧ ∃ d, s = ⟨sl d 29 [(5, (intPV v602))], []⟩)
theorem w_ref03_Offset_L1 : ∀ x r, m_ref03_Offset_L1 x = some r → P_ref03_Offset_L1 x r := by
  refine m_ref03_Offset_L1.partial_correctness _ (fun m_ref03_Offset_L1 w_ref03_Offset_L1 x r hm => ?_)
  unfold P_ref03_Offset_L1
  obtain ⟨p0, p1, v202, v203⟩ := x
  intro st hst
  refine RL_at hst ?_
  clear hst
  refine R_seq ?_
  refine R_seq ?_
  refine R_G ?_
  refine G_run 2 ?_
  refine I_len intD p0 (es := (List.map intD) p0) rfl ?_
  refine G_run 1 ?_
  refine G_end ?_
  refine R_ifp (p := v203 < (p0.length : Int)) (rfl) (fun hc => ?_) (fun hc => ?_)
  · replace hm := pos_inv hc hm
    refine R_skip ?_
    refine R_seq ?_
    refine R_block ?_
    refine R_GD ?_
    refine G_run 3 ?_
    obtain ⟨v603, hx, hm⟩ := bind_inv hm
    refine I_idx 1 intD p0 v203 v603 (es := (List.map intD) p0) (d := (intD v603)) rfl hx rfl rfl ?_
    refine G_run 4 ?_
    obtain ⟨v604, hx, hm⟩ := bind_inv hm
    refine I_idx 1 intD p1 v203 v604 (es := (List.map intD) p1) (d := (intD v604)) rfl hx rfl rfl ?_
    refine G_run 3 ?_
    refine G_end ⟨by kernel_rfl, ?_⟩
    refine R_G ?_
    refine G_run 3 ?_
    refine G_end ?_
    exact w_ref03_Offset_L1 _ _ hm _ (by kernel_rfl)
  replace hm := neg_inv hc hm
  refine R_exit ?_
  obtain rfl := inj1 hm
  exact ⟨rfl, cut_leaf (by kernel_rfl)⟩
def m_ref03_Offset (x : ((List Int) × (List Int))) : Option Int :=
  match x with
  | (p0, p1) =>
  m_ref03_Valid (p0, p1) >>= fun (v1 : Bool) =>
  if v1 = false then
    some (-1)
  else
  m_ref03_Offset_L1 (p0, p1, 0, 0) >>= fun (v602 : Int) =>
  some v602
def P_ref03_Offset : ((List Int) × (List Int)) → Int → Prop := fun x r => match x, r with
  | (p0, p1), r0 => ∀ H, PC prog env 37 ([(.lst ((List.map intD) p0)), (.lst ((List.map intD) p1))].map .dat) H (intPV r0) H
theorem w_ref03_Offset : ∀ x r, m_ref03_Offset x = some r → P_ref03_Offset x r := by
  intro x r0 hm
  unfold m_ref03_Offset at hm
  unfold P_ref03_Offset
  obtain ⟨p0, p1⟩ := x
  intro H
  refine PC_sx (ds := [(.lst ((List.map intD) p0)), (.lst ((List.map intD) p1))]) (fn := f37) (by kernel_rfl) (by kernel_rfl) rfl ?_ (by kernel_rfl)
  refine R_seq ?_
  refine R_G ?_
  refine G_run 1 ?_
  refine G_end ?_
  refine R_seq ?_
  refine R_seq ?_
  refine R_G ?_
  refine G_run 2 ?_
  obtain ⟨v1, hx, hm⟩ := bind_inv hm
  have hq := w_ref03_Valid _ _ hx []
  refine G_callP hq ?_
  refine G_run 1 ?_
  refine G_end ?_
  refine R_ifp (p := v1 = false) (not_dec _) (fun hc => ?_) (fun hc => ?_)
  · replace hm := pos_inv hc hm
    refine R_seq ?_
    refine R_G ?_
    refine G_run 1 ?_
    refine G_end ?_
    refine R_ret ?_
    obtain rfl := inj1 hm
    exact ⟨trivial, fin_pure (by kernel_rfl)⟩
  replace hm := neg_inv hc hm
  refine R_skip ?_
  refine R_seq ?_
  refine R_G ?_
  refine G_run 1 ?_
  refine G_end ?_
  refine R_seq ?_
  refine R_seq ?_
  refine R_G ?_
  refine G_run 1 ?_
  refine G_end ?_
  refine R_block ?_
  obtain ⟨v602, hs, hm⟩ := bind_inv hm
  refine R_loop ?_
  refine RL_use (w_ref03_Offset_L1 _ _ hs) (by kernel_rfl) ?_
  clear hs
  intro e s hp
  obtain ⟨rfl, d, rfl⟩ := hp
  refine R_seq ?_
  refine R_G ?_
  refine G_run 2 ?_
  refine G_end ?_
  refine R_ret ?_
  obtain rfl := inj1 hm
  exact ⟨trivial, fin_pure (by kernel_rfl)⟩
end Go.Proofs.Tryz
namespace Go.Proofs.Tryz
open Go Go.Pm
set_option linter.unusedVariables false
set_option maxRecDepth 2000
def m_ref03_Index_L1 (x : ((List Int) × (List Int) × (List Int) × Int × Int)) : Option ((List Int)) :=
  match x with
  | (p0, v1, v202, v203, v204) =>
  if v204 ≥ 0 then
    idx p0 v204 >>= fun v603 =>
    remM v203 v603 >>= fun v604 =>
    guardM (v202.length = v1.length) >>= fun (_ : Unit) =>
    idx v202 v204 >>= fun v605 =>
    setM v202 v204 v604 >>= fun v607 =>
    idx p0 v204 >>= fun v608 =>
    quoM v203 v608 >>= fun v609 =>
    m_ref03_Index_L1 (p0, v1, v607, v609, (W (v204 - 1)))
  else
  some v202
  partial_fixpoint
def P_ref03_Index_L1 : ((List Int) × (List Int) × (List Int) × Int × Int) → (List Int) → Prop := fun x r => match x with
  | (p0, v1, v202, v203, v204) => ∀ st, prune 1 ((firstRegion (codeAt [1, 1, 0, 1, 0, 0] (bodyOf f82))).bind (env.hint 82).keepAt) st = ⟨kp 33 [(0, (.dat (.lst ((List.map intD) p0)))), (1, (intPV v203)), (5, (.arr 0 0 v1.length v1.length)), (6, (intPV v204))], [(.box (cellsOf intD v202))]⟩ →
    RL prog env (env.hint 82) true (codeAt [1, 1, 0, 1, 0, 0] (bodyOf f82)) 1 st (fun e s => match r with | v602 => e = .exit 0 ∧ ∃ d, s = ⟨sl d 33 [(5, (.arr 0 0 v1.length v1.length))], [(.box (cellsOf intD v602))]⟩)
theorem w_ref03_Index_L1 : ∀ x r, m_ref03_Index_L1 x = some r → P_ref03_Index_L1 x r := by
  refine m_ref03_Index_L1.partial_correctness _ (fun m_ref03_Index_L1 w_ref03_Index_L1 x r hm => ?_)
  unfold P_ref03_Index_L1
  obtain ⟨p0, v1, v202, v203, v204⟩ := x
  intro st hst
  refine RL_at hst ?_
  clear hst
  refine R_seq ?_
  refine R_seq ?_
  refine R_G ?_
  refine G_run 2 ?_
  refine G_end ?_
  refine R_ifp (p := v204 ≥ 0) (rfl) (fun hc => ?_) (fun hc => ?_)
  · replace hm := pos_inv hc hm
    refine R_skip ?_
    refine R_seq ?_
    refine R_block ?_
    refine R_seq ?_
    refine R_G ?_
    refine G_run 5 ?_
    obtain ⟨v603, hx, hm⟩ := bind_inv hm
    refine I_idx 1 intD p0 v204 v603 (es := (List.map intD) p0) (d := (intD v603)) rfl hx rfl rfl ?_
    refine G_run 1 ?_
    obtain ⟨v604, hx, hm⟩ := bind_inv hm
    refine G_semN rfl (by kernel_rfl) (fun _ => E_rem (a := v203) (b := v603) hx rfl (by kernel_rfl) (by kernel_rfl)) ?_
    obtain ⟨_, hl606, hm⟩ := bind_inv hm
    replace hl606 := guard_inv hl606
    obtain ⟨v605, hx, hm⟩ := bind_inv hm
    refine G_semN rfl (by kernel_rfl) (fun _ => E_ixBox (e := 3) (l := v202) (n := v204) (i := 0) (cap := v1.length) (m := v1.length) hx hl606 (by kernel_rfl) (by kernel_rfl) rfl (by kernel_rfl) (by kernel_rfl)) ?_
    obtain ⟨v607, hx, hm⟩ := bind_inv hm
    refine G_semH (fun H => H.set 0 (.box (cellsOf intD v607))) rfl (by kernel_rfl) (fun _ => E_stBox intD (l := v202) (n := v204) (y := v604) hx (fun _ => rfl) (by kernel_rfl) rfl (by kernel_rfl) (by kernel_rfl) (by kernel_rfl)) ?_
    refine G_end ?_
    refine R_G ?_
    refine G_run 3 ?_
    obtain ⟨v608, hx, hm⟩ := bind_inv hm
    refine I_idx 1 intD p0 v204 v608 (es := (List.map intD) p0) (d := (intD v608)) rfl hx rfl rfl ?_
    refine G_run 1 ?_
    obtain ⟨v609, hx, hm⟩ := bind_inv hm
    refine G_semN rfl (by kernel_rfl) (fun _ => E_quo (a := v203) (b := v608) hx rfl (by kernel_rfl) (by kernel_rfl)) ?_
    refine G_run 1 ?_
    refine G_end ?_
    refine R_G ?_
    refine G_run 3 ?_
    refine G_end ?_
    exact w_ref03_Index_L1 _ _ hm _ (prune_of2 [(.box (cellsOf intD v607))] (fun _ => (pg_cons (purge_box intD _ _ _) pg_nil)) rfl)
  replace hm := neg_inv hc hm
  refine R_exit ?_
  obtain rfl := inj1 hm
  exact ⟨rfl, cut_leaf (by kernel_rfl)⟩
def m_ref03_Index (x : ((List Int) × Int)) : Option (List Int) :=
  match x with
  | (p0, p1) =>
  makeM 8 (p0.length : Int) 0 >>= fun v1 =>
  m_ref03_Index_L1 (p0, v1, v1, p1, (W ((p0.length : Int) - 1))) >>= fun (v602 : (List Int)) =>
  guardM (v602.length = v1.length) >>= fun (_ : Unit) =>
  some v602
def P_ref03_Index : ((List Int) × Int) → (List Int) → Prop := fun x r => match x, r with
  | (p0, p1), r0 => ∀ H, PC prog env 82 ([(.lst ((List.map intD) p0)), (intD p1)].map .dat) H (.dat (.lst ((List.map intD) r0))) H
theorem w_ref03_Index : ∀ x r, m_ref03_Index x = some r → P_ref03_Index x r := by
  intro x r0 hm
  unfold m_ref03_Index at hm
  unfold P_ref03_Index
  obtain ⟨p0, p1⟩ := x
  intro H
  refine PC_sx (ds := [(.lst ((List.map intD) p0)), (intD p1)]) (fn := f82) (by kernel_rfl) (by kernel_rfl) rfl ?_ (by kernel_rfl)
  refine R_seq ?_
  refine R_G ?_
  refine G_run 1 ?_
  refine G_end ?_
  refine R_seq ?_
  refine R_G ?_
  refine G_run 1 ?_
  refine I_len intD p0 (es := (List.map intD) p0) rfl ?_
  obtain ⟨v1, hx, hm⟩ := bind_inv hm
  refine G_semH (v := .arr 0 0 v1.length v1.length) (fun H => H ++ [.box (cellsOf intD v1)]) rfl (by kernel_rfl) (fun _ hk => E_mkBoxN 0 intD (z := 0) (n := (p0.length : Int)) (bytes := 8) hx (e := 3) (by kernel_rfl) (by kernel_rfl) (by kernel_rfl) (by kernel_rfl) rfl rfl (by kernel_rfl) (by kernel_rfl) hk) ?_
  refine G_run 1 ?_
  refine G_end ?_
  refine R_seq ?_
  refine R_seq ?_
  refine R_G ?_
  refine G_run 1 ?_
  refine I_len intD p0 (es := (List.map intD) p0) rfl ?_
  refine G_run 2 ?_
  refine G_end ?_
  refine R_block ?_
  obtain ⟨v602, hs, hm⟩ := bind_inv hm
  refine R_loop ?_
  refine RL_use (w_ref03_Index_L1 _ _ hs) (prune_of2 [(.box (cellsOf intD v1))] (fun _ => (pg_cons (purge_box intD _ _ _) pg_nil)) rfl) ?_
  clear hs
  intro e s hp
  obtain ⟨rfl, d, rfl⟩ := hp
  refine R_seq ?_
  refine R_G ?_
  refine G_run 2 ?_
  refine G_end ?_
  refine R_ret ?_
  obtain ⟨_, hl610, hm⟩ := bind_inv hm
  replace hl610 := guard_inv hl610
  obtain rfl := inj1 hm
  exact ⟨trivial, fin_pureX [(.arr 0 0 v1.length v1.length)] (by kernel_rfl) (po_arr (pc_arr intD v602 hl610 (fun _ => rfl) (by kernel_rfl)))⟩
end Go.Proofs.Tryz
namespace Go.Proofs.Tryz
open Go Go.Pm
set_option linter.unusedVariables false
set_option maxRecDepth 2000
def m_ref14_Step_L1 (x : ((List Int) × T_ref14_Core × (List Int) × T_ref14_Core × (List Int) × Int)) : Option ((List Int)) :=
  match x with
  | (v3, p0, p1, v4, v205, v206) =>
  if v206 < (v3.length : Int) then
    guardM (v205.length = v3.length) >>= fun (_ : Unit) =>
    idx v205 v206 >>= fun v606 =>
    idx v205 v206 >>= fun v608 =>
    idx p0.starts v206 >>= fun v609 =>
    guardM (v205.length = v3.length) >>= fun (_ : Unit) =>
    idx v205 v206 >>= fun v610 =>
    setM v205 v206 (W (v608 + v609)) >>= fun v612 =>
    m_ref14_Step_L1 (v3, p0, p1, v4, v612, (W (v206 + 1)))
  else
  some v205
  partial_fixpoint
def P_ref14_Step_L1 : ((List Int) × T_ref14_Core × (List Int) × T_ref14_Core × (List Int) × Int) → (List Int) → Prop := fun x r => match x with
  | (v3, p0, p1, v4, v205, v206) => ∀ st, prune 2 ((firstRegion (codeAt [1, 1, 1, 1, 0, 1, 0, 1, 0, 0, 1, 0, 0] (bodyOf f51))).bind (env.hint 51).keepAt) st = ⟨kp 158 [(2, (.ptr 0 0)), (7, (.ms 1 (gb 0 p1.isEmpty) 0 v3.length v3.length)), (8, (.dat (.lst ((List.map intD) v4.shape)))), (9, (intPV v206))], [(.box [(intPV p0.kind), (.dat (.lst ((List.map intD) p0.shape))), (intPV p0.buffer), (.dat (.lst ((List.map intD) p0.starts))), (intPV p0.axis), (intPV p0.amount), (.dat (.lst ((List.map intD) p0.perm))), (.dat (.lst (T_ref14_Core.toDs p0.kids)))]), (.mt 3 (gb 0 p1.isEmpty) (cellsOf intD v205))]⟩ →
    RL prog env (env.hint 51) true (codeAt [1, 1, 1, 1, 0, 1, 0, 1, 0, 0, 1, 0, 0] (bodyOf f51)) 2 st (fun e s => match r with | v605 => e = .exit 1 ∧ ∃ d, s = ⟨sl d 158 [(7, (.ms 1 (gb 0 p1.isEmpty) 0 v3.length v3.length)), (8, (.dat (.lst ((List.map intD) v4.shape))))], [(.box [(intPV p0.kind), (.dat (.lst ((List.map intD) p0.shape))), (intPV p0.buffer), (.dat (.lst ((List.map intD) p0.starts))), (intPV p0.axis), (intPV p0.amount), (.dat (.lst ((List.map intD) p0.perm))), (.dat (.lst (T_ref14_Core.toDs p0.kids)))]), (.mt 3 (gb 0 p1.isEmpty) (cellsOf intD v605))]⟩)
theorem w_ref14_Step_L1 : ∀ x r, m_ref14_Step_L1 x = some r → P_ref14_Step_L1 x r := by
  refine m_ref14_Step_L1.partial_correctness _ (fun m_ref14_Step_L1 w_ref14_Step_L1 x r hm => ?_)
  unfold P_ref14_Step_L1
  obtain ⟨v3, p0, p1, v4, v205, v206⟩ := x
  intro st hst
  refine RL_at hst ?_
  clear hst
  refine R_seq ?_
  refine R_seq ?_
  refine R_G ?_
  refine G_run 2 ?_
  refine G_run 1 ?_
  refine G_run 1 ?_
  refine G_end ?_
  refine R_ifp (p := v206 < (v3.length : Int)) (rfl) (fun hc => ?_) (fun hc => ?_)
  · replace hm := pos_inv hc hm
    refine R_skip ?_
    refine R_seq ?_
    refine R_block ?_
    refine R_GD ?_
    refine G_run 4 ?_
    obtain ⟨_, hl607, hm⟩ := bind_inv hm
    replace hl607 := guard_inv hl607
    obtain ⟨v606, hx, hm⟩ := bind_inv hm
    refine G_semN rfl (by kernel_rfl) (fun _ => E_indexMs (e := 3) (n := v206) (j := (v206).toNat) (tt := 1) (g := (gb 0 p1.isEmpty)) (lo := 0) (len := v3.length) (cap := v3.length) (k := .i64) (by kernel_rfl) (by kernel_rfl) rfl (by kernel_rfl) (by kernel_rfl) (idx_nat hx) (Nat.lt_of_lt_of_eq (idx_lt hx) hl607)) ?_
    obtain ⟨v608, hx, hm⟩ := bind_inv hm
    refine G_semN rfl (by kernel_rfl) (fun _ => E_loadMs (tt := 1) (g := (gb 0 p1.isEmpty)) (j := (0 + (v206).toNat)) (e := 3) (cs := cellsOf intD v205) (v := .dat (intD v608)) (by kernel_rfl) (by kernel_rfl) rfl (by kernel_rfl) (mtOf_at (by kernel_rfl)) (cells_idx intD hx)) ?_
    refine G_run 3 ?_
    obtain ⟨v609, hx, hm⟩ := bind_inv hm
    refine I_idx 1 intD p0.starts v206 v609 (es := (List.map intD) p0.starts) (d := (intD v609)) rfl hx rfl rfl ?_
    refine G_run 2 ?_
    obtain ⟨_, hl611, hm⟩ := bind_inv hm
    replace hl611 := guard_inv hl611
    obtain ⟨v610, hx, hm⟩ := bind_inv hm
    refine G_semN rfl (by kernel_rfl) (fun _ => E_indexMs (e := 3) (n := v206) (j := (v206).toNat) (tt := 1) (g := (gb 0 p1.isEmpty)) (lo := 0) (len := v3.length) (cap := v3.length) (k := .i64) (by kernel_rfl) (by kernel_rfl) rfl (by kernel_rfl) (by kernel_rfl) (idx_nat hx) (Nat.lt_of_lt_of_eq (idx_lt hx) hl611)) ?_
    obtain ⟨v612, hx, hm⟩ := bind_inv hm
    refine G_semH (fun H => H.set 1 (.mt 3 (gb 0 p1.isEmpty) (cellsOf intD v612))) rfl (by kernel_rfl) (fun _ => E_stMs intD (l := v205) (n := v206) (y := (W (v608 + v609))) hx (fun _ => rfl) (by kernel_rfl) rfl (by kernel_rfl) (by kernel_rfl) (by kernel_rfl)) ?_
    refine G_end ⟨by kernel_rfl, ?_⟩
    refine R_G ?_
    refine G_run 3 ?_
    refine G_end ?_
    exact w_ref14_Step_L1 _ _ hm _ (prune_of2 [(.box [(intPV p0.kind), (.dat (.lst ((List.map intD) p0.shape))), (intPV p0.buffer), (.dat (.lst ((List.map intD) p0.starts))), (intPV p0.axis), (intPV p0.amount), (.dat (.lst ((List.map intD) p0.perm))), (.dat (.lst (T_ref14_Core.toDs p0.kids)))]), (.mt 3 (gb 0 p1.isEmpty) (cellsOf intD v612))] (fun _ => (pg_cons (by kernel_rfl) (pg_cons (purge_mt intD _ _ _ _ _) pg_nil))) rfl)
  replace hm := neg_inv hc hm
  refine R_exit ?_
  obtain rfl := inj1 hm
  exact ⟨rfl, cut_leaf (by kernel_rfl)⟩
def m_ref14_Step_L2 (x : (T_ref14_Core × T_ref14_Core × (List Int) × (List Int) × (List Int) × Int)) : Option ((List Int)) :=
  match x with
  | (v4, p0, p1, v3, v829, v830) =>
  if v830 < (v4.shape.length : Int) then
    idx p0.perm v830 >>= fun v1230 =>
    idx p1 v1230 >>= fun v1231 =>
    app 8 v829 ([v1231] : List Int) >>= fun v1232 =>
    m_ref14_Step_L2 (v4, p0, p1, v3, v1232, (W (v830 + 1)))
  else
  some v829
  partial_fixpoint
def P_ref14_Step_L2 : (T_ref14_Core × T_ref14_Core × (List Int) × (List Int) × (List Int) × Int) → (List Int) → Prop := fun x r => match x with
  | (v4, p0, p1, v3, v829, v830) => ∀ st, prune 3 ((firstRegion (codeAt [1, 1, 1, 1, 0, 1, 0, 1, 1, 1, 1, 1, 1, 1, 0, 1, 1, 0, 0] (bodyOf f51))).bind (env.hint 51).keepAt) st = ⟨kp 158 [(1, (.dat (.lst ((List.map intD) p1)))), (2, (.ptr 0 0)), (7, (.vec 2 ((List.map intD) v829))), (8, (.dat (.lst ((List.map intD) v4.shape)))), (10, (intPV v830))], [(.box [(intPV p0.kind), (.dat (.lst ((List.map intD) p0.shape))), (intPV p0.buffer), (.dat (.lst ((List.map intD) p0.starts))), (intPV p0.axis), (intPV p0.amount), (.dat (.lst ((List.map intD) p0.perm))), (.dat (.lst (T_ref14_Core.toDs p0.kids)))]), (.mt 3 (gb 0 p1.isEmpty) (cellsOf intD v3)), (.tok 3 v829.length)]⟩ →
    RL prog env (env.hint 51) true (codeAt [1, 1, 1, 1, 0, 1, 0, 1, 1, 1, 1, 1, 1, 1, 0, 1, 1, 0, 0] (bodyOf f51)) 3 st (fun e s => match r with | v1229 => e = .exit 3 ∧ ∃ d, s = ⟨sl d 158 [(7, (.vec 2 ((List.map intD) v1229)))], [(.box [(intPV p0.kind), (.dat (.lst ((List.map intD) p0.shape))), (intPV p0.buffer), (.dat (.lst ((List.map intD) p0.starts))), (intPV p0.axis), (intPV p0.amount), (.dat (.lst ((List.map intD) p0.perm))), (.dat (.lst (T_ref14_Core.toDs p0.kids)))]), (.mt 3 (gb 0 p1.isEmpty) (cellsOf intD v3)), (.tok 3 v1229.length)]⟩)
theorem w_ref14_Step_L2 : ∀ x r, m_ref14_Step_L2 x = some r → P_ref14_Step_L2 x r := by
  refine m_ref14_Step_L2.partial_correctness _ (fun m_ref14_Step_L2 w_ref14_Step_L2 x r hm => ?_)
  unfold P_ref14_Step_L2
  obtain ⟨v4, p0, p1, v3, v829, v830⟩ := x
  intro st hst
  refine RL_at hst ?_
  clear hst
  refine R_seq ?_
  refine R_seq ?_
  refine R_G ?_
  refine G_run 2 ?_
  refine I_len intD v4.shape (es := (List.map intD) v4.shape) rfl ?_
  refine G_run 1 ?_
  refine G_end ?_
  refine R_ifp (p := v830 < (v4.shape.length : Int)) (rfl) (fun hc => ?_) (fun hc => ?_)
  · replace hm := pos_inv hc hm
    refine R_skip ?_
    refine R_seq ?_
    refine R_block ?_
    refine R_G ?_
    refine G_run 5 ?_
    obtain ⟨v1230, hx, hm⟩ := bind_inv hm
    refine I_idx 1 intD p0.perm v830 v1230 (es := (List.map intD) p0.perm) (d := (intD v1230)) rfl hx rfl rfl ?_
    refine G_run 1 ?_
    obtain ⟨v1231, hx, hm⟩ := bind_inv hm
    refine I_idx 1 intD p1 v1230 v1231 (es := (List.map intD) p1) (d := (intD v1231)) rfl hx rfl rfl ?_
    refine G_run 2 ?_
    obtain ⟨v1232, hx, hm⟩ := bind_inv hm
    refine I_app 3 1 8 2 intD v829 ([v1231] : List Int) v1232 (xs := (List.map intD) v829) (es := (List.map intD) ([v1231] : List Int)) (L := (List.map intD)) (fun _ => rfl) rfl rfl (fun _ => rfl) hx ?_
    refine G_run 1 ?_
    refine G_end ?_
    refine R_G ?_
    refine G_run 3 ?_
    refine G_end ?_
    exact w_ref14_Step_L2 _ _ hm _ (prune_of2 [(.box [(intPV p0.kind), (.dat (.lst ((List.map intD) p0.shape))), (intPV p0.buffer), (.dat (.lst ((List.map intD) p0.starts))), (intPV p0.axis), (intPV p0.amount), (.dat (.lst ((List.map intD) p0.perm))), (.dat (.lst (T_ref14_Core.toDs p0.kids)))]), (.mt 3 (gb 0 p1.isEmpty) (cellsOf intD v3)), (.tok 3 v1232.length)] (fun _ => (pg_cons (by kernel_rfl) (pg_cons (purge_mt intD _ _ _ _ _) (pg_cons (by kernel_rfl) pg_nil)))) rfl)
  replace hm := neg_inv hc hm
  refine R_exit ?_
  obtain rfl := inj1 hm
  exact ⟨rfl, cut_leaf (by kernel_rfl)⟩
def m_ref14_Step (x : (T_ref14_Core × (List Int))) : Option (Int × (List Int) × Bool) :=
  match x with
  | (p0, p1) =>
  (if p0.kind = 1 then
    some true
  else
  m_ref03_Valid (p0.shape, p1) >>= fun (v2 : Bool) =>
  some (!v2)
  ) >>= fun (v1 : Bool) =>
  if v1 = true then
    some (0, ([] : (List Int)), false)
  else
  app 8 ([] : List Int) p1 >>= fun v3 =>
  idx p0.kids 0 >>= fun v4 =>
  if p0.kind = 2 then
    m_ref14_Step_L1 (v3, p0, p1, v4, v3, 0) >>= fun (v605 : (List Int)) =>
    guardM (v605.length = v3.length) >>= fun (_ : Unit) =>
    m_ref03_Valid (v4.shape, v605) >>= fun (v614 : Bool) =>
    if v614 = false then
      some (0, ([] : (List Int)), false)
    else
    guardM (v605.length = v3.length) >>= fun (_ : Unit) =>
    some (0, v605, true)
  else
  if p0.kind = 3 then
    idx v4.shape p0.axis >>= fun v616 =>
    idx v3 p0.axis >>= fun v617 =>
    idx v3 p0.axis >>= fun v618 =>
    idx v3 p0.axis >>= fun v619 =>
    setM v3 p0.axis (W ((W (v616 - 1)) - v618)) >>= fun v620 =>
    guardM (v620.length = v3.length) >>= fun (_ : Unit) =>
    some (0, v620, true)
  else
  if p0.kind = 4 then
    idx v3 p0.axis >>= fun v622 =>
    idx v3 p0.axis >>= fun v623 =>
    idx v4.shape p0.axis >>= fun v624 =>
    remM (W (v623 + p0.amount)) v624 >>= fun v625 =>
    idx v3 p0.axis >>= fun v626 =>
    setM v3 p0.axis v625 >>= fun v627 =>
    guardM (v627.length = v3.length) >>= fun (_ : Unit) =>
    some (0, v627, true)
  else
  if p0.kind = 5 then
    m_ref14_Step_L2 (v4, p0, p1, v3, ([] : List Int), 0) >>= fun (v1229 : (List Int)) =>
    some (0, v1229, true)
  else
  if p0.kind = 6 then
    m_ref02_Cells v4.shape >>= fun (v1233 : Int) =>
    if v1233 = 0 then
      some (0, ([] : (List Int)), false)
    else
    m_ref03_Offset (p0.shape, p1) >>= fun (v1234 : Int) =>
    remM v1234 v1233 >>= fun v1235 =>
    m_ref03_Index (v4.shape, v1235) >>= fun (v1236 : (List Int)) =>
    some (0, v1236, true)
  else
  if p0.kind = 7 then
    idx v3 p0.axis >>= fun v1237 =>
    idx v3 p0.axis >>= fun v1238 =>
    idx v4.shape p0.axis >>= fun v1239 =>
    if v1238 ≥ v1239 then
      idx v3 p0.axis >>= fun v1240 =>
      idx v3 p0.axis >>= fun v1241 =>
      idx v4.shape p0.axis >>= fun v1242 =>
      idx v3 p0.axis >>= fun v1243 =>
      setM v3 p0.axis (W (v1241 - v1242)) >>= fun v1244 =>
      guardM (v1244.length = v3.length) >>= fun (_ : Unit) =>
      some (1, v1244, true)
    else
    some (0, v3, true)
  else
  some (0, v3, true)
def P_ref14_Step : (T_ref14_Core × (List Int)) → (Int × (List Int) × Bool) → Prop := fun x r => match x, r with
  | (p0, p1), (r0, r1, r2) => ∀ H, PC prog env 51 ([(T_ref14_Core.ex p0), (.lst ((List.map intD) p1))].map .dat) H (.tup [(intPV r0), (.dat (.lst ((List.map intD) r1))), (boolPV r2)]) H
theorem w_ref14_Step : ∀ x r, m_ref14_Step x = some r → P_ref14_Step x r := by
  intro x r hm
  unfold m_ref14_Step at hm
  unfold P_ref14_Step
  obtain ⟨p0, p1⟩ := x
  obtain ⟨r0, r1, r2⟩ := r
  intro H
  refine PC_sx (ds := [(T_ref14_Core.ex p0), (.lst ((List.map intD) p1))]) (fn := f51) (by kernel_rfl) (by kernel_rfl) rfl ?_ (by kernel_rfl)
  refine R_seq ?_
  refine R_G ?_
  refine G_run 4 ?_
  refine G_end ?_
  refine R_seq ?_
  refine R_seq ?_
  obtain ⟨v1, hs, hm⟩ := bind_inv hm
  refine R_cut (fun d => ⟨sl d 158 [(1, (.dat (.lst ((List.map intD) p1)))), (2, (.ptr 0 0)), (21, (boolPV v1))], [(.box [(intPV p0.kind), (.dat (.lst ((List.map intD) p0.shape))), (intPV p0.buffer), (.dat (.lst ((List.map intD) p0.starts))), (intPV p0.axis), (intPV p0.amount), (.dat (.lst ((List.map intD) p0.perm))), (.dat (.lst (T_ref14_Core.toDs p0.kids)))])]⟩) ?_ (fun d => ?_)
  · replace hm := hs
    clear hs
    refine R_G ?_
    refine G_run 4 ?_
    refine G_split (p := p0.kind = 1) 15 (eq_dec _ _) (fun hc => ?_) (fun hc => ?_)
    · replace hm := pos_inv hc hm
      refine G_run 6 ?_
      refine G_end ?_
      obtain rfl := inj1 hm
      exact cut_leaf (by kernel_rfl)
    replace hm := neg_inv hc hm
    refine G_run 3 ?_
    obtain ⟨v2, hx, hm⟩ := bind_inv hm
    have hq := w_ref03_Valid _ _ hx []
    refine G_callP hq ?_
    refine G_run 2 ?_
    refine G_end ?_
    obtain rfl := inj1 hm
    exact cut_leaf (by kernel_rfl)
  clear hs
  refine R_ifp (p := v1 = true) (bool_dec _) (fun hc => ?_) (fun hc => ?_)
  · replace hm := pos_inv hc hm
    refine R_seq ?_
    refine R_G ?_
    refine G_run 3 ?_
    refine G_end ?_
    refine R_ret ?_
    obtain ⟨rfl, rfl, rfl⟩ := inj3 hm
    exact ⟨trivial, fin_pure (by kernel_rfl)⟩
  replace hm := neg_inv hc hm
  refine R_skip ?_
  refine R_seq ?_
  refine R_G ?_
  refine G_run 2 ?_
  obtain ⟨v3, hx, hm⟩ := bind_inv hm
  refine G_semH (v := .ms 1 (gb 0 p1.isEmpty) 0 v3.length v3.length) (fun H => H.set 1 (.mt 3 (gb 0 p1.isEmpty) (cellsOf intD v3))) rfl (by kernel_rfl) (fun _ hk => E_apMs intD (l := ([] : List Int)) (es := p1) (bytes := 8) (e := 3) (tt := 1) (g := 0) (m := ([] : List Int).length) hx (fun _ => rfl) (by kernel_rfl) (by kernel_rfl) (by kernel_rfl) (by kernel_rfl) rfl rfl (by kernel_rfl) rfl (by kernel_rfl) (source_lst (fun _ => rfl)) hk) ?_
  refine G_run 1 ?_
  refine G_end ?_
  refine R_seq ?_
  refine R_G ?_
  refine G_run 2 ?_
  obtain ⟨v4, hx, hm⟩ := bind_inv hm
  refine I_idx 8 T_ref14_Core.toD p0.kids 0 v4 (es := T_ref14_Core.toDs p0.kids) (d := (T_ref14_Core.ex v4)) (T_ref14_Core.toDs_eq _) hx (T_ref14_Core.toD_eq v4) rfl ?_
  refine G_run 3 ?_
  refine G_end ?_
  refine R_seq ?_
  refine R_seq ?_
  refine R_G ?_
  refine G_run 2 ?_
  refine G_end ?_
  refine R_block ?_
  refine R_seq ?_
  refine R_G ?_
  refine G_run 2 ?_
  refine G_end ?_
  refine R_ifp (p := p0.kind = 2) (eq_dec _ _) (fun hc => ?_) (fun hc => ?_)
  · replace hm := pos_inv hc hm
    refine R_seq ?_
    refine R_seq ?_
    refine R_G ?_
    refine G_run 1 ?_
    refine G_end ?_
    refine R_block ?_
    obtain ⟨v605, hs, hm⟩ := bind_inv hm
    refine R_loop ?_
    refine RL_use (w_ref14_Step_L1 _ _ hs) (prune_of2 [(.box [(intPV p0.kind), (.dat (.lst ((List.map intD) p0.shape))), (intPV p0.buffer), (.dat (.lst ((List.map intD) p0.starts))), (intPV p0.axis), (intPV p0.amount), (.dat (.lst ((List.map intD) p0.perm))), (.dat (.lst (T_ref14_Core.toDs p0.kids)))]), (.mt 3 (gb 0 p1.isEmpty) (cellsOf intD v3))] (fun _ => (pg_cons (by kernel_rfl) (pg_cons (purge_mt intD _ _ _ _ _) pg_nil))) rfl) ?_
    clear hs
    intro e s hp
    obtain ⟨rfl, d, rfl⟩ := hp
    refine R_seq ?_
    refine R_G ?_
    refine G_run 2 ?_
    obtain ⟨_, hl613, hm⟩ := bind_inv hm
    replace hl613 := guard_inv hl613
    obtain ⟨v614, hx, hm⟩ := bind_inv hm
    have hq := w_ref03_Valid _ _ hx []
    refine G_callL (args := [(.dat (.lst ((List.map intD) v4.shape))), (.ms 1 (gb 0 p1.isEmpty) 0 v3.length v3.length)]) hq (ps_cons (by kernel_rfl) (ps_cons (p1_ms (pc_ms (e := 3) intD v605 hl613 (fun _ => rfl) (by kernel_rfl))) ps_nil)) ?_
    refine G_run 1 ?_
    refine G_end ?_
    refine R_ifp (p := v614 = false) (not_dec _) (fun hc => ?_) (fun hc => ?_)
    · replace hm := pos_inv hc hm
      refine R_seq ?_
      refine R_G ?_
      refine G_run 3 ?_
      refine G_end ?_
      refine R_ret ?_
      obtain ⟨rfl, rfl, rfl⟩ := inj3 hm
      exact ⟨trivial, fin_pure (by kernel_rfl)⟩
    replace hm := neg_inv hc hm
    refine R_skip ?_
    refine R_seq ?_
    refine R_G ?_
    refine G_run 4 ?_
    refine G_end ?_
    refine R_ret ?_
    obtain ⟨_, hl615, hm⟩ := bind_inv hm
    replace hl615 := guard_inv hl615
    obtain ⟨rfl, rfl, rfl⟩ := inj3 hm
    exact ⟨trivial, fin_pureX [(intPV 0), (.ms 1 (gb 0 p1.isEmpty) 0 v3.length v3.length), (boolPV true)] (by kernel_rfl) (po_tup (ps_cons (by kernel_rfl) (ps_cons (p1_ms (pc_ms (e := 3) intD v605 hl615 (fun _ => rfl) (by kernel_rfl))) (ps_cons (by kernel_rfl) ps_nil))))⟩
  replace hm := neg_inv hc hm
  refine R_seq ?_
  refine R_G ?_
  refine G_run 2 ?_
  refine G_end ?_
  refine R_ifp (p := p0.kind = 3) (eq_dec _ _) (fun hc => ?_) (fun hc => ?_)
  · replace hm := pos_inv hc hm
    refine R_GD ?_
    refine G_run 6 ?_
    obtain ⟨v616, hx, hm⟩ := bind_inv hm
    refine I_idx 1 intD v4.shape p0.axis v616 (es := (List.map intD) v4.shape) (d := (intD v616)) rfl hx rfl rfl ?_
    refine G_run 5 ?_
    obtain ⟨v617, hx, hm⟩ := bind_inv hm
    refine G_semN rfl (by kernel_rfl) (fun _ => E_indexMs (e := 3) (n := p0.axis) (j := (p0.axis).toNat) (tt := 1) (g := (gb 0 p1.isEmpty)) (lo := 0) (len := v3.length) (cap := v3.length) (k := .i64) (by kernel_rfl) (by kernel_rfl) rfl (by kernel_rfl) (by kernel_rfl) (idx_nat hx) (Nat.lt_of_lt_of_eq (idx_lt hx) rfl)) ?_
    obtain ⟨v618, hx, hm⟩ := bind_inv hm
    refine G_semN rfl (by kernel_rfl) (fun _ => E_loadMs (tt := 1) (g := (gb 0 p1.isEmpty)) (j := (0 + (p0.axis).toNat)) (e := 3) (cs := cellsOf intD v3) (v := .dat (intD v618)) (by kernel_rfl) (by kernel_rfl) rfl (by kernel_rfl) (mtOf_at (by kernel_rfl)) (cells_idx intD hx)) ?_
    refine G_run 1 ?_
    obtain ⟨v619, hx, hm⟩ := bind_inv hm
    refine G_semN rfl (by kernel_rfl) (fun _ => E_indexMs (e := 3) (n := p0.axis) (j := (p0.axis).toNat) (tt := 1) (g := (gb 0 p1.isEmpty)) (lo := 0) (len := v3.length) (cap := v3.length) (k := .i64) (by kernel_rfl) (by kernel_rfl) rfl (by kernel_rfl) (by kernel_rfl) (idx_nat hx) (Nat.lt_of_lt_of_eq (idx_lt hx) rfl)) ?_
    obtain ⟨v620, hx, hm⟩ := bind_inv hm
    refine G_semH (fun H => H.set 1 (.mt 3 (gb 0 p1.isEmpty) (cellsOf intD v620))) rfl (by kernel_rfl) (fun _ => E_stMs intD (l := v3) (n := p0.axis) (y := (W ((W (v616 - 1)) - v618))) hx (fun _ => rfl) (by kernel_rfl) rfl (by kernel_rfl) (by kernel_rfl) (by kernel_rfl)) ?_
    refine G_end ⟨by kernel_rfl, ?_⟩
    refine R_seq ?_
    refine R_G ?_
    refine G_run 4 ?_
    refine G_end ?_
    refine R_ret ?_
    obtain ⟨_, hl621, hm⟩ := bind_inv hm
    replace hl621 := guard_inv hl621
    obtain ⟨rfl, rfl, rfl⟩ := inj3 hm
    exact ⟨trivial, fin_pureX [(intPV 0), (.ms 1 (gb 0 p1.isEmpty) 0 v3.length v3.length), (boolPV true)] (by kernel_rfl) (po_tup (ps_cons (by kernel_rfl) (ps_cons (p1_ms (pc_ms (e := 3) intD v620 hl621 (fun _ => rfl) (by kernel_rfl))) (ps_cons (by kernel_rfl) ps_nil))))⟩
  replace hm := neg_inv hc hm
  refine R_seq ?_
  refine R_G ?_
  refine G_run 2 ?_
  refine G_end ?_
  refine R_ifp (p := p0.kind = 4) (eq_dec _ _) (fun hc => ?_) (fun hc => ?_)
  · replace hm := pos_inv hc hm
    refine R_GD ?_
    refine G_run 6 ?_
    obtain ⟨v622, hx, hm⟩ := bind_inv hm
    refine G_semN rfl (by kernel_rfl) (fun _ => E_indexMs (e := 3) (n := p0.axis) (j := (p0.axis).toNat) (tt := 1) (g := (gb 0 p1.isEmpty)) (lo := 0) (len := v3.length) (cap := v3.length) (k := .i64) (by kernel_rfl) (by kernel_rfl) rfl (by kernel_rfl) (by kernel_rfl) (idx_nat hx) (Nat.lt_of_lt_of_eq (idx_lt hx) rfl)) ?_
    obtain ⟨v623, hx, hm⟩ := bind_inv hm
    refine G_semN rfl (by kernel_rfl) (fun _ => E_loadMs (tt := 1) (g := (gb 0 p1.isEmpty)) (j := (0 + (p0.axis).toNat)) (e := 3) (cs := cellsOf intD v3) (v := .dat (intD v623)) (by kernel_rfl) (by kernel_rfl) rfl (by kernel_rfl) (mtOf_at (by kernel_rfl)) (cells_idx intD hx)) ?_
    refine G_run 6 ?_
    obtain ⟨v624, hx, hm⟩ := bind_inv hm
    refine I_idx 1 intD v4.shape p0.axis v624 (es := (List.map intD) v4.shape) (d := (intD v624)) rfl hx rfl rfl ?_
    refine G_run 1 ?_
    obtain ⟨v625, hx, hm⟩ := bind_inv hm
    refine G_semN rfl (by kernel_rfl) (fun _ => E_rem (a := (W (v623 + p0.amount))) (b := v624) hx rfl (by kernel_rfl) (by kernel_rfl)) ?_
    obtain ⟨v626, hx, hm⟩ := bind_inv hm
    refine G_semN rfl (by kernel_rfl) (fun _ => E_indexMs (e := 3) (n := p0.axis) (j := (p0.axis).toNat) (tt := 1) (g := (gb 0 p1.isEmpty)) (lo := 0) (len := v3.length) (cap := v3.length) (k := .i64) (by kernel_rfl) (by kernel_rfl) rfl (by kernel_rfl) (by kernel_rfl) (idx_nat hx) (Nat.lt_of_lt_of_eq (idx_lt hx) rfl)) ?_
    obtain ⟨v627, hx, hm⟩ := bind_inv hm
    refine G_semH (fun H => H.set 1 (.mt 3 (gb 0 p1.isEmpty) (cellsOf intD v627))) rfl (by kernel_rfl) (fun _ => E_stMs intD (l := v3) (n := p0.axis) (y := v625) hx (fun _ => rfl) (by kernel_rfl) rfl (by kernel_rfl) (by kernel_rfl) (by kernel_rfl)) ?_
    refine G_end ⟨by kernel_rfl, ?_⟩
    refine R_seq ?_
    refine R_G ?_
    refine G_run 4 ?_
    refine G_end ?_
    refine R_ret ?_
    obtain ⟨_, hl628, hm⟩ := bind_inv hm
    replace hl628 := guard_inv hl628
    obtain ⟨rfl, rfl, rfl⟩ := inj3 hm
    exact ⟨trivial, fin_pureX [(intPV 0), (.ms 1 (gb 0 p1.isEmpty) 0 v3.length v3.length), (boolPV true)] (by kernel_rfl) (po_tup (ps_cons (by kernel_rfl) (ps_cons (p1_ms (pc_ms (e := 3) intD v627 hl628 (fun _ => rfl) (by kernel_rfl))) (ps_cons (by kernel_rfl) ps_nil))))⟩
  replace hm := neg_inv hc hm
  refine R_seq ?_
  refine R_G ?_
  refine G_run 2 ?_
  refine G_end ?_
  refine R_ifp (p := p0.kind = 5) (eq_dec _ _) (fun hc => ?_) (fun hc => ?_)
  · replace hm := pos_inv hc hm
    refine R_seq ?_
    refine R_G ?_
    refine G_run 1 ?_
    refine G_end ?_
    refine R_seq ?_
    refine R_G ?_
    refine G_run 1 ?_
    refine G_end ?_
    refine R_block ?_
    obtain ⟨v1229, hs, hm⟩ := bind_inv hm
    refine R_loop ?_
    refine RL_use (w_ref14_Step_L2 _ _ hs) (prune_of2 [(.box [(intPV p0.kind), (.dat (.lst ((List.map intD) p0.shape))), (intPV p0.buffer), (.dat (.lst ((List.map intD) p0.starts))), (intPV p0.axis), (intPV p0.amount), (.dat (.lst ((List.map intD) p0.perm))), (.dat (.lst (T_ref14_Core.toDs p0.kids)))]), (.mt 3 (gb 0 p1.isEmpty) (cellsOf intD v3)), (.tok 3 (([] : List Int).length))] (fun _ => (pg_cons (by kernel_rfl) (pg_cons (purge_mt intD _ _ _ _ _) (pg_cons (by kernel_rfl) pg_nil)))) rfl) ?_
    clear hs
    intro e s hp
    obtain ⟨rfl, d, rfl⟩ := hp
    refine R_seq ?_
    refine R_G ?_
    refine G_run 4 ?_
    refine G_end ?_
    refine R_ret ?_
    obtain ⟨rfl, rfl, rfl⟩ := inj3 hm
    exact ⟨trivial, fin_pure (by kernel_rfl)⟩
  replace hm := neg_inv hc hm
  refine R_seq ?_
  refine R_G ?_
  refine G_run 2 ?_
  refine G_end ?_
  refine R_ifp (p := p0.kind = 6) (eq_dec _ _) (fun hc => ?_) (fun hc => ?_)
  · replace hm := pos_inv hc hm
    refine R_seq ?_
    refine R_G ?_
    refine G_run 1 ?_
    obtain ⟨v1233, hx, hm⟩ := bind_inv hm
    have hq := w_ref02_Cells _ _ hx []
    refine G_callP hq ?_
    refine G_run 1 ?_
    refine G_end ?_
    refine R_seq ?_
    refine R_seq ?_
    refine R_G ?_
    refine G_run 2 ?_
    refine G_end ?_
    refine R_ifp (p := v1233 = 0) (eq_dec _ _) (fun hc => ?_) (fun hc => ?_)
    · replace hm := pos_inv hc hm
      refine R_seq ?_
      refine R_G ?_
      refine G_run 3 ?_
      refine G_end ?_
      refine R_ret ?_
      obtain ⟨rfl, rfl, rfl⟩ := inj3 hm
      exact ⟨trivial, fin_pure (by kernel_rfl)⟩
    replace hm := neg_inv hc hm
    refine R_skip ?_
    refine R_G ?_
    refine G_run 4 ?_
    obtain ⟨v1234, hx, hm⟩ := bind_inv hm
    have hq := w_ref03_Offset _ _ hx []
    refine G_callP hq ?_
    refine G_run 1 ?_
    obtain ⟨v1235, hx, hm⟩ := bind_inv hm
    refine G_semN rfl (by kernel_rfl) (fun _ => E_rem (a := v1234) (b := v1233) hx rfl (by kernel_rfl) (by kernel_rfl)) ?_
    obtain ⟨v1236, hx, hm⟩ := bind_inv hm
    have hq := w_ref03_Index _ _ hx []
    refine G_callP hq ?_
    refine G_run 1 ?_
    refine G_end ?_
    refine R_seq ?_
    refine R_G ?_
    refine G_run 4 ?_
    refine G_end ?_
    refine R_ret ?_
    obtain ⟨rfl, rfl, rfl⟩ := inj3 hm
    exact ⟨trivial, fin_pure (by kernel_rfl)⟩
  replace hm := neg_inv hc hm
  refine R_seq ?_
  refine R_G ?_
  refine G_run 2 ?_
  refine G_end ?_
  refine R_ifp (p := p0.kind = 7) (eq_dec _ _) (fun hc => ?_) (fun hc => ?_)
  · replace hm := pos_inv hc hm
    refine R_seq ?_
    refine R_GD ?_
    refine G_run 3 ?_
    obtain ⟨v1237, hx, hm⟩ := bind_inv hm
    refine G_semN rfl (by kernel_rfl) (fun _ => E_indexMs (e := 3) (n := p0.axis) (j := (p0.axis).toNat) (tt := 1) (g := (gb 0 p1.isEmpty)) (lo := 0) (len := v3.length) (cap := v3.length) (k := .i64) (by kernel_rfl) (by kernel_rfl) rfl (by kernel_rfl) (by kernel_rfl) (idx_nat hx) (Nat.lt_of_lt_of_eq (idx_lt hx) rfl)) ?_
    obtain ⟨v1238, hx, hm⟩ := bind_inv hm
    refine G_semN rfl (by kernel_rfl) (fun _ => E_loadMs (tt := 1) (g := (gb 0 p1.isEmpty)) (j := (0 + (p0.axis).toNat)) (e := 3) (cs := cellsOf intD v3) (v := .dat (intD v1238)) (by kernel_rfl) (by kernel_rfl) rfl (by kernel_rfl) (mtOf_at (by kernel_rfl)) (cells_idx intD hx)) ?_
    refine G_run 3 ?_
    obtain ⟨v1239, hx, hm⟩ := bind_inv hm
    refine I_idx 1 intD v4.shape p0.axis v1239 (es := (List.map intD) v4.shape) (d := (intD v1239)) rfl hx rfl rfl ?_
    refine G_run 2 ?_
    refine G_end ⟨by kernel_rfl, ?_⟩
    refine R_ifp (p := v1238 ≥ v1239) (rfl) (fun hc => ?_) (fun hc => ?_)
    · replace hm := pos_inv hc hm
      refine R_seq ?_
      refine R_GD ?_
      refine G_run 6 ?_
      obtain ⟨v1240, hx, hm⟩ := bind_inv hm
      refine G_semN rfl (by kernel_rfl) (fun _ => E_indexMs (e := 3) (n := p0.axis) (j := (p0.axis).toNat) (tt := 1) (g := (gb 0 p1.isEmpty)) (lo := 0) (len := v3.length) (cap := v3.length) (k := .i64) (by kernel_rfl) (by kernel_rfl) rfl (by kernel_rfl) (by kernel_rfl) (idx_nat hx) (Nat.lt_of_lt_of_eq (idx_lt hx) rfl)) ?_
      obtain ⟨v1241, hx, hm⟩ := bind_inv hm
      refine G_semN rfl (by kernel_rfl) (fun _ => E_loadMs (tt := 1) (g := (gb 0 p1.isEmpty)) (j := (0 + (p0.axis).toNat)) (e := 3) (cs := cellsOf intD v3) (v := .dat (intD v1241)) (by kernel_rfl) (by kernel_rfl) rfl (by kernel_rfl) (mtOf_at (by kernel_rfl)) (cells_idx intD hx)) ?_
      refine G_run 3 ?_
      obtain ⟨v1242, hx, hm⟩ := bind_inv hm
      refine I_idx 1 intD v4.shape p0.axis v1242 (es := (List.map intD) v4.shape) (d := (intD v1242)) rfl hx rfl rfl ?_
      refine G_run 2 ?_
      obtain ⟨v1243, hx, hm⟩ := bind_inv hm
      refine G_semN rfl (by kernel_rfl) (fun _ => E_indexMs (e := 3) (n := p0.axis) (j := (p0.axis).toNat) (tt := 1) (g := (gb 0 p1.isEmpty)) (lo := 0) (len := v3.length) (cap := v3.length) (k := .i64) (by kernel_rfl) (by kernel_rfl) rfl (by kernel_rfl) (by kernel_rfl) (idx_nat hx) (Nat.lt_of_lt_of_eq (idx_lt hx) rfl)) ?_
      obtain ⟨v1244, hx, hm⟩ := bind_inv hm
      refine G_semH (fun H => H.set 1 (.mt 3 (gb 0 p1.isEmpty) (cellsOf intD v1244))) rfl (by kernel_rfl) (fun _ => E_stMs intD (l := v3) (n := p0.axis) (y := (W (v1241 - v1242))) hx (fun _ => rfl) (by kernel_rfl) rfl (by kernel_rfl) (by kernel_rfl) (by kernel_rfl)) ?_
      refine G_end ⟨by kernel_rfl, ?_⟩
      refine R_seq ?_
      refine R_G ?_
      refine G_run 4 ?_
      refine G_end ?_
      refine R_ret ?_
      obtain ⟨_, hl1245, hm⟩ := bind_inv hm
      replace hl1245 := guard_inv hl1245
      obtain ⟨rfl, rfl, rfl⟩ := inj3 hm
      exact ⟨trivial, fin_pureX [(intPV 1), (.ms 1 (gb 0 p1.isEmpty) 0 v3.length v3.length), (boolPV true)] (by kernel_rfl) (po_tup (ps_cons (by kernel_rfl) (ps_cons (p1_ms (pc_ms (e := 3) intD v1244 hl1245 (fun _ => rfl) (by kernel_rfl))) (ps_cons (by kernel_rfl) ps_nil))))⟩
    replace hm := neg_inv hc hm
    refine R_skip ?_
    refine R_seq ?_
    refine R_G ?_
    refine G_run 4 ?_
    refine G_end ?_
    refine R_ret ?_
    obtain ⟨rfl, rfl, rfl⟩ := inj3 hm
    exact ⟨trivial, fin_pureX [(intPV 0), (.ms 1 (gb 0 p1.isEmpty) 0 v3.length v3.length), (boolPV true)] (by kernel_rfl) (po_tup (ps_cons (by kernel_rfl) (ps_cons (p1_ms (pc_ms (e := 3) intD v3 rfl (fun _ => rfl) (by kernel_rfl))) (ps_cons (by kernel_rfl) ps_nil))))⟩
  replace hm := neg_inv hc hm
  refine R_skip ?_
  refine R_seq ?_
  refine R_G ?_
  refine G_run 4 ?_
  refine G_end ?_
  refine R_ret ?_
  obtain ⟨rfl, rfl, rfl⟩ := inj3 hm
  exact ⟨trivial, fin_pureX [(intPV 0), (.ms 1 (gb 0 p1.isEmpty) 0 v3.length v3.length), (boolPV true)] (by kernel_rfl) (po_tup (ps_cons (by kernel_rfl) (ps_cons (p1_ms (pc_ms (e := 3) intD v3 rfl (fun _ => rfl) (by kernel_rfl))) (ps_cons (by kernel_rfl) ps_nil))))⟩
end Go.Proofs.Tryz
namespace Go.Proofs.Tryz
open Go Go.Pm
set_option linter.unusedVariables false
set_option maxRecDepth 2000
def m_ref16_Origin (x : (T_ref14_Core × (List Int))) : Option T_ref16_Cell :=
  match x with
  | (p0, p1) =>
  if p0.kind = 1 then
    m_ref03_Offset (p0.shape, p1) >>= fun (v1 : Int) =>
    some (⟨false, p0.buffer, v1⟩ : T_ref16_Cell)
  else
  m_ref14_Step ((⟨p0.kind, p0.shape, p0.buffer, p0.starts, p0.axis, p0.amount, p0.perm, p0.kids⟩ : T_ref14_Core), p1) >>= fun ((v2, v3, v4) : (Int × (List Int) × Bool)) =>
  if v4 = false then
    some (⟨true, 0, 0⟩ : T_ref16_Cell)
  else
  idx p0.kids v2 >>= fun v5 =>
  m_ref16_Origin (v5, v3) >>= fun (v6 : T_ref16_Cell) =>
  some v6
  partial_fixpoint
def P_ref16_Origin : (T_ref14_Core × (List Int)) → T_ref16_Cell → Prop := fun x r => match x, r with
  | (p0, p1), r0 => ∀ H, PC prog env 23 ([(T_ref14_Core.ex p0), (.lst ((List.map intD) p1))].map .dat) H (.dat (T_ref16_Cell.toD r0)) H
theorem g_ref16_Origin : (∀ x r, m_ref16_Origin x = some r → P_ref16_Origin x r) := by
  refine m_ref16_Origin.partial_correctness P_ref16_Origin ?_
  · intro m_ref16_Origin w_ref16_Origin x r0 hm
    unfold P_ref16_Origin
    obtain ⟨p0, p1⟩ := x
    intro H
    refine PC_sx (ds := [(T_ref14_Core.ex p0), (.lst ((List.map intD) p1))]) (fn := f23) (by kernel_rfl) (by kernel_rfl) rfl ?_ (by kernel_rfl)
    refine R_seq ?_
    refine R_G ?_
    refine G_run 2 ?_
    refine G_end ?_
    refine R_seq ?_
    refine R_seq ?_
    refine R_G ?_
    refine G_run 3 ?_
    refine G_end ?_
    refine R_ifp (p := p0.kind = 1) (eq_dec _ _) (fun hc => ?_) (fun hc => ?_)
    · replace hm := pos_inv hc hm
      refine R_seq ?_
      refine R_GD ?_
      refine G_run 5 ?_
      obtain ⟨v1, hx, hm⟩ := bind_inv hm
      have hq := w_ref03_Offset _ _ hx []
      refine G_callP hq ?_
      refine G_run 2 ?_
      refine G_end ⟨by kernel_rfl, ?_⟩
      refine R_ret ?_
      obtain rfl := inj1 hm
      exact ⟨trivial, fin_pure (by kernel_rfl)⟩
    replace hm := neg_inv hc hm
    refine R_skip ?_
    refine R_seq ?_
    refine R_G ?_
    refine G_run 2 ?_
    obtain ⟨⟨v2, v3, v4⟩, hx, hm⟩ := bind_inv hm
    have hq := w_ref14_Step _ _ hx []
    refine G_callP hq ?_
    refine G_run 7 ?_
    refine G_end ?_
    refine R_seq ?_
    refine R_seq ?_
    refine R_G ?_
    refine G_run 2 ?_
    refine G_end ?_
    refine R_ifp (p := v4 = false) (not_dec _) (fun hc => ?_) (fun hc => ?_)
    · replace hm := pos_inv hc hm
      refine R_seq ?_
      refine R_G ?_
      refine G_run 2 ?_
      refine G_end ?_
      refine R_ret ?_
      obtain rfl := inj1 hm
      exact ⟨trivial, fin_pure (by kernel_rfl)⟩
    replace hm := neg_inv hc hm
    refine R_skip ?_
    refine R_seq ?_
    refine R_G ?_
    refine G_run 3 ?_
    obtain ⟨v5, hx, hm⟩ := bind_inv hm
    refine I_idx 8 T_ref14_Core.toD p0.kids v2 v5 (es := T_ref14_Core.toDs p0.kids) (d := (T_ref14_Core.ex v5)) (T_ref14_Core.toDs_eq _) hx (T_ref14_Core.toD_eq v5) rfl ?_
    refine G_run 2 ?_
    obtain ⟨v6, hx, hm⟩ := bind_inv hm
    have hq := w_ref16_Origin _ _ hx []
    refine G_callP hq ?_
    refine G_run 1 ?_
    refine G_end ?_
    refine R_ret ?_
    obtain rfl := inj1 hm
    exact ⟨trivial, fin_pure (by kernel_rfl)⟩
theorem w_ref16_Origin : ∀ x r, m_ref16_Origin x = some r → P_ref16_Origin x r := g_ref16_Origin
end Go.Proofs.Tryz
namespace Go.Proofs.Tryz
open Go Go.Pm
set_option linter.unusedVariables false
set_option maxRecDepth 2000
def m_law16_PsiCells (x : (T_ref14_Core × (List (List Int)) × (List Int))) : Option Bool :=
  match x with
  | (p0, p1, p2) =>
  (m_law16_awake () >>= fun (v2 : Bool) =>
  (if v2 = false then
    some true
  else
  m_ref14_Small ((⟨p0.kind, p0.shape, p0.buffer, p0.starts, p0.axis, p0.amount, p0.perm, p0.kids⟩ : T_ref14_Core), p1, 5000) >>= fun (v4 : Bool) =>
  some (!v4)
  ) >>= fun (v3 : Bool) =>
  if v3 = true then
    some true
  else
  some (decide ((p2.length : Int) > 50))
  ) >>= fun (v1 : Bool) =>
  if v1 = true then
    m_law16_awake () >>= fun (v5 : Bool) =>
    some v5
  else
  m_law14_Core p0 >>= fun (v6 : T_core_Core) =>
  m_psi_Origin ((⟨v6.kind, v6.shape, v6.buffer, v6.starts, v6.axis, v6.amount, v6.perm, v6.kids⟩ : T_core_Core), p2) >>= fun ((v7, v8) : (T_psi_Cell × Bool)) =>
  m_ref03_Valid (p0.shape, p2) >>= fun (v9 : Bool) =>
  if v9 = false then
    (if v8 = false then
      some ((v7.fill == false) && ((v7.buffer == 0) && ((v7.offset == 0) && true)))
    else
    some false
    ) >>= fun (v10 : Bool) =>
    some v10
  else
  if v8 = true then
    m_ref16_Origin ((⟨p0.kind, p0.shape, p0.buffer, p0.starts, p0.axis, p0.amount, p0.perm, p0.kids⟩ : T_ref14_Core), p2) >>= fun (v11 : T_ref16_Cell) =>
    some ((v7.fill == v11.fill) && ((v7.buffer == v11.buffer) && ((v7.offset == v11.offset) && true)))
  else
  some false
def P_law16_PsiCells : (T_ref14_Core × (List (List Int)) × (List Int)) → Bool → Prop := fun x r => match x, r with
  | (p0, p1, p2), r0 => ∀ H, PC prog env 5 ([(T_ref14_Core.ex p0), (.lst ((List.map (fun l => Dat.lst ((List.map intD) l))) p1)), (.lst ((List.map intD) p2))].map .dat) H (boolPV r0) H
theorem w_law16_PsiCells : ∀ x r, m_law16_PsiCells x = some r → P_law16_PsiCells x r := by
  intro x r0 hm
  unfold m_law16_PsiCells at hm
  unfold P_law16_PsiCells
  obtain ⟨p0, p1, p2⟩ := x
  intro H
  refine PC_sx (ds := [(T_ref14_Core.ex p0), (.lst ((List.map (fun l => Dat.lst ((List.map intD) l))) p1)), (.lst ((List.map intD) p2))]) (fn := f5) (by kernel_rfl) (by kernel_rfl) rfl ?_ (by kernel_rfl)
  refine R_seq ?_
  refine R_G ?_
  refine G_run 2 ?_
  refine G_end ?_
  refine R_seq ?_
  refine R_seq ?_
  obtain ⟨v1, hs, hm⟩ := bind_inv hm
  refine R_cut (fun d => ⟨sl d 50 [(2, (.dat (.lst ((List.map intD) p2)))), (3, (.ptr 0 0)), (21, (boolPV v1))], [(.box [(intPV p0.kind), (.dat (.lst ((List.map intD) p0.shape))), (intPV p0.buffer), (.dat (.lst ((List.map intD) p0.starts))), (intPV p0.axis), (intPV p0.amount), (.dat (.lst ((List.map intD) p0.perm))), (.dat (.lst (T_ref14_Core.toDs p0.kids)))])]⟩) ?_ (fun d => ?_)
  · replace hm := hs
    clear hs
    refine R_GN ?_
    obtain ⟨v2, hx, hm⟩ := bind_inv hm
    have hq := w_law16_awake _ _ hx []
    refine G_callP hq ?_
    refine G_run 2 ?_
    obtain ⟨v3, hs, hm⟩ := bind_inv hm
    refine G_cut (j := 8) (fun d => ⟨sl d 50 [(0, (.dat (.agg [(intD p0.kind), (.lst ((List.map intD) p0.shape)), (intD p0.buffer), (.lst ((List.map intD) p0.starts)), (intD p0.axis), (intD p0.amount), (.lst ((List.map intD) p0.perm)), (.lst (T_ref14_Core.toDs p0.kids))]))), (1, (.dat (.lst ((List.map (fun l => Dat.lst ((List.map intD) l))) p1)))), (2, (.dat (.lst ((List.map intD) p2)))), (3, (.ptr 0 0)), (6, (boolPV false)), (9, (boolPV v2)), (10, (boolPV (!v2))), (16, (boolPV v3))], [(.box [(intPV p0.kind), (.dat (.lst ((List.map intD) p0.shape))), (intPV p0.buffer), (.dat (.lst ((List.map intD) p0.starts))), (intPV p0.axis), (intPV p0.amount), (.dat (.lst ((List.map intD) p0.perm))), (.dat (.lst (T_ref14_Core.toDs p0.kids)))])]⟩) (fun d => ?_) (fun hJ => ?_)
    · clear hs
      refine G_run 1 ?_
      refine G_split (p := v3 = true) 17 (bool_dec _) (fun hc => ?_) (fun hc => ?_)
      · replace hm := pos_inv hc hm
        refine G_run 4 ?_
        refine G_end ⟨by kernel_rfl, ?_⟩
        obtain rfl := inj1 hm
        exact cut_leaf (by kernel_rfl)
      replace hm := neg_inv hc hm
      refine G_run 1 ?_
      refine I_len intD p2 (es := (List.map intD) p2) rfl ?_
      refine G_run 2 ?_
      refine G_end ⟨by kernel_rfl, ?_⟩
      obtain rfl := inj1 hm
      exact cut_leaf (by kernel_rfl)
    replace hm := hs
    clear hs
    refine G_split (p := v2 = false) 11 (not_dec _) (fun hc => ?_) (fun hc => ?_)
    · replace hm := pos_inv hc hm
      refine G_run 5 ?_
      obtain rfl := inj1 hm
      exact hJ _ _ (by kernel_rfl) (by kernel_rfl)
    replace hm := neg_inv hc hm
    refine G_run 2 ?_
    obtain ⟨v4, hx, hm⟩ := bind_inv hm
    have hq := w_ref14_Small _ _ hx []
    refine G_callP hq ?_
    refine G_run 2 ?_
    obtain rfl := inj1 hm
    exact hJ _ _ (by kernel_rfl) (by kernel_rfl)
  clear hs
  refine R_ifp (p := v1 = true) (bool_dec _) (fun hc => ?_) (fun hc => ?_)
  · replace hm := pos_inv hc hm
    refine R_seq ?_
    refine R_G ?_
    obtain ⟨v5, hx, hm⟩ := bind_inv hm
    have hq := w_law16_awake _ _ hx []
    refine G_callP hq ?_
    refine G_run 1 ?_
    refine G_end ?_
    refine R_ret ?_
    obtain rfl := inj1 hm
    exact ⟨trivial, fin_pure (by kernel_rfl)⟩
  replace hm := neg_inv hc hm
  refine R_skip ?_
  refine R_seq ?_
  refine R_G ?_
  refine G_run 1 ?_
  obtain ⟨v6, hx, hm⟩ := bind_inv hm
  have hq := w_law14_Core _ _ hx []
  refine G_callP hq ?_
  refine G_run 1 ?_
  obtain ⟨⟨v7, v8⟩, hx, hm⟩ := bind_inv hm
  have hq := w_psi_Origin _ _ hx []
  refine G_callP hq ?_
  refine G_run 6 ?_
  refine G_end ?_
  refine R_seq ?_
  refine R_seq ?_
  refine R_G ?_
  refine G_run 3 ?_
  obtain ⟨v9, hx, hm⟩ := bind_inv hm
  have hq := w_ref03_Valid _ _ hx []
  refine G_callP hq ?_
  refine G_run 1 ?_
  refine G_end ?_
  refine R_ifp (p := v9 = false) (not_dec _) (fun hc => ?_) (fun hc => ?_)
  · replace hm := pos_inv hc hm
    refine R_seq ?_
    obtain ⟨v10, hs, hm⟩ := bind_inv hm
    refine R_cut (fun d => ⟨sl d 50 [(6, (boolPV v10))], [(.box [(intPV p0.kind), (.dat (.lst ((List.map intD) p0.shape))), (intPV p0.buffer), (.dat (.lst ((List.map intD) p0.starts))), (intPV p0.axis), (intPV p0.amount), (.dat (.lst ((List.map intD) p0.perm))), (.dat (.lst (T_ref14_Core.toDs p0.kids)))]), (.box [(boolPV v7.fill), (intPV v7.buffer), (intPV v7.offset)])]⟩) ?_ (fun d => ?_)
    · replace hm := hs
      clear hs
      refine R_G ?_
      refine G_run 3 ?_
      refine G_split (p := v8 = false) 37 (not_dec _) (fun hc => ?_) (fun hc => ?_)
      · replace hm := pos_inv hc hm
        refine G_run 2 ?_
        refine G_semN rfl (by kernel_rfl) (fun _ => E_eqlS (t := 63) (xs := #[.bool v7.fill, .int .i64 v7.buffer, .int .i64 v7.offset]) (ys := #[.bool false, .int .i64 0, .int .i64 0]) (b := ((v7.fill == false) && ((v7.buffer == 0) && ((v7.offset == 0) && true)))) rfl (by kernel_rfl) (by kernel_rfl) (SEq_of (fs := prog.fieldsOf 63) (by kernel_rfl) (by kernel_rfl) (by kernel_rfl) (by kernel_rfl))) ?_
        refine G_run 2 ?_
        refine G_end ?_
        obtain rfl := inj1 hm
        exact cut_leaf (by kernel_rfl)
      replace hm := neg_inv hc hm
      refine G_run 5 ?_
      refine G_end ?_
      obtain rfl := inj1 hm
      exact cut_leaf (by kernel_rfl)
    clear hs
    refine R_ret ?_
    obtain rfl := inj1 hm
    exact ⟨trivial, fin_pure (by kernel_rfl)⟩
  replace hm := neg_inv hc hm
  refine R_skip ?_
  refine R_seq ?_
  refine R_GD ?_
  refine G_run 2 ?_
  refine G_split (p := v8 = true) 43 (bool_dec _) (fun hc => ?_) (fun hc => ?_)
  · replace hm := pos_inv hc hm
    refine G_run 3 ?_
    obtain ⟨v11, hx, hm⟩ := bind_inv hm
    have hq := w_ref16_Origin _ _ hx []
    refine G_callP hq ?_
    refine G_semN rfl (by kernel_rfl) (fun _ => E_eqlS (t := 62) (xs := #[.bool v7.fill, .int .i64 v7.buffer, .int .i64 v7.offset]) (ys := #[.bool v11.fill, .int .i64 v11.buffer, .int .i64 v11.offset]) (b := ((v7.fill == v11.fill) && ((v7.buffer == v11.buffer) && ((v7.offset == v11.offset) && true)))) rfl (by kernel_rfl) (by kernel_rfl) (SEq_of (fs := prog.fieldsOf 62) (by kernel_rfl) (by kernel_rfl) (by kernel_rfl) (by kernel_rfl))) ?_
    refine G_run 2 ?_
    refine G_end ⟨by kernel_rfl, ?_⟩
    refine R_ret ?_
    obtain rfl := inj1 hm
    exact ⟨trivial, fin_pure (by kernel_rfl)⟩
  replace hm := neg_inv hc hm
  refine G_run 7 ?_
  refine G_end ⟨by kernel_rfl, ?_⟩
  refine R_ret ?_
  obtain rfl := inj1 hm
  exact ⟨trivial, fin_pure (by kernel_rfl)⟩
end Go.Proofs.Tryz
namespace Go.Proofs.Tryz
open Go Go.Pm
set_option linter.unusedVariables false
set_option maxRecDepth 2000
def m_psi_Origins_L1 (x : (Int × T_core_Core × (List T_psi_Cell) × Int)) : Option ((List T_psi_Cell)) :=
  match x with
  | (v1, p0, v202, v203) =>
  if v203 < v1 then
    m_gamma_Index (p0.shape, v203) >>= fun ((v603, v604) : ((List Int) × Bool)) =>
    m_psi_Origin (p0, v603) >>= fun ((v605, v606) : (T_psi_Cell × Bool)) =>
    app 24 v202 ([v605] : List T_psi_Cell) >>= fun v607 =>
    m_psi_Origins_L1 (v1, p0, v607, (W (v203 + 1)))
  else
  some v202
  partial_fixpoint
def P_psi_Origins_L1 : (Int × T_core_Core × (List T_psi_Cell) × Int) → (List T_psi_Cell) → Prop := fun x r => match x with
  | (v1, p0, v202, v203) => ∀ st, prune 2 ((firstRegion (codeAt [1, 1, 0, 1, 0, 0] (bodyOf f17))).bind (env.hint 17).keepAt) st = ⟨kp 34 [(1, (.ptr 0 0)), (3, (.vec 1 ((List.map T_psi_Cell.toD) v202))), (11, (intPV v1)), (12, (intPV v203))], [(.box [(intPV p0.kind), (.dat (.lst ((List.map intD) p0.shape))), (intPV p0.buffer), (.dat (.lst ((List.map intD) p0.starts))), (intPV p0.axis), (intPV p0.amount), (.dat (.lst ((List.map intD) p0.perm))), (.dat (.lst (T_core_Core.toDs p0.kids)))]), (.tok 63 v202.length)]⟩ →
    RL prog env (env.hint 17) true (codeAt [1, 1, 0, 1, 0, 0] (bodyOf f17)) 2 st (fun e s => match r with | v602 => e = .exit 0 ∧ ∃ d, s = ⟨sl d 34 [(3, (.vec 1 ((List.map T_psi_Cell.toD) v602)))], [(.box [(intPV p0.kind), (.dat (.lst ((List.map intD) p0.shape))), (intPV p0.buffer), (.dat (.lst ((List.map intD) p0.starts))), (intPV p0.axis), (intPV p0.amount), (.dat (.lst ((List.map intD) p0.perm))), (.dat (.lst (T_core_Core.toDs p0.kids)))]), (.tok 63 v602.length)]⟩)
theorem w_psi_Origins_L1 : ∀ x r, m_psi_Origins_L1 x = some r → P_psi_Origins_L1 x r := by
  refine m_psi_Origins_L1.partial_correctness _ (fun m_psi_Origins_L1 w_psi_Origins_L1 x r hm => ?_)
  unfold P_psi_Origins_L1
  obtain ⟨v1, p0, v202, v203⟩ := x
  intro st hst
  refine RL_at hst ?_
  clear hst
  refine R_seq ?_
  refine R_G ?_
  refine G_run 1 ?_
  refine G_end ?_
  refine R_seq ?_
  refine R_ifp (p := v203 < v1) (rfl) (fun hc => ?_) (fun hc => ?_)
  · replace hm := pos_inv hc hm
    refine R_skip ?_
    refine R_seq ?_
    refine R_block ?_
    refine R_seq ?_
    refine R_G ?_
    refine G_run 2 ?_
    refine G_end ?_
    refine R_seq ?_
    refine R_G ?_
    refine G_run 3 ?_
    obtain ⟨⟨v603, v604⟩, hx, hm⟩ := bind_inv hm
    have hq := w_gamma_Index _ _ hx []
    refine G_callP hq ?_
    refine G_run 5 ?_
    refine G_end ?_
    refine R_seq ?_
    refine R_G ?_
    refine G_run 2 ?_
    obtain ⟨⟨v605, v606⟩, hx, hm⟩ := bind_inv hm
    have hq := w_psi_Origin _ _ hx []
    refine G_callP hq ?_
    refine G_run 6 ?_
    refine G_end ?_
    refine R_G ?_
    refine G_run 3 ?_
    obtain ⟨v607, hx, hm⟩ := bind_inv hm
    refine I_app 63 3 24 1 T_psi_Cell.toD v202 ([v605] : List T_psi_Cell) v607 (xs := (List.map T_psi_Cell.toD) v202) (es := (List.map T_psi_Cell.toD) ([v605] : List T_psi_Cell)) (L := (List.map T_psi_Cell.toD)) (fun _ => rfl) rfl rfl T_psi_Cell.fit hx ?_
    refine G_run 1 ?_
    refine G_end ?_
    refine R_G ?_
    refine G_run 2 ?_
    refine G_end ?_
    exact w_psi_Origins_L1 _ _ hm _ (by kernel_rfl)
  replace hm := neg_inv hc hm
  refine R_exit ?_
  obtain rfl := inj1 hm
  exact ⟨rfl, cut_leaf (by kernel_rfl)⟩
def m_psi_Origins (x : T_core_Core) : Option (List T_psi_Cell) :=
  match x with
  | p0 =>
  m_shape_Cells p0.shape >>= fun (v1 : Int) =>
  m_psi_Origins_L1 (v1, p0, ([] : List T_psi_Cell), 0) >>= fun (v602 : (List T_psi_Cell)) =>
  some v602
def P_psi_Origins : T_core_Core → (List T_psi_Cell) → Prop := fun x r => match x, r with
  | p0, r0 => ∀ H, PC prog env 17 ([(T_core_Core.ex p0)].map .dat) H (.dat (.lst ((List.map T_psi_Cell.toD) r0))) H
theorem w_psi_Origins : ∀ x r, m_psi_Origins x = some r → P_psi_Origins x r := by
  intro p0 r0 hm
  unfold m_psi_Origins at hm
  unfold P_psi_Origins
  intro H
  refine PC_sx (ds := [(T_core_Core.ex p0)]) (fn := f17) (by kernel_rfl) (by kernel_rfl) rfl ?_ (by kernel_rfl)
  refine R_seq ?_
  refine R_G ?_
  refine G_run 2 ?_
  refine G_end ?_
  refine R_seq ?_
  refine R_G ?_
  refine G_run 1 ?_
  refine G_end ?_
  refine R_seq ?_
  refine R_seq ?_
  refine R_G ?_
  refine G_run 2 ?_
  obtain ⟨v1, hx, hm⟩ := bind_inv hm
  have hq := w_shape_Cells _ _ hx []
  refine G_callP hq ?_
  refine G_run 1 ?_
  refine G_end ?_
  refine R_block ?_
  obtain ⟨v602, hs, hm⟩ := bind_inv hm
  refine R_loop ?_
  refine RL_use (w_psi_Origins_L1 _ _ hs) (by kernel_rfl) ?_
  clear hs
  intro e s hp
  obtain ⟨rfl, d, rfl⟩ := hp
  refine R_seq ?_
  refine R_G ?_
  refine G_run 2 ?_
  refine G_end ?_
  refine R_ret ?_
  obtain rfl := inj1 hm
  exact ⟨trivial, fin_pure (by kernel_rfl)⟩
end Go.Proofs.Tryz
namespace Go.Proofs.Tryz
open Go Go.Pm
set_option linter.unusedVariables false
set_option maxRecDepth 2000
def m_ref03_All_L3 (x : ((List Int) × Int × (List (List Int)) × Int × (List (List Int)) × Int)) : Option ((List (List Int))) :=
  match x with
  | (p0, v202, v201, v803, v1403, v1404) =>
  idx p0 v202 >>= fun v1804 =>
  if v1404 < v1804 then
    idx v201 v803 >>= fun v1805 =>
    app 8 ([] : List Int) v1805 >>= fun v1806 =>
    app 8 v1806 ([v1404] : List Int) >>= fun v1807 =>
    app 24 v1403 ([v1807] : List (List Int)) >>= fun v1808 =>
    m_ref03_All_L3 (p0, v202, v201, v803, v1808, (W (v1404 + 1)))
  else
  some v1403
  partial_fixpoint
def P_ref03_All_L3 : ((List Int) × Int × (List (List Int)) × Int × (List (List Int)) × Int) → (List (List Int)) → Prop := fun x r => match x with
  | (p0, v202, v201, v803, v1403, v1404) => ∀ st, prune 1 ((firstRegion (codeAt [1, 1, 0, 1, 0, 0, 1, 0, 0, 1, 0, 1, 0, 0, 1, 0, 0, 1, 0, 0] (bodyOf f46))).bind (env.hint 46).keepAt) st = ⟨kp 44 [(0, (.dat (.lst ((List.map intD) p0)))), (3, (.dat (.lst ((List.map (fun l => Dat.lst ((List.map intD) l))) v201)))), (4, (intPV v202)), (5, (.vec 0 ((List.map (fun l => Dat.lst ((List.map intD) l))) v1403))), (6, (intPV v803)), (7, (intPV v1404))], [(.tok 27 v1403.length)]⟩ →
    RL prog env (env.hint 46) true (codeAt [1, 1, 0, 1, 0, 0, 1, 0, 0, 1, 0, 1, 0, 0, 1, 0, 0, 1, 0, 0] (bodyOf f46)) 1 st (fun e s => match r with | v1803 => e = .exit 4 ∧ ∃ d, s = ⟨sl d 44 [(0, (.dat (.lst ((List.map intD) p0)))), (3, (.dat (.lst ((List.map (fun l => Dat.lst ((List.map intD) l))) v201)))), (4, (intPV v202)), (5, (.vec 0 ((List.map (fun l => Dat.lst ((List.map intD) l))) v1803))), (6, (intPV v803))], [(.tok 27 v1803.length)]⟩)
theorem w_ref03_All_L3 : ∀ x r, m_ref03_All_L3 x = some r → P_ref03_All_L3 x r := by
  refine m_ref03_All_L3.partial_correctness _ (fun m_ref03_All_L3 w_ref03_All_L3 x r hm => ?_)
  unfold P_ref03_All_L3
  obtain ⟨p0, v202, v201, v803, v1403, v1404⟩ := x
  intro st hst
  refine RL_at hst ?_
  clear hst
  refine R_seq ?_
  refine R_seq ?_
  refine R_G ?_
  refine G_run 3 ?_
  obtain ⟨v1804, hx, hm⟩ := bind_inv hm
  refine I_idx 1 intD p0 v202 v1804 (es := (List.map intD) p0) (d := (intD v1804)) rfl hx rfl rfl ?_
  refine G_run 2 ?_
  refine G_end ?_
  refine R_ifp (p := v1404 < v1804) (rfl) (fun hc => ?_) (fun hc => ?_)
  · replace hm := pos_inv hc hm
    refine R_skip ?_
    refine R_seq ?_
    refine R_block ?_
    refine R_G ?_
    refine G_run 4 ?_
    obtain ⟨v1805, hx, hm⟩ := bind_inv hm
    refine I_idx 1 (fun l => Dat.lst ((List.map intD) l)) v201 v803 v1805 (es := (List.map (fun l => Dat.lst ((List.map intD) l))) v201) (d := (.lst ((List.map intD) v1805))) rfl hx rfl rfl ?_
    refine G_run 1 ?_
    obtain ⟨v1806, hx, hm⟩ := bind_inv hm
    refine I_app 3 1 8 1 intD ([] : List Int) v1805 v1806 (xs := (List.map intD) ([] : List Int)) (es := (List.map intD) v1805) (L := (List.map intD)) (fun _ => rfl) rfl rfl (fun _ => rfl) hx ?_
    refine G_run 2 ?_
    obtain ⟨v1807, hx, hm⟩ := bind_inv hm
    refine I_app 3 1 8 1 intD v1806 ([v1404] : List Int) v1807 (xs := (List.map intD) v1806) (es := (List.map intD) ([v1404] : List Int)) (L := (List.map intD)) (fun _ => rfl) rfl rfl (fun _ => rfl) hx ?_
    refine G_run 1 ?_
    obtain ⟨v1808, hx, hm⟩ := bind_inv hm
    refine I_app 27 1 24 0 (fun l => Dat.lst ((List.map intD) l)) v1403 ([v1807] : List (List Int)) v1808 (xs := (List.map (fun l => Dat.lst ((List.map intD) l))) v1403) (es := (List.map (fun l => Dat.lst ((List.map intD) l))) ([v1807] : List (List Int))) (L := (List.map (fun l => Dat.lst ((List.map intD) l)))) (fun _ => rfl) rfl rfl (fun _ => rfl) hx ?_
    refine G_run 1 ?_
    refine G_end ?_
    refine R_G ?_
    refine G_run 3 ?_
    refine G_end ?_
    exact w_ref03_All_L3 _ _ hm _ (by kernel_rfl)
  replace hm := neg_inv hc hm
  refine R_exit ?_
  obtain rfl := inj1 hm
  exact ⟨rfl, cut_leaf (by kernel_rfl)⟩
def m_ref03_All_L2 (x : ((List (List Int)) × (List Int) × Int × (List (List Int)) × Int)) : Option ((List (List Int))) :=
  match x with
  | (v201, p0, v202, v802, v803) =>
  if v803 < (v201.length : Int) then
    m_ref03_All_L3 (p0, v202, v201, v803, v802, 0) >>= fun (v1803 : (List (List Int))) =>
    m_ref03_All_L2 (v201, p0, v202, v1803, (W (v803 + 1)))
  else
  some v802
  partial_fixpoint
def P_ref03_All_L2 : ((List (List Int)) × (List Int) × Int × (List (List Int)) × Int) → (List (List Int)) → Prop := fun x r => match x with
  | (v201, p0, v202, v802, v803) => ∀ st, prune 1 ((firstRegion (codeAt [1, 1, 0, 1, 0, 0, 1, 0, 0, 1, 0, 1, 0, 0] (bodyOf f46))).bind (env.hint 46).keepAt) st = ⟨kp 44 [(0, (.dat (.lst ((List.map intD) p0)))), (3, (.dat (.lst ((List.map (fun l => Dat.lst ((List.map intD) l))) v201)))), (4, (intPV v202)), (5, (.vec 0 ((List.map (fun l => Dat.lst ((List.map intD) l))) v802))), (6, (intPV v803))], [(.tok 27 v802.length)]⟩ →
    RL prog env (env.hint 46) true (codeAt [1, 1, 0, 1, 0, 0, 1, 0, 0, 1, 0, 1, 0, 0] (bodyOf f46)) 1 st (fun e s => match r with | v1202 => e = .exit 2 ∧ ∃ d, s = ⟨sl d 44 [(0, (.dat (.lst ((List.map intD) p0)))), (4, (intPV v202)), (5, (.vec 0 ((List.map (fun l => Dat.lst ((List.map intD) l))) v1202)))], [(.tok 27 v1202.length)]⟩)
theorem w_ref03_All_L2 : ∀ x r, m_ref03_All_L2 x = some r → P_ref03_All_L2 x r := by
  refine m_ref03_All_L2.partial_correctness _ (fun m_ref03_All_L2 w_ref03_All_L2 x r hm => ?_)
  unfold P_ref03_All_L2
  obtain ⟨v201, p0, v202, v802, v803⟩ := x
  intro st hst
  refine RL_at hst ?_
  clear hst
  refine R_seq ?_
  refine R_seq ?_
  refine R_G ?_
  refine G_run 2 ?_
  refine I_len (fun l => Dat.lst ((List.map intD) l)) v201 (es := (List.map (fun l => Dat.lst ((List.map intD) l))) v201) rfl ?_
  refine G_run 1 ?_
  refine G_end ?_
  refine R_ifp (p := v803 < (v201.length : Int)) (rfl) (fun hc => ?_) (fun hc => ?_)
  · replace hm := pos_inv hc hm
    refine R_skip ?_
    refine R_seq ?_
    refine R_block ?_
    refine R_seq ?_
    refine R_G ?_
    refine G_run 1 ?_
    refine G_end ?_
    refine R_block ?_
    obtain ⟨v1803, hs, hm⟩ := bind_inv hm
    refine R_loop ?_
    refine RL_use (w_ref03_All_L3 _ _ hs) (by kernel_rfl) ?_
    clear hs
    intro e s hp
    obtain ⟨rfl, d, rfl⟩ := hp
    refine R_G ?_
    refine G_run 3 ?_
    refine G_end ?_
    exact w_ref03_All_L2 _ _ hm _ (by kernel_rfl)
  replace hm := neg_inv hc hm
  refine R_exit ?_
  obtain rfl := inj1 hm
  exact ⟨rfl, cut_leaf (by kernel_rfl)⟩
def m_ref03_All_L1 (x : ((List Int) × (List (List Int)) × Int)) : Option ((List (List Int))) :=
  match x with
  | (p0, v201, v202) =>
  if v202 < (p0.length : Int) then
    m_ref03_All_L2 (v201, p0, v202, ([] : List (List Int)), 0) >>= fun (v1202 : (List (List Int))) =>
    m_ref03_All_L1 (p0, v1202, (W (v202 + 1)))
  else
  some v201
  partial_fixpoint
def P_ref03_All_L1 : ((List Int) × (List (List Int)) × Int) → (List (List Int)) → Prop := fun x r => match x with
  | (p0, v201, v202) => ∀ st, prune 0 ((firstRegion (codeAt [1, 1, 0, 1, 0, 0] (bodyOf f46))).bind (env.hint 46).keepAt) st = ⟨kp 44 [(0, (.dat (.lst ((List.map intD) p0)))), (3, (.dat (.lst ((List.map (fun l => Dat.lst ((List.map intD) l))) v201)))), (4, (intPV v202))], []⟩ →
    RL prog env (env.hint 46) true (codeAt [1, 1, 0, 1, 0, 0] (bodyOf f46)) 0 st (fun e s => match r with | v601 => e = .exit 0 ∧ ∃ d, s = ⟨sl d 44 [(3, (.dat (.lst ((List.map (fun l => Dat.lst ((List.map intD) l))) v601))))], []⟩)
theorem w_ref03_All_L1 : ∀ x r, m_ref03_All_L1 x = some r → P_ref03_All_L1 x r := by
  refine m_ref03_All_L1.partial_correctness _ (fun m_ref03_All_L1 w_ref03_All_L1 x r hm => ?_)
  unfold P_ref03_All_L1
  obtain ⟨p0, v201, v202⟩ := x
  intro st hst
  refine RL_at hst ?_
  clear hst
  refine R_seq ?_
  refine R_seq ?_
  refine R_G ?_
  refine G_run 2 ?_
  refine I_len intD p0 (es := (List.map intD) p0) rfl ?_
  refine G_run 1 ?_
  refine G_end ?_
  refine R_ifp (p := v202 < (p0.length : Int)) (rfl) (fun hc => ?_) (fun hc => ?_)
  · replace hm := pos_inv hc hm
    refine R_skip ?_
    refine R_seq ?_
    refine R_block ?_
    refine R_seq ?_
    refine R_G ?_
    refine G_run 1 ?_
    refine G_end ?_
    refine R_seq ?_
    refine R_seq ?_
    refine R_G ?_
    refine G_run 1 ?_
    refine G_end ?_
    refine R_block ?_
    obtain ⟨v1202, hs, hm⟩ := bind_inv hm
    refine R_loop ?_
    refine RL_use (w_ref03_All_L2 _ _ hs) (by kernel_rfl) ?_
    clear hs
    intro e s hp
    obtain ⟨rfl, d, rfl⟩ := hp
    refine R_G ?_
    refine G_run 2 ?_
    refine G_end ?_
    refine R_G ?_
    refine G_run 3 ?_
    refine G_end ?_
    exact w_ref03_All_L1 _ _ hm _ (by kernel_rfl)
  replace hm := neg_inv hc hm
  refine R_exit ?_
  obtain rfl := inj1 hm
  exact ⟨rfl, cut_leaf (by kernel_rfl)⟩
def m_ref03_All (x : (List Int)) : Option (List (List Int)) :=
  match x with
  | p0 =>
  m_ref03_All_L1 (p0, ([([] : (List Int))] : List (List Int)), 0) >>= fun (v601 : (List (List Int))) =>
  some v601
def P_ref03_All : (List Int) → (List (List Int)) → Prop := fun x r => match x, r with
  | p0, r0 => ∀ H, PC prog env 46 ([(.lst ((List.map intD) p0))].map .dat) H (.dat (.lst ((List.map (fun l => Dat.lst ((List.map intD) l))) r0))) H
theorem w_ref03_All : ∀ x r, m_ref03_All x = some r → P_ref03_All x r := by
  intro p0 r0 hm
  unfold m_ref03_All at hm
  unfold P_ref03_All
  intro H
  refine PC_sx (ds := [(.lst ((List.map intD) p0))]) (fn := f46) (by kernel_rfl) (by kernel_rfl) rfl ?_ (by kernel_rfl)
  refine R_seq ?_
  refine R_G ?_
  refine G_run 1 ?_
  refine G_end ?_
  refine R_seq ?_
  refine R_G ?_
  refine G_run 3 ?_
  refine G_end ?_
  refine R_seq ?_
  refine R_seq ?_
  refine R_G ?_
  refine G_run 1 ?_
  refine G_end ?_
  refine R_block ?_
  obtain ⟨v601, hs, hm⟩ := bind_inv hm
  refine R_loop ?_
  refine RL_use (w_ref03_All_L1 _ _ hs) (by kernel_rfl) ?_
  clear hs
  intro e s hp
  obtain ⟨rfl, d, rfl⟩ := hp
  refine R_seq ?_
  refine R_G ?_
  refine G_run 2 ?_
  refine G_end ?_
  refine R_ret ?_
  obtain rfl := inj1 hm
  exact ⟨trivial, fin_pure (by kernel_rfl)⟩
end Go.Proofs.Tryz
namespace Go.Proofs.Tryz
open Go Go.Pm
set_option linter.unusedVariables false
set_option maxRecDepth 2000
def m_ref16_Origins_L1 (x : ((List (List Int)) × T_ref14_Core × (List T_ref16_Cell) × Int)) : Option ((List T_ref16_Cell)) :=
  match x with
  | (v1, p0, v202, v203) =>
  if v203 < (v1.length : Int) then
    idx v1 v203 >>= fun v603 =>
    m_ref16_Origin ((⟨p0.kind, p0.shape, p0.buffer, p0.starts, p0.axis, p0.amount, p0.perm, p0.kids⟩ : T_ref14_Core), v603) >>= fun (v604 : T_ref16_Cell) =>
    app 24 v202 ([v604] : List T_ref16_Cell) >>= fun v605 =>
    m_ref16_Origins_L1 (v1, p0, v605, (W (v203 + 1)))
  else
  some v202
  partial_fixpoint
def P_ref16_Origins_L1 : ((List (List Int)) × T_ref14_Core × (List T_ref16_Cell) × Int) → (List T_ref16_Cell) → Prop := fun x r => match x with
  | (v1, p0, v202, v203) => ∀ st, prune 2 ((firstRegion (codeAt [1, 1, 1, 0, 1, 0, 0] (bodyOf f19))).bind (env.hint 19).keepAt) st = ⟨kp 25 [(1, (.ptr 0 0)), (3, (.vec 1 ((List.map T_ref16_Cell.toD) v202))), (4, (.dat (.lst ((List.map (fun l => Dat.lst ((List.map intD) l))) v1)))), (5, (intPV v203))], [(.box [(intPV p0.kind), (.dat (.lst ((List.map intD) p0.shape))), (intPV p0.buffer), (.dat (.lst ((List.map intD) p0.starts))), (intPV p0.axis), (intPV p0.amount), (.dat (.lst ((List.map intD) p0.perm))), (.dat (.lst (T_ref14_Core.toDs p0.kids)))]), (.tok 62 v202.length)]⟩ →
    RL prog env (env.hint 19) true (codeAt [1, 1, 1, 0, 1, 0, 0] (bodyOf f19)) 2 st (fun e s => match r with | v602 => e = .exit 0 ∧ ∃ d, s = ⟨sl d 25 [(3, (.vec 1 ((List.map T_ref16_Cell.toD) v602)))], [(.box [(intPV p0.kind), (.dat (.lst ((List.map intD) p0.shape))), (intPV p0.buffer), (.dat (.lst ((List.map intD) p0.starts))), (intPV p0.axis), (intPV p0.amount), (.dat (.lst ((List.map intD) p0.perm))), (.dat (.lst (T_ref14_Core.toDs p0.kids)))]), (.tok 62 v602.length)]⟩)
theorem w_ref16_Origins_L1 : ∀ x r, m_ref16_Origins_L1 x = some r → P_ref16_Origins_L1 x r := by
  refine m_ref16_Origins_L1.partial_correctness _ (fun m_ref16_Origins_L1 w_ref16_Origins_L1 x r hm => ?_)
  unfold P_ref16_Origins_L1
  obtain ⟨v1, p0, v202, v203⟩ := x
  intro st hst
  refine RL_at hst ?_
  clear hst
  refine R_seq ?_
  refine R_seq ?_
  refine R_G ?_
  refine G_run 2 ?_
  refine I_len (fun l => Dat.lst ((List.map intD) l)) v1 (es := (List.map (fun l => Dat.lst ((List.map intD) l))) v1) rfl ?_
  refine G_run 1 ?_
  refine G_end ?_
  refine R_ifp (p := v203 < (v1.length : Int)) (rfl) (fun hc => ?_) (fun hc => ?_)
  · replace hm := pos_inv hc hm
    refine R_skip ?_
    refine R_seq ?_
    refine R_block ?_
    refine R_GD ?_
    refine G_run 4 ?_
    obtain ⟨v603, hx, hm⟩ := bind_inv hm
    refine I_idx 1 (fun l => Dat.lst ((List.map intD) l)) v1 v203 v603 (es := (List.map (fun l => Dat.lst ((List.map intD) l))) v1) (d := (.lst ((List.map intD) v603))) rfl hx rfl rfl ?_
    refine G_run 1 ?_
    obtain ⟨v604, hx, hm⟩ := bind_inv hm
    have hq := w_ref16_Origin _ _ hx []
    refine G_callP hq ?_
    refine G_run 1 ?_
    obtain ⟨v605, hx, hm⟩ := bind_inv hm
    refine I_app 62 3 24 1 T_ref16_Cell.toD v202 ([v604] : List T_ref16_Cell) v605 (xs := (List.map T_ref16_Cell.toD) v202) (es := (List.map T_ref16_Cell.toD) ([v604] : List T_ref16_Cell)) (L := (List.map T_ref16_Cell.toD)) (fun _ => rfl) rfl rfl T_ref16_Cell.fit hx ?_
    refine G_run 1 ?_
    refine G_end ⟨by kernel_rfl, ?_⟩
    refine R_G ?_
    refine G_run 3 ?_
    refine G_end ?_
    exact w_ref16_Origins_L1 _ _ hm _ (by kernel_rfl)
  replace hm := neg_inv hc hm
  refine R_exit ?_
  obtain rfl := inj1 hm
  exact ⟨rfl, cut_leaf (by kernel_rfl)⟩
def m_ref16_Origins (x : T_ref14_Core) : Option (List T_ref16_Cell) :=
  match x with
  | p0 =>
  m_ref03_All p0.shape >>= fun (v1 : (List (List Int))) =>
  m_ref16_Origins_L1 (v1, p0, ([] : List T_ref16_Cell), 0) >>= fun (v602 : (List T_ref16_Cell)) =>
  some v602
def P_ref16_Origins : T_ref14_Core → (List T_ref16_Cell) → Prop := fun x r => match x, r with
  | p0, r0 => ∀ H, PC prog env 19 ([(T_ref14_Core.ex p0)].map .dat) H (.dat (.lst ((List.map T_ref16_Cell.toD) r0))) H
theorem w_ref16_Origins : ∀ x r, m_ref16_Origins x = some r → P_ref16_Origins x r := by
  intro p0 r0 hm
  unfold m_ref16_Origins at hm
  unfold P_ref16_Origins
  intro H
  refine PC_sx (ds := [(T_ref14_Core.ex p0)]) (fn := f19) (by kernel_rfl) (by kernel_rfl) rfl ?_ (by kernel_rfl)
  refine R_seq ?_
  refine R_G ?_
  refine G_run 2 ?_
  refine G_end ?_
  refine R_seq ?_
  refine R_G ?_
  refine G_run 1 ?_
  refine G_end ?_
  refine R_seq ?_
  refine R_G ?_
  refine G_run 2 ?_
  obtain ⟨v1, hx, hm⟩ := bind_inv hm
  have hq := w_ref03_All _ _ hx []
  refine G_callP hq ?_
  refine G_run 1 ?_
  refine G_end ?_
  refine R_seq ?_
  refine R_seq ?_
  refine R_G ?_
  refine G_run 1 ?_
  refine G_end ?_
  refine R_block ?_
  obtain ⟨v602, hs, hm⟩ := bind_inv hm
  refine R_loop ?_
  refine RL_use (w_ref16_Origins_L1 _ _ hs) (by kernel_rfl) ?_
  clear hs
  intro e s hp
  obtain ⟨rfl, d, rfl⟩ := hp
  refine R_seq ?_
  refine R_G ?_
  refine G_run 2 ?_
  refine G_end ?_
  refine R_ret ?_
  obtain rfl := inj1 hm
  exact ⟨trivial, fin_pure (by kernel_rfl)⟩
end Go.Proofs.Tryz
namespace Go.Proofs.Tryz
open Go Go.Pm
set_option linter.unusedVariables false
set_option maxRecDepth 2000
def m_ref03_In (x : ((List Int) × Int)) : Option Bool :=
  match x with
  | (p0, p1) =>
  if p1 ≥ 0 then
    m_ref02_Cells p0 >>= fun (v1 : Int) =>
    some (decide (p1 < v1))
  else
  some false
def P_ref03_In : ((List Int) × Int) → Bool → Prop := fun x r => match x, r with
  | (p0, p1), r0 => ∀ H, PC prog env 20 ([(.lst ((List.map intD) p0)), (intD p1)].map .dat) H (boolPV r0) H
theorem w_ref03_In : ∀ x r, m_ref03_In x = some r → P_ref03_In x r := by
  intro x r0 hm
  unfold m_ref03_In at hm
  unfold P_ref03_In
  obtain ⟨p0, p1⟩ := x
  intro H
  refine PC_sx (ds := [(.lst ((List.map intD) p0)), (intD p1)]) (fn := f20) (by kernel_rfl) (by kernel_rfl) rfl ?_ (by kernel_rfl)
  refine R_seq ?_
  refine R_G ?_
  refine G_run 1 ?_
  refine G_end ?_
  refine R_seq ?_
  refine R_G ?_
  refine G_run 3 ?_
  refine G_split (p := p1 ≥ 0) 7 (rfl) (fun hc => ?_) (fun hc => ?_)
  · replace hm := pos_inv hc hm
    refine G_run 2 ?_
    obtain ⟨v1, hx, hm⟩ := bind_inv hm
    have hq := w_ref02_Cells _ _ hx []
    refine G_callP hq ?_
    refine G_run 3 ?_
    refine G_end ?_
    refine R_ret ?_
    obtain rfl := inj1 hm
    exact ⟨trivial, fin_pure (by kernel_rfl)⟩
  replace hm := neg_inv hc hm
  refine G_run 6 ?_
  refine G_end ?_
  refine R_ret ?_
  obtain rfl := inj1 hm
  exact ⟨trivial, fin_pure (by kernel_rfl)⟩
end Go.Proofs.Tryz
namespace Go.Proofs.Tryz
open Go Go.Pm
set_option linter.unusedVariables false
set_option maxRecDepth 2000
def m_law16_PsiOrigins_L1 (x : ((List T_psi_Cell) × (List T_ref16_Cell) × (List (List Int)) × T_ref14_Core × Int)) : Option (Unit ⊕ Unit) :=
  match x with
  | (v6, v7, p1, p0, v208) =>
  if v208 < (v6.length : Int) then
    (idx v6 v208 >>= fun v609 =>
    idx v7 v208 >>= fun v610 =>
    if ((v609.fill == v610.fill) && ((v609.buffer == v610.buffer) && ((v609.offset == v610.offset) && true))) = false then
      some true
    else
    idx v6 v208 >>= fun v611 =>
    if v611.fill = false then
      idx v6 v208 >>= fun v612 =>
      (if v612.buffer < 0 then
        some true
      else
      idx v6 v208 >>= fun v614 =>
      some (decide (v614.buffer ≥ (p1.length : Int)))
      ) >>= fun (v613 : Bool) =>
      (if v613 = true then
        some true
      else
      idx v6 v208 >>= fun v616 =>
      idx p1 v616.buffer >>= fun v617 =>
      idx v6 v208 >>= fun v618 =>
      m_ref03_In (v617, v618.offset) >>= fun (v619 : Bool) =>
      some (!v619)
      ) >>= fun (v615 : Bool) =>
      some v615
    else
    some false
    ) >>= fun (v608 : Bool) =>
    if v608 = true then
      some (Sum.inl ())
    else
    m_law16_PsiOrigins_L1 (v6, v7, p1, p0, (W (v208 + 1)))
  else
  some (Sum.inr ())
  partial_fixpoint
def P_law16_PsiOrigins_L1 : ((List T_psi_Cell) × (List T_ref16_Cell) × (List (List Int)) × T_ref14_Core × Int) → (Unit ⊕ Unit) → Prop := fun x r => match x with
  | (v6, v7, p1, p0, v208) => ∀ st, prune 1 ((firstRegion (codeAt [1, 1, 1, 1, 1, 0, 1, 0, 0] (bodyOf f4))).bind (env.hint 4).keepAt) st = ⟨kp 85 [(1, (.dat (.lst ((List.map (fun l => Dat.lst ((List.map intD) l))) p1)))), (5, (.dat (.lst ((List.map T_psi_Cell.toD) v6)))), (6, (.dat (.lst ((List.map T_ref16_Cell.toD) v7)))), (7, (intPV v208))], [(.box [(intPV p0.kind), (.dat (.lst ((List.map intD) p0.shape))), (intPV p0.buffer), (.dat (.lst ((List.map intD) p0.starts))), (intPV p0.axis), (intPV p0.amount), (.dat (.lst ((List.map intD) p0.perm))), (.dat (.lst (T_ref14_Core.toDs p0.kids)))])]⟩ →
    RL prog env (env.hint 4) true (codeAt [1, 1, 1, 1, 1, 0, 1, 0, 0] (bodyOf f4)) 1 st (fun e s => match r with | .inl _ => e = .ret ∧ ∃ d, s = ⟨sl d 85 [(4, (boolPV false))], [(.box [(intPV p0.kind), (.dat (.lst ((List.map intD) p0.shape))), (intPV p0.buffer), (.dat (.lst ((List.map intD) p0.starts))), (intPV p0.axis), (intPV p0.amount), (.dat (.lst ((List.map intD) p0.perm))), (.dat (.lst (T_ref14_Core.toDs p0.kids)))])]⟩ | .inr (_) => e = .exit 0 ∧ ∃ d, s = ⟨sl d 85 [], [(.box [(intPV p0.kind), (.dat (.lst ((List.map intD) p0.shape))), (intPV p0.buffer), (.dat (.lst ((List.map intD) p0.starts))), (intPV p0.axis), (intPV p0.amount), (.dat (.lst ((List.map intD) p0.perm))), (.dat (.lst (T_ref14_Core.toDs p0.kids)))])]⟩)
theorem w_law16_PsiOrigins_L1 : ∀ x r, m_law16_PsiOrigins_L1 x = some r → P_law16_PsiOrigins_L1 x r := by
  refine m_law16_PsiOrigins_L1.partial_correctness _ (fun m_law16_PsiOrigins_L1 w_law16_PsiOrigins_L1 x r hm => ?_)
  unfold P_law16_PsiOrigins_L1
  obtain ⟨v6, v7, p1, p0, v208⟩ := x
  intro st hst
  refine RL_at hst ?_
  clear hst
  refine R_seq ?_
  refine R_seq ?_
  refine R_G ?_
  refine G_run 2 ?_
  refine I_len T_psi_Cell.toD v6 (es := (List.map T_psi_Cell.toD) v6) rfl ?_
  refine G_run 1 ?_
  refine G_end ?_
  refine R_ifp (p := v208 < (v6.length : Int)) (rfl) (fun hc => ?_) (fun hc => ?_)
  · replace hm := pos_inv hc hm
    refine R_skip ?_
    refine R_seq ?_
    refine R_block ?_
    refine R_seq ?_
    obtain ⟨v608, hs, hm⟩ := bind_inv hm
    refine R_cut (fun d => ⟨sl d 85 [(1, (.dat (.lst ((List.map (fun l => Dat.lst ((List.map intD) l))) p1)))), (5, (.dat (.lst ((List.map T_psi_Cell.toD) v6)))), (6, (.dat (.lst ((List.map T_ref16_Cell.toD) v7)))), (7, (intPV v208)), (84, (boolPV v608))], [(.box [(intPV p0.kind), (.dat (.lst ((List.map intD) p0.shape))), (intPV p0.buffer), (.dat (.lst ((List.map intD) p0.starts))), (intPV p0.axis), (intPV p0.amount), (.dat (.lst ((List.map intD) p0.perm))), (.dat (.lst (T_ref14_Core.toDs p0.kids)))])]⟩) ?_ (fun d => ?_)
    · replace hm := hs
      clear hs
      refine R_GW ?_
      refine G_run 2 ?_
      obtain ⟨v609, hx, hm⟩ := bind_inv hm
      refine I_idx 3 T_psi_Cell.toD v6 v208 v609 (es := (List.map T_psi_Cell.toD) v6) (d := (T_psi_Cell.toD v609)) rfl hx rfl rfl ?_
      refine G_run 3 ?_
      obtain ⟨v610, hx, hm⟩ := bind_inv hm
      refine I_idx 3 T_ref16_Cell.toD v7 v208 v610 (es := (List.map T_ref16_Cell.toD) v7) (d := (T_ref16_Cell.toD v610)) rfl hx rfl rfl ?_
      refine G_run 1 ?_
      refine G_semN rfl (by kernel_rfl) (fun _ => E_neqS (t := 62) (xs := #[.bool v609.fill, .int .i64 v609.buffer, .int .i64 v609.offset]) (ys := #[.bool v610.fill, .int .i64 v610.buffer, .int .i64 v610.offset]) (b := ((v609.fill == v610.fill) && ((v609.buffer == v610.buffer) && ((v609.offset == v610.offset) && true)))) rfl (by kernel_rfl) (by kernel_rfl) (SEq_of (fs := prog.fieldsOf 62) (by kernel_rfl) (by kernel_rfl) (by kernel_rfl) (by kernel_rfl))) ?_
      refine G_run 1 ?_
      refine G_split (p := ((v609.fill == v610.fill) && ((v609.buffer == v610.buffer) && ((v609.offset == v610.offset) && true))) = false) 42 (not_dec _) (fun hc => ?_) (fun hc => ?_)
      · replace hm := pos_inv hc hm
        refine G_run 42 ?_
        refine G_end ⟨by kernel_rfl, ?_⟩
        obtain rfl := inj1 hm
        exact cut_leaf (by kernel_rfl)
      replace hm := neg_inv hc hm
      refine G_run 2 ?_
      obtain ⟨v611, hx, hm⟩ := bind_inv hm
      refine I_idx 3 T_psi_Cell.toD v6 v208 v611 (es := (List.map T_psi_Cell.toD) v6) (d := (T_psi_Cell.toD v611)) rfl hx rfl rfl ?_
      refine G_run 4 ?_
      refine G_split (p := v611.fill = false) 49 (not_dec _) (fun hc => ?_) (fun hc => ?_)
      · replace hm := pos_inv hc hm
        refine G_run 2 ?_
        obtain ⟨v612, hx, hm⟩ := bind_inv hm
        refine I_idx 3 T_psi_Cell.toD v6 v208 v612 (es := (List.map T_psi_Cell.toD) v6) (d := (T_psi_Cell.toD v612)) rfl hx rfl rfl ?_
        refine G_run 4 ?_
        obtain ⟨v613, hs, hm⟩ := bind_inv hm
        refine G_cut (j := 33) (fun d => ⟨sl d 85 [(1, (.dat (.lst ((List.map (fun l => Dat.lst ((List.map intD) l))) p1)))), (5, (.dat (.lst ((List.map T_psi_Cell.toD) v6)))), (6, (.dat (.lst ((List.map T_ref16_Cell.toD) v7)))), (7, (intPV v208)), (27, (intPV v208)), (28, (.dat (.lst ((List.map T_psi_Cell.toD) v6)))), (29, (intPV (v6.length : Int))), (30, (boolPV (decide (v208 < (v6.length : Int))))), (33, (.dat (.lst ((List.map T_psi_Cell.toD) v6)))), (34, (intPV v208)), (35, (.iptr [(boolD v609.fill), (intD v609.buffer), (intD v609.offset)])), (36, (.dat (.agg [(boolD v609.fill), (intD v609.buffer), (intD v609.offset)]))), (37, (.dat (.lst ((List.map T_ref16_Cell.toD) v7)))), (38, (intPV v208)), (39, (.iptr [(boolD v610.fill), (intD v610.buffer), (intD v610.offset)])), (40, (.dat (.agg [(boolD v610.fill), (intD v610.buffer), (intD v610.offset)]))), (41, (boolPV (!((v609.fill == v610.fill) && ((v609.buffer == v610.buffer) && ((v609.offset == v610.offset) && true)))))), (42, (boolPV false)), (43, (.dat (.lst ((List.map T_psi_Cell.toD) v6)))), (44, (intPV v208)), (45, (.iptr [(boolD v611.fill), (intD v611.buffer), (intD v611.offset)])), (46, (.iptr [(boolD v611.fill), (intD v611.buffer), (intD v611.offset)])), (47, (boolPV v611.fill)), (48, (boolPV (!v611.fill))), (49, (boolPV true)), (50, (.dat (.lst ((List.map T_psi_Cell.toD) v6)))), (51, (intPV v208)), (52, (.iptr [(boolD v612.fill), (intD v612.buffer), (intD v612.offset)])), (53, (.iptr [(intD v612.buffer), (intD v612.offset)])), (54, (intPV v612.buffer)), (55, (boolPV (decide (v612.buffer < 0)))), (65, (boolPV v613))], [(.box [(intPV p0.kind), (.dat (.lst ((List.map intD) p0.shape))), (intPV p0.buffer), (.dat (.lst ((List.map intD) p0.starts))), (intPV p0.axis), (intPV p0.amount), (.dat (.lst ((List.map intD) p0.perm))), (.dat (.lst (T_ref14_Core.toDs p0.kids)))])]⟩) (fun d => ?_) (fun hJ => ?_)
        · clear hs
          refine G_run 1 ?_
          obtain ⟨v615, hs, hm⟩ := bind_inv hm
          refine G_cut (j := 50) (fun d => ⟨sl d 85 [(1, (.dat (.lst ((List.map (fun l => Dat.lst ((List.map intD) l))) p1)))), (5, (.dat (.lst ((List.map T_psi_Cell.toD) v6)))), (6, (.dat (.lst ((List.map T_ref16_Cell.toD) v7)))), (7, (intPV v208)), (27, (intPV v208)), (28, (.dat (.lst ((List.map T_psi_Cell.toD) v6)))), (29, (intPV (v6.length : Int))), (30, (boolPV (decide (v208 < (v6.length : Int))))), (33, (.dat (.lst ((List.map T_psi_Cell.toD) v6)))), (34, (intPV v208)), (35, (.iptr [(boolD v609.fill), (intD v609.buffer), (intD v609.offset)])), (36, (.dat (.agg [(boolD v609.fill), (intD v609.buffer), (intD v609.offset)]))), (37, (.dat (.lst ((List.map T_ref16_Cell.toD) v7)))), (38, (intPV v208)), (39, (.iptr [(boolD v610.fill), (intD v610.buffer), (intD v610.offset)])), (40, (.dat (.agg [(boolD v610.fill), (intD v610.buffer), (intD v610.offset)]))), (41, (boolPV (!((v609.fill == v610.fill) && ((v609.buffer == v610.buffer) && ((v609.offset == v610.offset) && true)))))), (42, (boolPV false)), (43, (.dat (.lst ((List.map T_psi_Cell.toD) v6)))), (44, (intPV v208)), (45, (.iptr [(boolD v611.fill), (intD v611.buffer), (intD v611.offset)])), (46, (.iptr [(boolD v611.fill), (intD v611.buffer), (intD v611.offset)])), (47, (boolPV v611.fill)), (48, (boolPV (!v611.fill))), (49, (boolPV true)), (50, (.dat (.lst ((List.map T_psi_Cell.toD) v6)))), (51, (intPV v208)), (52, (.iptr [(boolD v612.fill), (intD v612.buffer), (intD v612.offset)])), (53, (.iptr [(intD v612.buffer), (intD v612.offset)])), (54, (intPV v612.buffer)), (55, (boolPV (decide (v612.buffer < 0)))), (65, (boolPV v613)), (82, (boolPV v615))], [(.box [(intPV p0.kind), (.dat (.lst ((List.map intD) p0.shape))), (intPV p0.buffer), (.dat (.lst ((List.map intD) p0.starts))), (intPV p0.axis), (intPV p0.amount), (.dat (.lst ((List.map intD) p0.perm))), (.dat (.lst (T_ref14_Core.toDs p0.kids)))])]⟩) (fun d => ?_) (fun hJ => ?_)
          · clear hs
            refine G_run 2 ?_
            refine G_end ⟨by kernel_rfl, ?_⟩
            obtain rfl := inj1 hm
            exact cut_leaf (by kernel_rfl)
          replace hm := hs
          clear hs
          refine G_split (p := v613 = true) 66 (bool_dec _) (fun hc => ?_) (fun hc => ?_)
          · replace hm := pos_inv hc hm
            refine G_run 16 ?_
            obtain rfl := inj1 hm
            exact hJ _ _ (by kernel_rfl) (by kernel_rfl)
          replace hm := neg_inv hc hm
          refine G_run 3 ?_
          obtain ⟨v616, hx, hm⟩ := bind_inv hm
          refine I_idx 3 T_psi_Cell.toD v6 v208 v616 (es := (List.map T_psi_Cell.toD) v6) (d := (T_psi_Cell.toD v616)) rfl hx rfl rfl ?_
          refine G_run 2 ?_
          obtain ⟨v617, hx, hm⟩ := bind_inv hm
          refine I_idx 1 (fun l => Dat.lst ((List.map intD) l)) p1 v616.buffer v617 (es := (List.map (fun l => Dat.lst ((List.map intD) l))) p1) (d := (.lst ((List.map intD) v617))) rfl hx rfl rfl ?_
          refine G_run 3 ?_
          obtain ⟨v618, hx, hm⟩ := bind_inv hm
          refine I_idx 3 T_psi_Cell.toD v6 v208 v618 (es := (List.map T_psi_Cell.toD) v6) (d := (T_psi_Cell.toD v618)) rfl hx rfl rfl ?_
          refine G_run 2 ?_
          obtain ⟨v619, hx, hm⟩ := bind_inv hm
          have hq := w_ref03_In _ _ hx []
          refine G_callP hq ?_
          refine G_run 2 ?_
          obtain rfl := inj1 hm
          exact hJ _ _ (by kernel_rfl) (by kernel_rfl)
        replace hm := hs
        clear hs
        refine G_split (p := v612.buffer < 0) 56 (rfl) (fun hc => ?_) (fun hc => ?_)
        · replace hm := pos_inv hc hm
          refine G_run 9 ?_
          obtain rfl := inj1 hm
          exact hJ _ _ (by kernel_rfl) (by kernel_rfl)
        replace hm := neg_inv hc hm
        refine G_run 2 ?_
        obtain ⟨v614, hx, hm⟩ := bind_inv hm
        refine I_idx 3 T_psi_Cell.toD v6 v208 v614 (es := (List.map T_psi_Cell.toD) v6) (d := (T_psi_Cell.toD v614)) rfl hx rfl rfl ?_
        refine G_run 3 ?_
        refine I_len (fun l => Dat.lst ((List.map intD) l)) p1 (es := (List.map (fun l => Dat.lst ((List.map intD) l))) p1) rfl ?_
        refine G_run 2 ?_
        obtain rfl := inj1 hm
        exact hJ _ _ (by kernel_rfl) (by kernel_rfl)
      replace hm := neg_inv hc hm
      refine G_run 35 ?_
      refine G_end ⟨by kernel_rfl, ?_⟩
      obtain rfl := inj1 hm
      exact cut_leaf (by kernel_rfl)
    clear hs
    refine R_ifp (p := v608 = true) (bool_dec _) (fun hc => ?_) (fun hc => ?_)
    · replace hm := pos_inv hc hm
      refine R_seq ?_
      refine R_G ?_
      refine G_run 1 ?_
      refine G_end ?_
      refine R_ret ?_
      obtain rfl := inj1 hm
      exact ⟨rfl, cut_leaf (by kernel_rfl)⟩
    replace hm := neg_inv hc hm
    refine R_skip ?_
    refine R_G ?_
    refine G_run 3 ?_
    refine G_end ?_
    exact w_law16_PsiOrigins_L1 _ _ hm _ (by kernel_rfl)
  replace hm := neg_inv hc hm
  refine R_exit ?_
  obtain rfl := inj1 hm
  exact ⟨rfl, cut_leaf (by kernel_rfl)⟩
def m_law16_PsiOrigins (x : (T_ref14_Core × (List (List Int)))) : Option Bool :=
  match x with
  | (p0, p1) =>
  (m_law16_awake () >>= fun (v2 : Bool) =>
  if v2 = false then
    some true
  else
  m_ref14_Small (p0, p1, 400) >>= fun (v3 : Bool) =>
  some (!v3)
  ) >>= fun (v1 : Bool) =>
  if v1 = true then
    m_law16_awake () >>= fun (v4 : Bool) =>
    some v4
  else
  m_law14_Core p0 >>= fun (v5 : T_core_Core) =>
  m_psi_Origins (⟨v5.kind, v5.shape, v5.buffer, v5.starts, v5.axis, v5.amount, v5.perm, v5.kids⟩ : T_core_Core) >>= fun (v6 : (List T_psi_Cell)) =>
  m_ref16_Origins (⟨p0.kind, p0.shape, p0.buffer, p0.starts, p0.axis, p0.amount, p0.perm, p0.kids⟩ : T_ref14_Core) >>= fun (v7 : (List T_ref16_Cell)) =>
  if (v6.length : Int) ≠ (v7.length : Int) then
    some false
  else
  (
  m_law16_PsiOrigins_L1 (v6, v7, p1, p0, 0) >>= fun (out : Unit ⊕ Unit) =>
  match out with
  | .inl _ =>
    some false
  | .inr (_) =>
    some true
  )
def P_law16_PsiOrigins : (T_ref14_Core × (List (List Int))) → Bool → Prop := fun x r => match x, r with
  | (p0, p1), r0 => ∀ H, PC prog env 4 ([(T_ref14_Core.ex p0), (.lst ((List.map (fun l => Dat.lst ((List.map intD) l))) p1))].map .dat) H (boolPV r0) H
theorem w_law16_PsiOrigins : ∀ x r, m_law16_PsiOrigins x = some r → P_law16_PsiOrigins x r := by
  intro x r0 hm
  unfold m_law16_PsiOrigins at hm
  unfold P_law16_PsiOrigins
  obtain ⟨p0, p1⟩ := x
  intro H
  refine PC_sx (ds := [(T_ref14_Core.ex p0), (.lst ((List.map (fun l => Dat.lst ((List.map intD) l))) p1))]) (fn := f4) (by kernel_rfl) (by kernel_rfl) rfl ?_ (by kernel_rfl)
  refine R_seq ?_
  refine R_G ?_
  refine G_run 2 ?_
  refine G_end ?_
  refine R_seq ?_
  refine R_seq ?_
  obtain ⟨v1, hs, hm⟩ := bind_inv hm
  refine R_cut (fun d => ⟨sl d 85 [(1, (.dat (.lst ((List.map (fun l => Dat.lst ((List.map intD) l))) p1)))), (2, (.ptr 0 0)), (15, (boolPV v1))], [(.box [(intPV p0.kind), (.dat (.lst ((List.map intD) p0.shape))), (intPV p0.buffer), (.dat (.lst ((List.map intD) p0.starts))), (intPV p0.axis), (intPV p0.amount), (.dat (.lst ((List.map intD) p0.perm))), (.dat (.lst (T_ref14_Core.toDs p0.kids)))])]⟩) ?_ (fun d => ?_)
  · replace hm := hs
    clear hs
    refine R_G ?_
    obtain ⟨v2, hx, hm⟩ := bind_inv hm
    have hq := w_law16_awake _ _ hx []
    refine G_callP hq ?_
    refine G_run 2 ?_
    refine G_split (p := v2 = false) 10 (not_dec _) (fun hc => ?_) (fun hc => ?_)
    · replace hm := pos_inv hc hm
      refine G_run 5 ?_
      refine G_end ?_
      obtain rfl := inj1 hm
      exact cut_leaf (by kernel_rfl)
    replace hm := neg_inv hc hm
    refine G_run 2 ?_
    obtain ⟨v3, hx, hm⟩ := bind_inv hm
    have hq := w_ref14_Small _ _ hx []
    refine G_callP hq ?_
    refine G_run 2 ?_
    refine G_end ?_
    obtain rfl := inj1 hm
    exact cut_leaf (by kernel_rfl)
  clear hs
  refine R_ifp (p := v1 = true) (bool_dec _) (fun hc => ?_) (fun hc => ?_)
  · replace hm := pos_inv hc hm
    refine R_seq ?_
    refine R_G ?_
    obtain ⟨v4, hx, hm⟩ := bind_inv hm
    have hq := w_law16_awake _ _ hx []
    refine G_callP hq ?_
    refine G_run 1 ?_
    refine G_end ?_
    refine R_ret ?_
    obtain rfl := inj1 hm
    exact ⟨trivial, fin_pure (by kernel_rfl)⟩
  replace hm := neg_inv hc hm
  refine R_skip ?_
  refine R_seq ?_
  refine R_G ?_
  refine G_run 1 ?_
  obtain ⟨v5, hx, hm⟩ := bind_inv hm
  have hq := w_law14_Core _ _ hx []
  refine G_callP hq ?_
  obtain ⟨v6, hx, hm⟩ := bind_inv hm
  have hq := w_psi_Origins _ _ hx []
  refine G_callP hq ?_
  refine G_run 1 ?_
  refine G_end ?_
  refine R_seq ?_
  refine R_G ?_
  refine G_run 1 ?_
  obtain ⟨v7, hx, hm⟩ := bind_inv hm
  have hq := w_ref16_Origins _ _ hx []
  refine G_callP hq ?_
  refine G_run 1 ?_
  refine G_end ?_
  refine R_seq ?_
  refine R_seq ?_
  refine R_G ?_
  refine G_run 1 ?_
  refine I_len T_psi_Cell.toD v6 (es := (List.map T_psi_Cell.toD) v6) rfl ?_
  refine G_run 1 ?_
  refine I_len T_ref16_Cell.toD v7 (es := (List.map T_ref16_Cell.toD) v7) rfl ?_
  refine G_run 1 ?_
  refine G_end ?_
  refine R_ifp (p := (v6.length : Int) ≠ (v7.length : Int)) (ne_dec _ _) (fun hc => ?_) (fun hc => ?_)
  · replace hm := pos_inv hc hm
    refine R_seq ?_
    refine R_G ?_
    refine G_run 1 ?_
    refine G_end ?_
    refine R_ret ?_
    obtain rfl := inj1 hm
    exact ⟨trivial, fin_pure (by kernel_rfl)⟩
  replace hm := neg_inv hc hm
  refine R_skip ?_
  refine R_seq ?_
  refine R_seq ?_
  refine R_G ?_
  refine G_run 1 ?_
  refine G_end ?_
  refine R_block ?_
  obtain ⟨out, hs, hm⟩ := bind_inv hm
  refine R_loop ?_
  rcases out with _ | _
  · refine RL_use (w_law16_PsiOrigins_L1 _ _ hs) (by kernel_rfl) ?_
    clear hs
    intro e s hp
    obtain ⟨rfl, d, rfl⟩ := hp
    obtain rfl := inj1 hm
    exact ⟨trivial, fin_pure (by kernel_rfl)⟩
  · refine RL_use (w_law16_PsiOrigins_L1 _ _ hs) (by kernel_rfl) ?_
    clear hs
    intro e s hp
    obtain ⟨rfl, d, rfl⟩ := hp
    refine R_seq ?_
    refine R_G ?_
    refine G_run 1 ?_
    refine G_end ?_
    refine R_ret ?_
    obtain rfl := inj1 hm
    exact ⟨trivial, fin_pure (by kernel_rfl)⟩
end Go.Proofs.Tryz
namespace Go.Proofs.Tryz
open Go Go.Pm
set_option linter.unusedVariables false
set_option linter.unusedSimpArgs false
set_option maxRecDepth 2000
theorem Equal_L1 : ∀ (s t p q : List Int), s.length = t.length → p.length = q.length → Sm (p ++ s).length → m_ref02_Equal_L1 (p ++ s, q ++ t, (p.length : Int)) = some (if s = t then .inr () else .inl ())
  | [], [], p, q, _, _, hs => by
    rw [m_ref02_Equal_L1]; simp only [end_lt, if_false, if_true]
  | x :: s, y :: t, p, q, h1, h2, hs => by
    rw [m_ref02_Equal_L1]
    have ih := Equal_L1 s t (p ++ [x]) (q ++ [y]) (by simpa using h1) (by simp [h2]) (by rw [← mid_app]; exact hs)
    rw [← mid_app, ← mid_app] at ih
    simp only [mid_lt, if_true, mid_idx, bind_ok, mid_W hs, ih]
    rw [h2, mid_idx]
    by_cases he : x = y <;> simp [he, bind_ok]
  | [], _ :: _, _, _, h, _, _ => by cases h
  | _ :: _, [], _, _, h, _, _ => by cases h
theorem Equal_ok (a b : List Int) (hs : Sm a.length) : m_ref02_Equal (a, b) = some (decide (a = b)) := by
  simp only [m_ref02_Equal]
  by_cases h : a.length = b.length
  · have e := Equal_L1 a b [] [] h rfl hs
    have e2 : ¬ ((a.length : Int) ≠ (b.length : Int)) := by omega
    simp only [e2, if_false]
    have e3 : m_ref02_Equal_L1 (a, b, 0) = _ := e
    rw [e3]
    by_cases hab : a = b
    · subst hab; simp
    · rw [if_neg hab, decide_eq_false hab]; rfl
  · have e2 : ((a.length : Int) ≠ (b.length : Int)) := by omega
    have e3 : a ≠ b := fun e => h (by rw [e])
    rw [if_pos e2, decide_eq_false e3]

/-- the product, exactly -/
def prodI (l : List Int) : Int := l.foldl (· * ·) 1
def negB (l : List Int) : Bool := l.any fun d => decide (d < 0)
def bigB (l : List Int) : Bool := l.any fun d => decide (d > 65536)
def prodR (l : List Int) : Int × Int := if negB l then (0, 6) else if bigB l then (0, 7) else if prodI l > 65536 then (0, 7) else (prodI l, 0)
def checkR (l : List Int) : Int := if negB l then 6 else if l.length > 16 ∨ bigB l = true ∨ prodI l > 65536 then 7 else 0
def cellsR (l : List Int) : Int := if checkR l = 0 then prodI l else 0
theorem foldl_mul : ∀ (l : List Int) (x : Int), l.foldl (· * ·) x = x * l.foldl (· * ·) 1
  | [], x => by simp
  | d :: l, x => by rw [List.foldl_cons, foldl_mul l (x * d), List.foldl_cons, foldl_mul l (1 * d), Int.one_mul, Int.mul_assoc]
theorem prodI_cons (d : Int) (l : List Int) : prodI (d :: l) = d * prodI l := by rw [prodI, List.foldl_cons, foldl_mul, Int.one_mul]; rfl
theorem prodI_nil : prodI [] = 1 := rfl
theorem prodI_append (a b : List Int) : prodI (a ++ b) = prodI a * prodI b := by rw [prodI, prodI, prodI, List.foldl_append, foldl_mul]
theorem prodI_pos : ∀ {l : List Int}, (∀ d ∈ l, 1 ≤ d) → 1 ≤ prodI l
  | [], _ => by simp [prodI]
  | d :: l, h => by
    have h1 := prodI_pos (l := l) (fun x hx => h x (List.mem_cons_of_mem _ hx))
    have h2 := h d (List.mem_cons_self ..)
    rw [prodI_cons]
    have := Int.mul_le_mul h2 h1 (by omega) (by omega)
    omega
theorem prodI_zero {l : List Int} (h : (0 : Int) ∈ l) : prodI l = 0 := by
  obtain ⟨s, t, rfl⟩ := List.append_of_mem h
  rw [prodI_append, prodI_cons]; simp
theorem negB_cons (d : Int) (l : List Int) : negB (d :: l) = (decide (d < 0) || negB l) := rfl
theorem bigB_cons (d : Int) (l : List Int) : bigB (d :: l) = (decide (d > 65536) || bigB l) := rfl

theorem Prod_L1 : ∀ (s p : List Int) (z : Bool), Sm (p ++ s).length → m_ref01_Product_L1 (p ++ s, z, (p.length : Int)) = some (if negB s then .inl () else .inr (z || s.any (· == 0)))
  | [], p, z, hs => by
    rw [m_ref01_Product_L1]; simp only [end_lt, if_false]; simp [negB]
  | x :: s, p, z, hs => by
    rw [m_ref01_Product_L1]
    have ih := fun z => Prod_L1 s (p ++ [x]) z (by rw [← mid_app]; exact hs)
    rw [← mid_app] at ih
    simp only [mid_lt, if_true, mid_idx, bind_ok, mid_W hs, ih, negB_cons]
    by_cases hn : x < 0
    · simp [hn]
    · cases z <;> by_cases hz : x = 0 <;> simp [hn, hz]
theorem Prod_L2 : ∀ (s p : List Int) (z : Bool), Sm (p ++ s).length → m_ref01_Product_L2 (p ++ s, z, (p.length : Int)) = some (if bigB s then .inl () else .inr ())
  | [], p, z, hs => by
    rw [m_ref01_Product_L2]; simp only [end_lt, if_false]; simp [bigB]
  | x :: s, p, z, hs => by
    rw [m_ref01_Product_L2]
    have ih := Prod_L2 s (p ++ [x]) z (by rw [← mid_app]; exact hs)
    rw [← mid_app] at ih
    simp only [mid_lt, if_true, mid_idx, bind_ok, mid_W hs, ih, bigB_cons]
    by_cases hn : x > 65536 <;> simp [hn]
theorem Prod_L3 : ∀ (s p : List Int) (m : Int), Sm (p ++ s).length → (∀ d ∈ s, 1 ≤ d ∧ d ≤ 65536) → 1 ≤ m → m ≤ 65536 → m_ref01_Product_L3 (p ++ s, m, (p.length : Int)) = some (if m * prodI s > 65536 then .inl () else .inr (m * prodI s))
  | [], p, m, hs, hd, h1, h2 => by
    rw [m_ref01_Product_L3]; simp only [end_lt, if_false, prodI_nil, Int.mul_one]
    rw [if_neg (by omega)]
  | x :: s, p, m, hs, hd, h1, h2 => by
    rw [m_ref01_Product_L3]
    have hx := hd x (List.mem_cons_self ..)
    have b1 := Int.mul_le_mul h2 hx.2 (by omega) (by omega)
    have b2 := Int.mul_le_mul h1 hx.1 (by omega) (by omega)
    have hw : W (m * x) = m * x := W_ok (by omega) (by omega)
    have hds : ∀ d ∈ s, 1 ≤ d ∧ d ≤ 65536 := fun d h => hd d (List.mem_cons_of_mem _ h)
    simp only [mid_lt, if_true, mid_idx, bind_ok, mid_W hs, hw, prodI_cons]
    rw [← Int.mul_assoc]
    by_cases hn : m * x > 65536
    · have hp := prodI_pos (l := s) (fun d h => (hds d h).1)
      have : m * x * 1 ≤ m * x * prodI s := Int.mul_le_mul_of_nonneg_left hp (by omega)
      rw [if_pos hn, if_pos (by omega)]
    · have ih := Prod_L3 s (p ++ [x]) (m * x) (by rw [← mid_app]; exact hs) hds (by omega) (by omega)
      rw [← mid_app] at ih
      rw [if_neg hn, ih]
theorem neg_all {l : List Int} (h : negB l = false) : ∀ d ∈ l, 0 ≤ d := fun d hd => by
  have := List.any_eq_false.1 h d hd
  simp at this; omega
theorem big_all {l : List Int} (h : bigB l = false) : ∀ d ∈ l, d ≤ 65536 := fun d hd => by
  have := List.any_eq_false.1 h d hd
  simp at this; omega
theorem Product_ok (l : List Int) (hs : Sm l.length) : m_ref01_Product l = some (prodR l) := by
  have e1 : m_ref01_Product_L1 (l, false, 0) = _ := Prod_L1 l [] false hs
  have e2 : ∀ z, m_ref01_Product_L2 (l, z, 0) = _ := fun z => Prod_L2 l [] z hs
  simp only [m_ref01_Product, e1, bind_ok, prodR]
  by_cases hn : negB l = true
  · simp [hn]
  · have hn' : negB l = false := by simpa using hn
    simp only [hn', Bool.false_eq_true, if_false, Bool.false_or, e2, bind_ok]
    by_cases hb : bigB l = true
    · simp [hb]
    · have hb' : bigB l = false := by simpa using hb
      simp only [hb', Bool.false_eq_true, if_false]
      by_cases hz : (l.any (· == 0)) = true
      · have : prodI l = 0 := prodI_zero (by simpa using hz)
        simp [hz, this]
      · have hz' : l.any (· == 0) = false := (Bool.not_eq_true _).mp hz
        have e3 : m_ref01_Product_L3 (l, 1, 0) = _ := Prod_L3 l [] 1 hs (fun d hd => by
          have h1 := neg_all hn' d hd
          have h2 := big_all hb' d hd
          have h3 : d ≠ 0 := fun e => by have := List.any_eq_false.1 hz' d hd; simp [e] at this
          omega) (by omega) (by omega)
        simp only [hz', Bool.false_eq_true, if_false, e3, bind_ok, Int.one_mul]
        by_cases hp : prodI l > 65536 <;> simp [hp]
theorem Check_L1 : ∀ (s p : List Int), Sm (p ++ s).length → m_ref02_Check_L1 (p ++ s, (p.length : Int)) = some (if negB s then .inl () else .inr ())
  | [], p, hs => by
    rw [m_ref02_Check_L1]; simp only [end_lt, if_false]; simp [negB]
  | x :: s, p, hs => by
    rw [m_ref02_Check_L1]
    have ih := Check_L1 s (p ++ [x]) (by rw [← mid_app]; exact hs)
    rw [← mid_app] at ih
    simp only [mid_lt, if_true, mid_idx, bind_ok, mid_W hs, ih, negB_cons]
    by_cases hn : x < 0 <;> simp [hn]
theorem Check_ok (l : List Int) (hs : Sm l.length) : m_ref02_Check l = some (checkR l) := by
  have e1 : m_ref02_Check_L1 (l, 0) = _ := Check_L1 l [] hs
  simp only [m_ref02_Check, e1, bind_ok, checkR, Product_ok l hs]
  by_cases hn : negB l = true
  · simp [hn]
  · simp only [hn, if_false, prodR, Bool.false_eq_true]
    by_cases hl : l.length > 16
    · have : (l.length : Int) > 16 := by omega
      simp [hl, this, bind_ok]
    · have : ¬ (l.length : Int) > 16 := by omega
      by_cases hb : bigB l = true
      · simp [hl, this, hb, bind_ok]
      · by_cases hp : prodI l > 65536 <;> simp [hl, this, hb, hp, bind_ok]
end Go.Proofs.Tryz
namespace Go.Proofs.Tryz
open Go Go.Pm
set_option linter.unusedVariables false
set_option linter.unusedSimpArgs false
set_option maxRecDepth 2000
theorem Cont1_L1 : ∀ (s p : List Int), Sm (p ++ s).length → ∃ r, m_slices_IndexFunc_int_int_size_check_1_L1 (p ++ s, (p.length : Int)) = some r ∧ (negB s = true → ∃ j : Nat, r = .inl (j : Int)) ∧ (negB s = false → r = .inr ())
  | [], p, hs => by
    rw [m_slices_IndexFunc_int_int_size_check_1_L1]; simp only [end_lt, if_false]; exact ⟨_, rfl, fun h => (by cases h), fun _ => rfl⟩
  | x :: s, p, hs => by
    rw [m_slices_IndexFunc_int_int_size_check_1_L1]
    obtain ⟨r, h1, h2, h3⟩ := Cont1_L1 s (p ++ [x]) (by rw [← mid_app]; exact hs)
    rw [← mid_app] at h1
    simp only [mid_lt, if_true, mid_idx, bind_ok, mid_W hs, m_size_check_1, negB_cons]
    by_cases hn : x < 0
    · simp only [hn, decide_true, if_true]; exact ⟨_, rfl, fun _ => ⟨_, rfl⟩, fun h => by simp at h⟩
    · simp only [hn, decide_false, Bool.false_eq_true, if_false, Bool.false_or]; exact ⟨r, h1, h2, h3⟩
theorem Cont1_ok (l : List Int) (hs : Sm l.length) : m_slices_ContainsFunc_int_int_size_check_1 l = some (negB l) := by
  obtain ⟨r, h1, h2, h3⟩ := Cont1_L1 l [] hs
  have e : m_slices_IndexFunc_int_int_size_check_1_L1 (l, 0) = some r := h1
  simp only [m_slices_ContainsFunc_int_int_size_check_1, m_slices_IndexFunc_int_int_size_check_1, e, bind_ok]
  cases hn : negB l
  · rw [h3 hn]; rfl
  · obtain ⟨j, rfl⟩ := h2 hn; simp [bind_ok]
theorem Cont2_L1 : ∀ (s p : List Int), Sm (p ++ s).length → ∃ r, m_slices_IndexFunc_int_int_size_check_2_L1 (p ++ s, (p.length : Int)) = some r ∧ (bigB s = true → ∃ j : Nat, r = .inl (j : Int)) ∧ (bigB s = false → r = .inr ())
  | [], p, hs => by
    rw [m_slices_IndexFunc_int_int_size_check_2_L1]; simp only [end_lt, if_false]; exact ⟨_, rfl, fun h => (by cases h), fun _ => rfl⟩
  | x :: s, p, hs => by
    rw [m_slices_IndexFunc_int_int_size_check_2_L1]
    obtain ⟨r, h1, h2, h3⟩ := Cont2_L1 s (p ++ [x]) (by rw [← mid_app]; exact hs)
    rw [← mid_app] at h1
    simp only [mid_lt, if_true, mid_idx, bind_ok, mid_W hs, m_size_check_2, bigB_cons]
    by_cases hn : x > 65536
    · simp only [hn, decide_true, if_true]; exact ⟨_, rfl, fun _ => ⟨_, rfl⟩, fun h => by simp at h⟩
    · simp only [hn, decide_false, Bool.false_eq_true, if_false, Bool.false_or]; exact ⟨r, h1, h2, h3⟩
theorem Cont2_ok (l : List Int) (hs : Sm l.length) : m_slices_ContainsFunc_int_int_size_check_2 l = some (bigB l) := by
  obtain ⟨r, h1, h2, h3⟩ := Cont2_L1 l [] hs
  have e : m_slices_IndexFunc_int_int_size_check_2_L1 (l, 0) = some r := h1
  simp only [m_slices_ContainsFunc_int_int_size_check_2, m_slices_IndexFunc_int_int_size_check_2, e, bind_ok]
  cases hn : bigB l
  · rw [h3 hn]; rfl
  · obtain ⟨j, rfl⟩ := h2 hn; simp [bind_ok]
def errR (l : List Int) : Int := if negB l then 6 else if bigB l then 7 else 0
theorem sizecheck_ok (l : List Int) (hs : Sm l.length) : m_size_check l = some (errR l) := by
  simp only [m_size_check, Cont1_ok l hs, Cont2_ok l hs, bind_ok, errR]
  by_cases h1 : negB l = true
  · simp [h1]
  · by_cases h2 : bigB l = true <;> simp [h1, h2]
theorem Index_L1 (v : Int) : ∀ (s p : List Int), Sm (p ++ s).length → ∃ r, m_slices_Index_int_int_L1 (p ++ s, v, (p.length : Int)) = some r ∧ (s.any (v == ·) = true → ∃ j : Nat, r = .inl (j : Int)) ∧ (s.any (v == ·) = false → r = .inr ())
  | [], p, hs => by
    rw [m_slices_Index_int_int_L1]; simp only [end_lt, if_false]; exact ⟨_, rfl, fun h => (by cases h), fun _ => rfl⟩
  | x :: s, p, hs => by
    rw [m_slices_Index_int_int_L1]
    obtain ⟨r, h1, h2, h3⟩ := Index_L1 v s (p ++ [x]) (by rw [← mid_app]; exact hs)
    rw [← mid_app] at h1
    simp only [mid_lt, if_true, mid_idx, bind_ok, mid_W hs]
    by_cases hn : v = x
    · rw [if_pos hn]; exact ⟨_, rfl, fun _ => ⟨_, rfl⟩, fun h => by simp [hn] at h⟩
    · rw [if_neg hn]; exact ⟨r, h1, fun h => h2 (by simpa [hn] using h), fun h => h3 (by simpa [hn] using h)⟩
theorem Contains_ok (l : List Int) (v : Int) (hs : Sm l.length) : m_slices_Contains_int_int (l, v) = some (l.any (v == ·)) := by
  obtain ⟨r, h1, h2, h3⟩ := Index_L1 v l [] hs
  have e : m_slices_Index_int_int_L1 (l, v, 0) = some r := h1
  simp only [m_slices_Contains_int_int, m_slices_Index_int_int, e, bind_ok]
  cases hn : l.any (v == ·)
  · rw [h3 hn]; rfl
  · obtain ⟨j, rfl⟩ := h2 hn; simp [bind_ok]
theorem Mul_ok {a b : Int} (ha : 1 ≤ a ∧ a ≤ 65536) (hb : 1 ≤ b ∧ b ≤ 65536) : m_size_Mul (a, b, 65536) = some (if a * b > 65536 then (0, false) else (a * b, true)) := by
  have m1 := Int.mul_le_mul ha.2 hb.2 (by omega) (by omega)
  have m2 := Int.mul_le_mul ha.1 hb.1 (by omega) (by omega)
  have hq0 : (65536 : Int).tdiv b = 65536 / b := Int.tdiv_eq_ediv_of_nonneg (by omega)
  have hq1 : (65536 : Int) / b ≤ 65536 := Int.ediv_le_self _ (by omega)
  have hq2 : 0 ≤ (65536 : Int) / b := Int.ediv_nonneg (by omega) (by omega)
  have hq : quoM 65536 b = some (65536 / b) := by
    rw [quoM, if_neg (by omega), hq0, W_ok (by omega) (by omega)]
  have hlt : (a > 65536 / b) = (a * b > 65536) := by
    have := Int.ediv_lt_iff_lt_mul (a := 65536) (b := a) (c := b) (by omega)
    simp only [gt_iff_lt, eq_iff_iff]
    exact this
  simp only [m_size_Mul, show ¬ a < 0 by omega, show ¬ b < 0 by omega, show ¬ a > 65536 by omega, show ¬ b > 65536 by omega, show b > 0 by omega, if_false, if_true, hq, bind_ok, hlt, decide_false, Bool.false_eq_true]
  by_cases h : a * b > 65536
  · simp [h]
  · simp only [h, decide_false, bind_ok, Bool.false_eq_true, if_false]; rw [W_ok (by omega) (by omega)]
theorem foldP_L1 : ∀ (s p : List Int) (m : Int), Sm (p ++ s).length → (∀ d ∈ s, 1 ≤ d ∧ d ≤ 65536) → 1 ≤ m → m ≤ 65536 →
    ∃ r, m_size_fold_int_size_Product_1_L1 (p ++ s, m, (p.length : Int)) = some r ∧ (m * prodI s > 65536 → ∃ v, r = .inl v) ∧ (¬ m * prodI s > 65536 → r = .inr (m * prodI s))
  | [], p, m, hs, hd, h1, h2 => by
    rw [m_size_fold_int_size_Product_1_L1]; simp only [end_lt, if_false, prodI_nil, Int.mul_one]
    exact ⟨_, rfl, fun h => (by omega), fun _ => rfl⟩
  | x :: s, p, m, hs, hd, h1, h2 => by
    rw [m_size_fold_int_size_Product_1_L1]
    have hx := hd x (List.mem_cons_self ..)
    have hds : ∀ d ∈ s, 1 ≤ d ∧ d ≤ 65536 := fun d h => hd d (List.mem_cons_of_mem _ h)
    have b2 := Int.mul_le_mul h1 hx.1 (by omega) (by omega)
    simp only [mid_lt, if_true, mid_idx, bind_ok, mid_W hs, m_size_Product_1, Mul_ok ⟨h1, h2⟩ hx, prodI_cons]
    rw [← Int.mul_assoc]
    by_cases hn : m * x > 65536
    · have hp := prodI_pos (l := s) (fun d h => (hds d h).1)
      have : m * x * 1 ≤ m * x * prodI s := Int.mul_le_mul_of_nonneg_left hp (by omega)
      simp only [hn, if_true, bind_ok]
      exact ⟨_, rfl, fun _ => ⟨_, rfl⟩, fun h => absurd h (by omega)⟩
    · obtain ⟨r, e1, e2, e3⟩ := foldP_L1 s (p ++ [x]) (m * x) (by rw [← mid_app]; exact hs) hds (by omega) (by omega)
      rw [← mid_app] at e1
      simp only [hn, if_false, bind_ok, Bool.true_eq_false]
      exact ⟨r, e1, e2, e3⟩
theorem sProduct_ok (l : List Int) (hs : Sm l.length) : m_size_Product l = some (prodR l) := by
  simp only [m_size_Product, sizecheck_ok l hs, bind_ok, m_size_combined_size_Product_1, prodR, errR]
  by_cases hn : negB l = true
  · simp [hn, bind_ok]
  · have hn' : negB l = false := (Bool.not_eq_true _).mp hn
    by_cases hb : bigB l = true
    · simp [hn, hb, bind_ok]
    · have hb' : bigB l = false := (Bool.not_eq_true _).mp hb
      simp only [hn', hb', Bool.false_eq_true, if_false, if_true, Contains_ok l 0 hs, bind_ok]
      by_cases hz : l.any ((0 : Int) == ·) = true
      · have h0 : (0 : Int) ∈ l := by
          obtain ⟨x, hx, he⟩ := List.any_eq_true.1 hz
          have : (0 : Int) = x := by simpa using he
          rw [this]; exact hx
        have := prodI_zero h0
        simp [hz, this, bind_ok]
      · have hall : ∀ d ∈ l, 1 ≤ d ∧ d ≤ 65536 := fun d hd => by
          have h1 := neg_all hn' d hd
          have h2 := big_all hb' d hd
          have h3 : d ≠ 0 := fun e => hz (List.any_eq_true.2 ⟨d, hd, by simp [e]⟩)
          omega
        obtain ⟨r, e1, e2, e3⟩ := foldP_L1 l [] 1 hs hall (by omega) (by omega)
        have e4 : m_size_fold_int_size_Product_1_L1 (l, 1, 0) = some r := e1
        rw [Int.one_mul] at e2 e3
        simp only [hz, if_false, bind_ok, m_size_fold_int_size_Product_1, e4, ne_eq, not_true]
        by_cases hp : prodI l > 65536
        · obtain ⟨v, rfl⟩ := e2 hp; simp [hp, bind_ok]
        · rw [e3 hp]; simp [hp, bind_ok]
theorem shapeCheck_ok (l : List Int) (hs : Sm l.length) : m_shape_Check l = some (checkR l) := by
  simp only [m_shape_Check, sProduct_ok l hs, bind_ok, prodR, checkR]
  by_cases hn : negB l = true
  · simp [hn, bind_ok]
  · by_cases hl : l.length > 16
    · have h16 : (l.length : Int) > 16 := by omega
      by_cases hb : bigB l = true
      · simp [hn, hb, hl, h16, bind_ok]
      · by_cases hp : prodI l > 65536 <;> simp [hn, hb, hp, hl, h16, bind_ok]
    · have h16 : ¬ (l.length : Int) > 16 := by omega
      by_cases hb : bigB l = true
      · simp [hn, hb, hl, h16, bind_ok]
      · by_cases hp : prodI l > 65536 <;> simp [hn, hb, hp, hl, h16, bind_ok]
/-! sums of two dimensions -/
end Go.Proofs.Tryz
namespace Go.Proofs.Tryz
open Go Go.Pm
set_option linter.unusedVariables false
set_option linter.unusedSimpArgs false
set_option maxRecDepth 2000
theorem Cells_ok (l : List Int) (hs : Sm l.length) : m_ref02_Cells l = some (cellsR l) := by
  simp only [m_ref02_Cells, Check_ok l hs, bind_ok, Product_ok l hs, cellsR]
  by_cases hc : checkR l = 0
  · have : (prodR l).1 = prodI l := by
      unfold checkR at hc
      unfold prodR
      by_cases hn : negB l = true
      · simp [hn] at hc
      · by_cases hb : bigB l = true
        · simp [hn, hb] at hc
        · by_cases hp : prodI l > 65536
          · simp [hn, hb, hp] at hc
          · simp [hn, hb, hp]
    simp [hc, this]
  · simp [hc]
end Go.Proofs.Tryz
namespace Go.Proofs.Tryz
open Go Go.Pm
set_option linter.unusedVariables false
set_option linter.unusedSimpArgs false
set_option maxRecDepth 2000
def vld : List Int → List Int → Bool
  | [], [] => true
  | n :: s, x :: i => (decide (0 ≤ x) && decide (x < n)) && vld s i
  | _, _ => false
theorem vld_len : ∀ {s i : List Int}, vld s i = true → s.length = i.length
  | [], [], _ => rfl
  | n :: s, x :: i, h => by
    simp only [vld, Bool.and_eq_true] at h
    simp [vld_len h.2]
  | [], _ :: _, h => by cases h
  | _ :: _, [], h => by cases h
theorem vld_ne : ∀ {s i : List Int}, s.length ≠ i.length → vld s i = false
  | [], [], h => absurd rfl h
  | n :: s, x :: i, h => by rw [vld, vld_ne (fun e => h (by simp [e])), Bool.and_false]
  | [], _ :: _, _ => rfl
  | _ :: _, [], _ => rfl
theorem vld_get : ∀ {s i : List Int}, vld s i = true → ∀ k, k < s.length → 0 ≤ i.getD k 0 ∧ i.getD k 0 < s.getD k 0
  | [], _, _, k, hk => by cases hk
  | n :: s, x :: i, h, k, hk => by
    simp only [vld, Bool.and_eq_true, decide_eq_true_eq] at h
    cases k with
    | zero => simpa using h.1
    | succ k => simpa using vld_get h.2 k (by simpa using hk)
  | _ :: _, [], h, _, _ => by cases h
theorem vld_of : ∀ {s i : List Int}, s.length = i.length → (∀ k, k < s.length → 0 ≤ i.getD k 0 ∧ i.getD k 0 < s.getD k 0) → vld s i = true
  | [], [], _, _ => rfl
  | n :: s, x :: i, h, hg => by
    simp only [vld, Bool.and_eq_true, decide_eq_true_eq]
    exact ⟨by simpa using hg 0 (by simp), vld_of (by simpa using h) fun k hk => by simpa using hg (k + 1) (by simpa using hk)⟩
  | [], _ :: _, h, _ => by cases h
  | _ :: _, [], h, _ => by cases h
theorem gValid_L1 : ∀ (s t p q : List Int), s.length = t.length → p.length = q.length → Sm (p ++ s).length → m_gamma_Valid_L1 (p ++ s, q ++ t, (p.length : Int)) = some (if vld t s = true then .inr () else .inl ())
  | [], [], p, q, _, _, hs => by
    rw [m_gamma_Valid_L1]; simp only [end_lt, if_false, vld, if_true]
  | x :: s, n :: t, p, q, h1, h2, hs => by
    rw [m_gamma_Valid_L1]
    have ih := gValid_L1 s t (p ++ [x]) (q ++ [n]) (by simpa using h1) (by simp [h2]) (by rw [← mid_app]; exact hs)
    rw [← mid_app, ← mid_app] at ih
    simp only [mid_lt, if_true, mid_idx, bind_ok, mid_W hs, ih, vld]
    rw [h2, mid_idx]
    by_cases ha : x < 0
    · simp [ha, bind_ok, show ¬ 0 ≤ x by omega]
    · by_cases hb : x ≥ n
      · simp [ha, hb, bind_ok, show ¬ x < n by omega]
      · simp [ha, hb, bind_ok, show 0 ≤ x by omega, show x < n by omega]
  | [], _ :: _, _, _, h, _, _ => by cases h
  | _ :: _, [], _, _, h, _, _ => by cases h
theorem gValid_ok (s i : List Int) (hs : Sm i.length) : m_gamma_Valid (s, i) = some (vld s i) := by
  simp only [m_gamma_Valid]
  by_cases h : i.length = s.length
  · have e : m_gamma_Valid_L1 (i, s, 0) = _ := gValid_L1 i s [] [] h rfl hs
    rw [if_neg (by omega), e]
    cases vld s i <;> rfl
  · rw [if_pos (by omega), vld_ne (fun e => h e.symm)]
theorem rValid_L1 : ∀ (s t p q : List Int), s.length = t.length → p.length = q.length → Sm (p ++ s).length → m_ref03_Valid_L1 (p ++ s, q ++ t, (p.length : Int)) = some (if vld s t = true then .inr () else .inl ())
  | [], [], p, q, _, _, hs => by
    rw [m_ref03_Valid_L1]; simp only [end_lt, if_false, vld, if_true]
  | n :: s, x :: t, p, q, h1, h2, hs => by
    rw [m_ref03_Valid_L1]
    have ih := rValid_L1 s t (p ++ [n]) (q ++ [x]) (by simpa using h1) (by simp [h2]) (by rw [← mid_app]; exact hs)
    rw [← mid_app, ← mid_app] at ih
    simp only [mid_lt, if_true, mid_idx, bind_ok, mid_W hs, ih, vld]
    rw [h2, mid_idx]
    by_cases ha : x < 0
    · simp [ha, bind_ok, show ¬ 0 ≤ x by omega]
    · by_cases hb : x ≥ n
      · simp [ha, hb, bind_ok, show ¬ x < n by omega]
      · simp [ha, hb, bind_ok, show 0 ≤ x by omega, show x < n by omega]
  | [], _ :: _, _, _, h, _, _ => by cases h
  | _ :: _, [], _, _, h, _, _ => by cases h
theorem rValid_ok (s i : List Int) (hs : Sm s.length) : m_ref03_Valid (s, i) = some (vld s i) := by
  simp only [m_ref03_Valid]
  by_cases h : s.length = i.length
  · have e : m_ref03_Valid_L1 (s, i, 0) = _ := rValid_L1 s i [] [] h rfl hs
    rw [if_neg (by omega), e]
    cases vld s i <;> rfl
  · rw [if_pos (by omega), vld_ne h]
theorem setM_ok {l : List Int} {j : Nat} {v : Int} (h : j < l.length) : setM l (j : Int) v = some (l.set j v) := by simp [setM, h]
theorem guardM_ok {p : Prop} [Decidable p] (h : p) : guardM p = some () := if_pos h
theorem mid_set {α : Type} {p s : List α} {x y : α} : (p ++ x :: s).set p.length y = (p ++ [y]) ++ s := by simp
/-- a list, with another one added -/
def addW (l st : List Int) : List Int := List.zipWith (fun x n => W (x + n)) l st
theorem addW_len {l st : List Int} (h : l.length = st.length) : (addW l st).length = l.length := by simp [addW, h]
theorem rWin_L1 (v3 : List Int) (p1 : List Int) (v4 : T_ref14_Core) (kd : Int) (sh : List Int) (bu : Int) (ax am : Int) (pe : List Int) (ks : List T_ref14_Core) : ∀ (s t p q : List Int), s.length = t.length → p.length = q.length → (q ++ t).length = v3.length → Sm (p ++ s).length →
    m_ref14_Step_L1 (v3, ⟨kd, sh, bu, p ++ s, ax, am, pe, ks⟩, p1, v4, q ++ t, (p.length : Int)) = some (q ++ addW t s)
  | [], [], p, q, _, h2, h3, hs => by
    rw [m_ref14_Step_L1]
    have : ¬ ((p.length : Int) < (v3.length : Int)) := by simp at h3; omega
    simp only [this, if_false]; simp [addW]
  | n :: s, x :: t, p, q, h1, h2, h3, hs => by
    rw [m_ref14_Step_L1]
    have ih := rWin_L1 v3 p1 v4 kd sh bu ax am pe ks s t (p ++ [n]) (q ++ [W (x + n)]) (by simpa using h1) (by simp [h2]) (by simpa using h3) (by rw [← mid_app]; exact hs)
    rw [← mid_app] at ih
    have hl : ((p.length : Int) < (v3.length : Int)) := by simp at h3; omega
    have hi : idx (q ++ x :: t) (p.length : Int) = some x := by rw [h2]; exact mid_idx
    have hset : setM (q ++ x :: t) (p.length : Int) (W (x + n)) = some ((q ++ [W (x + n)]) ++ t) := by rw [h2, setM_ok (by simp), mid_set]
    simp only [hl, if_true, guardM_ok h3, bind_ok, hi, mid_idx, hset, mid_W hs, ih]
    simp [addW]
  | [], _ :: _, _, _, h, _, _, _ => by cases h
  | _ :: _, [], _, _, h, _, _, _ => by cases h
theorem gWin_L1 (q8 : List Int) (q0 : Int) (q1 : List Int) (q2 q4 q5 : Int) (q6 : List Int) (q7 : List T_core_Core) : ∀ (s t p q : List Int), s.length = t.length → p.length = q.length → (q ++ t).length = q8.length → Sm (p ++ s).length →
    m_core_stepWindow_b7a05_L1 (p ++ s, q8, q0, q1, q2, q4, q5, q6, q7, q ++ t, (p.length : Int)) = some (q ++ addW t s)
  | [], [], p, q, _, h2, h3, hs => by
    rw [m_core_stepWindow_b7a05_L1]; simp only [end_lt, if_false]; simp [addW]
  | n :: s, x :: t, p, q, h1, h2, h3, hs => by
    rw [m_core_stepWindow_b7a05_L1]
    have ih := gWin_L1 q8 q0 q1 q2 q4 q5 q6 q7 s t (p ++ [n]) (q ++ [W (x + n)]) (by simpa using h1) (by simp [h2]) (by simpa using h3) (by rw [← mid_app]; exact hs)
    rw [← mid_app] at ih
    have hi : idx (q ++ x :: t) (p.length : Int) = some x := by rw [h2]; exact mid_idx
    have hset : setM (q ++ x :: t) (p.length : Int) (W (x + n)) = some ((q ++ [W (x + n)]) ++ t) := by rw [h2, setM_ok (by simp), mid_set]
    simp only [mid_lt, if_true, guardM_ok h3, bind_ok, hi, mid_idx, hset, mid_W hs, ih]
    simp [addW]
  | [], _ :: _, _, _, h, _, _, _ => by cases h
  | _ :: _, [], _, _, h, _, _, _ => by cases h
theorem ext_getD' : ∀ {a b : List Int}, a.length = b.length → (∀ k, k < a.length → a.getD k 0 = b.getD k 0) → a = b
  | [], [], _, _ => rfl
  | x :: a, y :: b, h1, h2 => by
    rw [show x = y by simpa using h2 0 (by simp), ext_getD' (a := a) (b := b) (by simpa using h1) fun k hk => by simpa using h2 (k + 1) (by simpa using hk)]
  | [], _ :: _, h, _ => by cases h
  | _ :: _, [], h, _ => by cases h
end Go.Proofs.Tryz
namespace Go.Proofs.Tryz
open Go Go.Pm
set_option linter.unusedVariables false
set_option linter.unusedSimpArgs false
set_option maxRecDepth 2000
def zipP (l s : List Int) (j r : Int) : Prop := ∀ a ∈ l.zip s, a.1 = j → r ≤ a.2
theorem tr_L1 (v1 p0 : T_ref14_Core) : ∀ (s t p q : List Int), v1.shape = p ++ s → p0.perm = q ++ t → s.length = t.length → p.length = q.length → Sm (p ++ s).length →
    ∃ o, m_ref14_transposed_L1 (v1, p0, (p.length : Int)) = some o ∧ (o = .inr () → ∀ x ∈ t, 0 ≤ x ∧ x < (p0.shape.length : Int))
  | [], [], p, q, e1, e2, _, h2, hs => by
    rw [m_ref14_transposed_L1]; simp only [e1, end_lt, if_false]
    exact ⟨_, rfl, fun _ x h => by cases h⟩
  | n :: s, x :: t, p, q, e1, e2, h1, h2, hs => by
    rw [m_ref14_transposed_L1]
    obtain ⟨o, e, ho⟩ := tr_L1 v1 p0 s t (p ++ [n]) (q ++ [x]) (by rw [e1]; simp) (by rw [e2]; simp) (by simpa using h1) (by simp [h2]) (by rw [← mid_app]; exact hs)
    have hi : idx (q ++ x :: t) (p.length : Int) = some x := by rw [h2]; exact mid_idx
    simp only [e1, e2, mid_lt, if_true, hi, bind_ok, mid_W hs, e]
    by_cases ha : x < 0
    · simp only [ha, if_true, bind_ok]; exact ⟨_, rfl, fun h => by cases h⟩
    · by_cases hb : x ≥ (p0.shape.length : Int)
      · simp only [ha, hb, if_false, decide_true, bind_ok, if_true]; exact ⟨_, rfl, fun h => by cases h⟩
      · simp only [ha, hb, if_false, decide_false, bind_ok, Bool.false_eq_true]
        refine ⟨o, rfl, fun h y hy => ?_⟩
        rcases List.mem_cons.1 hy with rfl | hy
        · omega
        · exact ho h y hy
  | [], _ :: _, _, _, _, _, h, _, _ => by cases h
  | _ :: _, [], _, _, _, _, h, _, _ => by cases h
theorem tr_L3 (v1 p0 : T_ref14_Core) (j : Int) : ∀ (s t p q : List Int) (v : Int), v1.shape = p ++ s → p0.perm = q ++ t → s.length = t.length → p.length = q.length → Sm (p ++ s).length →
    ∃ r, m_ref14_transposed_L3 (v1, p0, j, v, (p.length : Int)) = some r ∧ ((∀ n ∈ s, 0 ≤ n) → (0 ≤ v → r ≤ v) ∧ zipP t s j r)
  | [], [], p, q, v, e1, e2, _, h2, hs => by
    rw [m_ref14_transposed_L3]; simp only [e1, end_lt, if_false]
    exact ⟨_, rfl, fun _ => ⟨fun _ => Int.le_refl _, fun a ha => by cases ha⟩⟩
  | n :: s, x :: t, p, q, v, e1, e2, h1, h2, hs => by
    rw [m_ref14_transposed_L3]
    have ih := fun v => tr_L3 v1 p0 j s t (p ++ [n]) (q ++ [x]) v (by rw [e1]; simp) (by rw [e2]; simp) (by simpa using h1) (by simp [h2]) (by rw [← mid_app]; exact hs)
    have hi : idx (q ++ x :: t) (p.length : Int) = some x := by rw [h2]; exact mid_idx
    simp only [e1, e2, mid_lt, if_true, hi, bind_ok, mid_idx, mid_W hs]
    have new : ∃ r, m_ref14_transposed_L3 (v1, p0, j, n, ((p ++ [n]).length : Int)) = some r ∧ ((∀ m ∈ n :: s, 0 ≤ m) → r ≤ n ∧ zipP (x :: t) (n :: s) j r) := by
      obtain ⟨r, e, hr⟩ := ih n
      refine ⟨r, e, fun h => ?_⟩
      obtain ⟨g1, g2⟩ := hr (fun m hm => h m (List.mem_cons_of_mem _ hm))
      have g3 := g1 (h n (List.mem_cons_self ..))
      exact ⟨g3, fun a ha => by
        rcases List.mem_cons.1 ha with rfl | ha
        · exact fun _ => g3
        · exact g2 a ha⟩
    by_cases hx : x = j
    · simp only [hx, if_true]
      by_cases hv : v < 0
      · simp only [hv, if_true, bind_ok]
        obtain ⟨r, e, hr⟩ := new
        exact ⟨r, e, fun h => ⟨fun h' => by omega, by have := (hr h).2; rwa [hx] at this⟩⟩
      · by_cases hn : n < v
        · simp only [hv, hn, if_false, bind_ok, decide_true, if_true]
          obtain ⟨r, e, hr⟩ := new
          exact ⟨r, e, fun h => ⟨fun h' => by have := (hr h).1; omega, by have := (hr h).2; rwa [hx] at this⟩⟩
        · simp only [hv, hn, if_false, bind_ok, decide_false, Bool.false_eq_true]
          obtain ⟨r, e, hr⟩ := ih v
          refine ⟨r, e, fun h => ?_⟩
          obtain ⟨g1, g2⟩ := hr (fun m hm => h m (List.mem_cons_of_mem _ hm))
          have g3 := g1 (by omega)
          exact ⟨fun _ => g3, fun a ha => by
            rcases List.mem_cons.1 ha with rfl | ha
            · exact fun _ => by show r ≤ n; omega
            · exact g2 a ha⟩
    · simp only [hx, if_false, bind_ok, Bool.false_eq_true]
      obtain ⟨r, e, hr⟩ := ih v
      refine ⟨r, e, fun h => ?_⟩
      obtain ⟨g1, g2⟩ := hr (fun m hm => h m (List.mem_cons_of_mem _ hm))
      exact ⟨g1, fun a ha => by
        rcases List.mem_cons.1 ha with rfl | ha
        · exact fun h' => absurd h' hx
        · exact g2 a ha⟩
  | [], _ :: _, _, _, _, _, _, h, _, _ => by cases h
  | _ :: _, [], _, _, _, _, _, h, _, _ => by cases h
theorem tr_L2 (v1 p0 : T_ref14_Core) (hl : v1.shape.length = p0.perm.length) (hv : Sm v1.shape.length) : ∀ (s p : List Int), p0.shape = p ++ s → Sm (p ++ s).length →
    ∃ o, m_ref14_transposed_L2 (p0, v1, (p.length : Int)) = some o ∧ (o = .inr () → (∀ n ∈ v1.shape, 0 ≤ n) → ∀ k, k < s.length → zipP p0.perm v1.shape ((p.length + k : Nat) : Int) (s.getD k 0))
  | [], p, e1, hs => by
    rw [m_ref14_transposed_L2]; simp only [e1, end_lt, if_false]
    exact ⟨_, rfl, fun _ _ k hk => by cases hk⟩
  | n :: s, p, e1, hs => by
    rw [m_ref14_transposed_L2]
    obtain ⟨r, er, hr⟩ := tr_L3 v1 p0 (p.length : Int) v1.shape p0.perm [] [] (-1) rfl rfl hl rfl hv
    obtain ⟨o, e, ho⟩ := tr_L2 v1 p0 hl hv s (p ++ [n]) (by rw [e1]; simp) (by rw [← mid_app]; exact hs)
    have er' : m_ref14_transposed_L3 (v1, p0, (p.length : Int), -1, 0) = some r := er
    simp only [e1, mid_lt, if_true, er', bind_ok, mid_idx, mid_W hs, e]
    by_cases hn : r = n
    · rw [if_neg (fun h => h hn)]
      refine ⟨o, rfl, fun h h0 k hk => ?_⟩
      cases k with
      | zero => rw [← hn]; exact (hr h0).2
      | succ k =>
        have := ho h h0 k (by simpa using hk)
        simp only [List.length_append, List.length_cons, List.length_nil] at this
        rw [show p.length + (k + 1) = p.length + (0 + 1) + k by omega]
        exact this
    · rw [if_pos hn]; exact ⟨_, rfl, fun h => by cases h⟩
theorem zip_get : ∀ {l s : List Int} {k : Nat}, k < l.length → l.length = s.length → (l.getD k 0, s.getD k 0) ∈ l.zip s
  | x :: l, n :: s, 0, _, _ => by simp
  | x :: l, n :: s, k + 1, h, h2 => by
    simp only [List.getD_cons_succ, List.zip_cons_cons]
    exact List.mem_cons_of_mem _ (zip_get (by simpa using h) (by simpa using h2))
  | [], _, _, h, _ => by cases h
  | _ :: _, [], _, _, h => by cases h
/-- a transpose: each axis of the operand goes to one of the result's, which is no longer -/
theorem tr_ok (p0 v1 : T_ref14_Core) (hk : idx p0.kids 0 = some v1) (h1 : Sm v1.shape.length) (h2 : Sm p0.shape.length) : ∃ b, m_ref14_transposed p0 = some b ∧ (b = true → p0.perm.length = v1.shape.length ∧
    ((∀ n ∈ v1.shape, 0 ≤ n) → ∀ k, k < v1.shape.length → 0 ≤ p0.perm.getD k 0 ∧ p0.perm.getD k 0 < (p0.shape.length : Int) ∧ p0.shape.getD (p0.perm.getD k 0).toNat 0 ≤ v1.shape.getD k 0)) := by
  simp only [m_ref14_transposed, hk, bind_ok]
  by_cases hl : p0.perm.length = v1.shape.length
  · rw [if_neg (by omega)]
    obtain ⟨o, e, ho⟩ := tr_L1 v1 p0 v1.shape p0.perm [] [] rfl rfl hl.symm rfl h1
    obtain ⟨o2, e2, ho2⟩ := tr_L2 v1 p0 hl.symm h1 p0.shape [] rfl h2
    have e' : m_ref14_transposed_L1 (v1, p0, 0) = some o := e
    have e2' : m_ref14_transposed_L2 (p0, v1, 0) = some o2 := e2
    rw [e', bind_ok]
    cases o with
    | inl _ => exact ⟨_, rfl, fun h => by cases h⟩
    | inr _ =>
      simp only [e2', bind_ok]
      cases o2 with
      | inl _ => exact ⟨_, rfl, fun h => by cases h⟩
      | inr _ =>
        refine ⟨_, rfl, fun _ => ⟨hl, fun h0 k hk => ?_⟩⟩
        have hm : p0.perm.getD k 0 ∈ p0.perm := by
          rw [List.getD_eq_getElem?_getD, List.getElem?_eq_getElem (by omega)]
          exact List.getElem_mem _
        have g := ho rfl _ hm
        refine ⟨g.1, g.2, ?_⟩
        have z := ho2 rfl h0 (p0.perm.getD k 0).toNat (by omega)
        exact z _ (zip_get (by omega) hl) (by simp only [List.length_nil, Nat.zero_add]; omega)
  · rw [if_pos (by omega)]; exact ⟨_, rfl, fun h => by cases h⟩
/-- the cell that a transpose steps to -/
def pick (l p : List Int) : List Int := p.map fun j => l.getD j.toNat 0
theorem idx_getD {l : List Int} {j : Int} (h : 0 ≤ j) (h2 : j < (l.length : Int)) : idx l j = some (l.getD j.toNat 0) := by
  have : j.toNat < l.length := by omega
  simp [idx, h, this]
theorem rTr_L2 (v4 p0 : T_ref14_Core) (p1 v3 : List Int) (hp : ∀ x ∈ p0.perm, 0 ≤ x ∧ x < (p1.length : Int)) : ∀ (s t p q : List Int) (a : List Int), v4.shape = p ++ s → p0.perm = q ++ t → s.length = t.length → p.length = q.length → (p ++ s).length ≤ 1000 → a.length = p.length →
    m_ref14_Step_L2 (v4, p0, p1, v3, a, (p.length : Int)) = some (a ++ pick p1 t)
  | [], [], p, q, a, e1, e2, _, h2, hs, ha => by
    rw [m_ref14_Step_L2]; simp only [e1, end_lt, if_false]; simp [pick]
  | n :: s, x :: t, p, q, a, e1, e2, h1, h2, hs, ha => by
    rw [m_ref14_Step_L2]
    have hx := hp x (by rw [e2]; simp)
    have ih := rTr_L2 v4 p0 p1 v3 hp s t (p ++ [n]) (q ++ [x]) (a ++ [p1.getD x.toNat 0]) (by rw [e1]; simp) (by rw [e2]; simp) (by simpa using h1) (by simp [h2]) (by rw [← mid_app]; exact hs) (by simp [ha])
    have hi : idx (q ++ x :: t) (p.length : Int) = some x := by rw [h2]; exact mid_idx
    have hap : app 8 a [p1.getD x.toNat 0] = some (a ++ [p1.getD x.toNat 0]) := app_ok (by
      have : 1002 * 8 ≤ room := by decide +kernel
      simp at hs ⊢; omega)
    simp only [e1, e2, mid_lt, if_true, hi, bind_ok, mid_W (Sm_of hs), idx_getD hx.1 hx.2, hap, ih]
    simp [pick]
  | [], _ :: _, _, _, _, _, _, h, _, _, _ => by cases h
  | _ :: _, [], _, _, _, _, _, h, _, _, _ => by cases h
theorem gTr_L1 (q8 : List Int) (q0 : Int) (q1 : List Int) (q2 : Int) (q3 : List Int) (q4 q5 : Int) (q7 : List T_core_Core) : ∀ (t q a : List Int), (∀ x ∈ t, 0 ≤ x ∧ x < (q8.length : Int)) → (q ++ t).length ≤ 1000 → a.length = q.length →
    m_core_stepTranspose_b7a05_L1 (q ++ t, q8, q0, q1, q2, q3, q4, q5, q7, a, (q.length : Int)) = some (a ++ pick q8 t)
  | [], q, a, _, hs, ha => by
    rw [m_core_stepTranspose_b7a05_L1]; simp only [end_lt, if_false]; simp [pick]
  | x :: t, q, a, hp, hs, ha => by
    rw [m_core_stepTranspose_b7a05_L1]
    have hx := hp x (List.mem_cons_self ..)
    have ih := gTr_L1 q8 q0 q1 q2 q3 q4 q5 q7 t (q ++ [x]) (a ++ [q8.getD x.toNat 0]) (fun y hy => hp y (List.mem_cons_of_mem _ hy)) (by rw [← mid_app]; exact hs) (by simp [ha])
    rw [← mid_app] at ih
    have hap : app 8 a [q8.getD x.toNat 0] = some (a ++ [q8.getD x.toNat 0]) := app_ok (by
      have : 1002 * 8 ≤ room := by decide +kernel
      simp at hs ⊢; omega)
    simp only [mid_lt, if_true, mid_idx, bind_ok, mid_W (Sm_of hs), idx_getD hx.1 hx.2, hap, ih]
    simp [pick]
end Go.Proofs.Tryz
namespace Go.Proofs.Tryz
open Go Go.Pm
set_option linter.unusedVariables false
set_option linter.unusedSimpArgs false
set_option maxRecDepth 2000
def dotp : List Int → List Int → Int
  | _ :: s, x :: i => x * prodI s + dotp s i
  | _, _ => 0
def strd : List Int → List Int
  | [] => []
  | _ :: s => prodI s :: strd s
def dig : List Int → Int → List Int
  | [], _ => []
  | _ :: s, o => o / prodI s :: dig s (o % prodI s)
theorem strd_len : ∀ s : List Int, (strd s).length = s.length
  | [] => rfl
  | _ :: s => by simp [strd, strd_len s]
theorem dig_len : ∀ (s : List Int) (o : Int), (dig s o).length = s.length
  | [], _ => rfl
  | _ :: s, o => by simp [dig, dig_len s]
theorem vld_pos : ∀ {s i : List Int}, vld s i = true → ∀ n ∈ s, 1 ≤ n
  | n :: s, x :: i, h, m, hm => by
    simp only [vld, Bool.and_eq_true, decide_eq_true_eq] at h
    rcases List.mem_cons.1 hm with rfl | hm
    · omega
    · exact vld_pos h.2 m hm
  | [], _, _, m, hm => by cases hm
  | _ :: _, [], h, _, _ => by cases h
theorem dotp_range : ∀ {s i : List Int}, vld s i = true → 0 ≤ dotp s i ∧ dotp s i < prodI s
  | [], [], _ => by simp [dotp, prodI]
  | n :: s, x :: i, h => by
    simp only [vld, Bool.and_eq_true, decide_eq_true_eq] at h
    obtain ⟨h1, h2⟩ := dotp_range h.2
    have hp := prodI_pos (vld_pos h.2)
    rw [dotp, prodI_cons]
    have a1 : 0 ≤ x * prodI s := Int.mul_nonneg h.1.1 (by omega)
    have a2 : (x + 1) * prodI s ≤ n * prodI s := Int.mul_le_mul_of_nonneg_right (by omega) (by omega)
    rw [Int.add_mul, Int.one_mul] at a2
    omega
  | [], _ :: _, h => by cases h
  | _ :: _, [], h => by cases h
theorem prod_le {a b : List Int} (ha : ∀ n ∈ a, 1 ≤ n) (hb : ∀ n ∈ b, 1 ≤ n) : prodI b ≤ prodI (a ++ b) := by
  rw [prodI_append]
  have h1 := prodI_pos ha
  have h2 := prodI_pos hb
  have := Int.mul_le_mul_of_nonneg_right h1 (show 0 ≤ prodI b by omega)
  omega
theorem rOff_L1 : ∀ (s t p q : List Int) (a : Int), vld s t = true → p.length = q.length → Sm (p ++ s).length → 0 ≤ a → (a + 1) * prodI s ≤ 65536 →
    m_ref03_Offset_L1 (p ++ s, q ++ t, a, (p.length : Int)) = some (a * prodI s + dotp s t)
  | [], [], p, q, a, _, h2, hs, h3, h4 => by
    rw [m_ref03_Offset_L1]; simp only [end_lt, if_false]; simp [dotp, prodI]
  | n :: s, x :: t, p, q, a, hv, h2, hs, h3, h4 => by
    rw [m_ref03_Offset_L1]
    simp only [vld, Bool.and_eq_true, decide_eq_true_eq] at hv
    have hp := prodI_pos (vld_pos hv.2)
    rw [prodI_cons] at h4
    have e1 : (a + 1) * (n * prodI s) = (a * n + n) * prodI s := by rw [← Int.mul_assoc, Int.add_mul, Int.one_mul]
    have b1 : (a * n + x + 1) * prodI s ≤ (a * n + n) * prodI s := Int.mul_le_mul_of_nonneg_right (by omega) (by omega)
    have b0 : 0 ≤ a * n := Int.mul_nonneg h3 (by omega)
    have b2 : (a * n + n) * 1 ≤ (a * n + n) * prodI s := Int.mul_le_mul_of_nonneg_left (by omega) (by omega)
    have w1 : W (a * n) = a * n := W_ok (by omega) (by omega)
    have w2 : W (a * n + x) = a * n + x := W_ok (by omega) (by omega)
    have ih := rOff_L1 s t (p ++ [n]) (q ++ [x]) (a * n + x) hv.2 (by simp [h2]) (by rw [← mid_app]; exact hs) (by omega) (by omega)
    rw [← mid_app, ← mid_app] at ih
    have hi : idx (q ++ x :: t) (p.length : Int) = some x := by rw [h2]; exact mid_idx
    simp only [mid_lt, if_true, mid_idx, hi, bind_ok, mid_W hs, w1, w2, ih, dotp, prodI_cons]
    rw [Int.add_mul, Int.mul_assoc, Int.add_assoc]
  | [], _ :: _, _, _, _, h, _, _, _, _ => by cases h
  | _ :: _, [], _, _, _, h, _, _, _, _ => by cases h
theorem rOffset_ok {s i : List Int} (h : vld s i = true) (hp : prodI s ≤ 65536) (hs : Sm s.length) : m_ref03_Offset (s, i) = some (dotp s i) := by
  have e : m_ref03_Offset_L1 (s, i, 0, 0) = some (0 * prodI s + dotp s i) := rOff_L1 s i [] [] 0 h rfl hs (by omega) (by simpa using hp)
  simp only [m_ref03_Offset, rValid_ok s i hs, h, bind_ok, Bool.true_eq_false, if_false, e, Int.zero_mul, Int.zero_add]
theorem gDot_L1 : ∀ (s t p q : List Int) (a : Int), vld s t = true → p.length = q.length → Sm (p ++ s).length → 0 ≤ a → a + dotp s t ≤ 65536 → prodI s ≤ 65536 →
    m_gamma_Dot_L1 (q ++ t, p ++ strd s, a, (p.length : Int)) = some (a + dotp s t)
  | [], [], p, q, a, _, h2, hs, h3, h4, _ => by
    rw [m_gamma_Dot_L1]
    have : ¬ ((p.length : Int) < (if ((q ++ []).length : Int) < ((p ++ strd []).length : Int) then ((q ++ []).length : Int) else ((p ++ strd []).length : Int))) := by
      simp [strd, h2]
    simp only [this, if_false]; simp [dotp]
  | n :: s, x :: t, p, q, a, hv, h2, hs, h3, h4, h5 => by
    rw [m_gamma_Dot_L1]
    simp only [vld, Bool.and_eq_true, decide_eq_true_eq] at hv
    have hl := vld_len hv.2
    have hp := prodI_pos (vld_pos hv.2)
    obtain ⟨r1, r2⟩ := dotp_range hv.2
    rw [dotp] at h4
    rw [prodI_cons] at h5
    have c1 : 0 ≤ x * prodI s := Int.mul_nonneg hv.1.1 (by omega)
    have c2 : 1 * prodI s ≤ n * prodI s := Int.mul_le_mul_of_nonneg_right (by omega) (by omega)
    have this : ((p.length : Int) < (if ((q ++ x :: t).length : Int) < ((p ++ strd (n :: s)).length : Int) then ((q ++ x :: t).length : Int) else ((p ++ strd (n :: s)).length : Int))) := by
      simp only [List.length_append, List.length_cons, strd_len, h2]; split <;> omega
    have hi : idx (q ++ x :: t) (p.length : Int) = some x := by rw [h2]; exact mid_idx
    have hi2 : idx (p ++ strd (n :: s)) (p.length : Int) = some (prodI s) := mid_idx
    have w1 : W (prodI s * x) = x * prodI s := by rw [Int.mul_comm, W_ok (by omega) (by omega)]
    have w2 : W (a + x * prodI s) = a + x * prodI s := W_ok (by omega) (by omega)
    have ih := gDot_L1 s t (p ++ [prodI s]) (q ++ [x]) (a + x * prodI s) hv.2 (by simp [h2]) (by have := hs; simp at this ⊢; unfold Sm at *; omega) (by omega) (by omega) (by omega)
    rw [← mid_app, ← mid_app] at ih
    have w3 : W ((p.length : Int) + 1) = ((p ++ [prodI s]).length : Int) := by
      unfold Sm at hs; simp at hs
      rw [W_ok (by omega) (by omega)]; simp
    simp only [this, if_true, hi, hi2, bind_ok, w1, w2, w3]
    have ih' : m_gamma_Dot_L1 (q ++ x :: t, p ++ strd (n :: s), a + x * prodI s, ((p ++ [prodI s]).length : Int)) = _ := ih
    rw [ih', dotp, Int.add_assoc]
  | [], _ :: _, _, _, _, h, _, _, _, _, _ => by cases h
  | _ :: _, [], _, _, _, h, _, _, _, _, _ => by cases h
theorem str_L1 (s v2 : List Int) (hv2 : v2.length = s.length) (hs : s.length ≤ 1000) (hpos : ∀ n ∈ s, 1 ≤ n) (hP : prodI s ≤ 65536) : ∀ (m : Nat) (a b : List Int), a.length = m → s = a ++ b →
    m_shape_Strides_L1 (s, v2, List.replicate a.length 0 ++ strd b, prodI b, (b.length : Int)) = some (strd s)
  | 0, a, b, ha, e => by
    obtain rfl := List.eq_nil_of_length_eq_zero ha
    rw [m_shape_Strides_L1]
    have : ¬ ((b.length : Int) < (s.length : Int)) := by rw [e]; simp
    simp only [this, if_false]; rw [e]; rfl
  | m + 1, a, b, ha, e => by
    rcases List.eq_nil_or_concat a with rfl | ⟨a', n, rfl⟩
    · simp at ha
    · simp only [List.concat_eq_append] at ha e ⊢
      have ha' : a'.length = m := by simpa using ha
      rw [m_shape_Strides_L1]
      have hl : s.length = a'.length + 1 + b.length := by rw [e]; simp; omega
      have ht : ((b.length : Int) < (s.length : Int)) := by omega
      have w : W (W ((s.length : Int) - 1) - (b.length : Int)) = (a'.length : Int) := by
        rw [show W ((s.length : Int) - 1) = (s.length : Int) - 1 from W_ok (by omega) (by omega), W_ok (by omega) (by omega)]; omega
      have e' : s = a' ++ (n :: b) := by rw [e]; simp
      have hg : (List.replicate (a' ++ [n]).length (0 : Int) ++ strd b).length = v2.length := by simp [strd_len, hv2, hl]
      have er : List.replicate (a' ++ [n]).length (0 : Int) ++ strd b = List.replicate a'.length 0 ++ 0 :: strd b := by
        rw [List.length_append, List.length_singleton, List.replicate_succ', List.append_assoc]; rfl
      have hj : a'.length < (List.replicate (a' ++ [n]).length (0 : Int) ++ strd b).length := by simp; omega
      have hset : (List.replicate (a' ++ [n]).length (0 : Int) ++ strd b).set a'.length (prodI b) = List.replicate a'.length 0 ++ strd (n :: b) := by
        rw [er]
        have := mid_set (p := List.replicate a'.length (0 : Int)) (s := strd b) (x := 0) (y := prodI b)
        simp only [List.length_replicate] at this
        rw [this, ← mid_app]; rfl
      have hidx : idx s (a'.length : Int) = some n := by rw [e']; exact mid_idx
      have hposb : ∀ k ∈ n :: b, 1 ≤ k := fun k hk => hpos k (by rw [e']; exact List.mem_append_right _ hk)
      have hposa : ∀ k ∈ a', 1 ≤ k := fun k hk => hpos k (by rw [e']; exact List.mem_append_left _ hk)
      have hle : prodI (n :: b) ≤ 65536 := by
        have := prod_le hposa hposb
        rw [← e'] at this; omega
      have hge := prodI_pos hposb
      have w2 : W (prodI b * n) = prodI (n :: b) := by rw [prodI_cons, Int.mul_comm, W_ok (by rw [← prodI_cons]; omega) (by rw [← prodI_cons]; omega)]
      have w3 : W ((b.length : Int) + 1) = ((n :: b).length : Int) := by rw [W_ok (by omega) (by omega)]; simp
      have ih := str_L1 s v2 hv2 hs hpos hP m a' (n :: b) ha' e'
      simp only [ht, if_true, w, guardM_ok hg, bind_ok, idx_ok hj, setM_ok hj, hset, hidx, w2, w3]
      exact ih
theorem checkR_ok {s : List Int} (h : checkR s = 0) : s.length ≤ 16 ∧ prodI s ≤ 65536 ∧ ∀ n ∈ s, 0 ≤ n ∧ n ≤ 65536 := by
  unfold checkR at h
  by_cases hn : negB s = true
  · rw [if_pos hn] at h; cases h
  · rw [if_neg hn] at h
    by_cases h2 : s.length > 16 ∨ bigB s = true ∨ prodI s > 65536
    · rw [if_pos h2] at h; cases h
    · have hn' : negB s = false := by simpa using hn
      have hb : bigB s = false := by
        cases hb : bigB s with
        | false => rfl
        | true => exact absurd (Or.inr (Or.inl hb)) h2
      refine ⟨by omega, by omega, fun n hm => ⟨neg_all hn' n hm, big_all hb n hm⟩⟩
theorem gCells_ok (s : List Int) (hs : Sm s.length) : m_shape_Cells s = some (cellsR s) := by
  simp only [m_shape_Cells, shapeCheck_ok s hs, bind_ok, cellsR, sProduct_ok s hs]
  by_cases h : checkR s = 0
  · obtain ⟨h1, h2, h3⟩ := checkR_ok h
    have hn : negB s = false := by
      cases hn : negB s with
      | false => rfl
      | true => unfold checkR at h; rw [if_pos hn] at h; cases h
    have hb : bigB s = false := by
      cases hb : bigB s with
      | false => rfl
      | true => unfold checkR at h; rw [if_neg (by simp [hn]), if_pos (Or.inr (Or.inl hb))] at h; cases h
    simp [h, prodR, hn, hb, show ¬ prodI s > 65536 by omega]
  · simp [h]
theorem strides_ok {s : List Int} (hc : checkR s = 0) (hpos : ∀ n ∈ s, 1 ≤ n) : m_shape_Strides s = some (strd s) := by
  obtain ⟨h1, h2, h3⟩ := checkR_ok hc
  have hp := prodI_pos hpos
  have hm : makeM 8 (s.length : Int) (0 : Int) = some (List.replicate s.length 0) := by
    have : ((s.length : Int) * 8 ≤ (room : Int)) := by
      have : (1000 : Nat) * 8 ≤ room := by decide +kernel
      omega
    simp [makeM, this]; omega
  have e := str_L1 s (List.replicate s.length 0) (by simp) (by omega) hpos h2 s.length s [] rfl (by simp)
  simp only [strd, List.append_nil, prodI_nil, List.length_nil, Int.natCast_zero] at e
  simp only [m_shape_Strides, shapeCheck_ok s (Sm_of (show s.length ≤ 1000 by omega)), bind_ok, hc, hm, gCells_ok s (Sm_of (show s.length ≤ 1000 by omega)), cellsR, if_true, ne_eq, not_true, if_false, show ¬ prodI s = 0 by omega, e]
  rw [guardM_ok (by simp [strd_len])]; rfl
theorem layout_ok {s : List Int} (hc : checkR s = 0) (hpos : ∀ n ∈ s, 1 ≤ n) : m_gamma_layoutOf s = some ⟨strd s, s⟩ := by
  simp only [m_gamma_layoutOf, strides_ok hc hpos, bind_ok]
theorem gOffset_ok {s i : List Int} (h : vld s i = true) (hc : checkR s = 0) : m_gamma_Offset (s, i) = some (dotp s i, true) := by
  obtain ⟨h1, h2, h3⟩ := checkR_ok hc
  obtain ⟨r1, r2⟩ := dotp_range h
  have hl := vld_len h
  have e := gDot_L1 s i [] [] 0 h rfl (Sm_of (show s.length ≤ 1000 by omega)) (by omega) (by omega) h2
  have e' : m_gamma_Dot_L1 (i, strd s, 0, 0) = some (0 + dotp s i) := e
  simp only [m_gamma_Offset, gValid_ok s i (Sm_of (show i.length ≤ 1000 by omega)), h, bind_ok, Bool.true_eq_false, if_false, layout_ok hc (vld_pos h), m_gamma_strides_dot, m_gamma_Dot, e', Int.zero_add]
end Go.Proofs.Tryz
namespace Go.Proofs.Tryz
open Go Go.Pm
set_option linter.unusedVariables false
set_option linter.unusedSimpArgs false
set_option maxRecDepth 2000
theorem dm {o P n : Int} (ho : 0 ≤ o) (hP : 0 ≤ P) (hn : 0 ≤ n) : (o % (P * n)) / n = (o / n) % P := by
  obtain ⟨o', rfl⟩ := Int.eq_ofNat_of_zero_le ho
  obtain ⟨P', rfl⟩ := Int.eq_ofNat_of_zero_le hP
  obtain ⟨n', rfl⟩ := Int.eq_ofNat_of_zero_le hn
  have := Nat.mod_mul_left_div_self o' n' P'
  exact_mod_cast this
theorem mm {o P n : Int} : (o % (P * n)) % n = o % n := Int.emod_emod_of_dvd o (Int.dvd_mul_left P n)
theorem dig_snoc : ∀ (a : List Int) (n o : Int), (∀ m ∈ a, 1 ≤ m) → 1 ≤ n → 0 ≤ o → o < prodI (a ++ [n]) → dig (a ++ [n]) o = dig a (o / n) ++ [o % n]
  | [], n, o, _, h, ho, ho2 => by
    have : prodI ([] ++ [n]) = n := by simp [prodI]
    rw [this] at ho2
    simp only [List.nil_append, dig, prodI_nil, Int.ediv_one]
    rw [Int.emod_eq_of_lt ho ho2]
  | m :: a, n, o, h1, h, ho, ho2 => by
    have hp := prodI_pos (fun k hk => h1 k (List.mem_cons_of_mem _ hk))
    have hP : prodI (a ++ [n]) = prodI a * n := by rw [prodI_append, prodI_cons, prodI_nil, Int.mul_one]
    have hpos : 0 < prodI a * n := Int.mul_pos (by omega) (by omega)
    have ih := dig_snoc a n (o % prodI (a ++ [n])) (fun k hk => h1 k (List.mem_cons_of_mem _ hk)) h (Int.emod_nonneg _ (by rw [hP]; omega)) (Int.emod_lt_of_pos _ (by rw [hP]; exact hpos))
    rw [hP] at ih
    simp only [List.cons_append, dig]
    rw [hP, ih, dm ho (by omega) (by omega), mm, Int.mul_comm (prodI a) n, ← Int.ediv_ediv_of_nonneg (by omega : 0 ≤ n)]
theorem vld_dig : ∀ {s : List Int} {o : Int}, (∀ n ∈ s, 1 ≤ n) → 0 ≤ o → o < prodI s → vld s (dig s o) = true
  | [], _, _, _, _ => rfl
  | n :: s, o, h, h1, h2 => by
    have hp := prodI_pos (fun k hk => h k (List.mem_cons_of_mem _ hk))
    rw [prodI_cons] at h2
    simp only [dig, vld, Bool.and_eq_true, decide_eq_true_eq]
    exact ⟨⟨Int.ediv_nonneg h1 (by omega), Int.ediv_lt_of_lt_mul (by omega) h2⟩, vld_dig (fun k hk => h k (List.mem_cons_of_mem _ hk)) (Int.emod_nonneg _ (by omega)) (Int.emod_lt_of_pos _ (by omega))⟩
theorem quoM_ok {a b : Int} (ha : 0 ≤ a) (hb : 1 ≤ b) (h : a ≤ 9223372036854775807) : quoM a b = some (a / b) := by
  have h1 : a / b ≤ a := Int.ediv_le_self _ ha
  have h2 : 0 ≤ a / b := Int.ediv_nonneg ha (by omega)
  rw [quoM, if_neg (by omega), Int.tdiv_eq_ediv_of_nonneg ha, W_ok (by omega) (by omega)]
theorem remM_ok {a b : Int} (ha : 0 ≤ a) (hb : 1 ≤ b) : remM a b = some (a % b) := by
  rw [remM, if_neg (by omega), Int.tmod_eq_emod_of_nonneg ha]
theorem rIdx_L1 (s v1 : List Int) (hv : v1.length = s.length) (hs : s.length ≤ 1000) (hpos : ∀ n ∈ s, 1 ≤ n) : ∀ (m : Nat) (a b d : List Int) (o : Int), a.length = m → s = a ++ b → d.length = b.length → 0 ≤ o → o < prodI a → o ≤ 65536 →
    m_ref03_Index_L1 (s, v1, List.replicate a.length 0 ++ d, o, (a.length : Int) - 1) = some (dig a o ++ d)
  | 0, a, b, d, o, ha, e, hd, h1, h2, h3 => by
    obtain rfl := List.eq_nil_of_length_eq_zero ha
    rw [m_ref03_Index_L1]
    have : ¬ ((([] : List Int).length : Int) - 1 ≥ 0) := by simp
    simp only [this, if_false]; rfl
  | m + 1, a, b, d, o, ha, e, hd, h1, h2, h3 => by
    rcases List.eq_nil_or_concat a with rfl | ⟨a', n, rfl⟩
    · simp at ha
    · simp only [List.concat_eq_append] at ha e h2 ⊢
      have ha' : a'.length = m := by simpa using ha
      rw [m_ref03_Index_L1]
      have hl : s.length = a'.length + 1 + b.length := by rw [e]; simp; omega
      have hj0 : (((a' ++ [n]).length : Nat) : Int) - 1 = (a'.length : Int) := by simp
      have e' : s = a' ++ (n :: b) := by rw [e]; simp
      have hg : (List.replicate (a' ++ [n]).length (0 : Int) ++ d).length = v1.length := by simp [hv, hl, hd]
      have er : List.replicate (a' ++ [n]).length (0 : Int) ++ d = List.replicate a'.length 0 ++ 0 :: d := by
        rw [List.length_append, List.length_singleton, List.replicate_succ', List.append_assoc]; rfl
      have hj : a'.length < (List.replicate (a' ++ [n]).length (0 : Int) ++ d).length := by simp; omega
      have hset : (List.replicate (a' ++ [n]).length (0 : Int) ++ d).set a'.length (o % n) = List.replicate a'.length 0 ++ (o % n :: d) := by
        rw [er]
        have := mid_set (p := List.replicate a'.length (0 : Int)) (s := d) (x := 0) (y := o % n)
        simp only [List.length_replicate] at this
        rw [this, ← mid_app]
      have hidx : idx s (a'.length : Int) = some n := by rw [e']; exact mid_idx
      have hn : 1 ≤ n := hpos n (by rw [e']; simp)
      have hposa : ∀ k ∈ a', 1 ≤ k := fun k hk => hpos k (by rw [e']; exact List.mem_append_left _ hk)
      have h2' : o < prodI a' * n := by rwa [prodI_append, prodI_cons, prodI_nil, Int.mul_one] at h2
      have q1 : o / n < prodI a' := Int.ediv_lt_of_lt_mul (by omega) h2'
      have q0 : 0 ≤ o / n := Int.ediv_nonneg h1 (by omega)
      have q2 : o / n ≤ o := Int.ediv_le_self _ h1
      have w3 : W ((a'.length : Int) - 1) = (a'.length : Int) - 1 := W_ok (by omega) (by omega)
      have ih := rIdx_L1 s v1 hv hs hpos m a' (n :: b) (o % n :: d) (o / n) ha' e' (by simp [hd]) q0 q1 (by omega)
      have ht : (a'.length : Int) ≥ 0 := by omega
      simp only [hj0, ht, if_true, hidx, bind_ok, remM_ok h1 hn, quoM_ok h1 hn (by omega), guardM_ok hg, idx_ok hj, setM_ok hj, hset, w3]
      rw [ih, dig_snoc a' n o hposa hn h1 h2]; simp
theorem make_ok {n : Nat} (h : n ≤ 1000) : makeM 8 (n : Int) (0 : Int) = some (List.replicate n 0) := by
  have : ((n : Int) * 8 ≤ (room : Int)) := by
    have : (1000 : Nat) * 8 ≤ room := by decide +kernel
    omega
  simp [makeM, this]; omega
theorem rIndex_ok {s : List Int} {o : Int} (hs : s.length ≤ 1000) (hpos : ∀ n ∈ s, 1 ≤ n) (h1 : 0 ≤ o) (h2 : o < prodI s) (h3 : o ≤ 65536) : m_ref03_Index (s, o) = some (dig s o) := by
  have e := rIdx_L1 s (List.replicate s.length 0) (by simp) hs hpos s.length s [] [] o rfl (by simp) rfl h1 h2 h3
  simp only [List.append_nil] at e
  simp only [m_ref03_Index, make_ok hs, bind_ok, W_ok (show -9223372036854775808 ≤ (s.length : Int) - 1 by omega) (by omega), e]
  rw [guardM_ok (by simp [dig_len])]; rfl
theorem gIdx_L1 (S D v1 : List Int) : ∀ (t p P q : List Int) (o : Int), S = P ++ strd t → P.length = p.length → q.length = p.length → (q ++ List.replicate t.length 0).length = v1.length → (p ++ t).length ≤ 1000 → (∀ n ∈ t, 1 ≤ n) → 0 ≤ o → o ≤ 65536 →
    m_gamma_layout_index_L1 (⟨S, D⟩, v1, q ++ List.replicate t.length 0, o, (p.length : Int)) = some (q ++ dig t o)
  | [], p, P, q, o, e, h1, h2, h3, h4, h5, h6, h7 => by
    rw [m_gamma_layout_index_L1]
    have : ¬ ((p.length : Int) < (S.length : Int)) := by rw [e]; simp [strd, h1]
    simp only [this, if_false]; rfl
  | n :: t, p, P, q, o, e, h1, h2, h3, h4, h5, h6, h7 => by
    rw [m_gamma_layout_index_L1]
    have hpos : ∀ k ∈ t, 1 ≤ k := fun k hk => h5 k (List.mem_cons_of_mem _ hk)
    have hp := prodI_pos hpos
    have ht : ((p.length : Int) < (S.length : Int)) := by rw [e]; simp [strd, h1]; omega
    have hi : idx S (p.length : Int) = some (prodI t) := by rw [e, ← h1]; exact mid_idx
    have er : q ++ List.replicate (n :: t).length (0 : Int) = q ++ 0 :: List.replicate t.length 0 := by rw [List.length_cons, List.replicate_succ]
    have hj : p.length < (q ++ List.replicate (n :: t).length (0 : Int)).length := by simp; omega
    have hset : (q ++ List.replicate (n :: t).length (0 : Int)).set p.length (o / prodI t) = (q ++ [o / prodI t]) ++ List.replicate t.length 0 := by rw [er, ← h2, mid_set]
    have w : W ((p.length : Int) + 1) = ((p ++ [n]).length : Int) := by
      simp at h4
      rw [W_ok (by omega) (by omega)]; simp
    have r1 := Int.emod_nonneg o (show prodI t ≠ 0 by omega)
    have r2 : o % prodI t ≤ o := by
      have := Int.emod_add_mul_ediv o (prodI t)
      have : 0 ≤ prodI t * (o / prodI t) := Int.mul_nonneg (by omega) (Int.ediv_nonneg h6 (by omega))
      omega
    have ih := gIdx_L1 S D v1 t (p ++ [n]) (P ++ [prodI t]) (q ++ [o / prodI t]) (o % prodI t) (by rw [e]; simp [strd]) (by simp [h1]) (by simp [h2]) (by simp at h3 ⊢; omega) (by rw [← mid_app]; exact h4) hpos r1 (by omega)
    simp only [ht, if_true, hi, bind_ok, quoM_ok h6 hp (by omega), guardM_ok h3, idx_ok hj, setM_ok hj, hset, remM_ok h6 hp, w, ih, dig]
    simp
theorem gIndex_ok {s : List Int} {o : Int} (hc : checkR s = 0) (hpos : ∀ n ∈ s, 1 ≤ n) (h1 : 0 ≤ o) (h2 : o < prodI s) : m_gamma_Index (s, o) = some (dig s o, true) := by
  obtain ⟨c1, c2, c3⟩ := checkR_ok hc
  have e := gIdx_L1 (strd s) s (List.replicate s.length 0) s [] [] [] o (by simp) rfl rfl (by simp) (by simp; omega) hpos h1 (by omega)
  simp only [List.nil_append, List.length_nil, Int.natCast_zero] at e
  have e1 : ¬ o < 0 := by omega
  have e2 : ¬ o ≥ prodI s := by omega
  simp only [m_gamma_Index, e1, if_false, gCells_ok s (Sm_of (show s.length ≤ 1000 by omega)), bind_ok, cellsR, hc, if_true, e2, decide_false, Bool.false_eq_true, layout_ok hc hpos, m_gamma_layout_index, make_ok (show s.length ≤ 1000 by omega), e]
  rw [guardM_ok (by simp [dig_len])]; rfl
end Go.Proofs.Tryz
namespace Go.Proofs.Tryz
open Go Go.Pm
set_option linter.unusedVariables false
set_option linter.unusedSimpArgs false
set_option maxRecDepth 2000
mutual
def szC : T_ref14_Core → Nat
  | ⟨_, _, _, _, _, _, _, kids⟩ => 1 + szCs kids
def szCs : List T_ref14_Core → Nat
  | [] => 0
  | k :: ks => szC k + szCs ks
end
mutual
def smC : T_ref14_Core → Prop
  | ⟨_, shape, _, starts, _, _, perm, kids⟩ => shape.length ≤ 40 ∧ starts.length ≤ 40 ∧ perm.length ≤ 40 ∧ kids.length ≤ 600 ∧ smCs kids
def smCs : List T_ref14_Core → Prop
  | [] => True
  | k :: ks => smC k ∧ smCs ks
end
theorem szC_pos : ∀ c : T_ref14_Core, 1 ≤ szC c
  | ⟨_, _, _, _, _, _, _, kids⟩ => by rw [szC]; omega
theorem szCs_len : ∀ l : List T_ref14_Core, l.length ≤ szCs l
  | [] => Nat.zero_le _
  | k :: ks => by have := szCs_len ks; have := szC_pos k; rw [szCs]; simp only [List.length_cons]; omega
mutual
theorem left_ok : ∀ (c : T_ref14_Core) (n : Int), 0 ≤ n → n ≤ 600 → ∃ r, m_ref14_left (c, n) = some r ∧ -1 ≤ r ∧ r ≤ n - 1 ∧ (0 ≤ r → r + szC c ≤ n ∧ smC c)
  | ⟨k, sh, b, st, ax, am, pe, ks⟩, n, h1, h2 => by
    rw [m_ref14_left]
    simp only []
    have w : W (n - 1) = n - 1 := W_ok (by omega) (by omega)
    obtain ⟨r, e, i1, i2, i3⟩ := left_loop ks [] (n - 1) k sh b st ax am pe (by omega) (by simp; omega)
    simp only [List.nil_append, List.length_nil, Int.natCast_zero] at e
    by_cases c1 : (sh.length : Int) > 40
    · exact ⟨-1, by simp only [c1, if_true, if_false, bind_ok, decide_true, decide_false, Bool.false_eq_true], by omega, by omega, by omega⟩
    · by_cases c2 : (st.length : Int) > 40
      · exact ⟨-1, by simp only [c1, c2, if_true, if_false, bind_ok, decide_true, decide_false, Bool.false_eq_true], by omega, by omega, by omega⟩
      · by_cases c3 : (pe.length : Int) > 40
        · exact ⟨-1, by simp only [c1, c2, c3, if_true, if_false, bind_ok, decide_true, decide_false, Bool.false_eq_true], by omega, by omega, by omega⟩
        · refine ⟨r, by simp only [c1, c2, c3, w, e, if_true, if_false, bind_ok, decide_true, decide_false, Bool.false_eq_true], i1, i2, fun h => ?_⟩
          have := i3 h
          have hl := szCs_len ks
          rw [szC, smC]
          exact ⟨by omega, by omega, by omega, by omega, by omega, this.2⟩
theorem left_loop : ∀ (s p : List T_ref14_Core) (n : Int) (k : Int) (sh : List Int) (b : Int) (st : List Int) (ax am : Int) (pe : List Int), -1 ≤ n → (p.length : Int) + n ≤ 600 →
    ∃ r, m_ref14_left_L1 (⟨k, sh, b, st, ax, am, pe, p ++ s⟩, n, (p.length : Int)) = some r ∧ -1 ≤ r ∧ r ≤ n ∧ (0 ≤ r → r + szCs s ≤ n ∧ smCs s)
  | [], p, n, k, sh, b, st, ax, am, pe, h1, h2 => by
    rw [m_ref14_left_L1]
    simp only [end_lt, if_false, bind_ok, Bool.false_eq_true]
    exact ⟨n, rfl, h1, by omega, fun h => ⟨by rw [szCs]; omega, trivial⟩⟩
  | x :: s, p, n, k, sh, b, st, ax, am, pe, h1, h2 => by
    rw [m_ref14_left_L1]
    simp only [mid_lt, if_true, bind_ok]
    by_cases hn : n ≥ 0
    · rw [decide_eq_true hn]
      obtain ⟨r, e, i1, i2, i3⟩ := left_ok x n hn (by omega)
      obtain ⟨r', e', j1, j2, j3⟩ := left_loop s (p ++ [x]) r k sh b st ax am pe i1 (by simp; omega)
      rw [← mid_app] at e'
      have w : W ((p.length : Int) + 1) = ((p ++ [x]).length : Int) := by rw [W_ok (by omega) (by omega)]; simp
      simp only [if_true, mid_idx, bind_ok, e, w, e']
      refine ⟨r', rfl, j1, by omega, fun h => ?_⟩
      have a := j3 h
      have b := i3 (by omega)
      rw [szCs, smCs]
      exact ⟨by omega, b.2, a.2⟩
    · rw [decide_eq_false hn]
      simp only [Bool.false_eq_true, if_false]
      exact ⟨n, rfl, h1, by omega, fun h => by omega⟩
end
theorem Few_ok (c : T_ref14_Core) (n : Int) (h1 : 0 ≤ n) (h2 : n ≤ 600) : ∃ b, m_ref14_Few (c, n) = some b ∧ (b = true → smC c ∧ (szC c : Int) ≤ n) := by
  obtain ⟨r, e, _, _, h⟩ := left_ok c n h1 h2
  refine ⟨decide (r ≥ 0), by simp only [m_ref14_Few, e, bind_ok], fun hb => ?_⟩
  have h0 : 0 ≤ r := by simpa using hb
  have := h h0
  exact ⟨this.2, by omega⟩
mutual
def conv : T_ref14_Core → T_core_Core
  | ⟨k, sh, b, st, ax, am, pe, ks⟩ => ⟨k, sh, b, st, ax, am, pe, convs ks⟩
def convs : List T_ref14_Core → List T_core_Core
  | [] => []
  | k :: ks => conv k :: convs ks
end
theorem convs_len : ∀ l : List T_ref14_Core, (convs l).length = l.length
  | [] => rfl
  | k :: ks => by rw [convs, List.length_cons, List.length_cons, convs_len ks]
mutual
theorem Core_ok : ∀ (c : T_ref14_Core), smC c → m_law14_Core c = some (conv c)
  | ⟨k, sh, b, st, ax, am, pe, ks⟩, h => by
    rw [smC] at h
    rw [m_law14_Core]
    have e := Core_loop ks [] [] k sh b st ax am pe h.2.2.2.2 rfl (by simp; omega)
    simp only [List.nil_append, List.length_nil, Int.natCast_zero] at e
    simp only [e, bind_ok, conv]
theorem Core_loop : ∀ (s p : List T_ref14_Core) (q : List T_core_Core) (k : Int) (sh : List Int) (b : Int) (st : List Int) (ax am : Int) (pe : List Int), smCs s → q.length = p.length → p.length + s.length ≤ 600 →
    m_law14_Core_L1 (⟨k, sh, b, st, ax, am, pe, p ++ s⟩, q, (p.length : Int)) = some (q ++ convs s)
  | [], p, q, k, sh, b, st, ax, am, pe, h1, h2, h3 => by
    rw [m_law14_Core_L1]
    simp only [end_lt, if_false, convs]
    rw [List.append_nil]
  | x :: s, p, q, k, sh, b, st, ax, am, pe, h1, h2, h3 => by
    rw [m_law14_Core_L1]
    rw [smCs] at h1
    have e := Core_ok x h1.1
    simp only [List.length_cons] at h3
    have e' := Core_loop s (p ++ [x]) (q ++ [conv x]) k sh b st ax am pe h1.2 (by simp [h2]) (by simp; omega)
    rw [← mid_app] at e'
    have w : W ((p.length : Int) + 1) = ((p ++ [x]).length : Int) := by rw [W_ok (by omega) (by omega)]; simp
    have ha : app 128 q [conv x] = some (q ++ [conv x]) := app_ok (by simp only [List.length_cons, List.length_nil]; have : 602 * 128 ≤ room := by decide +kernel
                                                                      omega)
    simp only [mid_lt, if_true, mid_idx, bind_ok, e, ha, w, e', convs, List.append_assoc, List.singleton_append]
end
end Go.Proofs.Tryz
namespace Go.Proofs.Tryz
open Go Go.Pm
set_option linter.unusedVariables false
set_option linter.unusedSimpArgs false
set_option maxRecDepth 2000
theorem Equal_ok' (a b : List Int) (hs : Sm b.length) : m_ref02_Equal (a, b) = some (decide (a = b)) := by
  by_cases h : a.length = b.length
  · exact Equal_ok a b (by rw [h]; exact hs)
  · have e2 : ((a.length : Int) ≠ (b.length : Int)) := by omega
    have e3 : a ≠ b := fun e => h (by rw [e])
    simp only [m_ref02_Equal]
    rw [if_pos e2, decide_eq_false e3]
theorem idx_zero {α : Type} {l : List α} {k : α} {r : List α} (h : l = k :: r) : idx l 0 = some k := by subst h; rfl
theorem idx_one {α : Type} {l : List α} {k k2 : α} {r : List α} (h : l = k :: k2 :: r) : idx l 1 = some k2 := by subst h; rfl
theorem alike_ok (p0 k : T_ref14_Core) (r : List T_ref14_Core) (hk : p0.kids = k :: r) (hs : Sm p0.shape.length) : ∃ b, m_ref14_alike p0 = some b ∧ (b = true → k.shape = p0.shape ∧ 0 ≤ p0.axis ∧ p0.axis < (p0.shape.length : Int)) := by
  simp only [m_ref14_alike, idx_zero hk, bind_ok, Equal_ok' _ _ hs]
  by_cases h1 : k.shape = p0.shape
  · by_cases h2 : p0.axis ≥ 0
    · by_cases h3 : p0.axis < (p0.shape.length : Int)
      · exact ⟨true, by simp [h1, h2, h3], fun _ => ⟨h1, h2, h3⟩⟩
      · exact ⟨false, by simp [h1, h2, h3], fun h => by cases h⟩
    · exact ⟨false, by simp [h1, h2], fun h => by cases h⟩
  · exact ⟨false, by simp [h1], fun h => by cases h⟩
/-- the axes of a catenation -/
def catA (ax : Int) (s a b : List Int) (k : Nat) : Prop := ((k : Int) = ax → s.getD k 0 = W (a.getD k 0 + b.getD k 0)) ∧ ((k : Int) ≠ ax → a.getD k 0 = b.getD k 0 ∧ a.getD k 0 = s.getD k 0)
theorem get_mid {p s : List Int} {x : Int} : (p ++ x :: s).getD p.length 0 = x := by simp
theorem join_L1 (v1 p0 v2 : T_ref14_Core) : ∀ (a b s p q u : List Int), v1.shape = p ++ a → v2.shape = q ++ b → p0.shape = u ++ s → a.length = b.length → a.length = s.length → p.length = q.length → p.length = u.length → Sm (p ++ a).length →
    ∃ o, m_ref14_joined_L1 (v1, p0, v2, (p.length : Int)) = some o ∧ (o = .inr () → ∀ k, p.length ≤ k → k < v1.shape.length → catA p0.axis p0.shape v1.shape v2.shape k)
  | [], b, s, p, q, u, e1, e2, e3, _, _, _, _, hs => by
    rw [m_ref14_joined_L1]; simp only [e1, end_lt, if_false]
    exact ⟨_, rfl, fun _ k h1 h2 => by simp at h2; omega⟩
  | x :: a, y :: b, z :: s, p, q, u, e1, e2, e3, h1, h2, h3, h4, hs => by
    rw [m_ref14_joined_L1]
    obtain ⟨o, e, ho⟩ := join_L1 v1 p0 v2 a b s (p ++ [x]) (q ++ [y]) (u ++ [z]) (by rw [e1]; simp) (by rw [e2]; simp) (by rw [e3]; simp) (by simpa using h1) (by simpa using h2) (by simp [h3]) (by simp [h4]) (by rw [← mid_app]; exact hs)
    have i1 : idx v1.shape (p.length : Int) = some x := by rw [e1]; exact mid_idx
    have i2 : idx v2.shape (p.length : Int) = some y := by rw [e2, h3]; exact mid_idx
    have i3 : idx p0.shape (p.length : Int) = some z := by rw [e3, h4]; exact mid_idx
    have g1 : v1.shape.getD p.length 0 = x := by rw [e1]; exact get_mid
    have g2 : v2.shape.getD p.length 0 = y := by rw [e2, h3]; exact get_mid
    have g3 : p0.shape.getD p.length 0 = z := by rw [e3, h4]; exact get_mid
    have ht : ((p.length : Int) < (v1.shape.length : Int)) := by rw [e1]; exact mid_lt
    have w : W ((p.length : Int) + 1) = ((p ++ [x]).length : Int) := mid_W hs
    have fin : ∀ c : catA p0.axis p0.shape v1.shape v2.shape p.length, o = .inr () → ∀ k, p.length ≤ k → k < v1.shape.length → catA p0.axis p0.shape v1.shape v2.shape k := fun c h k hk hk2 => by
      by_cases hkp : k = p.length
      · rw [hkp]; exact c
      · exact ho h k (by simp; omega) hk2
    simp only [ht, if_true, i1, i2, i3, bind_ok, w, e]
    by_cases ha : (p.length : Int) = p0.axis
    · simp only [ha, if_true, bind_ok, ne_eq, not_true, if_false]
      by_cases hz : z = W (x + y)
      · refine ⟨o, by simp [hz], fin ⟨fun _ => by rw [g1, g2, g3]; exact hz, fun h => absurd ha h⟩⟩
      · exact ⟨.inl (), by simp [hz], fun h => by cases h⟩
    · simp only [ha, if_false, bind_ok, ne_eq, not_false_eq_true, if_true, Bool.false_eq_true]
      by_cases hx : x = y
      · by_cases hz : x = z
        · refine ⟨o, by simp [← hx, ← hz], fin ⟨fun h => absurd h ha, fun _ => by rw [g1, g2, g3]; exact ⟨hx, hz⟩⟩⟩
        · exact ⟨.inl (), by simp [← hx, hz], fun h => by cases h⟩
      · exact ⟨.inl (), by simp [hx], fun h => by cases h⟩
  | _ :: _, [], _, _, _, _, _, _, _, h, _, _, _, _ => by cases h
  | _ :: _, _ :: _, [], _, _, _, _, _, _, _, h, _, _, _ => by cases h
theorem joined_ok (p0 v1 v2 : T_ref14_Core) (r : List T_ref14_Core) (hk : p0.kids = v1 :: v2 :: r) (hs : Sm v1.shape.length) : ∃ b, m_ref14_joined p0 = some b ∧ (b = true → v1.shape.length = v2.shape.length ∧ v1.shape.length = p0.shape.length ∧
    0 ≤ p0.axis ∧ p0.axis < (v1.shape.length : Int) ∧ ∀ k, k < v1.shape.length → catA p0.axis p0.shape v1.shape v2.shape k) := by
  simp only [m_ref14_joined, idx_zero hk, idx_one hk, bind_ok]
  by_cases h1 : v1.shape.length = v2.shape.length
  · by_cases h2 : v1.shape.length = p0.shape.length
    · by_cases h3 : p0.axis < 0
      · exact ⟨false, by simp [h1, h2, ← h2, h3], fun h => by cases h⟩
      · by_cases h4 : p0.axis ≥ (v1.shape.length : Int)
        · refine ⟨false, ?_, fun h => by cases h⟩
          have c1 : (v1.shape.length : Int) = (v2.shape.length : Int) := by omega
          have c2 : ((v1.shape.length : Int) != (p0.shape.length : Int)) = false := by simp [h2]
          simp only [ne_eq, c1, not_true, if_false, bind_ok, Bool.false_eq_true, decide_eq_false h3]
          rw [← c1]
          simp only [c2, bind_ok, Bool.false_eq_true, if_false, decide_eq_true h4, if_true]
        · obtain ⟨o, e, ho⟩ := join_L1 v1 p0 v2 v1.shape v2.shape p0.shape [] [] [] rfl rfl rfl h1 h2 rfl rfl hs
          have e' : m_ref14_joined_L1 (v1, p0, v2, 0) = some o := e
          have c1 : ¬ ((v1.shape.length : Int) ≠ (v2.shape.length : Int)) := by omega
          have c2 : ((v1.shape.length : Int) != (p0.shape.length : Int)) = false := by simp [h2]
          have m : ∀ f : Unit ⊕ Unit → Option Bool, f o = (if o.isRight then f (.inr ()) else f (.inl ())) := fun f => by cases o <;> rfl
          simp only [c1, if_false, c2, bind_ok, Bool.false_eq_true, decide_eq_false h3, decide_eq_false h4, e']
          cases o with
          | inl _ => exact ⟨_, rfl, fun h => by cases h⟩
          | inr _ => exact ⟨_, rfl, fun _ => ⟨h1, h2, by omega, by omega, fun k hk => ho rfl k (Nat.zero_le _) hk⟩⟩
    · refine ⟨false, ?_, fun h => by cases h⟩
      have c1 : ¬ ((v1.shape.length : Int) ≠ (v2.shape.length : Int)) := by omega
      have c2 : ((v1.shape.length : Int) != (p0.shape.length : Int)) = true := by simp; omega
      simp only [c1, if_false, bind_ok, c2, if_true]
  · refine ⟨false, ?_, fun h => by cases h⟩
    have c1 : ((v1.shape.length : Int) ≠ (v2.shape.length : Int)) := by omega
    simp only [if_pos c1, bind_ok, if_true]
end Go.Proofs.Tryz
namespace Go.Proofs.Tryz
open Go Go.Pm
set_option linter.unusedVariables false
set_option linter.unusedSimpArgs false
set_option maxRecDepth 2000
theorem ite_some {α : Type} {p : Prop} [Decidable p] {a b : α} : (if p then some a else some b) = some (if p then a else b) := by split <;> rfl
structure nodeF (c : T_ref14_Core) : Prop where
  kind : 1 ≤ c.kind ∧ c.kind ≤ 7
  kids : (c.kids.length : Int) = if c.kind = 7 then 2 else if c.kind = 1 then 0 else 1
  chk : checkR c.shape = 0
  win : c.kind = 2 → c.starts.length = c.shape.length ∧ (∀ x ∈ c.starts, -65536 ≤ x ∧ x ≤ 65536) ∧ ∀ k r, c.kids = k :: r → k.shape.length = c.shape.length
  rev : c.kind = 3 ∨ c.kind = 4 → ∀ k r, c.kids = k :: r → k.shape = c.shape ∧ 0 ≤ c.axis ∧ c.axis < (c.shape.length : Int)
  rot : c.kind = 4 → 0 ≤ c.amount ∧ (c.amount = 0 ∨ c.amount < c.shape.getD c.axis.toNat 0)
  tra : c.kind = 5 → ∀ k r, c.kids = k :: r → c.perm.length = k.shape.length ∧
    ((∀ n ∈ k.shape, 0 ≤ n) → ∀ j, j < k.shape.length → 0 ≤ c.perm.getD j 0 ∧ c.perm.getD j 0 < (c.shape.length : Int) ∧ c.shape.getD (c.perm.getD j 0).toNat 0 ≤ k.shape.getD j 0)
  cat : c.kind = 7 → ∀ k k2 r, c.kids = k :: k2 :: r → k.shape.length = k2.shape.length ∧ k.shape.length = c.shape.length ∧ 0 ≤ c.axis ∧ c.axis < (k.shape.length : Int) ∧ ∀ j, j < k.shape.length → catA c.axis c.shape k.shape k2.shape j
theorem nodeW_L1 (c : T_ref14_Core) : ∀ (s p : List Int), c.starts = p ++ s → Sm (p ++ s).length → ∃ o, m_ref14_node_L1 (c, (p.length : Int)) = some o ∧ (o = .inr () → ∀ x ∈ s, -65536 ≤ x ∧ x ≤ 65536)
  | [], p, e1, hs => by
    rw [m_ref14_node_L1]; simp only [e1, end_lt, if_false]
    exact ⟨_, rfl, fun _ x h => by cases h⟩
  | x :: s, p, e1, hs => by
    rw [m_ref14_node_L1]
    obtain ⟨o, e, ho⟩ := nodeW_L1 c s (p ++ [x]) (by rw [e1]; simp) (by rw [← mid_app]; exact hs)
    simp only [e1, mid_lt, if_true, mid_idx, bind_ok, mid_W hs, e]
    by_cases ha : x < -65536
    · exact ⟨.inl (), by simp [ha, bind_ok], fun h => by cases h⟩
    · by_cases hb : x > 65536
      · exact ⟨.inl (), by simp [ha, hb, bind_ok], fun h => by cases h⟩
      · refine ⟨o, by simp [ha, hb, bind_ok], fun h y hy => ?_⟩
        rcases List.mem_cons.1 hy with rfl | hy
        · omega
        · exact ho h y hy
theorem kids_one {c : T_ref14_Core} (h : (c.kids.length : Int) = 1) : ∃ k, c.kids = [k] := by
  match hk : c.kids, h with
  | [k], _ => exact ⟨k, rfl⟩
  | [], h => simp at h
  | _ :: _ :: _, h => simp at h; omega
theorem kids_two {c : T_ref14_Core} (h : (c.kids.length : Int) = 2) : ∃ k k2, c.kids = [k, k2] := by
  match hk : c.kids, h with
  | [k, k2], _ => exact ⟨k, k2, rfl⟩
  | [], h => simp at h
  | [_], h => simp at h
  | _ :: _ :: _ :: _, h => simp at h; omega
theorem ex_if {B : Bool} {R : Option Bool} {F : Prop} (h : B = false → ∃ b, R = some b ∧ (b = true → F)) : ∃ b, (if B = true then some false else R) = some b ∧ (b = true → F) := by
  cases B with
  | true => exact ⟨false, rfl, fun h => by cases h⟩
  | false => exact h rfl
theorem node_ok (c : T_ref14_Core) (bs : List (List Int)) (h1 : c.shape.length ≤ 40) (h2 : c.starts.length ≤ 40) (h4 : ∀ k ∈ c.kids, k.shape.length ≤ 40) :
    ∃ b, m_ref14_node (c, bs) = some b ∧ (b = true → nodeF c) := by
  have hS : Sm c.shape.length := Sm_of (show c.shape.length ≤ 1000 by omega)
  simp only [m_ref14_node, ite_some, bind_ok, Check_ok _ hS]
  refine ex_if fun g3 => ?_
  have k1 : ¬ c.kind < 1 := fun h => by simp [h] at g3
  have k7 : ¬ c.kind > 7 := fun h => by simp [h] at g3
  have kl : (c.kids.length : Int) = if c.kind = 7 then 2 else if c.kind = 1 then 0 else 1 := Decidable.byContradiction fun h => by simp [h] at g3
  have kc : checkR c.shape = 0 := Decidable.byContradiction fun h => by simp [h] at g3
  clear g3
  refine ex_if fun g7 => ?_
  clear g7
  by_cases c1 : c.kind = 1
  · rw [if_pos c1]
    have hn : nodeF c := ⟨by omega, kl, kc, by omega, by omega, by omega, by omega, by omega⟩
    by_cases hb : 0 ≤ c.buffer ∧ c.buffer < (bs.length : Int)
    · have hb' : (if c.buffer ≥ 0 then decide (c.buffer < (bs.length : Int)) else false) = true := by simp [hb]
      rw [if_pos hb']
      have hi : c.buffer.toNat < bs.length := by omega
      have : idx bs c.buffer = some bs[c.buffer.toNat] := by simp [idx, hb.1, hi]
      simp only [this, bind_ok, Equal_ok' _ _ hS]
      exact ⟨_, rfl, fun _ => hn⟩
    · have hb' : ¬ (if c.buffer ≥ 0 then decide (c.buffer < (bs.length : Int)) else false) = true := by
        by_cases h0 : c.buffer ≥ 0
        · simp only [h0, if_true, decide_eq_true_eq]; omega
        · simp [h0]
      rw [if_neg hb']
      exact ⟨_, rfl, fun h => by cases h⟩
  rw [if_neg c1]
  by_cases c2 : c.kind = 2
  · rw [if_pos c2]
    obtain ⟨k, hk⟩ := kids_one (c := c) (by rw [kl, if_neg (by omega), if_neg c1])
    obtain ⟨o, e, ho⟩ := nodeW_L1 c c.starts [] rfl (Sm_of (show ([] ++ c.starts).length ≤ 1000 by simp; omega))
    have e' : m_ref14_node_L1 (c, 0) = some o := e
    rw [e', bind_ok]
    cases o with
    | inl _ => exact ⟨_, rfl, fun h => by cases h⟩
    | inr _ =>
      simp only [idx_zero hk, bind_ok]
      by_cases hl : (c.starts.length : Int) = (c.shape.length : Int)
      · rw [if_pos hl]
        refine ⟨_, rfl, fun h => ⟨by omega, kl, kc, fun _ => ⟨by omega, ho rfl, fun k' r hk' => ?_⟩, by omega, by omega, by omega, by omega⟩⟩
        rw [hk] at hk'
        cases hk'
        simp at h; omega
      · rw [if_neg hl]; exact ⟨_, rfl, fun h => by cases h⟩
  rw [if_neg c2]
  by_cases c3 : c.kind = 3
  · rw [if_pos c3]
    obtain ⟨k, hk⟩ := kids_one (c := c) (by rw [kl, if_neg (by omega), if_neg c1])
    obtain ⟨b, e, hb⟩ := alike_ok c k [] hk hS
    rw [e, bind_ok]
    exact ⟨_, rfl, fun h => ⟨by omega, kl, kc, by omega, fun _ k' r hk' => by rw [hk] at hk'; cases hk'; exact hb h, by omega, by omega, by omega⟩⟩
  rw [if_neg c3]
  by_cases c4 : c.kind = 4
  · rw [if_pos c4]
    obtain ⟨k, hk⟩ := kids_one (c := c) (by rw [kl, if_neg (by omega), if_neg c1])
    obtain ⟨b, e, hb⟩ := alike_ok c k [] hk hS
    rw [e, bind_ok]
    cases b with
    | false => exact ⟨false, by simp, fun h => by cases h⟩
    | true =>
      obtain ⟨a1, a2, a3⟩ := hb rfl
      have hr : c.kind = 3 ∨ c.kind = 4 → ∀ k r, c.kids = k :: r → k.shape = c.shape ∧ 0 ≤ c.axis ∧ c.axis < (c.shape.length : Int) := fun _ k' r hk' => by rw [hk] at hk'; cases hk'; exact ⟨a1, a2, a3⟩
      by_cases hm : c.amount ≥ 0
      · simp only [if_true, decide_eq_true hm]
        by_cases h0 : c.amount = 0
        · rw [if_pos h0]
          exact ⟨_, rfl, fun h => ⟨by omega, kl, kc, by omega, hr, fun _ => ⟨hm, Or.inl h0⟩, by omega, by omega⟩⟩
        · rw [if_neg h0]
          simp only [idx_getD a2 a3, bind_ok]
          exact ⟨_, rfl, fun h => ⟨by omega, kl, kc, by omega, hr, fun _ => ⟨hm, Or.inr (by simpa using h)⟩, by omega, by omega⟩⟩
      · simp only [if_true, decide_eq_false hm, Bool.false_eq_true, if_false]
        exact ⟨_, rfl, fun h => by cases h⟩
  rw [if_neg c4]
  by_cases c5 : c.kind = 5
  · rw [if_pos c5]
    obtain ⟨k, hk⟩ := kids_one (c := c) (by rw [kl, if_neg (by omega), if_neg c1])
    have hks := h4 k (by rw [hk]; simp)
    obtain ⟨b, e, hb⟩ := tr_ok c k (idx_zero hk) (Sm_of (show k.shape.length ≤ 1000 by omega)) hS
    rw [e, bind_ok]
    exact ⟨_, rfl, fun h => ⟨by omega, kl, kc, by omega, by omega, by omega, fun _ k' r hk' => by rw [hk] at hk'; cases hk'; exact hb h, by omega⟩⟩
  rw [if_neg c5]
  by_cases c7 : c.kind = 7
  · rw [if_pos c7]
    obtain ⟨k, k2, hk⟩ := kids_two (c := c) (by rw [kl, if_pos c7])
    have hks := h4 k (by rw [hk]; simp)
    obtain ⟨b, e, hb⟩ := joined_ok c k k2 [] hk (Sm_of (show k.shape.length ≤ 1000 by omega))
    rw [e, bind_ok]
    exact ⟨_, rfl, fun h => ⟨by omega, kl, kc, by omega, by omega, by omega, by omega, fun _ k' k2' r hk' => by rw [hk] at hk'; cases hk'; exact hb h⟩⟩
  · rw [if_neg c7]
    exact ⟨_, rfl, fun _ => ⟨by omega, kl, kc, by omega, by omega, by omega, by omega, by omega⟩⟩
end Go.Proofs.Tryz
namespace Go.Proofs.Tryz
open Go Go.Pm
set_option linter.unusedVariables false
set_option linter.unusedSimpArgs false
set_option maxRecDepth 2000
theorem smCs_mem : ∀ {l : List T_ref14_Core}, smCs l → ∀ k ∈ l, smC k
  | x :: l, h, k, hk => by
    rw [smCs] at h
    rcases List.mem_cons.1 hk with rfl | hk
    · exact h.1
    · exact smCs_mem h.2 k hk
  | [], _, _, hk => by cases hk
theorem smC_f {c : T_ref14_Core} (h : smC c) : c.shape.length ≤ 40 ∧ c.starts.length ≤ 40 ∧ c.perm.length ≤ 40 ∧ c.kids.length ≤ 600 ∧ smCs c.kids := by
  cases c; rw [smC] at h; exact h
theorem w_step {α : Type} {p s : List α} {x : α} (h : p.length + (x :: s).length ≤ 600) : W ((p.length : Int) + 1) = ((p ++ [x]).length : Int) := by
  simp at h
  rw [W_ok (by omega) (by omega)]; simp
/-- the buffer of a node -/
def bufF (bs : List (List Int)) (c : T_ref14_Core) : Prop := c.kind = 1 → idx bs c.buffer = some c.shape
theorem node_buf (c : T_ref14_Core) (bs : List (List Int)) (hS : Sm c.shape.length) (h : m_ref14_node (c, bs) = some true) : bufF bs c := by
  intro c1
  simp only [m_ref14_node, ite_some, bind_ok, Check_ok _ hS] at h
  have g : ∀ {B : Bool} {R : Option Bool}, (if B = true then some false else R) = some true → R = some true := fun {B} {R} h => by
    cases B with
    | true => cases h
    | false => exact h
  replace h := g (g h)
  rw [if_pos c1] at h
  by_cases hb' : 0 ≤ c.buffer ∧ c.buffer < (bs.length : Int)
  · have hi : c.buffer.toNat < bs.length := by omega
    have e : idx bs c.buffer = some bs[c.buffer.toNat] := by simp [idx, hb'.1, hi]
    simp only [show c.buffer ≥ 0 from hb'.1, if_true, decide_eq_true hb'.2, e, bind_ok, Equal_ok' _ _ hS, Option.some.injEq, decide_eq_true_eq] at h
    rw [e, h]
  · have hb : ¬ (if c.buffer ≥ 0 then decide (c.buffer < (bs.length : Int)) else false) = true := by
      by_cases h0 : c.buffer ≥ 0
      · simp only [h0, if_true, decide_eq_true_eq]; omega
      · simp [h0]
    rw [if_neg hb] at h
    cases h
mutual
/-- all nodes -/
def nodesF (bs : List (List Int)) : T_ref14_Core → Prop
  | ⟨k, sh, b, st, ax, am, pe, ks⟩ => nodeF ⟨k, sh, b, st, ax, am, pe, ks⟩ ∧ bufF bs ⟨k, sh, b, st, ax, am, pe, ks⟩ ∧ nodesFs bs ks
def nodesFs (bs : List (List Int)) : List T_ref14_Core → Prop
  | [] => True
  | k :: ks => nodesF bs k ∧ nodesFs bs ks
end
theorem nodesFs_mem {bs : List (List Int)} : ∀ {l : List T_ref14_Core}, nodesFs bs l → ∀ k ∈ l, nodesF bs k
  | x :: l, h, k, hk => by
    rw [nodesFs] at h
    rcases List.mem_cons.1 hk with rfl | hk
    · exact h.1
    · exact nodesFs_mem h.2 k hk
  | [], _, _, hk => by cases hk
theorem nodesF_f {bs : List (List Int)} {c : T_ref14_Core} (h : nodesF bs c) : nodeF c ∧ bufF bs c ∧ ∀ k ∈ c.kids, nodesF bs k := by
  cases c; rw [nodesF] at h; exact ⟨h.1, h.2.1, nodesFs_mem h.2.2⟩
mutual
theorem nodes_ok (bs : List (List Int)) : ∀ (c : T_ref14_Core), smC c → ∃ b, m_ref14_nodes (c, bs) = some b ∧ (b = true → nodesF bs c)
  | ⟨k, sh, b, st, ax, am, pe, ks⟩, h => by
    have hf := smC_f h
    rw [m_ref14_nodes]
    obtain ⟨v, e, hv⟩ := node_ok ⟨k, sh, b, st, ax, am, pe, ks⟩ bs hf.1 hf.2.1 (fun k hk => (smC_f (smCs_mem hf.2.2.2.2 k hk)).1)
    simp only [e, bind_ok]
    cases v with
    | false => exact ⟨false, rfl, fun h => by cases h⟩
    | true =>
      have hbuf := node_buf _ bs (Sm_of (show sh.length ≤ 1000 by have := hf.1; simp only at this; omega)) e
      obtain ⟨o, e2, ho⟩ := nodes_loop bs ks [] k sh b st ax am pe hf.2.2.2.2 (by have := hf.2.2.2.1; simpa using this)
      simp only [List.nil_append, List.length_nil, Int.natCast_zero] at e2
      simp only [Bool.true_eq_false, if_false, e2, bind_ok]
      cases o with
      | inl _ => exact ⟨false, rfl, fun h => by cases h⟩
      | inr _ => exact ⟨true, rfl, fun _ => by rw [nodesF]; exact ⟨hv rfl, hbuf, ho rfl⟩⟩
theorem nodes_loop (bs : List (List Int)) : ∀ (s p : List T_ref14_Core) (k : Int) (sh : List Int) (b : Int) (st : List Int) (ax am : Int) (pe : List Int), smCs s → p.length + s.length ≤ 600 →
    ∃ o, m_ref14_nodes_L1 (⟨k, sh, b, st, ax, am, pe, p ++ s⟩, bs, (p.length : Int)) = some o ∧ (o = .inr () → nodesFs bs s)
  | [], p, k, sh, b, st, ax, am, pe, h1, h2 => by
    rw [m_ref14_nodes_L1]; simp only [end_lt, if_false]
    exact ⟨_, rfl, fun _ => trivial⟩
  | x :: s, p, k, sh, b, st, ax, am, pe, h1, h2 => by
    rw [m_ref14_nodes_L1]
    rw [smCs] at h1
    obtain ⟨v, e, hv⟩ := nodes_ok bs x h1.1
    obtain ⟨o, e', ho⟩ := nodes_loop bs s (p ++ [x]) k sh b st ax am pe h1.2 (by simp at h2 ⊢; omega)
    rw [← mid_app] at e'
    simp only [mid_lt, if_true, mid_idx, bind_ok, e, w_step h2, e']
    cases v with
    | false => exact ⟨.inl (), rfl, fun h => by cases h⟩
    | true => exact ⟨o, rfl, fun h => by rw [nodesFs]; exact ⟨hv rfl, ho h⟩⟩
end
mutual
theorem depth_ok : ∀ (c : T_ref14_Core), smC c → ∃ d, m_ref14_Depth c = some d
  | ⟨k, sh, b, st, ax, am, pe, ks⟩, h => by
    have hf := smC_f h
    rw [m_ref14_Depth]
    obtain ⟨o, e2⟩ := depth_loop ks [] 0 k sh b st ax am pe hf.2.2.2.2 (by have := hf.2.2.2.1; simpa using this)
    simp only [List.nil_append, List.length_nil, Int.natCast_zero] at e2
    simp only [e2, bind_ok]; exact ⟨_, rfl⟩
theorem depth_loop : ∀ (s p : List T_ref14_Core) (d k : Int) (sh : List Int) (b : Int) (st : List Int) (ax am : Int) (pe : List Int), smCs s → p.length + s.length ≤ 600 →
    ∃ o, m_ref14_Depth_L1 (⟨k, sh, b, st, ax, am, pe, p ++ s⟩, d, (p.length : Int)) = some o
  | [], p, d, k, sh, b, st, ax, am, pe, h1, h2 => by
    rw [m_ref14_Depth_L1]; simp only [end_lt, if_false]
    exact ⟨_, rfl⟩
  | x :: s, p, d, k, sh, b, st, ax, am, pe, h1, h2 => by
    rw [m_ref14_Depth_L1]
    rw [smCs] at h1
    obtain ⟨v, e⟩ := depth_ok x h1.1
    obtain ⟨o, e'⟩ := depth_loop s (p ++ [x]) (if d < v then v else d) k sh b st ax am pe h1.2 (by simp at h2 ⊢; omega)
    rw [← mid_app] at e'
    simp only [mid_lt, if_true, mid_idx, bind_ok, e, w_step h2, e']
    exact ⟨_, rfl⟩
end
theorem ex_ite {α : Type} {p : Prop} [Decidable p] {a b : Option α} (h1 : ∃ o, a = some o) (h2 : ∃ o, b = some o) : ∃ o, (if p then a else b) = some o := by
  split
  · exact h1
  · exact h2
/-- the product of the dimensions, where none counts less than one -/
def pmI : List Int → Int
  | [] => 1
  | n :: s => (if n < 1 then 1 else n) * pmI s
theorem pmI_pos : ∀ s : List Int, 1 ≤ pmI s
  | [] => Int.le_refl _
  | n :: s => by
    have h1 := pmI_pos s
    have h2 : 1 ≤ (if n < 1 then 1 else n) := by split <;> omega
    rw [pmI]
    have := Int.mul_le_mul h2 h1 (by omega) (by omega)
    omega
theorem small_L1 (most : Int) (hm : 0 ≤ most ∧ most ≤ 1000000) : ∀ (s p : List Int) (v : Int), p.length + s.length ≤ 600 → (∀ n ∈ s, n ≤ 65536) → 1 ≤ v → v ≤ 100000000 → ∃ o, m_ref02_Small_L1 (p ++ s, most, v, (p.length : Int)) = some o ∧ (o = .inr () → s = [] ∨ v * pmI s ≤ 100 * most)
  | [], p, v, h, hd, h1, h2 => by
    refine ⟨.inr (), ?_, fun _ => Or.inl rfl⟩; rw [m_ref02_Small_L1]; simp only [end_lt, if_false]
  | x :: s, p, v, h, hd, h1, h2 => by
    rw [m_ref02_Small_L1]
    have w1 : W (100 * most) = 100 * most := W_ok (by omega) (by omega)
    have hx := hd x (List.mem_cons_self ..)
    have hx2 : 1 ≤ (if x < 1 then 1 else x) ∧ (if x < 1 then 1 else x) ≤ 65536 := by split <;> omega
    have b1 := Int.mul_le_mul h2 hx2.2 (by omega) (by omega)
    have b2 := Int.mul_le_mul h1 hx2.1 (by omega) (by omega)
    have w2 : W (v * (if x < 1 then 1 else x)) = v * (if x < 1 then 1 else x) := W_ok (by omega) (by omega)
    simp only [mid_lt, if_true, mid_idx, bind_ok, w_step h, w1, w2]
    by_cases hg : v * (if x < 1 then 1 else x) > 100 * most
    · exact ⟨_, if_pos hg, fun h => by cases h⟩
    · obtain ⟨o, e, ho⟩ := small_L1 most hm s (p ++ [x]) (v * (if x < 1 then 1 else x)) (by simp at h ⊢; omega) (fun n hn => hd n (List.mem_cons_of_mem _ hn)) (by omega) (by omega)
      rw [← mid_app] at e
      rw [if_neg hg]
      refine ⟨o, e, fun h => Or.inr ?_⟩
      rw [pmI, ← Int.mul_assoc]
      rcases ho h with rfl | h
      · rw [pmI, Int.mul_one]; omega
      · exact h
/-- a small shape -/
def smallS (m : Int) (l : List Int) : Prop := l.length ≤ 6 ∧ checkR l = 0 ∧ prodI l ≤ m ∧ (l = [] ∨ pmI l ≤ 100 * m)
theorem small_ok (l : List Int) (most : Int) (hm : 0 ≤ most ∧ most ≤ 1000000) (h : l.length ≤ 40) : ∃ b, m_ref02_Small (l, most) = some b ∧ (b = true → smallS most l) := by
  have hS : Sm l.length := Sm_of (show l.length ≤ 1000 by omega)
  simp only [m_ref02_Small, Check_ok _ hS, Cells_ok _ hS, bind_ok, ite_some]
  by_cases g1 : (l.length : Int) > 6
  · exact ⟨false, by simp [g1], fun h => by cases h⟩
  by_cases g2 : checkR l = 0
  · have hc : cellsR l = prodI l := by rw [cellsR, if_pos g2]
    by_cases g3 : cellsR l > most
    · exact ⟨false, by simp [g1, g2, g3], fun h => by cases h⟩
    · obtain ⟨o, e, ho⟩ := small_L1 most hm l [] 1 (by simp; omega) (fun n hn => ((checkR_ok g2).2.2 n hn).2) (by omega) (by omega)
      have e' : m_ref02_Small_L1 (l, most, 1, 0) = some o := e
      simp only [g1, g2, g3, e', if_false, bne_self_eq_false, Bool.false_eq_true, decide_false, bind_ok]
      cases o with
      | inl _ => exact ⟨_, rfl, fun h => by cases h⟩
      | inr _ => exact ⟨_, rfl, fun _ => ⟨by omega, g2, by omega, by rcases ho rfl with h | h; exact Or.inl h; exact Or.inr (by omega)⟩⟩
  · exact ⟨false, by simp [g1, g2], fun h => by cases h⟩
mutual
def cellsF (m : Int) : T_ref14_Core → Prop
  | ⟨k, sh, b, st, ax, am, pe, ks⟩ => smallS m sh ∧ cellsFs m ks
def cellsFs (m : Int) : List T_ref14_Core → Prop
  | [] => True
  | k :: ks => cellsF m k ∧ cellsFs m ks
end
theorem cellsFs_mem {m : Int} : ∀ {l : List T_ref14_Core}, cellsFs m l → ∀ k ∈ l, cellsF m k
  | x :: l, h, k, hk => by
    rw [cellsFs] at h
    rcases List.mem_cons.1 hk with rfl | hk
    · exact h.1
    · exact cellsFs_mem h.2 k hk
  | [], _, _, hk => by cases hk
theorem cellsF_f {m : Int} {c : T_ref14_Core} (h : cellsF m c) : smallS m c.shape ∧ ∀ k ∈ c.kids, cellsF m k := by
  cases c; rw [cellsF] at h; exact ⟨h.1, cellsFs_mem h.2⟩
mutual
theorem cells_ok (m : Int) (hm : 0 ≤ m ∧ m ≤ 1000000) : ∀ (c : T_ref14_Core), smC c → ∃ d, m_ref14_cells (c, m) = some d ∧ (d = true → cellsF m c)
  | ⟨k, sh, b, st, ax, am, pe, ks⟩, h => by
    have hf := smC_f h
    rw [m_ref14_cells]
    obtain ⟨v, e, hv⟩ := small_ok sh m hm hf.1
    obtain ⟨o, e2, ho⟩ := cells_loop m hm ks [] k sh b st ax am pe hf.2.2.2.2 (by have := hf.2.2.2.1; simpa using this)
    simp only [List.nil_append, List.length_nil, Int.natCast_zero] at e2
    simp only [e, e2, bind_ok]
    cases v
    · exact ⟨_, rfl, fun h => by cases h⟩
    · cases o
      · exact ⟨_, rfl, fun h => by cases h⟩
      · exact ⟨_, rfl, fun _ => by rw [cellsF]; exact ⟨hv rfl, ho rfl⟩⟩
theorem cells_loop (m : Int) (hm : 0 ≤ m ∧ m ≤ 1000000) : ∀ (s p : List T_ref14_Core) (k : Int) (sh : List Int) (b : Int) (st : List Int) (ax am : Int) (pe : List Int), smCs s → p.length + s.length ≤ 600 →
    ∃ o, m_ref14_cells_L1 (⟨k, sh, b, st, ax, am, pe, p ++ s⟩, m, (p.length : Int)) = some o ∧ (o = .inr () → cellsFs m s)
  | [], p, k, sh, b, st, ax, am, pe, h1, h2 => by
    rw [m_ref14_cells_L1]; simp only [end_lt, if_false]
    exact ⟨_, rfl, fun _ => trivial⟩
  | x :: s, p, k, sh, b, st, ax, am, pe, h1, h2 => by
    rw [m_ref14_cells_L1]
    rw [smCs] at h1
    obtain ⟨v, e, hv⟩ := cells_ok m hm x h1.1
    obtain ⟨o, e', ho⟩ := cells_loop m hm s (p ++ [x]) k sh b st ax am pe h1.2 (by simp at h2 ⊢; omega)
    rw [← mid_app] at e'
    simp only [mid_lt, if_true, mid_idx, bind_ok, e, w_step h2, e']
    cases v
    · exact ⟨_, rfl, fun h => by cases h⟩
    · exact ⟨o, rfl, fun h => by rw [cellsFs]; exact ⟨hv rfl, ho h⟩⟩
end
theorem Small_ok (c : T_ref14_Core) (bs : List (List Int)) (m : Int) (hm : 0 ≤ m ∧ m ≤ 1000000) : ∃ b, m_ref14_Small (c, bs, m) = some b ∧ (b = true → smC c ∧ nodesF bs c ∧ cellsF m c ∧ (szC c : Int) ≤ 60 ∧ bs.length ≤ 20) := by
  simp only [m_ref14_Small]
  have eta : (⟨c.kind, c.shape, c.buffer, c.starts, c.axis, c.amount, c.perm, c.kids⟩ : T_ref14_Core) = c := by cases c; rfl
  rw [eta]
  by_cases h1 : (bs.length : Int) ≤ 20
  · obtain ⟨b, e, hb⟩ := Few_ok c 60 (by omega) (by omega)
    simp only [h1, if_true, e, bind_ok]
    cases b with
    | false => exact ⟨false, by simp [bind_ok], fun h => by cases h⟩
    | true =>
      obtain ⟨hs, hz⟩ := hb rfl
      obtain ⟨d, e2⟩ := depth_ok c hs
      obtain ⟨v, e3, hv⟩ := nodes_ok bs c hs
      obtain ⟨x, e4, hx⟩ := cells_ok m hm c hs
      simp only [if_true, m_ref14_Right, e2, bind_ok]
      by_cases hd : d ≤ 300
      · simp only [hd, if_true, e3, bind_ok]
        cases v with
        | false => exact ⟨false, by simp [bind_ok], fun h => by cases h⟩
        | true =>
          simp only [if_true, e4, bind_ok]
          exact ⟨x, rfl, fun h => ⟨hs, hv rfl, hx h, hz, by omega⟩⟩
      · simp only [hd, if_false, bind_ok, Bool.false_eq_true]
        exact ⟨false, rfl, fun h => by cases h⟩
  · exact ⟨false, by simp [h1, bind_ok], fun h => by cases h⟩
end Go.Proofs.Tryz
namespace Go.Proofs.Tryz
open Go Go.Pm
set_option linter.unusedVariables false
set_option linter.unusedSimpArgs false
set_option maxRecDepth 2000
theorem conv_shape : ∀ k : T_ref14_Core, (conv k).shape = k.shape
  | ⟨_, _, _, _, _, _, _, _⟩ => rfl
theorem clone_ok {l : List Int} (h : l.length ≤ 1000) : m_slices_Clone_int_int l = some l := by
  have : app 8 ([] : List Int) l = some ([] ++ l) := app_ok (by
    have : (1000 : Nat) * 8 ≤ room := by decide +kernel
    simp; omega)
  rw [m_slices_Clone_int_int, this]; rfl
theorem app0_ok {l : List Int} (h : l.length ≤ 1000) : app 8 ([] : List Int) l = some l := clone_ok h
theorem guard_bind {p : Prop} [Decidable p] {β : Type} {f : Unit → Option β} {r : Option β} (h : p) (h2 : f () = r) : (guardM p >>= f) = r := by rw [guardM, if_pos h]; exact h2
/-- the shape of the first operand -/
def kidS (c : T_ref14_Core) : List Int := match c.kids with | [] => [] | k :: _ => k.shape
/-- a step from a cell of an expression that is no buffer -/
def stepV (c : T_ref14_Core) (i : List Int) : Int × List Int × Bool :=
  if c.kind = 2 then (0, if vld (kidS c) (addW i c.starts) = true then addW i c.starts else [], vld (kidS c) (addW i c.starts))
  else if c.kind = 3 then (0, i.set c.axis.toNat ((kidS c).getD c.axis.toNat 0 - 1 - i.getD c.axis.toNat 0), true)
  else if c.kind = 4 then (0, i.set c.axis.toNat ((i.getD c.axis.toNat 0 + c.amount) % (kidS c).getD c.axis.toNat 0), true)
  else if c.kind = 5 then (0, pick i c.perm, true)
  else if c.kind = 6 then (if prodI (kidS c) = 0 then (0, [], false) else (0, dig (kidS c) (dotp c.shape i % prodI (kidS c)), true))
  else if i.getD c.axis.toNat 0 < (kidS c).getD c.axis.toNat 0 then (0, i, true) else (1, i.set c.axis.toNat (i.getD c.axis.toNat 0 - (kidS c).getD c.axis.toNat 0), true)
def stepF (c : T_ref14_Core) (i : List Int) : Int × List Int × Bool := if c.kind = 1 then (0, [], false) else if vld c.shape i = true then stepV c i else (0, [], false)
theorem stepF_v {c : T_ref14_Core} {i : List Int} (h1 : c.kind ≠ 1) (hv : vld c.shape i = true) : stepF c i = stepV c i := by rw [stepF, if_neg h1, if_pos hv]
theorem stepV2 {c : T_ref14_Core} {i : List Int} (h : c.kind = 2) : stepV c i = (0, if vld (kidS c) (addW i c.starts) = true then addW i c.starts else [], vld (kidS c) (addW i c.starts)) := if_pos h
theorem stepV3 {c : T_ref14_Core} {i : List Int} (h : c.kind = 3) : stepV c i = (0, i.set c.axis.toNat ((kidS c).getD c.axis.toNat 0 - 1 - i.getD c.axis.toNat 0), true) := by
  rw [stepV, if_neg (by omega), if_pos h]
theorem stepV4 {c : T_ref14_Core} {i : List Int} (h : c.kind = 4) : stepV c i = (0, i.set c.axis.toNat ((i.getD c.axis.toNat 0 + c.amount) % (kidS c).getD c.axis.toNat 0), true) := by
  rw [stepV, if_neg (by omega), if_neg (by omega), if_pos h]
theorem stepV5 {c : T_ref14_Core} {i : List Int} (h : c.kind = 5) : stepV c i = (0, pick i c.perm, true) := by
  rw [stepV, if_neg (by omega), if_neg (by omega), if_neg (by omega), if_pos h]
theorem stepV6 {c : T_ref14_Core} {i : List Int} (h : c.kind = 6) : stepV c i = if prodI (kidS c) = 0 then (0, [], false) else (0, dig (kidS c) (dotp c.shape i % prodI (kidS c)), true) := by
  rw [stepV, if_neg (by omega), if_neg (by omega), if_neg (by omega), if_neg (by omega), if_pos h]
theorem stepV7 {c : T_ref14_Core} {i : List Int} (h : c.kind = 7) : stepV c i = if i.getD c.axis.toNat 0 < (kidS c).getD c.axis.toNat 0 then (0, i, true) else (1, i.set c.axis.toNat (i.getD c.axis.toNat 0 - (kidS c).getD c.axis.toNat 0), true) := by
  rw [stepV, if_neg (by omega), if_neg (by omega), if_neg (by omega), if_neg (by omega), if_neg (by omega)]
def stepP (c : T_ref14_Core) (i : List Int) : Prop := ∃ k l ok, stepF c i = (k, l, ok) ∧ m_core_Step (conv c, i) = some (k, l, ok) ∧ m_ref14_Step (c, i) = some (k, l, ok) ∧ l.length ≤ 1000 ∧
  (ok = true → ∃ kid, idx c.kids k = some kid ∧ vld kid.shape l = true ∧ kid.shape.length ≤ 40)
section
variable {sh : List Int} {bu : Int} {st : List Int} {ax am : Int} {pe : List Int} {ks : List T_ref14_Core} {i : List Int}
theorem set_len {l : List Int} {j : Nat} {v : Int} : (l.set j v).length = l.length := by simp
theorem step2 (h : smC ⟨2, sh, bu, st, ax, am, pe, ks⟩) (hn : nodeF ⟨2, sh, bu, st, ax, am, pe, ks⟩) (hi : i.length ≤ 40) (hv : vld sh i = true) : stepP ⟨2, sh, bu, st, ax, am, pe, ks⟩ i := by
  obtain ⟨f1, f2, f3, f4, f5⟩ := smC_f h
  simp only at f1 f2 f3 f4 f5
  obtain ⟨kid, hk⟩ := kids_one (c := ⟨2, sh, bu, st, ax, am, pe, ks⟩) (by rw [hn.kids]; simp)
  simp only at hk
  subst hk
  obtain ⟨n1, n2, n3⟩ := hn.win rfl
  have n3 : kid.shape.length = sh.length := n3 kid [] rfl
  have n1 : st.length = sh.length := n1
  have hl := vld_len hv
  have e1 := rWin_L1 i i kid 2 sh bu ax am pe [kid] st i [] [] (by omega) rfl rfl (Sm_of (show ([] ++ st).length ≤ 1000 by simp; omega))
  have e2 := gWin_L1 i 2 sh bu ax am pe [conv kid] st i [] [] (by omega) rfl rfl (Sm_of (show ([] ++ st).length ≤ 1000 by simp; omega))
  simp only [List.nil_append, List.length_nil, Int.natCast_zero] at e1 e2
  have al : (addW i st).length = i.length := addW_len (by omega)
  have v1 := gValid_ok kid.shape (addW i st) (Sm_of (show (addW i st).length ≤ 1000 by omega))
  have v2 := rValid_ok kid.shape (addW i st) (Sm_of (show kid.shape.length ≤ 1000 by omega))
  have b1 := gValid_ok sh i (Sm_of (show i.length ≤ 1000 by omega))
  have b2 := rValid_ok sh i (Sm_of (show sh.length ≤ 1000 by omega))
  have i1 : idx [conv kid] 0 = some (conv kid) := rfl
  have i2 : idx [kid] 0 = some kid := rfl
  have g8 : ∀ inst : Decidable (0 ≤ (2 : Int) ∧ (2 : Int) < 8), @guardM (0 ≤ (2 : Int) ∧ (2 : Int) < 8) inst = some () := fun inst => @guardM_ok _ inst ⟨by omega, by omega⟩
  have gl : guardM ((addW i st).length = i.length) = some () := guardM_ok al
  refine ⟨0, if vld kid.shape (addW i st) = true then addW i st else [], vld kid.shape (addW i st), (stepF_v (show (2 : Int) ≠ 1 by decide) hv).trans (stepV2 rfl), ?_, ?_, ?_, fun hok => ⟨kid, rfl, ?_, by omega⟩⟩
  · simp only [conv, convs, m_core_Step, b1, hv, bind_ok, Bool.true_eq_false, if_false, g8, show ¬ ((2 : Int) = 0) by decide, show ¬ ((2 : Int) = 1) by decide, if_true, clone_ok (show i.length ≤ 1000 by omega), m_core_stepWindow_b7a05, e2, i1, gl, conv_shape, v1]
    refine guard_bind ⟨by show (0 : Int) ≤ 2; omega, by show (2 : Int) < 8; omega⟩ ?_
    cases vld kid.shape (addW i st)
    · rfl
    · simp only [if_true, Bool.true_eq_false, if_false, bind_ok, gl]
  · simp only [m_ref14_Step, b2, hv, bind_ok, Bool.not_true, Bool.false_eq_true, if_false, show ¬ ((2 : Int) = 1) by decide, if_true, app0_ok (show i.length ≤ 1000 by omega), e1, i2, gl, v2]
    cases vld kid.shape (addW i st)
    · rfl
    · simp only [if_true, Bool.true_eq_false, if_false, bind_ok, gl]
  · split
    · omega
    · simp
  · rw [hok, if_pos rfl]; exact hok
theorem getD_set {l : List Int} {j k : Nat} {v : Int} (hj : j < l.length) : (l.set j v).getD k 0 = if k = j then v else l.getD k 0 := by
  by_cases h : k = j
  · subst h; simp [hj]
  · simp [h, List.getElem?_set, Ne.symm h]
theorem step3 (h : smC ⟨3, sh, bu, st, ax, am, pe, ks⟩) (hn : nodeF ⟨3, sh, bu, st, ax, am, pe, ks⟩) (hi : i.length ≤ 40) (hv : vld sh i = true) : stepP ⟨3, sh, bu, st, ax, am, pe, ks⟩ i := by
  obtain ⟨f1, f2, f3, f4, f5⟩ := smC_f h
  simp only at f1 f2 f3 f4 f5
  obtain ⟨kid, hk⟩ := kids_one (c := ⟨3, sh, bu, st, ax, am, pe, ks⟩) (by rw [hn.kids]; simp)
  simp only at hk
  subst hk
  obtain ⟨n1, n2, n3⟩ := hn.rev (Or.inl rfl) kid [] rfl
  have n1 : kid.shape = sh := n1
  have n2 : 0 ≤ ax := n2
  have n3 : ax < (sh.length : Int) := n3
  have hl := vld_len hv
  obtain ⟨c1, c2, c3⟩ := checkR_ok hn.chk
  simp only at c1 c2 c3
  obtain ⟨j, rfl⟩ := Int.eq_ofNat_of_zero_le n2
  have hj : j < sh.length := by omega
  have g := vld_get hv j hj
  have d : sh.getD j 0 ≤ 65536 := by
    rw [List.getD_eq_getElem?_getD, List.getElem?_eq_getElem hj]
    exact (c3 _ (List.getElem_mem _)).2
  have i1 : idx sh (j : Int) = some (sh.getD j 0) := by rw [idx_getD n2 n3]; simp
  have i2 : idx i (j : Int) = some (i.getD j 0) := by rw [idx_getD (l := i) n2 (by omega)]; simp
  have w : W (W (sh.getD j 0 - 1) - i.getD j 0) = sh.getD j 0 - 1 - i.getD j 0 := by
    rw [show W (sh.getD j 0 - 1) = sh.getD j 0 - 1 from W_ok (by omega) (by omega), W_ok (by omega) (by omega)]
  have b1 := gValid_ok sh i (Sm_of (show i.length ≤ 1000 by omega))
  have b2 := rValid_ok sh i (Sm_of (show sh.length ≤ 1000 by omega))
  have hs : setM i (j : Int) (sh.getD j 0 - 1 - i.getD j 0) = some (i.set j (sh.getD j 0 - 1 - i.getD j 0)) := setM_ok (by omega)
  have k2 : idx [kid] 0 = some kid := rfl
  have g8 : ∀ inst : Decidable (0 ≤ (3 : Int) ∧ (3 : Int) < 8), @guardM (0 ≤ (3 : Int) ∧ (3 : Int) < 8) inst = some () := fun inst => @guardM_ok _ inst ⟨by omega, by omega⟩
  have gl : guardM ((i.set j (sh.getD j 0 - 1 - i.getD j 0)).length = i.length) = some () := guardM_ok set_len
  refine ⟨0, i.set j (sh.getD j 0 - 1 - i.getD j 0), true, (stepF_v (show (3 : Int) ≠ 1 by decide) hv).trans ((stepV3 rfl).trans (by show (0, i.set j (kid.shape.getD j 0 - 1 - i.getD j 0), true) = _; rw [n1])), ?_, ?_, by rw [set_len]; omega, fun _ => ⟨kid, rfl, ?_, by rw [n1]; omega⟩⟩
  · simp only [conv, convs, m_core_Step, b1, hv, bind_ok, Bool.true_eq_false, if_false, g8, show ¬ ((3 : Int) = 0) by decide, show ¬ ((3 : Int) = 1) by decide, show ¬ ((3 : Int) = 2) by decide, if_true, clone_ok (show i.length ≤ 1000 by omega), m_core_stepReverse_b7a05, i1, i2, w, hs, gl]
    exact guard_bind ⟨by show (0 : Int) ≤ 3; omega, by show (3 : Int) < 8; omega⟩ rfl
  · simp only [m_ref14_Step, b2, hv, bind_ok, Bool.not_true, Bool.false_eq_true, if_false, show ¬ ((3 : Int) = 1) by decide, show ¬ ((3 : Int) = 2) by decide, if_true, app0_ok (show i.length ≤ 1000 by omega), k2, n1, i1, i2, w, hs, gl]
  · rw [n1]
    refine vld_of (by rw [set_len]; omega) fun k hk => ?_
    rw [getD_set (l := i) (j := j) (hl ▸ hj)]
    by_cases hkj : k = j
    · rw [if_pos hkj, hkj]; obtain ⟨ga, gb⟩ := g; show 0 ≤ sh.getD j 0 - 1 - i.getD j 0 ∧ sh.getD j 0 - 1 - i.getD j 0 < sh.getD j 0; exact ⟨by omega, by omega⟩
    · rw [if_neg hkj]; exact vld_get hv k hk
end
end Go.Proofs.Tryz
namespace Go.Proofs.Tryz
open Go Go.Pm
set_option linter.unusedVariables false
set_option linter.unusedSimpArgs false
set_option maxRecDepth 2000
section
variable {sh : List Int} {bu : Int} {st : List Int} {ax am : Int} {pe : List Int} {ks : List T_ref14_Core} {i : List Int}
theorem Mod_ok {a b : Int} (ha : 0 ≤ a) (hb : 1 ≤ b) : m_size_Mod (a, b) = some (a % b) := by
  have h := Int.emod_nonneg a (show b ≠ 0 by omega)
  simp only [m_size_Mod, show ¬ b ≤ 0 by omega, if_false, remM_ok ha hb, bind_ok, show ¬ a % b < 0 by omega]
theorem step4 (h : smC ⟨4, sh, bu, st, ax, am, pe, ks⟩) (hn : nodeF ⟨4, sh, bu, st, ax, am, pe, ks⟩) (hi : i.length ≤ 40) (hv : vld sh i = true) : stepP ⟨4, sh, bu, st, ax, am, pe, ks⟩ i := by
  obtain ⟨f1, f2, f3, f4, f5⟩ := smC_f h
  simp only at f1 f2 f3 f4 f5
  obtain ⟨kid, hk⟩ := kids_one (c := ⟨4, sh, bu, st, ax, am, pe, ks⟩) (by rw [hn.kids]; simp)
  simp only at hk
  subst hk
  obtain ⟨n1, n2, n3⟩ := hn.rev (Or.inr rfl) kid [] rfl
  obtain ⟨m1, m2⟩ := hn.rot rfl
  have n1 : kid.shape = sh := n1
  have n2 : 0 ≤ ax := n2
  have n3 : ax < (sh.length : Int) := n3
  have m1 : 0 ≤ am := m1
  have m2 : am = 0 ∨ am < sh.getD ax.toNat 0 := m2
  have hl := vld_len hv
  obtain ⟨c1, c2, c3⟩ := checkR_ok hn.chk
  simp only at c1 c2 c3
  obtain ⟨j, rfl⟩ := Int.eq_ofNat_of_zero_le n2
  have hj : j < sh.length := by omega
  have g := vld_get hv j hj
  have m2 : am = 0 ∨ am < sh.getD j 0 := by simpa using m2
  have d : sh.getD j 0 ≤ 65536 := by
    rw [List.getD_eq_getElem?_getD, List.getElem?_eq_getElem hj]
    exact (c3 _ (List.getElem_mem _)).2
  have i1 : idx sh (j : Int) = some (sh.getD j 0) := by rw [idx_getD n2 n3]; simp
  have i2 : idx i (j : Int) = some (i.getD j 0) := by rw [idx_getD (l := i) n2 (by omega)]; simp
  have w : W (i.getD j 0 + am) = i.getD j 0 + am := W_ok (by omega) (by omega)
  have b1 := gValid_ok sh i (Sm_of (show i.length ≤ 1000 by omega))
  have b2 := rValid_ok sh i (Sm_of (show sh.length ≤ 1000 by omega))
  have hM := Mod_ok (a := i.getD j 0 + am) (b := sh.getD j 0) (by omega) (by omega)
  have hR := remM_ok (a := i.getD j 0 + am) (b := sh.getD j 0) (by omega) (by omega)
  have r1 := Int.emod_nonneg (i.getD j 0 + am) (show sh.getD j 0 ≠ 0 by omega)
  have r2 := Int.emod_lt_of_pos (i.getD j 0 + am) (show 0 < sh.getD j 0 by omega)
  have hs : setM i (j : Int) ((i.getD j 0 + am) % sh.getD j 0) = some (i.set j ((i.getD j 0 + am) % sh.getD j 0)) := setM_ok (by omega)
  have k2 : idx [kid] 0 = some kid := rfl
  have gl : guardM ((i.set j ((i.getD j 0 + am) % sh.getD j 0)).length = i.length) = some () := guardM_ok set_len
  refine ⟨0, i.set j ((i.getD j 0 + am) % sh.getD j 0), true, (stepF_v (show (4 : Int) ≠ 1 by decide) hv).trans ((stepV4 rfl).trans (by show (0, i.set j ((i.getD j 0 + am) % kid.shape.getD j 0), true) = _; rw [n1])), ?_, ?_, by rw [set_len]; omega, fun _ => ⟨kid, rfl, ?_, by rw [n1]; omega⟩⟩
  · simp only [conv, convs, m_core_Step, b1, hv, bind_ok, Bool.true_eq_false, if_false, show ¬ ((4 : Int) = 0) by decide, show ¬ ((4 : Int) = 1) by decide, show ¬ ((4 : Int) = 2) by decide, show ¬ ((4 : Int) = 3) by decide, if_true, clone_ok (show i.length ≤ 1000 by omega), m_core_stepRotate_b7a05, i1, i2, w, hM, hs, gl]
    exact guard_bind ⟨by show (0 : Int) ≤ 4; omega, by show (4 : Int) < 8; omega⟩ rfl
  · simp only [m_ref14_Step, b2, hv, bind_ok, Bool.not_true, Bool.false_eq_true, if_false, show ¬ ((4 : Int) = 1) by decide, show ¬ ((4 : Int) = 2) by decide, show ¬ ((4 : Int) = 3) by decide, if_true, app0_ok (show i.length ≤ 1000 by omega), k2, n1, i1, i2, w, hR, hs, gl]
  · rw [n1]
    refine vld_of (by rw [set_len]; omega) fun k hk => ?_
    rw [getD_set (l := i) (j := j) (hl ▸ hj)]
    by_cases hkj : k = j
    · rw [if_pos hkj, hkj]; exact ⟨r1, r2⟩
    · rw [if_neg hkj]; exact vld_get hv k hk
theorem pick_len {l p : List Int} : (pick l p).length = p.length := by simp [pick]
theorem pick_get {l p : List Int} {k : Nat} (h : k < p.length) : (pick l p).getD k 0 = l.getD (p.getD k 0).toNat 0 := by simp [pick, h]
theorem step5 (h : smC ⟨5, sh, bu, st, ax, am, pe, ks⟩) (hn : nodeF ⟨5, sh, bu, st, ax, am, pe, ks⟩) (hks : ∀ k ∈ ks, nodeF k) (hi : i.length ≤ 40) (hv : vld sh i = true) : stepP ⟨5, sh, bu, st, ax, am, pe, ks⟩ i := by
  obtain ⟨f1, f2, f3, f4, f5⟩ := smC_f h
  simp only at f1 f2 f3 f4 f5
  obtain ⟨kid, hk⟩ := kids_one (c := ⟨5, sh, bu, st, ax, am, pe, ks⟩) (by rw [hn.kids]; simp)
  simp only at hk
  subst hk
  obtain ⟨n1, n2⟩ := hn.tra rfl kid [] rfl
  have n1 : pe.length = kid.shape.length := n1
  obtain ⟨c1, c2, c3⟩ := checkR_ok (hks kid (by simp)).chk
  have n2 : ∀ j, j < kid.shape.length → 0 ≤ pe.getD j 0 ∧ pe.getD j 0 < (sh.length : Int) ∧ sh.getD (pe.getD j 0).toNat 0 ≤ kid.shape.getD j 0 := n2 fun n hm => (c3 n hm).1
  have hl := vld_len hv
  have hp : ∀ x ∈ pe, 0 ≤ x ∧ x < (i.length : Int) := fun x hx => by
    obtain ⟨k, hk, e⟩ := List.getElem_of_mem hx
    have := n2 k (by omega)
    rw [List.getD_eq_getElem?_getD, List.getElem?_eq_getElem hk] at this
    simp only [Option.getD_some, e] at this
    exact ⟨this.1, by omega⟩
  have e1 := rTr_L2 kid ⟨5, sh, bu, st, ax, am, pe, [kid]⟩ i i hp kid.shape pe [] [] [] rfl rfl n1.symm rfl (by simp; omega) rfl
  have e2 := gTr_L1 i 5 sh bu st ax am [conv kid] pe [] [] hp (by simp; omega) rfl
  simp only [List.nil_append, List.length_nil, Int.natCast_zero] at e1 e2
  have b1 := gValid_ok sh i (Sm_of (show i.length ≤ 1000 by omega))
  have b2 := rValid_ok sh i (Sm_of (show sh.length ≤ 1000 by omega))
  have k2 : idx [kid] 0 = some kid := rfl
  refine ⟨0, pick i pe, true, (stepF_v (show (5 : Int) ≠ 1 by decide) hv).trans (stepV5 rfl), ?_, ?_, by rw [pick_len]; omega, fun _ => ⟨kid, rfl, ?_, by omega⟩⟩
  · simp only [conv, convs, m_core_Step, b1, hv, bind_ok, Bool.true_eq_false, if_false, show ¬ ((5 : Int) = 0) by decide, show ¬ ((5 : Int) = 1) by decide, show ¬ ((5 : Int) = 2) by decide, show ¬ ((5 : Int) = 3) by decide, show ¬ ((5 : Int) = 4) by decide, if_true, clone_ok (show i.length ≤ 1000 by omega), m_core_stepTranspose_b7a05, e2]
    exact guard_bind ⟨by show (0 : Int) ≤ 5; omega, by show (5 : Int) < 8; omega⟩ rfl
  · simp only [m_ref14_Step, b2, hv, bind_ok, Bool.not_true, Bool.false_eq_true, if_false, show ¬ ((5 : Int) = 1) by decide, show ¬ ((5 : Int) = 2) by decide, show ¬ ((5 : Int) = 3) by decide, show ¬ ((5 : Int) = 4) by decide, if_true, app0_ok (show i.length ≤ 1000 by omega), k2, e1]
  · refine vld_of (by rw [pick_len]; omega) fun k hk => ?_
    rw [pick_get (by omega)]
    have a := n2 k hk
    have b := vld_get hv (pe.getD k 0).toNat (by omega)
    exact ⟨b.1, by omega⟩
end
end Go.Proofs.Tryz
namespace Go.Proofs.Tryz
open Go Go.Pm
set_option linter.unusedVariables false
set_option linter.unusedSimpArgs false
set_option maxRecDepth 2000
theorem getD_le {l : List Int} {k : Nat} (h : ∀ n ∈ l, 0 ≤ n ∧ n ≤ 65536) (hk : k < l.length) : 0 ≤ l.getD k 0 ∧ l.getD k 0 ≤ 65536 := by
  rw [List.getD_eq_getElem?_getD, List.getElem?_eq_getElem hk]
  exact h _ (List.getElem_mem _)
section
variable {sh : List Int} {bu : Int} {st : List Int} {ax am : Int} {pe : List Int} {ks : List T_ref14_Core} {i : List Int}
theorem step7 (h : smC ⟨7, sh, bu, st, ax, am, pe, ks⟩) (hn : nodeF ⟨7, sh, bu, st, ax, am, pe, ks⟩) (hks : ∀ k ∈ ks, nodeF k) (hi : i.length ≤ 40) (hv : vld sh i = true) : stepP ⟨7, sh, bu, st, ax, am, pe, ks⟩ i := by
  obtain ⟨f1, f2, f3, f4, f5⟩ := smC_f h
  simp only at f1 f2 f3 f4 f5
  obtain ⟨a, b, hk⟩ := kids_two (c := ⟨7, sh, bu, st, ax, am, pe, ks⟩) (by rw [hn.kids]; simp)
  simp only at hk
  subst hk
  obtain ⟨n1, n2, n3, n4, n5⟩ := hn.cat rfl a b [] rfl
  have n2 : a.shape.length = sh.length := n2
  have n3 : 0 ≤ ax := n3
  have n4 : ax < (a.shape.length : Int) := n4
  have n5 : ∀ j, j < a.shape.length → catA ax sh a.shape b.shape j := n5
  obtain ⟨c1, c2, c3⟩ := checkR_ok (hks a (by simp)).chk
  obtain ⟨d1, d2, d3⟩ := checkR_ok (hks b (by simp)).chk
  have hl := vld_len hv
  obtain ⟨j, rfl⟩ := Int.eq_ofNat_of_zero_le n3
  have hj : j < a.shape.length := by omega
  have g := vld_get hv j (by omega)
  have ga := getD_le c3 hj
  have gb := getD_le d3 (show j < b.shape.length by omega)
  have gs : sh.getD j 0 = a.shape.getD j 0 + b.shape.getD j 0 := by rw [(n5 j hj).1 rfl, W_ok (by omega) (by omega)]
  have i1 : idx a.shape (j : Int) = some (a.shape.getD j 0) := by rw [idx_getD (l := a.shape) n3 n4]; simp
  have i2 : idx i (j : Int) = some (i.getD j 0) := by rw [idx_getD (l := i) n3 (by omega)]; simp
  have b1 := gValid_ok sh i (Sm_of (show i.length ≤ 1000 by omega))
  have b2 := rValid_ok sh i (Sm_of (show sh.length ≤ 1000 by omega))
  have k1 : idx [conv a, conv b] 0 = some (conv a) := rfl
  have k2 : idx [a, b] 0 = some a := rfl
  by_cases hlt : i.getD j 0 < a.shape.getD j 0
  · have gl : guardM (i.length = i.length) = some () := guardM_ok rfl
    refine ⟨0, i, true, (stepF_v (show (7 : Int) ≠ 1 by decide) hv).trans ((stepV7 rfl).trans (if_pos hlt)), ?_, ?_, by omega, fun _ => ⟨a, rfl, ?_, by omega⟩⟩
    · simp only [conv, convs, m_core_Step, b1, hv, bind_ok, Bool.true_eq_false, if_false, show ¬ ((7 : Int) = 0) by decide, show ¬ ((7 : Int) = 1) by decide, show ¬ ((7 : Int) = 2) by decide, show ¬ ((7 : Int) = 3) by decide, show ¬ ((7 : Int) = 4) by decide, show ¬ ((7 : Int) = 5) by decide, show ¬ ((7 : Int) = 6) by decide, if_true, clone_ok (show i.length ≤ 1000 by omega), m_core_stepCatenate_b7a05, k1, conv_shape, i1, i2, hlt]
      exact guard_bind ⟨by show (0 : Int) ≤ 7; omega, by show (7 : Int) < 8; omega⟩ (guard_bind trivial rfl)
    · simp only [m_ref14_Step, b2, hv, bind_ok, Bool.not_true, Bool.false_eq_true, if_false, show ¬ ((7 : Int) = 1) by decide, show ¬ ((7 : Int) = 2) by decide, show ¬ ((7 : Int) = 3) by decide, show ¬ ((7 : Int) = 4) by decide, show ¬ ((7 : Int) = 5) by decide, show ¬ ((7 : Int) = 6) by decide, if_true, app0_ok (show i.length ≤ 1000 by omega), k2, i1, i2, show ¬ (i.getD j 0 ≥ a.shape.getD j 0) by omega]
    · refine vld_of (by omega) fun k hk => ?_
      have v := vld_get hv k (by omega)
      by_cases hkj : k = j
      · subst hkj; exact ⟨v.1, hlt⟩
      · have e := ((n5 k hk).2 (by omega)).2
        exact ⟨v.1, by omega⟩
  · have w : W (i.getD j 0 - a.shape.getD j 0) = i.getD j 0 - a.shape.getD j 0 := W_ok (by omega) (by omega)
    have hs : setM i (j : Int) (i.getD j 0 - a.shape.getD j 0) = some (i.set j (i.getD j 0 - a.shape.getD j 0)) := setM_ok (by omega)
    refine ⟨1, i.set j (i.getD j 0 - a.shape.getD j 0), true, (stepF_v (show (7 : Int) ≠ 1 by decide) hv).trans ((stepV7 rfl).trans (if_neg hlt)), ?_, ?_, by rw [set_len]; omega, fun _ => ⟨b, rfl, ?_, by omega⟩⟩
    · simp only [conv, convs, m_core_Step, b1, hv, bind_ok, Bool.true_eq_false, if_false, show ¬ ((7 : Int) = 0) by decide, show ¬ ((7 : Int) = 1) by decide, show ¬ ((7 : Int) = 2) by decide, show ¬ ((7 : Int) = 3) by decide, show ¬ ((7 : Int) = 4) by decide, show ¬ ((7 : Int) = 5) by decide, show ¬ ((7 : Int) = 6) by decide, if_true, clone_ok (show i.length ≤ 1000 by omega), m_core_stepCatenate_b7a05, k1, conv_shape, i1, i2, hlt, w, hs]
      exact guard_bind ⟨by show (0 : Int) ≤ 7; omega, by show (7 : Int) < 8; omega⟩ (guard_bind set_len rfl)
    · simp only [m_ref14_Step, b2, hv, bind_ok, Bool.not_true, Bool.false_eq_true, if_false, show ¬ ((7 : Int) = 1) by decide, show ¬ ((7 : Int) = 2) by decide, show ¬ ((7 : Int) = 3) by decide, show ¬ ((7 : Int) = 4) by decide, show ¬ ((7 : Int) = 5) by decide, show ¬ ((7 : Int) = 6) by decide, if_true, app0_ok (show i.length ≤ 1000 by omega), k2, i1, i2, show (i.getD j 0 ≥ a.shape.getD j 0) by omega, w, hs]
      exact guard_bind set_len rfl
    · refine vld_of (by rw [set_len]; omega) fun k hk => ?_
      rw [getD_set (l := i) (j := j) (by omega)]
      by_cases hkj : k = j
      · rw [if_pos hkj, hkj]; exact ⟨by omega, by omega⟩
      · rw [if_neg hkj]
        have v := vld_get hv k (by omega)
        have e := (n5 k (by omega)).2 (by omega)
        exact ⟨v.1, by omega⟩
end
end Go.Proofs.Tryz
namespace Go.Proofs.Tryz
open Go Go.Pm
set_option linter.unusedVariables false
set_option linter.unusedSimpArgs false
set_option maxRecDepth 2000
section
variable {sh : List Int} {bu : Int} {st : List Int} {ax am : Int} {pe : List Int} {ks : List T_ref14_Core} {i : List Int}
theorem step6 (h : smC ⟨6, sh, bu, st, ax, am, pe, ks⟩) (hn : nodeF ⟨6, sh, bu, st, ax, am, pe, ks⟩) (hks : ∀ k ∈ ks, nodeF k) (hi : i.length ≤ 40) (hv : vld sh i = true) : stepP ⟨6, sh, bu, st, ax, am, pe, ks⟩ i := by
  obtain ⟨f1, f2, f3, f4, f5⟩ := smC_f h
  simp only at f1 f2 f3 f4 f5
  obtain ⟨kid, hk⟩ := kids_one (c := ⟨6, sh, bu, st, ax, am, pe, ks⟩) (by rw [hn.kids]; simp)
  simp only at hk
  subst hk
  have hc := (hks kid (by simp)).chk
  obtain ⟨c1, c2, c3⟩ := checkR_ok hc
  have hcs : checkR sh = 0 := hn.chk
  obtain ⟨e1, e2, e3⟩ := checkR_ok hcs
  have hl := vld_len hv
  obtain ⟨r1, r2⟩ := dotp_range hv
  have hK : Sm kid.shape.length := Sm_of (show kid.shape.length ≤ 1000 by omega)
  have b1 := gValid_ok sh i (Sm_of (show i.length ≤ 1000 by omega))
  have b2 := rValid_ok sh i (Sm_of (show sh.length ≤ 1000 by omega))
  have k1 : idx [conv kid] 0 = some (conv kid) := rfl
  have k2 : idx [kid] 0 = some kid := rfl
  have hce : cellsR kid.shape = prodI kid.shape := by rw [cellsR, if_pos hc]
  by_cases hz : prodI kid.shape = 0
  · have hM : m_size_Mod (dotp sh i, 0) = some 0 := rfl
    have hI : m_gamma_Index (kid.shape, 0) = some ([], false) := by
      simp only [m_gamma_Index, show ¬ ((0 : Int) < 0) by decide, if_false, gCells_ok _ hK, hce, hz, bind_ok]; rfl
    refine ⟨0, [], false, (stepF_v (show (6 : Int) ≠ 1 by decide) hv).trans ((stepV6 rfl).trans (if_pos hz)), ?_, ?_, by simp, fun h => by cases h⟩
    · simp only [conv, convs, m_core_Step, b1, hv, bind_ok, Bool.true_eq_false, if_false, show ¬ ((6 : Int) = 0) by decide, show ¬ ((6 : Int) = 1) by decide, show ¬ ((6 : Int) = 2) by decide, show ¬ ((6 : Int) = 3) by decide, show ¬ ((6 : Int) = 4) by decide, show ¬ ((6 : Int) = 5) by decide, if_true, clone_ok (show i.length ≤ 1000 by omega), m_core_stepReshape_b7a05, gOffset_ok hv hcs, k1, conv_shape, gCells_ok _ hK, hce, hz, hM, hI]
      exact guard_bind ⟨by show (0 : Int) ≤ 6; omega, by show (6 : Int) < 8; omega⟩ rfl
    · simp only [m_ref14_Step, b2, hv, bind_ok, Bool.not_true, Bool.false_eq_true, if_false, show ¬ ((6 : Int) = 1) by decide, show ¬ ((6 : Int) = 2) by decide, show ¬ ((6 : Int) = 3) by decide, show ¬ ((6 : Int) = 4) by decide, show ¬ ((6 : Int) = 5) by decide, if_true, app0_ok (show i.length ≤ 1000 by omega), k2, Cells_ok _ hK, hce, hz]
  · have hpos : ∀ n ∈ kid.shape, 1 ≤ n := fun n hm => by
      have := c3 n hm
      have h0 : n ≠ 0 := fun e => hz (prodI_zero (e ▸ hm))
      omega
    have hp := prodI_pos hpos
    have o1 := Int.emod_nonneg (dotp sh i) (show prodI kid.shape ≠ 0 from hz)
    have o2 := Int.emod_lt_of_pos (dotp sh i) (show 0 < prodI kid.shape by omega)
    have hM := Mod_ok r1 hp
    have hR := remM_ok r1 hp
    have hI := gIndex_ok hc hpos o1 o2
    have hJ := rIndex_ok (show kid.shape.length ≤ 1000 by omega) hpos o1 o2 (by omega)
    refine ⟨0, dig kid.shape (dotp sh i % prodI kid.shape), true, (stepF_v (show (6 : Int) ≠ 1 by decide) hv).trans ((stepV6 rfl).trans (if_neg hz)), ?_, ?_, by rw [dig_len]; omega, fun _ => ⟨kid, rfl, vld_dig hpos o1 o2, by omega⟩⟩
    · simp only [conv, convs, m_core_Step, b1, hv, bind_ok, Bool.true_eq_false, if_false, show ¬ ((6 : Int) = 0) by decide, show ¬ ((6 : Int) = 1) by decide, show ¬ ((6 : Int) = 2) by decide, show ¬ ((6 : Int) = 3) by decide, show ¬ ((6 : Int) = 4) by decide, show ¬ ((6 : Int) = 5) by decide, if_true, clone_ok (show i.length ≤ 1000 by omega), m_core_stepReshape_b7a05, gOffset_ok hv hcs, k1, conv_shape, gCells_ok _ hK, hce, hM, hI]
      exact guard_bind ⟨by show (0 : Int) ≤ 6; omega, by show (6 : Int) < 8; omega⟩ rfl
    · simp only [m_ref14_Step, b2, hv, bind_ok, Bool.not_true, Bool.false_eq_true, if_false, show ¬ ((6 : Int) = 1) by decide, show ¬ ((6 : Int) = 2) by decide, show ¬ ((6 : Int) = 3) by decide, show ¬ ((6 : Int) = 4) by decide, show ¬ ((6 : Int) = 5) by decide, if_true, app0_ok (show i.length ≤ 1000 by omega), k2, Cells_ok _ hK, hce, hz, rOffset_ok hv e2 (Sm_of (show sh.length ≤ 1000 by omega)), hR, hJ]
end
end Go.Proofs.Tryz
namespace Go.Proofs.Tryz
open Go Go.Pm
set_option linter.unusedVariables false
set_option linter.unusedSimpArgs false
set_option maxRecDepth 2000
theorem step_ok : ∀ (c : T_ref14_Core) (i : List Int), smC c → nodeF c → (∀ k ∈ c.kids, nodeF k) → i.length ≤ 40 → stepP c i
  | ⟨kd, sh, bu, st, ax, am, pe, ks⟩, i, h, hn, hks, hi => by
    obtain ⟨f1, f2, f3, f4, f5⟩ := smC_f h
    have f1 : sh.length ≤ 40 := f1
    have b1 := gValid_ok sh i (Sm_of (show i.length ≤ 1000 by omega))
    have b2 := rValid_ok sh i (Sm_of (show sh.length ≤ 1000 by omega))
    obtain ⟨q1, q2⟩ := hn.kind
    have q1 : 1 ≤ kd := q1
    have q2 : kd ≤ 7 := q2
    cases hv : vld sh i with
    | false =>
      refine ⟨0, [], false, by simp [stepF, hv], ?_, ?_, by simp, fun h => by cases h⟩
      · simp only [conv, m_core_Step, b1, hv, bind_ok, if_true]
      · by_cases h1 : kd = 1
        · simp only [m_ref14_Step, h1, if_true, bind_ok]
        · simp only [m_ref14_Step, h1, if_false, b2, hv, bind_ok, Bool.not_false, if_true]
    | true =>
      have hc : kd = 1 ∨ kd = 2 ∨ kd = 3 ∨ kd = 4 ∨ kd = 5 ∨ kd = 6 ∨ kd = 7 := by omega
      rcases hc with rfl | rfl | rfl | rfl | rfl | rfl | rfl
      · refine ⟨0, [], false, by simp [stepF], ?_, ?_, by simp, fun h => by cases h⟩
        · simp only [conv, m_core_Step, b1, hv, bind_ok, Bool.true_eq_false, if_false, show ¬ ((1 : Int) = 0) by decide, if_true, clone_ok (show i.length ≤ 1000 by omega), m_core_stays_b7a05]
          exact guard_bind ⟨by show (0 : Int) ≤ 1; omega, by show (1 : Int) < 8; omega⟩ rfl
        · simp only [m_ref14_Step, if_true, bind_ok]
      · exact step2 h hn hi hv
      · exact step3 h hn hi hv
      · exact step4 h hn hi hv
      · exact step5 h hn hks hi hv
      · exact step6 h hn hks hi hv
      · exact step7 h hn hks hi hv
end Go.Proofs.Tryz
namespace Go.Proofs.Tryz
open Go Go.Pm
set_option linter.unusedVariables false
set_option linter.unusedSimpArgs false
set_option maxRecDepth 2000
theorem app_le {α : Type} {b : Nat} {l es : List α} (h : l.length + es.length ≤ 100000000) (hb : b ≤ 1000) : app b l es = some (l ++ es) := app_ok (by
  have h1 : (l.length + es.length) * b ≤ 100000000 * 1000 := Nat.mul_le_mul h hb
  have h2 : 100000000 * 1000 ≤ room := by decide +kernel
  omega)
def rowI (n : Int) (a : List Int) : List (List Int) := (List.range n.toNat).map fun (k : Nat) => a ++ [(k : Int)]
def extI (out : List (List Int)) (n : Int) : List (List Int) := out.flatMap (rowI n)
/-- all indices -/
def allL : List Int → List (List Int)
  | [] => [[]]
  | n :: s => (List.range n.toNat).flatMap fun (k : Nat) => (allL s).map ((k : Int) :: ·)
theorem foldl_ext : ∀ (s : List Int) (out : List (List Int)), s.foldl extI out = out.flatMap fun a => (allL s).map (a ++ ·)
  | [], out => by
    simp only [List.foldl_nil, allL, List.map_cons, List.append_nil, List.map_nil]
    induction out with
    | nil => rfl
    | cons a o ih => rw [List.flatMap_cons, ← ih]; rfl
  | n :: s, out => by
    rw [List.foldl_cons, foldl_ext s, extI, List.flatMap_assoc]
    congr 1
    funext a
    rw [rowI, List.flatMap_map, allL, List.map_flatMap]
    congr 1
    funext k
    rw [List.map_map]
    congr 1
    funext x
    simp
theorem allI_eq (s : List Int) : s.foldl extI [[]] = allL s := by rw [foldl_ext]; simp
/-- the product of the dimensions, where none counts less than one -/
def pm : List Int → Nat
  | [] => 1
  | n :: s => max n.toNat 1 * pm s
theorem pm_pos : ∀ s : List Int, 1 ≤ pm s
  | [] => Nat.le_refl _
  | n :: s => by
    have := pm_pos s
    rw [pm]
    exact Nat.mul_le_mul (show 1 ≤ max n.toNat 1 by omega) this
theorem rowI_len (n : Int) (a : List Int) : (rowI n a).length = n.toNat := by simp [rowI]
theorem extI_len (n : Int) : ∀ out : List (List Int), (extI out n).length = out.length * n.toNat
  | [] => by simp [extI]
  | a :: o => by
    have := extI_len n o
    unfold extI at this ⊢
    rw [List.flatMap_cons, List.length_append, rowI_len, this, List.length_cons, Nat.add_mul, Nat.one_mul]; omega
theorem all_L3 (p : List Int) (i : Nat) (n : Int) (hi : idx p (i : Int) = some n) (out : List (List Int)) (k : Nat) (a : List Int) (hk : idx out (k : Int) = some a) (ha : a.length ≤ 1000) (base : List (List Int)) :
    ∀ (m j : Nat), j + m = n.toNat → base.length + n.toNat ≤ 1000000 → m_ref03_All_L3 (p, (i : Int), out, (k : Int), base ++ ((List.range j).map fun (x : Nat) => a ++ [(x : Int)]), (j : Int)) = some (base ++ rowI n a)
  | 0, j, h1, h2 => by
    rw [m_ref03_All_L3]
    have : ¬ ((j : Int) < n) := by omega
    simp only [hi, bind_ok, this, if_false]
    rw [rowI, ← h1]; rfl
  | m + 1, j, h1, h2 => by
    rw [m_ref03_All_L3]
    have ht : ((j : Int) < n) := by omega
    have ih := all_L3 p i n hi out k a hk ha base m (j + 1) (by omega) h2
    have w : W ((j : Int) + 1) = ((j + 1 : Nat) : Int) := W_succ (by omega)
    have a1 : app 8 ([] : List Int) a = some a := by rw [app_le (by simp; omega) (by omega)]; rfl
    have a2 : app 8 a [(j : Int)] = some (a ++ [(j : Int)]) := app_le (by simp; omega) (by omega)
    have a3 : app 24 (base ++ ((List.range j).map fun (x : Nat) => a ++ [(x : Int)])) [a ++ [(j : Int)]] = some (base ++ ((List.range (j + 1)).map fun (x : Nat) => a ++ [(x : Int)])) := by
      rw [app_le (by simp; omega) (by omega), List.range_succ]; simp
    simp only [hi, bind_ok, ht, if_true, hk, a1, a2, a3, w, ih]
theorem all_L2 (p : List Int) (i : Nat) (n : Int) (hi : idx p (i : Int) = some n) : ∀ (s q : List (List Int)), (∀ a ∈ s, a.length ≤ 1000) → ((q ++ s).length + 1) * (max n.toNat 1) ≤ 1000000 →
    m_ref03_All_L2 (q ++ s, p, (i : Int), extI q n, (q.length : Int)) = some (extI (q ++ s) n)
  | [], q, h1, h2 => by
    rw [m_ref03_All_L2]; simp only [List.append_nil, Int.lt_irrefl, if_false]
  | a :: s, q, h1, h2 => by
    rw [m_ref03_All_L2]
    have hm : (q ++ a :: s).length + 1 ≤ 1000000 := Nat.le_trans (Nat.le_mul_of_pos_right _ (by omega)) h2
    have hb : (extI q n).length + n.toNat ≤ 1000000 := by
      rw [extI_len]
      have e1 : q.length * n.toNat + n.toNat = (q.length + 1) * n.toNat := by rw [Nat.add_mul, Nat.one_mul]
      rw [e1]
      refine Nat.le_trans (Nat.mul_le_mul ?_ ?_) h2
      · simp
      · omega
    have e := all_L3 p i n hi (q ++ a :: s) q.length a mid_idx (h1 a (List.mem_cons_self ..)) (extI q n) n.toNat 0 (by omega) hb
    have ih := all_L2 p i n hi s (q ++ [a]) (fun x hx => h1 x (List.mem_cons_of_mem _ hx)) (by rw [← mid_app]; exact h2)
    rw [← mid_app] at ih
    simp only [List.range_zero, List.map_nil, List.append_nil, Int.natCast_zero] at e
    have ee : extI (q ++ [a]) n = extI q n ++ rowI n a := by unfold extI; rw [List.flatMap_append]; simp
    simp only [mid_lt, if_true, e, bind_ok, mid_W (Sm_of (show (q ++ a :: s).length ≤ 1000000 by omega)), ← ee, ih]
theorem mem_ext_len {out : List (List Int)} {n : Int} {m : Nat} (h : ∀ a ∈ out, a.length = m) : ∀ a ∈ extI out n, a.length = m + 1 := fun a ha => by
  unfold extI at ha
  obtain ⟨b, hb, hc⟩ := List.mem_flatMap.1 ha
  unfold rowI at hc
  obtain ⟨k, _, rfl⟩ := List.mem_map.1 hc
  simp [h b hb]
theorem all_L1 : ∀ (s p : List Int) (out : List (List Int)), (p ++ s).length ≤ 900 → (∀ a ∈ out, a.length = p.length) → (out.length + 1) * pm s ≤ 500000 → m_ref03_All_L1 (p ++ s, out, (p.length : Int)) = some (s.foldl extI out)
  | [], p, out, hs, h1, h2 => by
    rw [m_ref03_All_L1]; simp only [end_lt, if_false, List.foldl_nil]
  | n :: s, p, out, hs, h1, h2 => by
    rw [m_ref03_All_L1]
    have hp := pm_pos s
    rw [pm, ← Nat.mul_assoc] at h2
    have b1 : (out.length + 1) * max n.toNat 1 ≤ 500000 := Nat.le_trans (Nat.le_mul_of_pos_right _ hp) h2
    have e : m_ref03_All_L2 (out, p ++ n :: s, (p.length : Int), [], 0) = some (extI out n) := all_L2 (p ++ n :: s) p.length n mid_idx out [] (fun a ha => by have := h1 a ha; simp at hs; omega) (Nat.le_trans b1 (by omega))
    have ih := all_L1 s (p ++ [n]) (extI out n) (by rw [← mid_app]; exact hs) (fun a ha => by rw [mem_ext_len h1 a ha]; simp) (by
      refine Nat.le_trans (Nat.mul_le_mul_right _ ?_) h2
      rw [extI_len, Nat.add_mul, Nat.one_mul]
      have := Nat.mul_le_mul_left out.length (show n.toNat ≤ max n.toNat 1 by omega)
      omega)
    rw [← mid_app] at ih
    simp only [mid_lt, if_true, e, bind_ok, mid_W (Sm_of hs), ih, List.foldl_cons]
theorem All_ok {s : List Int} (hs : s.length ≤ 900) (h : pm s ≤ 250000) : m_ref03_All s = some (allL s) := by
  have e : m_ref03_All_L1 (s, [[]], 0) = some (s.foldl extI [[]]) := all_L1 s [] [[]] hs (by simp) (by simpa using by omega)
  simp only [m_ref03_All, e, bind_ok, allI_eq]
end Go.Proofs.Tryz
namespace Go.Proofs.Tryz
open Go Go.Pm
set_option linter.unusedVariables false
set_option linter.unusedSimpArgs false
set_option maxRecDepth 2000
theorem pm_cast : ∀ s : List Int, ((pm s : Nat) : Int) = s.foldr (fun n x => (if n < 1 then 1 else n) * x) 1
  | [] => rfl
  | n :: s => by
    rw [pm, List.foldr_cons, ← pm_cast s, Int.natCast_mul]
    congr 1
    split <;> omega
theorem mem_allL : ∀ {s x : List Int}, x ∈ allL s ↔ vld s x = true
  | [], x => by
    cases x with
    | nil => simp [allL, vld]
    | cons a x => simp [allL, vld]
  | n :: s, x => by
    rw [allL, List.mem_flatMap]
    constructor
    · rintro ⟨k, hk, h⟩
      obtain ⟨y, hy, rfl⟩ := List.mem_map.1 h
      have := List.mem_range.1 hk
      simp only [vld, Bool.and_eq_true, decide_eq_true_eq]
      exact ⟨by omega, mem_allL.1 hy⟩
    · intro h
      cases x with
      | nil => cases h
      | cons a x =>
        simp only [vld, Bool.and_eq_true, decide_eq_true_eq] at h
        refine ⟨a.toNat, List.mem_range.2 (by omega), List.mem_map.2 ⟨x, mem_allL.2 h.2, ?_⟩⟩
        rw [Int.toNat_of_nonneg h.1.1]
theorem nodup_flat : ∀ (m : Nat) (l : List (List Int)), l.Nodup → ((List.range m).flatMap fun (k : Nat) => l.map ((k : Int) :: ·)).Nodup
  | 0, l, h => by simp
  | m + 1, l, h => by
    rw [List.range_succ, List.flatMap_append, List.nodup_append]
    refine ⟨nodup_flat m l h, ?_, ?_⟩
    · simp only [List.flatMap_cons, List.flatMap_nil, List.append_nil]
      refine List.Pairwise.map _ (fun a b hab => ?_) h
      intro e
      exact hab (List.cons.inj e).2
    · intro a ha b hb e
      subst e
      obtain ⟨k, hk, h1⟩ := List.mem_flatMap.1 ha
      obtain ⟨k2, hk2, h2⟩ := List.mem_flatMap.1 hb
      obtain ⟨y, _, rfl⟩ := List.mem_map.1 h1
      obtain ⟨y2, _, e2⟩ := List.mem_map.1 h2
      have e3 := (List.cons.inj e2).1
      have := List.mem_range.1 hk
      have : k2 = m := by simpa using hk2
      omega
theorem allL_nodup : ∀ s : List Int, (allL s).Nodup
  | [] => by simp [allL]
  | n :: s => by rw [allL]; exact nodup_flat _ _ (allL_nodup s)
theorem flat_len {α : Type} (f : Nat → List α) (c : Nat) (h : ∀ k, (f k).length = c) : ∀ m : Nat, ((List.range m).flatMap f).length = m * c
  | 0 => by simp
  | m + 1 => by rw [List.range_succ, List.flatMap_append, List.length_append, flat_len f c h m]; simp [h, Nat.add_mul]
theorem allL_len : ∀ {s : List Int}, (∀ n ∈ s, 0 ≤ n) → ((allL s).length : Int) = prodI s
  | [], _ => by simp [allL, prodI]
  | n :: s, h => by
    have ih := allL_len (s := s) fun m hm => h m (List.mem_cons_of_mem _ hm)
    have h0 := h n (List.mem_cons_self ..)
    rw [allL, flat_len _ (allL s).length (fun k => by simp), Int.natCast_mul, ih, prodI_cons, Int.toNat_of_nonneg h0]
theorem flat_get {α : Type} (f : Nat → List α) (c : Nat) (h : ∀ k, (f k).length = c) (hc : 1 ≤ c) : ∀ (m j : Nat), j < m * c → ((List.range m).flatMap f)[j]? = (f (j / c))[j % c]?
  | 0, j, hj => by simp at hj
  | m + 1, j, hj => by
    rw [List.range_succ, List.flatMap_append, List.getElem?_append]
    have hl := flat_len f c h m
    rw [hl]
    by_cases hlt : j < m * c
    · rw [if_pos hlt]; exact flat_get f c h hc m j hlt
    · rw [if_neg hlt]
      have e1 : j / c = m := Nat.div_eq_of_lt_le (by omega) (by omega)
      have e2 : j % c = j - m * c := by
        have := Nat.div_add_mod j c
        rw [e1, Nat.mul_comm] at this
        omega
      rw [e1, e2]; simp
theorem allL_get : ∀ {s : List Int}, (∀ n ∈ s, 1 ≤ n) → ∀ j : Nat, (j : Int) < prodI s → (allL s)[j]? = some (dig s (j : Int))
  | [], _, j, hj => by
    have : j = 0 := by simp [prodI] at hj; omega
    subst this; rfl
  | n :: s, h, j, hj => by
    have hs : ∀ m ∈ s, 1 ≤ m := fun m hm => h m (List.mem_cons_of_mem _ hm)
    have h0 := h n (List.mem_cons_self ..)
    have hl := allL_len (s := s) fun m hm => by have := hs m hm; omega
    have hp := prodI_pos hs
    rw [prodI_cons] at hj
    have hc : 1 ≤ (allL s).length := by omega
    have hj2 : j < n.toNat * (allL s).length := by
      have : ((n.toNat * (allL s).length : Nat) : Int) = n * prodI s := by rw [Int.natCast_mul, hl, Int.toNat_of_nonneg (by omega)]
      omega
    rw [allL, flat_get _ (allL s).length (fun k => by simp) hc _ _ hj2, List.getElem?_map]
    have hm : ((j % (allL s).length : Nat) : Int) = (j : Int) % prodI s := by rw [Int.natCast_emod, hl]
    have hd : ((j / (allL s).length : Nat) : Int) = (j : Int) / prodI s := by rw [Int.natCast_ediv, hl]
    rw [allL_get hs (j % (allL s).length) (by rw [hm]; exact Int.emod_lt_of_pos _ (by omega)), Option.map_some, hm, hd, dig]
theorem dig_dotp : ∀ {s x : List Int}, vld s x = true → dig s (dotp s x) = x
  | [], [], _ => rfl
  | n :: s, a :: x, h => by
    simp only [vld, Bool.and_eq_true, decide_eq_true_eq] at h
    obtain ⟨r1, r2⟩ := dotp_range h.2
    have hp : 0 < prodI s := by omega
    rw [dotp, dig]
    have e1 : (a * prodI s + dotp s x) / prodI s = a := by
      rw [Int.add_comm, Int.add_mul_ediv_right _ _ (by omega), Int.ediv_eq_zero_of_lt r1 r2, Int.zero_add]
    have e2 : (a * prodI s + dotp s x) % prodI s = dotp s x := by
      rw [Int.add_comm, Int.add_mul_emod_self_right, Int.emod_eq_of_lt r1 r2]
    rw [e1, e2, dig_dotp h.2]
  | [], _ :: _, h => by cases h
  | _ :: _, [], h => by cases h
theorem dotp_inj {s x y : List Int} (hx : vld s x = true) (hy : vld s y = true) (h : dotp s x = dotp s y) : x = y := by
  rw [← dig_dotp hx, ← dig_dotp hy, h]
theorem ext_getD : ∀ {a b : List Int}, a.length = b.length → (∀ k, k < a.length → a.getD k 0 = b.getD k 0) → a = b
  | [], [], _, _ => rfl
  | x :: a, y :: b, h1, h2 => by
    rw [show x = y by simpa using h2 0 (by simp), ext_getD (a := a) (b := b) (by simpa using h1) fun k hk => by simpa using h2 (k + 1) (by simpa using hk)]
  | [], _ :: _, h, _ => by cases h
  | _ :: _, [], h, _ => by cases h
end Go.Proofs.Tryz
namespace Go.Proofs.Tryz
open Go Go.Pm
set_option linter.unusedVariables false
set_option linter.unusedSimpArgs false
set_option maxRecDepth 2000
theorem pm_pmI : ∀ s : List Int, ((pm s : Nat) : Int) = pmI s
  | [] => rfl
  | n :: s => by
    rw [pm, pmI, Int.natCast_mul, pm_pmI s]
    congr 1
    split <;> omega
theorem small_pm {m : Int} {s : List Int} (h : smallS m s) (hm : 1 ≤ m) : (pm s : Int) ≤ 100 * m := by
  rcases h.2.2.2 with rfl | h
  · simp [pm]; omega
  · rw [pm_pmI]; exact h
theorem small_All {m : Int} {s : List Int} (h : smallS m s) (hm : 1 ≤ m ∧ m ≤ 2500) : m_ref03_All s = some (allL s) := All_ok (by have := h.1; omega) (by have := small_pm h hm.1; omega)
end Go.Proofs.Tryz
namespace Go.Proofs.Tryz
open Go Go.Pm
set_option linter.unusedVariables false
set_option linter.unusedSimpArgs false
set_option maxRecDepth 2000
theorem etaC (d : T_core_Core) : (⟨d.kind, d.shape, d.buffer, d.starts, d.axis, d.amount, d.perm, d.kids⟩ : T_core_Core) = d := by cases d; rfl
theorem etaR (c : T_ref14_Core) : (⟨c.kind, c.shape, c.buffer, c.starts, c.axis, c.amount, c.perm, c.kids⟩ : T_ref14_Core) = c := by cases c; rfl
theorem convF (c : T_ref14_Core) : (conv c).kind = c.kind ∧ (conv c).shape = c.shape ∧ (conv c).buffer = c.buffer ∧ (conv c).kids = convs c.kids := by
  cases c; exact ⟨rfl, rfl, rfl, rfl⟩
theorem convs_map : ∀ l : List T_ref14_Core, convs l = l.map conv
  | [] => rfl
  | k :: ks => by rw [convs, convs_map ks]; rfl
theorem idx_convs {l : List T_ref14_Core} {k : Int} {kid : T_ref14_Core} (h : idx l k = some kid) : idx (convs l) k = some (conv kid) := by
  rw [convs_map]
  unfold idx at h ⊢
  split at h
  · rename_i h0; rw [if_pos h0, List.getElem?_map, h]; rfl
  · cases h
theorem szC_mem : ∀ {l : List T_ref14_Core} {k : T_ref14_Core}, k ∈ l → szC k ≤ szCs l
  | x :: l, k, h => by
    rw [szCs]
    rcases List.mem_cons.1 h with rfl | h
    · omega
    · have := szC_mem h; omega
theorem szC_f (c : T_ref14_Core) : szC c = 1 + szCs c.kids := by cases c; rw [szC]
theorem idx_mem {α : Type} {l : List α} {k : Int} {a : α} (h : idx l k = some a) : a ∈ l := by
  unfold idx at h
  split at h
  · exact List.mem_of_getElem? h
  · cases h
def noC : T_ref14_Core := ⟨0, [], 0, [], 0, 0, [], []⟩
/-- where a cell comes from: filled, buffer, offset -/
def origF : Nat → T_ref14_Core → List Int → Bool × Int × Int
  | 0, _, _ => (true, 0, 0)
  | n + 1, c, i => if c.kind = 1 then (false, c.buffer, dotp c.shape i) else if (stepF c i).2.2 = true then origF n (c.kids.getD (stepF c i).1.toNat noC) (stepF c i).2.1 else (true, 0, 0)
theorem idx_getd {α : Type} {l : List α} {k : Int} {a d : α} (h : idx l k = some a) : l.getD k.toNat d = a := by
  unfold idx at h
  split at h
  · rw [List.getD_eq_getElem?_getD, h]; rfl
  · cases h
theorem smC_kid {c kid : T_ref14_Core} (h : smC c) (hk : kid ∈ c.kids) : smC kid := smCs_mem (smC_f h).2.2.2.2 kid hk
/-- where a cell comes from: in the program and in the reference -/
def origP (bs : List (List Int)) (c : T_ref14_Core) (i : List Int) (t : Bool × Int × Int) : Prop :=
  (∃ x1 x2 x3 x4 x5 x6 x7 x8, m_psi_Origin_L1 (c.kind, c.shape, c.buffer, c.starts, c.axis, c.amount, c.perm, convs c.kids, i) = some (x1, x2, x3, x4, x5, x6, x7, x8, t.1, t.2.1, t.2.2)) ∧
  m_ref16_Origin (c, i) = some ⟨t.1, t.2.1, t.2.2⟩ ∧ (t.1 = false → ∃ sh, idx bs t.2.1 = some sh ∧ 0 ≤ t.2.2 ∧ t.2.2 < prodI sh ∧ checkR sh = 0)
theorem conv_eta (c : T_ref14_Core) : (⟨c.kind, c.shape, c.buffer, c.starts, c.axis, c.amount, c.perm, convs c.kids⟩ : T_core_Core) = conv c := by cases c; rfl
theorem orig_L (bs : List (List Int)) : ∀ (n : Nat) (c : T_ref14_Core) (i : List Int), szC c ≤ n → smC c → nodesF bs c → vld c.shape i = true → origP bs c i (origF n c i)
  | 0, c, i, hz, _, _, _ => by have := szC_pos c; omega
  | n + 1, c, i, hz, hs, hN, hv => by
    obtain ⟨hn, hb, hk⟩ := nodesF_f hN
    have hsh := (smC_f hs).1
    have hl := vld_len hv
    have hSh : Sm c.shape.length := Sm_of (show c.shape.length ≤ 1000 by omega)
    by_cases h1 : c.kind = 1
    · have e := gOffset_ok hv hn.chk
      have e2 := rOffset_ok hv (checkR_ok hn.chk).2.1 hSh
      rw [origF, if_pos h1]
      refine ⟨⟨c.kind, c.shape, c.buffer, c.starts, c.axis, c.amount, c.perm, convs c.kids, ?_⟩, ?_, fun _ => ⟨c.shape, hb h1, (dotp_range hv).1, (dotp_range hv).2, hn.chk⟩⟩
      · rw [m_psi_Origin_L1]
        simp only [h1, if_true, e, bind_ok] <;> rfl
      · rw [m_ref16_Origin]
        simp only [h1, if_true, e2, bind_ok]
    · obtain ⟨k, l, ok, ef, es, er, hl2, hok⟩ := step_ok c i hs hn (fun k hm => (nodesF_f (hk k hm)).1) (by omega)
      rw [origF, if_neg h1, ef]
      cases ok with
      | false =>
        refine ⟨⟨c.kind, c.shape, c.buffer, c.starts, c.axis, c.amount, c.perm, convs c.kids, ?_⟩, ?_, fun h => by cases h⟩
        · rw [m_psi_Origin_L1]
          simp only [h1, if_false, conv_eta, es, bind_ok, if_true] <;> rfl
        · rw [m_ref16_Origin]
          simp only [h1, if_false, etaR, er, bind_ok, if_true] <;> rfl
      | true =>
        obtain ⟨kid, ik, vk, hkl⟩ := hok rfl
        have hm := idx_mem ik
        have hsz : szC kid ≤ n := by
          have := szC_mem hm
          have := szC_f c
          omega
        obtain ⟨⟨x1, x2, x3, x4, x5, x6, x7, x8, ih1⟩, ih2, ih3⟩ := orig_L bs n kid l hsz (smC_kid hs hm) (hk kid hm) vk
        obtain ⟨q1, q2, q3, q4⟩ := convF kid
        have ec : conv kid = ⟨kid.kind, kid.shape, kid.buffer, kid.starts, kid.axis, kid.amount, kid.perm, convs kid.kids⟩ := (conv_eta kid).symm
        simp only [if_true, idx_getd ik]
        refine ⟨⟨x1, x2, x3, x4, x5, x6, x7, x8, ?_⟩, ?_, ih3⟩
        · rw [m_psi_Origin_L1]
          simp only [h1, if_false, conv_eta, es, bind_ok, Bool.true_eq_false, idx_convs ik]
          rw [ec]
          exact ih1
        · rw [m_ref16_Origin]
          simp only [h1, if_false, etaR, er, bind_ok, Bool.true_eq_false, ik, ih2]
def cellP (t : Bool × Int × Int) : T_psi_Cell := ⟨t.1, t.2.1, t.2.2⟩
def cellQ (t : Bool × Int × Int) : T_ref16_Cell := ⟨t.1, t.2.1, t.2.2⟩
theorem pOrigin_ok {bs : List (List Int)} {c : T_ref14_Core} {i : List Int} (hs : smC c) (hN : nodesF bs c) (hi : i.length ≤ 1000) : m_psi_Origin (conv c, i) = some (if vld c.shape i = true then (cellP (origF (szC c) c i), true) else (⟨false, 0, 0⟩, false)) := by
  obtain ⟨q1, q2, q3, q4⟩ := convF c
  simp only [m_psi_Origin, q2, gValid_ok c.shape i (Sm_of hi), bind_ok]
  cases hv : vld c.shape i with
  | false => rfl
  | true =>
    obtain ⟨⟨x1, x2, x3, x4, x5, x6, x7, x8, h⟩, _, _⟩ := orig_L bs (szC c) c i (Nat.le_refl _) hs hN hv
    have hq : (conv c).starts = c.starts ∧ (conv c).axis = c.axis ∧ (conv c).amount = c.amount ∧ (conv c).perm = c.perm := by cases c; exact ⟨rfl, rfl, rfl, rfl⟩
    simp only [Bool.true_eq_false, if_false, q1, q3, q4, hq.1, hq.2.1, hq.2.2.1, hq.2.2.2, h, bind_ok, if_true]
    rfl
theorem rOrigin_ok {bs : List (List Int)} {c : T_ref14_Core} {i : List Int} (hs : smC c) (hN : nodesF bs c) (hv : vld c.shape i = true) : m_ref16_Origin (c, i) = some (cellQ (origF (szC c) c i)) := (orig_L bs (szC c) c i (Nat.le_refl _) hs hN hv).2.1
end Go.Proofs.Tryz
namespace Go.Proofs.Tryz
open Go Go.Pm
set_option linter.unusedVariables false
set_option linter.unusedSimpArgs false
set_option maxRecDepth 2000
theorem vld_pos' {s : List Int} (h : ∀ n ∈ s, 0 ≤ n) (hp : 0 < prodI s) : ∀ n ∈ s, 1 ≤ n := fun n hn => by
  have h0 := h n hn
  have : n ≠ 0 := fun e => by rw [prodI_zero (e ▸ hn)] at hp; omega
  omega
theorem len_allL {s : List Int} (h : checkR s = 0) : ((allL s).length : Int) = prodI s := allL_len fun n hn => ((checkR_ok h).2.2 n hn).1
theorem get_allL {s : List Int} (h : checkR s = 0) {j : Nat} (hj : j < (allL s).length) : (allL s)[j]? = some (dig s (j : Int)) := by
  have hl := len_allL h
  exact allL_get (vld_pos' (fun n hn => ((checkR_ok h).2.2 n hn).1) (by omega)) j (by omega)
theorem vld_get_allL {s : List Int} (h : checkR s = 0) {j : Nat} (hj : j < (allL s).length) : vld s (dig s (j : Int)) = true := mem_allL.1 (List.mem_of_getElem? (get_allL h hj))
theorem pOrigins_L1 {bs : List (List Int)} {c : T_ref14_Core} (hs : smC c) (hN : nodesF bs c) (hc : checkR c.shape = 0) (hp : (allL c.shape).length ≤ 100000) : ∀ (m j : Nat), j + m = (allL c.shape).length →
    m_psi_Origins_L1 (((allL c.shape).length : Int), conv c, ((allL c.shape).take j).map (fun i => cellP (origF (szC c) c i)), (j : Int)) = some ((allL c.shape).map fun i => cellP (origF (szC c) c i))
  | 0, j, h => by
    rw [m_psi_Origins_L1]
    have : ¬ ((j : Int) < ((allL c.shape).length : Int)) := by omega
    simp only [this, if_false]
    rw [List.take_of_length_le (by omega)]
  | m + 1, j, h => by
    rw [m_psi_Origins_L1]
    have hj : j < (allL c.shape).length := by omega
    have hl := len_allL hc
    have hv := vld_get_allL hc hj
    have hpos := vld_pos' (fun n hn => ((checkR_ok hc).2.2 n hn).1) (show 0 < prodI c.shape by omega)
    have e := gIndex_ok hc hpos (show (0 : Int) ≤ (j : Int) by omega) (by omega)
    have hd : (dig c.shape (j : Int)).length ≤ 1000 := by rw [dig_len]; have := (smC_f hs).1; omega
    have ih := pOrigins_L1 hs hN hc hp m (j + 1) (by omega)
    have et : (allL c.shape).take (j + 1) = (allL c.shape).take j ++ [dig c.shape (j : Int)] := by
      rw [List.take_add_one, get_allL hc hj]; rfl
    rw [et, List.map_append] at ih
    have ht : ((j : Int) < ((allL c.shape).length : Int)) := by omega
    have ea : app 24 (((allL c.shape).take j).map (fun i => cellP (origF (szC c) c i))) [cellP (origF (szC c) c (dig c.shape (j : Int)))] = some (((allL c.shape).take j).map (fun i => cellP (origF (szC c) c i)) ++ [cellP (origF (szC c) c (dig c.shape (j : Int)))]) := app_le (by simp; omega) (by omega)
    have q2 : (conv c).shape = c.shape := conv_shape c
    simp only [ht, if_true, q2, e, bind_ok, pOrigin_ok hs hN hd, hv, ea, W_succ (show j < 9223372036854775807 by omega)]
    exact ih
theorem pOrigins_ok {bs : List (List Int)} {c : T_ref14_Core} (hs : smC c) (hN : nodesF bs c) (hp : (allL c.shape).length ≤ 100000) : m_psi_Origins (conv c) = some ((allL c.shape).map fun i => cellP (origF (szC c) c i)) := by
  have hc := (nodesF_f hN).1.chk
  have e := pOrigins_L1 hs hN hc hp (allL c.shape).length 0 (by omega)
  simp only [List.take_zero, List.map_nil, Int.natCast_zero] at e
  have hl := len_allL hc
  simp only [m_psi_Origins, conv_shape, gCells_ok _ (Sm_of (show c.shape.length ≤ 1000 by have := (smC_f hs).1; omega)), bind_ok, cellsR, hc, if_true, ← hl, e]
theorem rOrigins_L1 {bs : List (List Int)} {c : T_ref14_Core} (hs : smC c) (hN : nodesF bs c) : ∀ (s p : List (List Int)), (∀ i ∈ s, vld c.shape i = true) → (p ++ s).length ≤ 100000 →
    m_ref16_Origins_L1 (p ++ s, c, p.map (fun i => cellQ (origF (szC c) c i)), (p.length : Int)) = some ((p ++ s).map fun i => cellQ (origF (szC c) c i))
  | [], p, h, hp => by
    rw [m_ref16_Origins_L1]; simp only [List.append_nil, Int.lt_irrefl, if_false]
  | x :: s, p, h, hp => by
    rw [m_ref16_Origins_L1]
    have ih := rOrigins_L1 hs hN s (p ++ [x]) (fun i hi => h i (List.mem_cons_of_mem _ hi)) (by rw [← mid_app]; exact hp)
    rw [← mid_app, List.map_append] at ih
    have ea : app 24 (p.map (fun i => cellQ (origF (szC c) c i))) [cellQ (origF (szC c) c x)] = some (p.map (fun i => cellQ (origF (szC c) c i)) ++ [cellQ (origF (szC c) c x)]) := app_le (by simp at hp ⊢; omega) (by omega)
    simp only [mid_lt, if_true, mid_idx, bind_ok, etaR, rOrigin_ok hs hN (h x (List.mem_cons_self ..)), ea, mid_W (Sm_of hp)]
    exact ih
theorem rOrigins_ok {bs : List (List Int)} {c : T_ref14_Core} (hs : smC c) (hN : nodesF bs c) (hA : m_ref03_All c.shape = some (allL c.shape)) (hp : (allL c.shape).length ≤ 100000) : m_ref16_Origins c = some ((allL c.shape).map fun i => cellQ (origF (szC c) c i)) := by
  have e : m_ref16_Origins_L1 (allL c.shape, c, [], 0) = _ := rOrigins_L1 hs hN (allL c.shape) [] (fun i hi => mem_allL.1 hi) hp
  simp only [m_ref16_Origins, hA, bind_ok, e, List.nil_append]
theorem idx_bnd {α : Type} {l : List α} {k : Int} {a : α} (h : idx l k = some a) : 0 ≤ k ∧ k < (l.length : Int) := by
  unfold idx at h
  split at h
  · rename_i h0
    obtain ⟨h1, _⟩ := List.getElem?_eq_some_iff.1 h
    exact ⟨h0, by omega⟩
  · cases h
theorem mid_map {α β : Type} {f : α → β} {p s : List α} {x : α} : idx ((p ++ x :: s).map f) (p.length : Int) = some (f x) := by simp [idx]
theorem cmp_L1 {bs : List (List Int)} {c : T_ref14_Core} (hs : smC c) (hN : nodesF bs c) : ∀ (s p : List (List Int)), (∀ i ∈ s, vld c.shape i = true) → (p ++ s).length ≤ 100000 →
    m_law16_PsiOrigins_L1 ((p ++ s).map (fun i => cellP (origF (szC c) c i)), (p ++ s).map (fun i => cellQ (origF (szC c) c i)), bs, c, (p.length : Int)) = some (.inr ())
  | [], p, h, hp => by
    rw [m_law16_PsiOrigins_L1]; simp only [List.append_nil, List.length_map, Int.lt_irrefl, if_false]
  | x :: s, p, h, hp => by
    rw [m_law16_PsiOrigins_L1]
    have ih := cmp_L1 hs hN s (p ++ [x]) (fun i hi => h i (List.mem_cons_of_mem _ hi)) (by rw [← mid_app]; exact hp)
    rw [← mid_app] at ih
    obtain ⟨_, _, h3⟩ := orig_L bs (szC c) c x (Nat.le_refl _) hs hN (h x (List.mem_cons_self ..))
    have ht : ((p.length : Int) < (((p ++ x :: s).map (fun i => cellP (origF (szC c) c i))).length : Int)) := by rw [List.length_map]; exact mid_lt
    rcases ho : origF (szC c) c x with ⟨f, b, o⟩
    rw [ho] at h3
    have e1 : cellP (f, b, o) = ⟨f, b, o⟩ := rfl
    have e2 : cellQ (f, b, o) = ⟨f, b, o⟩ := rfl
    simp only [ht, if_true, mid_map, ho, e1, e2, bind_ok, mid_W (Sm_of hp), ih, beq_self_eq_true, Bool.and_self, Bool.true_eq_false, if_false]
    cases f with
    | true => rfl
    | false =>
      obtain ⟨sh, g1, g2, g3, g4⟩ := h3 rfl
      have g1 : idx bs b = some sh := g1
      have g2 : 0 ≤ o := g2
      have g3 : o < prodI sh := g3
      have hb := idx_bnd g1
      have hsl : Sm sh.length := Sm_of (show sh.length ≤ 1000 by have := (checkR_ok g4).1; omega)
      simp only [if_true, show ¬ b < 0 by omega, if_false, decide_eq_false (show ¬ b ≥ (bs.length : Int) by omega), bind_ok, Bool.false_eq_true, g1, m_ref03_In, show o ≥ 0 by omega, Cells_ok _ hsl, cellsR, g4, decide_eq_true g3, Bool.not_true]
theorem PsiOrigins_ok (c : T_ref14_Core) (bs : List (List Int)) : m_law16_PsiOrigins (c, bs) = some true := by
  obtain ⟨b, e, hb⟩ := Small_ok c bs 400 (by omega)
  simp only [m_law16_PsiOrigins, m_law16_awake, bind_ok, Bool.true_eq_false, if_false, etaR, e]
  cases b with
  | false => rfl
  | true =>
    obtain ⟨hs, hN, hC, _, _⟩ := hb rfl
    obtain ⟨hsh, _⟩ := cellsF_f hC
    have hc := (nodesF_f hN).1.chk
    have hl := len_allL hc
    have hp : (allL c.shape).length ≤ 100000 := by have := hsh.2.2.1; omega
    have e1 := pOrigins_ok hs hN hp
    have e2 := rOrigins_ok hs hN (small_All hsh (by omega)) hp
    have e3 : m_law16_PsiOrigins_L1 ((allL c.shape).map (fun i => cellP (origF (szC c) c i)), (allL c.shape).map (fun i => cellQ (origF (szC c) c i)), bs, c, 0) = _ := cmp_L1 hs hN (allL c.shape) [] (fun i hi => mem_allL.1 hi) hp
    simp only [Bool.not_true, Bool.false_eq_true, if_false, bind_ok, Core_ok c hs, etaC, e1, e2, List.length_map, ne_eq, not_true, e3]
end Go.Proofs.Tryz
