/-
  Models of functions, their walks, and plain laws.
-/
import Derived.Test.YtpgkpgoebpgacaaDoorPmLaw
import Derived.Test.YtpgkpgoebpgacaaDoorKCoreRightA
namespace Go.Proofs.Tryd
open Go Go.Pm
set_option linter.unusedVariables false
set_option maxRecDepth 2000
def m_ref14_node_L1 (x : (T_ref14_Core × Int)) : Option (Unit ⊕ Unit) :=
  match x with
  | (p0, v217) =>
  if v217 < (p0.starts.length : Int) then
    (idx p0.starts v217 >>= fun v618 =>
    if v618 < (-65536) then
      some true
    else
    idx p0.starts v217 >>= fun v619 =>
    some (decide (v619 > 65536))
    ) >>= fun (v617 : Bool) =>
    if v617 = true then
      some (Sum.inl ())
    else
    m_ref14_node_L1 (p0, (W (v217 + 1)))
  else
  some (Sum.inr ())
  partial_fixpoint
def P_ref14_node_L1 : (T_ref14_Core × Int) → (Unit ⊕ Unit) → Prop := fun x r => match x with
  | (p0, v217) => ∀ st, prune 1 ((firstRegion (codeAt [1, 1, 1, 1, 1, 1, 0, 1, 0, 1, 1, 1, 0, 0, 1, 0, 0] (bodyOf f40))).bind (env.hint 40).keepAt) st = ⟨kp 197 [(2, (.ptr 0 0)), (6, (intPV v217))], [(.box [(intPV p0.kind), (.dat (.lst ((List.map intD) p0.shape))), (intPV p0.buffer), (.dat (.lst ((List.map intD) p0.starts))), (intPV p0.axis), (intPV p0.amount), (.dat (.lst ((List.map intD) p0.perm))), (.dat (.lst (T_ref14_Core.toDs p0.kids)))])]⟩ →
    RL prog env (env.hint 40) true (codeAt [1, 1, 1, 1, 1, 1, 0, 1, 0, 1, 1, 1, 0, 0, 1, 0, 0] (bodyOf f40)) 1 st (fun e s => match r with | .inl _ => e = .ret ∧ ∃ d, s = ⟨sl d 197 [(4, (boolPV false))], [(.box [(intPV p0.kind), (.dat (.lst ((List.map intD) p0.shape))), (intPV p0.buffer), (.dat (.lst ((List.map intD) p0.starts))), (intPV p0.axis), (intPV p0.amount), (.dat (.lst ((List.map intD) p0.perm))), (.dat (.lst (T_ref14_Core.toDs p0.kids)))])]⟩ | .inr (_) => e = .exit 1 ∧ ∃ d, s = ⟨sl d 197 [(2, (.ptr 0 0))], [(.box [(intPV p0.kind), (.dat (.lst ((List.map intD) p0.shape))), (intPV p0.buffer), (.dat (.lst ((List.map intD) p0.starts))), (intPV p0.axis), (intPV p0.amount), (.dat (.lst ((List.map intD) p0.perm))), (.dat (.lst (T_ref14_Core.toDs p0.kids)))])]⟩)
theorem w_ref14_node_L1 : ∀ x r, m_ref14_node_L1 x = some r → P_ref14_node_L1 x r := by
  refine m_ref14_node_L1.partial_correctness _ (fun m_ref14_node_L1 w_ref14_node_L1 x r hm => ?_)
  unfold P_ref14_node_L1
  obtain ⟨p0, v217⟩ := x
  intro st hst
  refine RL_at hst ?_
  clear hst
  refine R_seq ?_
  refine R_seq ?_
  refine R_G ?_
  refine G_run 3 ?_
  refine I_len intD p0.starts (es := (List.map intD) p0.starts) rfl ?_
  refine G_run 1 ?_
  refine G_end ?_
  refine R_ifp (p := v217 < (p0.starts.length : Int)) (rfl) (fun hc => ?_) (fun hc => ?_)
  · replace hm := pos_inv hc hm
    refine R_skip ?_
    refine R_seq ?_
    refine R_block ?_
    refine R_seq ?_
    obtain ⟨v617, hs, hm⟩ := bind_inv hm
    refine R_cut (fun d => ⟨sl d 197 [(2, (.ptr 0 0)), (6, (intPV v217)), (140, (boolPV v617))], [(.box [(intPV p0.kind), (.dat (.lst ((List.map intD) p0.shape))), (intPV p0.buffer), (.dat (.lst ((List.map intD) p0.starts))), (intPV p0.axis), (intPV p0.amount), (.dat (.lst ((List.map intD) p0.perm))), (.dat (.lst (T_ref14_Core.toDs p0.kids)))])]⟩) ?_ (fun d => ?_)
    · replace hm := hs
      clear hs
      refine R_G ?_
      refine G_run 3 ?_
      obtain ⟨v618, hx, hm⟩ := bind_inv hm
      refine I_idx 1 intD p0.starts v217 v618 (es := (List.map intD) p0.starts) (d := (intD v618)) rfl hx rfl rfl ?_
      refine G_run 3 ?_
      refine G_split (p := v618 < (-65536)) 133 (rfl) (fun hc => ?_) (fun hc => ?_)
      · replace hm := pos_inv hc hm
        refine G_run 7 ?_
        refine G_end ?_
        obtain rfl := inj1 hm
        exact cut_leaf (by kernel_rfl)
      replace hm := neg_inv hc hm
      refine G_run 3 ?_
      obtain ⟨v619, hx, hm⟩ := bind_inv hm
      refine I_idx 1 intD p0.starts v217 v619 (es := (List.map intD) p0.starts) (d := (intD v619)) rfl hx rfl rfl ?_
      refine G_run 3 ?_
      refine G_end ?_
      obtain rfl := inj1 hm
      exact cut_leaf (by kernel_rfl)
    clear hs
    refine R_ifp (p := v617 = true) (bool_dec _) (fun hc => ?_) (fun hc => ?_)
    · replace hm := pos_inv hc hm
      refine R_seq ?_
      refine R_G ?_
      refine G_run 1 ?_
      refine G_end ?_
      refine R_ret ?_
      obtain rfl := inj1 hm
      exact ⟨rfl, cut_leaf (by kernel_rfl)⟩
    replace hm := neg_inv hc hm
    refine R_skip ?_
    refine R_G ?_
    refine G_run 3 ?_
    refine G_end ?_
    exact w_ref14_node_L1 _ _ hm _ (by kernel_rfl)
  replace hm := neg_inv hc hm
  refine R_exit ?_
  obtain rfl := inj1 hm
  exact ⟨rfl, cut_leaf (by kernel_rfl)⟩
def m_ref14_node (x : (T_ref14_Core × (List (List Int)))) : Option Bool :=
  match x with
  | (p0, p1) =>
  (if p0.kind = 1 then
    some 0
  else
  some 1
  ) >>= fun (v1 : Int) =>
  (if p0.kind = 7 then
    some 2
  else
  some v1
  ) >>= fun (v2 : Int) =>
  ((if p0.kind < 1 then
    some true
  else
  some (decide (p0.kind > 7))
  ) >>= fun (v4 : Bool) =>
  (if v4 = true then
    some true
  else
  some ((p0.kids.length : Int) != v2)
  ) >>= fun (v5 : Bool) =>
  if v5 = true then
    some true
  else
  m_ref02_Check p0.shape >>= fun (v6 : Int) =>
  some (v6 != 0)
  ) >>= fun (v3 : Bool) =>
  if v3 = true then
    some false
  else
  ((if p0.kind ≠ 1 then
    some (p0.buffer != 0)
  else
  some false
  ) >>= fun (v8 : Bool) =>
  (if v8 = true then
    some true
  else
  if p0.kind ≠ 2 then
    some (decide ((p0.starts.length : Int) > 0))
  else
  some false
  ) >>= fun (v9 : Bool) =>
  (if v9 = true then
    some true
  else
  (if p0.kind ≠ 3 then
    some (p0.kind != 4)
  else
  some false
  ) >>= fun (v11 : Bool) =>
  (if v11 = true then
    some (p0.kind != 7)
  else
  some false
  ) >>= fun (v12 : Bool) =>
  if v12 = true then
    some (p0.axis != 0)
  else
  some false
  ) >>= fun (v10 : Bool) =>
  (if v10 = true then
    some true
  else
  if p0.kind ≠ 4 then
    some (p0.amount != 0)
  else
  some false
  ) >>= fun (v13 : Bool) =>
  if v13 = true then
    some true
  else
  if p0.kind ≠ 5 then
    some (decide ((p0.perm.length : Int) > 0))
  else
  some false
  ) >>= fun (v7 : Bool) =>
  if v7 = true then
    some false
  else
  if p0.kind = 1 then
    (if p0.buffer ≥ 0 then
      some (decide (p0.buffer < (p1.length : Int)))
    else
    some false
    ) >>= fun (v14 : Bool) =>
    if v14 = true then
      idx p1 p0.buffer >>= fun v15 =>
      m_ref02_Equal (v15, p0.shape) >>= fun (v16 : Bool) =>
      some v16
    else
    some false
  else
  if p0.kind = 2 then
    (
    m_ref14_node_L1 (p0, 0) >>= fun (out : Unit ⊕ Unit) =>
    match out with
    | .inl _ =>
      some false
    | .inr (_) =>
      if (p0.starts.length : Int) = (p0.shape.length : Int) then
        idx p0.kids 0 >>= fun v620 =>
        some ((v620.shape.length : Int) == (p0.shape.length : Int))
      else
      some false
    )
  else
  if p0.kind = 3 then
    m_ref14_alike p0 >>= fun (v621 : Bool) =>
    some v621
  else
  if p0.kind = 4 then
    m_ref14_alike p0 >>= fun (v622 : Bool) =>
    (if v622 = true then
      some (decide (p0.amount ≥ 0))
    else
    some false
    ) >>= fun (v623 : Bool) =>
    if v623 = true then
      if p0.amount = 0 then
        some true
      else
      idx p0.shape p0.axis >>= fun v624 =>
      some (decide (p0.amount < v624))
    else
    some false
  else
  if p0.kind = 5 then
    m_ref14_transposed p0 >>= fun (v625 : Bool) =>
    some v625
  else
  if p0.kind = 7 then
    m_ref14_joined p0 >>= fun (v626 : Bool) =>
    some v626
  else
  some true
def P_ref14_node : (T_ref14_Core × (List (List Int))) → Bool → Prop := fun x r => match x, r with
  | (p0, p1), r0 => ∀ H, PC prog env 40 ([(T_ref14_Core.ex p0), (.lst ((List.map (fun l => Dat.lst ((List.map intD) l))) p1))].map .dat) H (boolPV r0) H
theorem w_ref14_node : ∀ x r, m_ref14_node x = some r → P_ref14_node x r := by
  intro x r0 hm
  unfold m_ref14_node at hm
  unfold P_ref14_node
  obtain ⟨p0, p1⟩ := x
  intro H
  refine PC_sx (ds := [(T_ref14_Core.ex p0), (.lst ((List.map (fun l => Dat.lst ((List.map intD) l))) p1))]) (fn := f40) (by kernel_rfl) (by kernel_rfl) rfl ?_ (by kernel_rfl)
  refine R_seq ?_
  refine R_G ?_
  refine G_run 2 ?_
  refine G_end ?_
  refine R_seq ?_
  refine R_G ?_
  refine G_run 1 ?_
  refine G_end ?_
  refine R_seq ?_
  refine R_seq ?_
  refine R_G ?_
  refine G_run 3 ?_
  refine G_end ?_
  obtain ⟨v1, hs, hm⟩ := bind_inv hm
  refine R_cut (fun d => ⟨sl d 197 [(1, (.dat (.lst ((List.map (fun l => Dat.lst ((List.map intD) l))) p1)))), (2, (.ptr 0 0)), (5, (intPV v1))], [(.box [(intPV p0.kind), (.dat (.lst ((List.map intD) p0.shape))), (intPV p0.buffer), (.dat (.lst ((List.map intD) p0.starts))), (intPV p0.axis), (intPV p0.amount), (.dat (.lst ((List.map intD) p0.perm))), (.dat (.lst (T_ref14_Core.toDs p0.kids)))])]⟩) ?_ (fun d => ?_)
  · replace hm := hs
    clear hs
    refine R_ifp (p := p0.kind = 1) (eq_dec _ _) (fun hc => ?_) (fun hc => ?_)
    · replace hm := pos_inv hc hm
      refine R_G ?_
      refine G_run 1 ?_
      refine G_end ?_
      obtain rfl := inj1 hm
      exact cut_leaf (by kernel_rfl)
    replace hm := neg_inv hc hm
    refine R_skip ?_
    obtain rfl := inj1 hm
    exact cut_leaf (by kernel_rfl)
  clear hs
  refine R_seq ?_
  refine R_seq ?_
  refine R_G ?_
  refine G_run 3 ?_
  refine G_end ?_
  obtain ⟨v2, hs, hm⟩ := bind_inv hm
  refine R_cut (fun d => ⟨sl d 197 [(1, (.dat (.lst ((List.map (fun l => Dat.lst ((List.map intD) l))) p1)))), (2, (.ptr 0 0)), (5, (intPV v2))], [(.box [(intPV p0.kind), (.dat (.lst ((List.map intD) p0.shape))), (intPV p0.buffer), (.dat (.lst ((List.map intD) p0.starts))), (intPV p0.axis), (intPV p0.amount), (.dat (.lst ((List.map intD) p0.perm))), (.dat (.lst (T_ref14_Core.toDs p0.kids)))])]⟩) ?_ (fun d => ?_)
  · replace hm := hs
    clear hs
    refine R_ifp (p := p0.kind = 7) (eq_dec _ _) (fun hc => ?_) (fun hc => ?_)
    · replace hm := pos_inv hc hm
      refine R_G ?_
      refine G_run 1 ?_
      refine G_end ?_
      obtain rfl := inj1 hm
      exact cut_leaf (by kernel_rfl)
    replace hm := neg_inv hc hm
    refine R_skip ?_
    obtain rfl := inj1 hm
    exact cut_leaf (by kernel_rfl)
  clear hs
  refine R_seq ?_
  refine R_seq ?_
  obtain ⟨v3, hs, hm⟩ := bind_inv hm
  refine R_cut (fun d => ⟨sl d 197 [(1, (.dat (.lst ((List.map (fun l => Dat.lst ((List.map intD) l))) p1)))), (2, (.ptr 0 0)), (33, (boolPV v3))], [(.box [(intPV p0.kind), (.dat (.lst ((List.map intD) p0.shape))), (intPV p0.buffer), (.dat (.lst ((List.map intD) p0.starts))), (intPV p0.axis), (intPV p0.amount), (.dat (.lst ((List.map intD) p0.perm))), (.dat (.lst (T_ref14_Core.toDs p0.kids)))])]⟩) ?_ (fun d => ?_)
  · replace hm := hs
    clear hs
    refine R_GN ?_
    refine G_run 4 ?_
    obtain ⟨v4, hs, hm⟩ := bind_inv hm
    refine G_cut (j := 8) (fun d => ⟨sl d 197 [(1, (.dat (.lst ((List.map (fun l => Dat.lst ((List.map intD) l))) p1)))), (2, (.ptr 0 0)), (5, (intPV v2)), (13, (.ptr 0 0)), (14, (intPV p0.kind)), (15, (boolPV (decide (p0.kind < 1)))), (20, (boolPV v4))], [(.box [(intPV p0.kind), (.dat (.lst ((List.map intD) p0.shape))), (intPV p0.buffer), (.dat (.lst ((List.map intD) p0.starts))), (intPV p0.axis), (intPV p0.amount), (.dat (.lst ((List.map intD) p0.perm))), (.dat (.lst (T_ref14_Core.toDs p0.kids)))])]⟩) (fun d => ?_) (fun hJ => ?_)
    · clear hs
      refine G_run 1 ?_
      obtain ⟨v5, hs, hm⟩ := bind_inv hm
      refine G_cut (j := 15) (fun d => ⟨sl d 197 [(1, (.dat (.lst ((List.map (fun l => Dat.lst ((List.map intD) l))) p1)))), (2, (.ptr 0 0)), (5, (intPV v2)), (13, (.ptr 0 0)), (14, (intPV p0.kind)), (15, (boolPV (decide (p0.kind < 1)))), (20, (boolPV v4)), (27, (boolPV v5))], [(.box [(intPV p0.kind), (.dat (.lst ((List.map intD) p0.shape))), (intPV p0.buffer), (.dat (.lst ((List.map intD) p0.starts))), (intPV p0.axis), (intPV p0.amount), (.dat (.lst ((List.map intD) p0.perm))), (.dat (.lst (T_ref14_Core.toDs p0.kids)))])]⟩) (fun d => ?_) (fun hJ => ?_)
      · clear hs
        refine G_run 1 ?_
        refine G_split (p := v5 = true) 28 (bool_dec _) (fun hc => ?_) (fun hc => ?_)
        · replace hm := pos_inv hc hm
          refine G_run 5 ?_
          refine G_end ⟨by kernel_rfl, ?_⟩
          obtain rfl := inj1 hm
          exact cut_leaf (by kernel_rfl)
        replace hm := neg_inv hc hm
        refine G_run 2 ?_
        obtain ⟨v6, hx, hm⟩ := bind_inv hm
        have hq := w_ref02_Check _ _ hx []
        refine G_callP hq ?_
        refine G_run 2 ?_
        refine G_end ⟨by kernel_rfl, ?_⟩
        obtain rfl := inj1 hm
        exact cut_leaf (by kernel_rfl)
      replace hm := hs
      clear hs
      refine G_split (p := v4 = true) 21 (bool_dec _) (fun hc => ?_) (fun hc => ?_)
      · replace hm := pos_inv hc hm
        refine G_run 6 ?_
        obtain rfl := inj1 hm
        exact hJ _ _ (by kernel_rfl) (by kernel_rfl)
      replace hm := neg_inv hc hm
      refine G_run 2 ?_
      refine I_len T_ref14_Core.toD p0.kids (es := T_ref14_Core.toDs p0.kids) (T_ref14_Core.toDs_eq _) ?_
      refine G_run 3 ?_
      obtain rfl := inj1 hm
      exact hJ _ _ (by kernel_rfl) (by kernel_rfl)
    replace hm := hs
    clear hs
    refine G_split (p := p0.kind < 1) 16 (rfl) (fun hc => ?_) (fun hc => ?_)
    · replace hm := pos_inv hc hm
      refine G_run 4 ?_
      obtain rfl := inj1 hm
      exact hJ _ _ (by kernel_rfl) (by kernel_rfl)
    replace hm := neg_inv hc hm
    refine G_run 4 ?_
    obtain rfl := inj1 hm
    exact hJ _ _ (by kernel_rfl) (by kernel_rfl)
  clear hs
  refine R_ifp (p := v3 = true) (bool_dec _) (fun hc => ?_) (fun hc => ?_)
  · replace hm := pos_inv hc hm
    refine R_seq ?_
    refine R_G ?_
    refine G_run 1 ?_
    refine G_end ?_
    refine R_ret ?_
    obtain rfl := inj1 hm
    exact ⟨trivial, fin_pure (by kernel_rfl)⟩
  replace hm := neg_inv hc hm
  refine R_skip ?_
  refine R_seq ?_
  refine R_seq ?_
  obtain ⟨v7, hs, hm⟩ := bind_inv hm
  refine R_cut (fun d => ⟨sl d 197 [(1, (.dat (.lst ((List.map (fun l => Dat.lst ((List.map intD) l))) p1)))), (2, (.ptr 0 0)), (93, (boolPV v7))], [(.box [(intPV p0.kind), (.dat (.lst ((List.map intD) p0.shape))), (intPV p0.buffer), (.dat (.lst ((List.map intD) p0.starts))), (intPV p0.axis), (intPV p0.amount), (.dat (.lst ((List.map intD) p0.perm))), (.dat (.lst (T_ref14_Core.toDs p0.kids)))])]⟩) ?_ (fun d => ?_)
  · replace hm := hs
    clear hs
    refine R_GN ?_
    refine G_run 4 ?_
    obtain ⟨v8, hs, hm⟩ := bind_inv hm
    refine G_cut (j := 8) (fun d => ⟨sl d 197 [(1, (.dat (.lst ((List.map (fun l => Dat.lst ((List.map intD) l))) p1)))), (2, (.ptr 0 0)), (33, (boolPV v3)), (34, (.ptr 0 0)), (35, (intPV p0.kind)), (36, (boolPV (p0.kind != 1))), (41, (boolPV v8))], [(.box [(intPV p0.kind), (.dat (.lst ((List.map intD) p0.shape))), (intPV p0.buffer), (.dat (.lst ((List.map intD) p0.starts))), (intPV p0.axis), (intPV p0.amount), (.dat (.lst ((List.map intD) p0.perm))), (.dat (.lst (T_ref14_Core.toDs p0.kids)))])]⟩) (fun d => ?_) (fun hJ => ?_)
    · clear hs
      refine G_run 1 ?_
      obtain ⟨v9, hs, hm⟩ := bind_inv hm
      refine G_cut (j := 19) (fun d => ⟨sl d 197 [(1, (.dat (.lst ((List.map (fun l => Dat.lst ((List.map intD) l))) p1)))), (2, (.ptr 0 0)), (33, (boolPV v3)), (34, (.ptr 0 0)), (35, (intPV p0.kind)), (36, (boolPV (p0.kind != 1))), (41, (boolPV v8)), (52, (boolPV v9))], [(.box [(intPV p0.kind), (.dat (.lst ((List.map intD) p0.shape))), (intPV p0.buffer), (.dat (.lst ((List.map intD) p0.starts))), (intPV p0.axis), (intPV p0.amount), (.dat (.lst ((List.map intD) p0.perm))), (.dat (.lst (T_ref14_Core.toDs p0.kids)))])]⟩) (fun d => ?_) (fun hJ => ?_)
      · clear hs
        refine G_run 1 ?_
        obtain ⟨v10, hs, hm⟩ := bind_inv hm
        refine G_cut (j := 39) (fun d => ⟨sl d 197 [(1, (.dat (.lst ((List.map (fun l => Dat.lst ((List.map intD) l))) p1)))), (2, (.ptr 0 0)), (33, (boolPV v3)), (34, (.ptr 0 0)), (35, (intPV p0.kind)), (36, (boolPV (p0.kind != 1))), (41, (boolPV v8)), (52, (boolPV v9)), (72, (boolPV v10))], [(.box [(intPV p0.kind), (.dat (.lst ((List.map intD) p0.shape))), (intPV p0.buffer), (.dat (.lst ((List.map intD) p0.starts))), (intPV p0.axis), (intPV p0.amount), (.dat (.lst ((List.map intD) p0.perm))), (.dat (.lst (T_ref14_Core.toDs p0.kids)))])]⟩) (fun d => ?_) (fun hJ => ?_)
        · clear hs
          refine G_run 1 ?_
          obtain ⟨v13, hs, hm⟩ := bind_inv hm
          refine G_cut (j := 49) (fun d => ⟨sl d 197 [(1, (.dat (.lst ((List.map (fun l => Dat.lst ((List.map intD) l))) p1)))), (2, (.ptr 0 0)), (33, (boolPV v3)), (34, (.ptr 0 0)), (35, (intPV p0.kind)), (36, (boolPV (p0.kind != 1))), (41, (boolPV v8)), (52, (boolPV v9)), (72, (boolPV v10)), (82, (boolPV v13))], [(.box [(intPV p0.kind), (.dat (.lst ((List.map intD) p0.shape))), (intPV p0.buffer), (.dat (.lst ((List.map intD) p0.starts))), (intPV p0.axis), (intPV p0.amount), (.dat (.lst ((List.map intD) p0.perm))), (.dat (.lst (T_ref14_Core.toDs p0.kids)))])]⟩) (fun d => ?_) (fun hJ => ?_)
          · clear hs
            refine G_run 1 ?_
            refine G_split (p := v13 = true) 83 (bool_dec _) (fun hc => ?_) (fun hc => ?_)
            · replace hm := pos_inv hc hm
              refine G_run 10 ?_
              refine G_end ⟨by kernel_rfl, ?_⟩
              obtain rfl := inj1 hm
              exact cut_leaf (by kernel_rfl)
            replace hm := neg_inv hc hm
            refine G_run 4 ?_
            refine G_split (p := p0.kind ≠ 5) 87 (ne_dec _ _) (fun hc => ?_) (fun hc => ?_)
            · replace hm := pos_inv hc hm
              refine G_run 2 ?_
              refine I_len intD p0.perm (es := (List.map intD) p0.perm) rfl ?_
              refine G_run 3 ?_
              refine G_end ⟨by kernel_rfl, ?_⟩
              obtain rfl := inj1 hm
              exact cut_leaf (by kernel_rfl)
            replace hm := neg_inv hc hm
            refine G_run 6 ?_
            refine G_end ⟨by kernel_rfl, ?_⟩
            obtain rfl := inj1 hm
            exact cut_leaf (by kernel_rfl)
          replace hm := hs
          clear hs
          refine G_split (p := v10 = true) 73 (bool_dec _) (fun hc => ?_) (fun hc => ?_)
          · replace hm := pos_inv hc hm
            refine G_run 9 ?_
            obtain rfl := inj1 hm
            exact hJ _ _ (by kernel_rfl) (by kernel_rfl)
          replace hm := neg_inv hc hm
          refine G_run 4 ?_
          refine G_split (p := p0.kind ≠ 4) 77 (ne_dec _ _) (fun hc => ?_) (fun hc => ?_)
          · replace hm := pos_inv hc hm
            refine G_run 5 ?_
            obtain rfl := inj1 hm
            exact hJ _ _ (by kernel_rfl) (by kernel_rfl)
          replace hm := neg_inv hc hm
          refine G_run 5 ?_
          obtain rfl := inj1 hm
          exact hJ _ _ (by kernel_rfl) (by kernel_rfl)
        replace hm := hs
        clear hs
        refine G_split (p := v9 = true) 53 (bool_dec _) (fun hc => ?_) (fun hc => ?_)
        · replace hm := pos_inv hc hm
          refine G_run 19 ?_
          obtain rfl := inj1 hm
          exact hJ _ _ (by kernel_rfl) (by kernel_rfl)
        replace hm := neg_inv hc hm
        refine G_run 4 ?_
        obtain ⟨v11, hs, hm⟩ := bind_inv hm
        refine G_cut (j := 28) (fun d => ⟨sl d 197 [(1, (.dat (.lst ((List.map (fun l => Dat.lst ((List.map intD) l))) p1)))), (2, (.ptr 0 0)), (33, (boolPV v3)), (34, (.ptr 0 0)), (35, (intPV p0.kind)), (36, (boolPV (p0.kind != 1))), (41, (boolPV v8)), (52, (boolPV v9)), (53, (boolPV false)), (54, (.ptr 0 0)), (55, (intPV p0.kind)), (56, (boolPV (p0.kind != 3))), (61, (boolPV v11))], [(.box [(intPV p0.kind), (.dat (.lst ((List.map intD) p0.shape))), (intPV p0.buffer), (.dat (.lst ((List.map intD) p0.starts))), (intPV p0.axis), (intPV p0.amount), (.dat (.lst ((List.map intD) p0.perm))), (.dat (.lst (T_ref14_Core.toDs p0.kids)))])]⟩) (fun d => ?_) (fun hJ => ?_)
        · clear hs
          refine G_run 1 ?_
          obtain ⟨v12, hs, hm⟩ := bind_inv hm
          refine G_cut (j := 33) (fun d => ⟨sl d 197 [(1, (.dat (.lst ((List.map (fun l => Dat.lst ((List.map intD) l))) p1)))), (2, (.ptr 0 0)), (33, (boolPV v3)), (34, (.ptr 0 0)), (35, (intPV p0.kind)), (36, (boolPV (p0.kind != 1))), (41, (boolPV v8)), (52, (boolPV v9)), (53, (boolPV false)), (54, (.ptr 0 0)), (55, (intPV p0.kind)), (56, (boolPV (p0.kind != 3))), (61, (boolPV v11)), (66, (boolPV v12))], [(.box [(intPV p0.kind), (.dat (.lst ((List.map intD) p0.shape))), (intPV p0.buffer), (.dat (.lst ((List.map intD) p0.starts))), (intPV p0.axis), (intPV p0.amount), (.dat (.lst ((List.map intD) p0.perm))), (.dat (.lst (T_ref14_Core.toDs p0.kids)))])]⟩) (fun d => ?_) (fun hJ => ?_)
          · clear hs
            refine G_run 1 ?_
            refine G_split (p := v12 = true) 67 (bool_dec _) (fun hc => ?_) (fun hc => ?_)
            · replace hm := pos_inv hc hm
              refine G_run 5 ?_
              obtain rfl := inj1 hm
              exact hJ _ _ (by kernel_rfl) (by kernel_rfl)
            replace hm := neg_inv hc hm
            refine G_run 5 ?_
            obtain rfl := inj1 hm
            exact hJ _ _ (by kernel_rfl) (by kernel_rfl)
          replace hm := hs
          clear hs
          refine G_split (p := v11 = true) 62 (bool_dec _) (fun hc => ?_) (fun hc => ?_)
          · replace hm := pos_inv hc hm
            refine G_run 4 ?_
            obtain rfl := inj1 hm
            exact hJ _ _ (by kernel_rfl) (by kernel_rfl)
          replace hm := neg_inv hc hm
          refine G_run 4 ?_
          obtain rfl := inj1 hm
          exact hJ _ _ (by kernel_rfl) (by kernel_rfl)
        replace hm := hs
        clear hs
        refine G_split (p := p0.kind ≠ 3) 57 (ne_dec _ _) (fun hc => ?_) (fun hc => ?_)
        · replace hm := pos_inv hc hm
          refine G_run 4 ?_
          obtain rfl := inj1 hm
          exact hJ _ _ (by kernel_rfl) (by kernel_rfl)
        replace hm := neg_inv hc hm
        refine G_run 4 ?_
        obtain rfl := inj1 hm
        exact hJ _ _ (by kernel_rfl) (by kernel_rfl)
      replace hm := hs
      clear hs
      refine G_split (p := v8 = true) 42 (bool_dec _) (fun hc => ?_) (fun hc => ?_)
      · replace hm := pos_inv hc hm
        refine G_run 10 ?_
        obtain rfl := inj1 hm
        exact hJ _ _ (by kernel_rfl) (by kernel_rfl)
      replace hm := neg_inv hc hm
      refine G_run 4 ?_
      refine G_split (p := p0.kind ≠ 2) 46 (ne_dec _ _) (fun hc => ?_) (fun hc => ?_)
      · replace hm := pos_inv hc hm
        refine G_run 2 ?_
        refine I_len intD p0.starts (es := (List.map intD) p0.starts) rfl ?_
        refine G_run 3 ?_
        obtain rfl := inj1 hm
        exact hJ _ _ (by kernel_rfl) (by kernel_rfl)
      replace hm := neg_inv hc hm
      refine G_run 6 ?_
      obtain rfl := inj1 hm
      exact hJ _ _ (by kernel_rfl) (by kernel_rfl)
    replace hm := hs
    clear hs
    refine G_split (p := p0.kind ≠ 1) 37 (ne_dec _ _) (fun hc => ?_) (fun hc => ?_)
    · replace hm := pos_inv hc hm
      refine G_run 4 ?_
      obtain rfl := inj1 hm
      exact hJ _ _ (by kernel_rfl) (by kernel_rfl)
    replace hm := neg_inv hc hm
    refine G_run 4 ?_
    obtain rfl := inj1 hm
    exact hJ _ _ (by kernel_rfl) (by kernel_rfl)
  clear hs
  refine R_ifp (p := v7 = true) (bool_dec _) (fun hc => ?_) (fun hc => ?_)
  · replace hm := pos_inv hc hm
    refine R_seq ?_
    refine R_G ?_
    refine G_run 1 ?_
    refine G_end ?_
    refine R_ret ?_
    obtain rfl := inj1 hm
    exact ⟨trivial, fin_pure (by kernel_rfl)⟩
  replace hm := neg_inv hc hm
  refine R_skip ?_
  refine R_seq ?_
  refine R_seq ?_
  refine R_G ?_
  refine G_run 2 ?_
  refine G_end ?_
  refine R_block ?_
  refine R_seq ?_
  refine R_G ?_
  refine G_run 2 ?_
  refine G_end ?_
  refine R_ifp (p := p0.kind = 1) (eq_dec _ _) (fun hc => ?_) (fun hc => ?_)
  · replace hm := pos_inv hc hm
    refine R_seq ?_
    refine R_GW ?_
    refine G_run 4 ?_
    obtain ⟨v14, hs, hm⟩ := bind_inv hm
    refine G_cut (j := 10) (fun d => ⟨sl d 197 [(1, (.dat (.lst ((List.map (fun l => Dat.lst ((List.map intD) l))) p1)))), (2, (.ptr 0 0)), (93, (boolPV v7)), (94, (.ptr 0 0)), (95, (intPV p0.kind)), (96, (boolPV (p0.kind == 1))), (97, (boolPV (p0.kind == 1))), (98, (.ptr 0 2)), (99, (intPV p0.buffer)), (100, (boolPV (decide (p0.buffer ≥ 0)))), (107, (boolPV v14))], [(.box [(intPV p0.kind), (.dat (.lst ((List.map intD) p0.shape))), (intPV p0.buffer), (.dat (.lst ((List.map intD) p0.starts))), (intPV p0.axis), (intPV p0.amount), (.dat (.lst ((List.map intD) p0.perm))), (.dat (.lst (T_ref14_Core.toDs p0.kids)))])]⟩) (fun d => ?_) (fun hJ => ?_)
    · clear hs
      refine G_run 1 ?_
      refine G_split (p := v14 = true) 108 (bool_dec _) (fun hc => ?_) (fun hc => ?_)
      · replace hm := pos_inv hc hm
        refine G_run 3 ?_
        obtain ⟨v15, hx, hm⟩ := bind_inv hm
        refine I_idx 1 (fun l => Dat.lst ((List.map intD) l)) p1 p0.buffer v15 (es := (List.map (fun l => Dat.lst ((List.map intD) l))) p1) (d := (.lst ((List.map intD) v15))) rfl hx rfl rfl ?_
        refine G_run 3 ?_
        obtain ⟨v16, hx, hm⟩ := bind_inv hm
        have hq := w_ref02_Equal _ _ hx []
        refine G_callP hq ?_
        refine G_run 2 ?_
        refine G_end ⟨by kernel_rfl, ?_⟩
        refine R_ret ?_
        obtain rfl := inj1 hm
        exact ⟨trivial, fin_pure (by kernel_rfl)⟩
      replace hm := neg_inv hc hm
      refine G_run 10 ?_
      refine G_end ⟨by kernel_rfl, ?_⟩
      refine R_ret ?_
      obtain rfl := inj1 hm
      exact ⟨trivial, fin_pure (by kernel_rfl)⟩
    replace hm := hs
    clear hs
    refine G_split (p := p0.buffer ≥ 0) 101 (rfl) (fun hc => ?_) (fun hc => ?_)
    · replace hm := pos_inv hc hm
      refine G_run 3 ?_
      refine I_len (fun l => Dat.lst ((List.map intD) l)) p1 (es := (List.map (fun l => Dat.lst ((List.map intD) l))) p1) rfl ?_
      refine G_run 2 ?_
      obtain rfl := inj1 hm
      exact hJ _ _ (by kernel_rfl) (by kernel_rfl)
    replace hm := neg_inv hc hm
    refine G_run 6 ?_
    obtain rfl := inj1 hm
    exact hJ _ _ (by kernel_rfl) (by kernel_rfl)
  replace hm := neg_inv hc hm
  refine R_seq ?_
  refine R_G ?_
  refine G_run 2 ?_
  refine G_end ?_
  refine R_ifp (p := p0.kind = 2) (eq_dec _ _) (fun hc => ?_) (fun hc => ?_)
  · replace hm := pos_inv hc hm
    refine R_seq ?_
    refine R_seq ?_
    refine R_G ?_
    refine G_run 1 ?_
    refine G_end ?_
    refine R_block ?_
    obtain ⟨out, hs, hm⟩ := bind_inv hm
    refine R_loop ?_
    rcases out with _ | _
    · refine RL_use (w_ref14_node_L1 _ _ hs) (by kernel_rfl) ?_
      clear hs
      intro e s hp
      obtain ⟨rfl, d, rfl⟩ := hp
      obtain rfl := inj1 hm
      exact ⟨trivial, fin_pure (by kernel_rfl)⟩
    · refine RL_use (w_ref14_node_L1 _ _ hs) (by kernel_rfl) ?_
      clear hs
      intro e s hp
      obtain ⟨rfl, d, rfl⟩ := hp
      refine R_seq ?_
      refine R_GD ?_
      refine G_run 2 ?_
      refine I_len intD p0.starts (es := (List.map intD) p0.starts) rfl ?_
      refine G_run 2 ?_
      refine I_len intD p0.shape (es := (List.map intD) p0.shape) rfl ?_
      refine G_run 2 ?_
      refine G_split (p := (p0.starts.length : Int) = (p0.shape.length : Int)) 148 (eq_dec _ _) (fun hc => ?_) (fun hc => ?_)
      · replace hm := pos_inv hc hm
        refine G_run 2 ?_
        obtain ⟨v620, hx, hm⟩ := bind_inv hm
        refine I_idx 8 T_ref14_Core.toD p0.kids 0 v620 (es := T_ref14_Core.toDs p0.kids) (d := (T_ref14_Core.ex v620)) (T_ref14_Core.toDs_eq _) hx (T_ref14_Core.toD_eq v620) rfl ?_
        refine G_run 2 ?_
        refine I_len intD v620.shape (es := (List.map intD) v620.shape) rfl ?_
        refine G_run 2 ?_
        refine I_len intD p0.shape (es := (List.map intD) p0.shape) rfl ?_
        refine G_run 3 ?_
        refine G_end ⟨by kernel_rfl, ?_⟩
        refine R_ret ?_
        obtain rfl := inj1 hm
        exact ⟨trivial, fin_pure (by kernel_rfl)⟩
      replace hm := neg_inv hc hm
      refine G_run 12 ?_
      refine G_end ⟨by kernel_rfl, ?_⟩
      refine R_ret ?_
      obtain rfl := inj1 hm
      exact ⟨trivial, fin_pure (by kernel_rfl)⟩
  replace hm := neg_inv hc hm
  refine R_seq ?_
  refine R_G ?_
  refine G_run 2 ?_
  refine G_end ?_
  refine R_ifp (p := p0.kind = 3) (eq_dec _ _) (fun hc => ?_) (fun hc => ?_)
  · replace hm := pos_inv hc hm
    refine R_seq ?_
    refine R_G ?_
    refine G_run 1 ?_
    obtain ⟨v621, hx, hm⟩ := bind_inv hm
    have hq := w_ref14_alike _ _ hx []
    refine G_callP hq ?_
    refine G_run 1 ?_
    refine G_end ?_
    refine R_ret ?_
    obtain rfl := inj1 hm
    exact ⟨trivial, fin_pure (by kernel_rfl)⟩
  replace hm := neg_inv hc hm
  refine R_seq ?_
  refine R_G ?_
  refine G_run 2 ?_
  refine G_end ?_
  refine R_ifp (p := p0.kind = 4) (eq_dec _ _) (fun hc => ?_) (fun hc => ?_)
  · replace hm := pos_inv hc hm
    refine R_seq ?_
    refine R_GW ?_
    refine G_run 1 ?_
    obtain ⟨v622, hx, hm⟩ := bind_inv hm
    have hq := w_ref14_alike _ _ hx []
    refine G_callP hq ?_
    refine G_run 1 ?_
    obtain ⟨v623, hs, hm⟩ := bind_inv hm
    refine G_cut (j := 7) (fun d => ⟨sl d 197 [(1, (.dat (.lst ((List.map (fun l => Dat.lst ((List.map intD) l))) p1)))), (2, (.ptr 0 0)), (93, (boolPV v7)), (94, (.ptr 0 0)), (95, (intPV p0.kind)), (96, (boolPV (p0.kind == 1))), (97, (boolPV (p0.kind == 1))), (118, (boolPV (p0.kind == 2))), (119, (boolPV (p0.kind == 2))), (160, (boolPV (p0.kind == 3))), (161, (boolPV (p0.kind == 3))), (164, (boolPV (p0.kind == 4))), (165, (boolPV (p0.kind == 4))), (166, (.dat (.agg [(intD p0.kind), (.lst ((List.map intD) p0.shape)), (intD p0.buffer), (.lst ((List.map intD) p0.starts)), (intD p0.axis), (intD p0.amount), (.lst ((List.map intD) p0.perm)), (.lst (T_ref14_Core.toDs p0.kids))]))), (167, (boolPV v622)), (172, (boolPV v623))], [(.box [(intPV p0.kind), (.dat (.lst ((List.map intD) p0.shape))), (intPV p0.buffer), (.dat (.lst ((List.map intD) p0.starts))), (intPV p0.axis), (intPV p0.amount), (.dat (.lst ((List.map intD) p0.perm))), (.dat (.lst (T_ref14_Core.toDs p0.kids)))])]⟩) (fun d => ?_) (fun hJ => ?_)
    · clear hs
      refine G_run 1 ?_
      refine G_split (p := v623 = true) 173 (bool_dec _) (fun hc => ?_) (fun hc => ?_)
      · replace hm := pos_inv hc hm
        refine G_run 4 ?_
        refine G_split (p := p0.amount = 0) 177 (eq_dec _ _) (fun hc => ?_) (fun hc => ?_)
        · replace hm := pos_inv hc hm
          refine G_run 12 ?_
          refine G_end ⟨by kernel_rfl, ?_⟩
          refine R_ret ?_
          obtain rfl := inj1 hm
          exact ⟨trivial, fin_pure (by kernel_rfl)⟩
        replace hm := neg_inv hc hm
        refine G_run 6 ?_
        obtain ⟨v624, hx, hm⟩ := bind_inv hm
        refine I_idx 1 intD p0.shape p0.axis v624 (es := (List.map intD) p0.shape) (d := (intD v624)) rfl hx rfl rfl ?_
        refine G_run 5 ?_
        refine G_end ⟨by kernel_rfl, ?_⟩
        refine R_ret ?_
        obtain rfl := inj1 hm
        exact ⟨trivial, fin_pure (by kernel_rfl)⟩
      replace hm := neg_inv hc hm
      refine G_run 16 ?_
      refine G_end ⟨by kernel_rfl, ?_⟩
      refine R_ret ?_
      obtain rfl := inj1 hm
      exact ⟨trivial, fin_pure (by kernel_rfl)⟩
    replace hm := hs
    clear hs
    refine G_split (p := v622 = true) 168 (bool_dec _) (fun hc => ?_) (fun hc => ?_)
    · replace hm := pos_inv hc hm
      refine G_run 4 ?_
      obtain rfl := inj1 hm
      exact hJ _ _ (by kernel_rfl) (by kernel_rfl)
    replace hm := neg_inv hc hm
    refine G_run 4 ?_
    obtain rfl := inj1 hm
    exact hJ _ _ (by kernel_rfl) (by kernel_rfl)
  replace hm := neg_inv hc hm
  refine R_seq ?_
  refine R_G ?_
  refine G_run 2 ?_
  refine G_end ?_
  refine R_ifp (p := p0.kind = 5) (eq_dec _ _) (fun hc => ?_) (fun hc => ?_)
  · replace hm := pos_inv hc hm
    refine R_seq ?_
    refine R_G ?_
    refine G_run 1 ?_
    obtain ⟨v625, hx, hm⟩ := bind_inv hm
    have hq := w_ref14_transposed _ _ hx []
    refine G_callP hq ?_
    refine G_run 1 ?_
    refine G_end ?_
    refine R_ret ?_
    obtain rfl := inj1 hm
    exact ⟨trivial, fin_pure (by kernel_rfl)⟩
  replace hm := neg_inv hc hm
  refine R_seq ?_
  refine R_G ?_
  refine G_run 2 ?_
  refine G_end ?_
  refine R_ifp (p := p0.kind = 7) (eq_dec _ _) (fun hc => ?_) (fun hc => ?_)
  · replace hm := pos_inv hc hm
    refine R_seq ?_
    refine R_G ?_
    refine G_run 1 ?_
    obtain ⟨v626, hx, hm⟩ := bind_inv hm
    have hq := w_ref14_joined _ _ hx []
    refine G_callP hq ?_
    refine G_run 1 ?_
    refine G_end ?_
    refine R_ret ?_
    obtain rfl := inj1 hm
    exact ⟨trivial, fin_pure (by kernel_rfl)⟩
  replace hm := neg_inv hc hm
  refine R_skip ?_
  refine R_seq ?_
  refine R_G ?_
  refine G_run 1 ?_
  refine G_end ?_
  refine R_ret ?_
  obtain rfl := inj1 hm
  exact ⟨trivial, fin_pure (by kernel_rfl)⟩
end Go.Proofs.Tryd
namespace Go.Proofs.Tryd
open Go Go.Pm
set_option linter.unusedVariables false
set_option maxRecDepth 2000
mutual
def m_ref14_nodes_L1 (x : (T_ref14_Core × (List (List Int)) × Int)) : Option (Unit ⊕ Unit) :=
  match x with
  | (p0, p1, v202) =>
  if v202 < (p0.kids.length : Int) then
    idx p0.kids v202 >>= fun v602 =>
    m_ref14_nodes (v602, p1) >>= fun (v603 : Bool) =>
    if v603 = false then
      some (Sum.inl ())
    else
    m_ref14_nodes_L1 (p0, p1, (W (v202 + 1)))
  else
  some (Sum.inr ())
  partial_fixpoint
def m_ref14_nodes (x : (T_ref14_Core × (List (List Int)))) : Option Bool :=
  match x with
  | (p0, p1) =>
  m_ref14_node (p0, p1) >>= fun (v1 : Bool) =>
  if v1 = false then
    some false
  else
  (
  m_ref14_nodes_L1 (p0, p1, 0) >>= fun (out : Unit ⊕ Unit) =>
  match out with
  | .inl _ =>
    some false
  | .inr (_) =>
    some true
  )
  partial_fixpoint
end
def P_ref14_nodes_L1 : (T_ref14_Core × (List (List Int)) × Int) → (Unit ⊕ Unit) → Prop := fun x r => match x with
  | (p0, p1, v202) => ∀ st, prune 1 ((firstRegion (codeAt [1, 1, 0, 1, 0, 0] (bodyOf f27))).bind (env.hint 27).keepAt) st = ⟨kp 25 [(1, (.dat (.lst ((List.map (fun l => Dat.lst ((List.map intD) l))) p1)))), (2, (.ptr 0 0)), (5, (intPV v202))], [(.box [(intPV p0.kind), (.dat (.lst ((List.map intD) p0.shape))), (intPV p0.buffer), (.dat (.lst ((List.map intD) p0.starts))), (intPV p0.axis), (intPV p0.amount), (.dat (.lst ((List.map intD) p0.perm))), (.dat (.lst (T_ref14_Core.toDs p0.kids)))])]⟩ →
    RL prog env (env.hint 27) true (codeAt [1, 1, 0, 1, 0, 0] (bodyOf f27)) 1 st (fun e s => match r with | .inl _ => e = .ret ∧ ∃ d, s = ⟨sl d 25 [(4, (boolPV false))], [(.box [(intPV p0.kind), (.dat (.lst ((List.map intD) p0.shape))), (intPV p0.buffer), (.dat (.lst ((List.map intD) p0.starts))), (intPV p0.axis), (intPV p0.amount), (.dat (.lst ((List.map intD) p0.perm))), (.dat (.lst (T_ref14_Core.toDs p0.kids)))])]⟩ | .inr (_) => e = .exit 0 ∧ ∃ d, s = ⟨sl d 25 [], [(.box [(intPV p0.kind), (.dat (.lst ((List.map intD) p0.shape))), (intPV p0.buffer), (.dat (.lst ((List.map intD) p0.starts))), (intPV p0.axis), (intPV p0.amount), (.dat (.lst ((List.map intD) p0.perm))), (.dat (.lst (T_ref14_Core.toDs p0.kids)))])]⟩)
def P_ref14_nodes : (T_ref14_Core × (List (List Int))) → Bool → Prop := fun x r => match x, r with
  | (p0, p1), r0 => ∀ H, PC prog env 27 ([(T_ref14_Core.ex p0), (.lst ((List.map (fun l => Dat.lst ((List.map intD) l))) p1))].map .dat) H (boolPV r0) H
theorem g_ref14_nodes_L1 : (∀ x r, m_ref14_nodes_L1 x = some r → P_ref14_nodes_L1 x r) ∧ (∀ x r, m_ref14_nodes x = some r → P_ref14_nodes x r) := by
  refine m_ref14_nodes_L1.mutual_partial_correctness P_ref14_nodes_L1 P_ref14_nodes ?_ ?_
  · intro m_ref14_nodes_L1 m_ref14_nodes w_ref14_nodes_L1 w_ref14_nodes x r hm
    unfold P_ref14_nodes_L1
    obtain ⟨p0, p1, v202⟩ := x
    intro st hst
    refine RL_at hst ?_
    clear hst
    refine R_seq ?_
    refine R_seq ?_
    refine R_G ?_
    refine G_run 3 ?_
    refine I_len T_ref14_Core.toD p0.kids (es := T_ref14_Core.toDs p0.kids) (T_ref14_Core.toDs_eq _) ?_
    refine G_run 1 ?_
    refine G_end ?_
    refine R_ifp (p := v202 < (p0.kids.length : Int)) (rfl) (fun hc => ?_) (fun hc => ?_)
    · replace hm := pos_inv hc hm
      refine R_skip ?_
      refine R_seq ?_
      refine R_block ?_
      refine R_seq ?_
      refine R_G ?_
      refine G_run 3 ?_
      obtain ⟨v602, hx, hm⟩ := bind_inv hm
      refine I_idx 8 T_ref14_Core.toD p0.kids v202 v602 (es := T_ref14_Core.toDs p0.kids) (d := (T_ref14_Core.ex v602)) (T_ref14_Core.toDs_eq _) hx (T_ref14_Core.toD_eq v602) rfl ?_
      refine G_run 2 ?_
      obtain ⟨v603, hx, hm⟩ := bind_inv hm
      have hq := w_ref14_nodes _ _ hx []
      refine G_callP hq ?_
      refine G_run 1 ?_
      refine G_end ?_
      refine R_ifp (p := v603 = false) (not_dec _) (fun hc => ?_) (fun hc => ?_)
      · replace hm := pos_inv hc hm
        refine R_seq ?_
        refine R_G ?_
        refine G_run 1 ?_
        refine G_end ?_
        refine R_ret ?_
        obtain rfl := inj1 hm
        exact ⟨rfl, cut_leaf (by kernel_rfl)⟩
      replace hm := neg_inv hc hm
      refine R_skip ?_
      refine R_G ?_
      refine G_run 3 ?_
      refine G_end ?_
      exact w_ref14_nodes_L1 _ _ hm _ (by kernel_rfl)
    replace hm := neg_inv hc hm
    refine R_exit ?_
    obtain rfl := inj1 hm
    exact ⟨rfl, cut_leaf (by kernel_rfl)⟩
  · intro m_ref14_nodes_L1 w_ref14_nodes_L1 x r0 hm
    unfold P_ref14_nodes
    obtain ⟨p0, p1⟩ := x
    intro H
    refine PC_sx (ds := [(T_ref14_Core.ex p0), (.lst ((List.map (fun l => Dat.lst ((List.map intD) l))) p1))]) (fn := f27) (by kernel_rfl) (by kernel_rfl) rfl ?_ (by kernel_rfl)
    refine R_seq ?_
    refine R_G ?_
    refine G_run 2 ?_
    refine G_end ?_
    refine R_seq ?_
    refine R_seq ?_
    refine R_G ?_
    refine G_run 2 ?_
    obtain ⟨v1, hx, hm⟩ := bind_inv hm
    have hq := w_ref14_node _ _ hx []
    refine G_callP hq ?_
    refine G_run 1 ?_
    refine G_end ?_
    refine R_ifp (p := v1 = false) (not_dec _) (fun hc => ?_) (fun hc => ?_)
    · replace hm := pos_inv hc hm
      refine R_seq ?_
      refine R_G ?_
      refine G_run 1 ?_
      refine G_end ?_
      refine R_ret ?_
      obtain rfl := inj1 hm
      exact ⟨trivial, fin_pure (by kernel_rfl)⟩
    replace hm := neg_inv hc hm
    refine R_skip ?_
    refine R_seq ?_
    refine R_seq ?_
    refine R_G ?_
    refine G_run 1 ?_
    refine G_end ?_
    refine R_block ?_
    obtain ⟨out, hs, hm⟩ := bind_inv hm
    refine R_loop ?_
    rcases out with _ | _
    · refine RL_use (w_ref14_nodes_L1 _ _ hs) (by kernel_rfl) ?_
      clear hs
      intro e s hp
      obtain ⟨rfl, d, rfl⟩ := hp
      obtain rfl := inj1 hm
      exact ⟨trivial, fin_pure (by kernel_rfl)⟩
    · refine RL_use (w_ref14_nodes_L1 _ _ hs) (by kernel_rfl) ?_
      clear hs
      intro e s hp
      obtain ⟨rfl, d, rfl⟩ := hp
      refine R_seq ?_
      refine R_G ?_
      refine G_run 1 ?_
      refine G_end ?_
      refine R_ret ?_
      obtain rfl := inj1 hm
      exact ⟨trivial, fin_pure (by kernel_rfl)⟩
theorem w_ref14_nodes_L1 : ∀ x r, m_ref14_nodes_L1 x = some r → P_ref14_nodes_L1 x r := g_ref14_nodes_L1.1
theorem w_ref14_nodes : ∀ x r, m_ref14_nodes x = some r → P_ref14_nodes x r := g_ref14_nodes_L1.2
end Go.Proofs.Tryd
namespace Go.Proofs.Tryd
open Go Go.Pm
set_option linter.unusedVariables false
set_option maxRecDepth 2000
def m_ref14_Right (x : (T_ref14_Core × (List (List Int)))) : Option Bool :=
  match x with
  | (p0, p1) =>
  m_ref14_Depth p0 >>= fun (v1 : Int) =>
  if v1 ≤ 300 then
    m_ref14_nodes (p0, p1) >>= fun (v2 : Bool) =>
    some v2
  else
  some false
def P_ref14_Right : (T_ref14_Core × (List (List Int))) → Bool → Prop := fun x r => match x, r with
  | (p0, p1), r0 => ∀ H, PC prog env 11 ([(T_ref14_Core.ex p0), (.lst ((List.map (fun l => Dat.lst ((List.map intD) l))) p1))].map .dat) H (boolPV r0) H
theorem w_ref14_Right : ∀ x r, m_ref14_Right x = some r → P_ref14_Right x r := by
  intro x r0 hm
  unfold m_ref14_Right at hm
  unfold P_ref14_Right
  obtain ⟨p0, p1⟩ := x
  intro H
  refine PC_sx (ds := [(T_ref14_Core.ex p0), (.lst ((List.map (fun l => Dat.lst ((List.map intD) l))) p1))]) (fn := f11) (by kernel_rfl) (by kernel_rfl) rfl ?_ (by kernel_rfl)
  refine R_seq ?_
  refine R_G ?_
  refine G_run 2 ?_
  refine G_end ?_
  refine R_seq ?_
  refine R_G ?_
  refine G_run 1 ?_
  obtain ⟨v1, hx, hm⟩ := bind_inv hm
  have hq := w_ref14_Depth _ _ hx []
  refine G_callP hq ?_
  refine G_run 2 ?_
  refine G_split (p := v1 ≤ 300) 8 (rfl) (fun hc => ?_) (fun hc => ?_)
  · replace hm := pos_inv hc hm
    refine G_run 2 ?_
    obtain ⟨v2, hx, hm⟩ := bind_inv hm
    have hq := w_ref14_nodes _ _ hx []
    refine G_callP hq ?_
    refine G_run 2 ?_
    refine G_end ?_
    refine R_ret ?_
    obtain rfl := inj1 hm
    exact ⟨trivial, fin_pure (by kernel_rfl)⟩
  replace hm := neg_inv hc hm
  refine G_run 5 ?_
  refine G_end ?_
  refine R_ret ?_
  obtain rfl := inj1 hm
  exact ⟨trivial, fin_pure (by kernel_rfl)⟩
end Go.Proofs.Tryd
namespace Go.Proofs.Tryd
open Go Go.Pm
set_option linter.unusedVariables false
set_option maxRecDepth 2000
mutual
def m_core_Size_L1 (x : (T_core_Core × Int × Int)) : Option (Int) :=
  match x with
  | (p0, v201, v202) =>
  if v202 < (p0.kids.length : Int) then
    idx p0.kids v202 >>= fun v602 =>
    m_core_Size v602 >>= fun (v603 : Int) =>
    m_core_Size_L1 (p0, (W (v201 + v603)), (W (v202 + 1)))
  else
  some v201
  partial_fixpoint
def m_core_Size (x : T_core_Core) : Option Int :=
  match x with
  | p0 =>
  m_core_Size_L1 (p0, 1, 0) >>= fun (v601 : Int) =>
  some v601
  partial_fixpoint
end
def P_core_Size_L1 : (T_core_Core × Int × Int) → Int → Prop := fun x r => match x with
  | (p0, v201, v202) => ∀ st, prune 1 ((firstRegion (codeAt [1, 1, 0, 1, 0, 0] (bodyOf f12))).bind (env.hint 12).keepAt) st = ⟨kp 19 [(3, (intPV v201)), (7, (.dat (.lst (T_core_Core.toDs p0.kids)))), (8, (intPV (p0.kids.length : Int))), (9, (intPV v202))], [(.box [(intPV p0.kind), (.dat (.lst ((List.map intD) p0.shape))), (intPV p0.buffer), (.dat (.lst ((List.map intD) p0.starts))), (intPV p0.axis), (intPV p0.amount), (.dat (.lst ((List.map intD) p0.perm))), (.dat (.lst (T_core_Core.toDs p0.kids)))])]⟩ →
    RL prog env (env.hint 12) true (codeAt [1, 1, 0, 1, 0, 0] (bodyOf f12)) 1 st (fun e s => match r with | v601 => e = .exit 0 ∧ ∃ d, s = ⟨sl d 19 [(3, (intPV v601))], [(.box [(intPV p0.kind), (.dat (.lst ((List.map intD) p0.shape))), (intPV p0.buffer), (.dat (.lst ((List.map intD) p0.starts))), (intPV p0.axis), (intPV p0.amount), (.dat (.lst ((List.map intD) p0.perm))), (.dat (.lst (T_core_Core.toDs p0.kids)))])]⟩)
def P_core_Size : T_core_Core → Int → Prop := fun x r => match x, r with
  | p0, r0 => ∀ H, PC prog env 12 ([(T_core_Core.ex p0)].map .dat) H (intPV r0) H
theorem g_core_Size_L1 : (∀ x r, m_core_Size_L1 x = some r → P_core_Size_L1 x r) ∧ (∀ x r, m_core_Size x = some r → P_core_Size x r) := by
  refine m_core_Size_L1.mutual_partial_correctness P_core_Size_L1 P_core_Size ?_ ?_
  · intro m_core_Size_L1 m_core_Size w_core_Size_L1 w_core_Size x r hm
    unfold P_core_Size_L1
    obtain ⟨p0, v201, v202⟩ := x
    intro st hst
    refine RL_at hst ?_
    clear hst
    refine R_seq ?_
    refine R_G ?_
    refine G_run 1 ?_
    refine G_end ?_
    refine R_seq ?_
    refine R_ifp (p := v202 < (p0.kids.length : Int)) (rfl) (fun hc => ?_) (fun hc => ?_)
    · replace hm := pos_inv hc hm
      refine R_skip ?_
      refine R_seq ?_
      refine R_block ?_
      refine R_seq ?_
      refine R_G ?_
      obtain ⟨v602, hx, hm⟩ := bind_inv hm
      refine I_idx 8 T_core_Core.toD p0.kids v202 v602 (es := T_core_Core.toDs p0.kids) (d := (T_core_Core.ex v602)) (T_core_Core.toDs_eq _) hx (T_core_Core.toD_eq v602) rfl ?_
      refine G_run 3 ?_
      refine G_end ?_
      refine R_G ?_
      refine G_run 2 ?_
      obtain ⟨v603, hx, hm⟩ := bind_inv hm
      have hq := w_core_Size _ _ hx []
      refine G_callP hq ?_
      refine G_run 2 ?_
      refine G_end ?_
      refine R_G ?_
      refine G_run 2 ?_
      refine G_end ?_
      exact w_core_Size_L1 _ _ hm _ (by kernel_rfl)
    replace hm := neg_inv hc hm
    refine R_exit ?_
    obtain rfl := inj1 hm
    exact ⟨rfl, cut_leaf (by kernel_rfl)⟩
  · intro m_core_Size_L1 w_core_Size_L1 p0 r0 hm
    unfold P_core_Size
    intro H
    refine PC_sx (ds := [(T_core_Core.ex p0)]) (fn := f12) (by kernel_rfl) (by kernel_rfl) rfl ?_ (by kernel_rfl)
    refine R_seq ?_
    refine R_G ?_
    refine G_run 2 ?_
    refine G_end ?_
    refine R_seq ?_
    refine R_G ?_
    refine G_run 1 ?_
    refine G_end ?_
    refine R_seq ?_
    refine R_seq ?_
    refine R_G ?_
    refine G_run 2 ?_
    refine I_len T_core_Core.toD p0.kids (es := T_core_Core.toDs p0.kids) (T_core_Core.toDs_eq _) ?_
    refine G_run 1 ?_
    refine G_end ?_
    refine R_block ?_
    obtain ⟨v601, hs, hm⟩ := bind_inv hm
    refine R_loop ?_
    refine RL_use (w_core_Size_L1 _ _ hs) (by kernel_rfl) ?_
    clear hs
    intro e s hp
    obtain ⟨rfl, d, rfl⟩ := hp
    refine R_seq ?_
    refine R_G ?_
    refine G_run 2 ?_
    refine G_end ?_
    refine R_ret ?_
    obtain rfl := inj1 hm
    exact ⟨trivial, fin_pure (by kernel_rfl)⟩
theorem w_core_Size_L1 : ∀ x r, m_core_Size_L1 x = some r → P_core_Size_L1 x r := g_core_Size_L1.1
theorem w_core_Size : ∀ x r, m_core_Size x = some r → P_core_Size x r := g_core_Size_L1.2
end Go.Proofs.Tryd
namespace Go.Proofs.Tryd
open Go Go.Pm
set_option linter.unusedVariables false
set_option maxRecDepth 2000
mutual
def m_ref14_Size_L1 (x : (T_ref14_Core × Int × Int)) : Option (Int) :=
  match x with
  | (p0, v201, v202) =>
  if v202 < (p0.kids.length : Int) then
    idx p0.kids v202 >>= fun v602 =>
    m_ref14_Size v602 >>= fun (v603 : Int) =>
    m_ref14_Size_L1 (p0, (W (v201 + v603)), (W (v202 + 1)))
  else
  some v201
  partial_fixpoint
def m_ref14_Size (x : T_ref14_Core) : Option Int :=
  match x with
  | p0 =>
  m_ref14_Size_L1 (p0, 1, 0) >>= fun (v601 : Int) =>
  some v601
  partial_fixpoint
end
def P_ref14_Size_L1 : (T_ref14_Core × Int × Int) → Int → Prop := fun x r => match x with
  | (p0, v201, v202) => ∀ st, prune 1 ((firstRegion (codeAt [1, 1, 0, 1, 0, 0] (bodyOf f13))).bind (env.hint 13).keepAt) st = ⟨kp 21 [(1, (.ptr 0 0)), (3, (intPV v201)), (4, (intPV v202))], [(.box [(intPV p0.kind), (.dat (.lst ((List.map intD) p0.shape))), (intPV p0.buffer), (.dat (.lst ((List.map intD) p0.starts))), (intPV p0.axis), (intPV p0.amount), (.dat (.lst ((List.map intD) p0.perm))), (.dat (.lst (T_ref14_Core.toDs p0.kids)))])]⟩ →
    RL prog env (env.hint 13) true (codeAt [1, 1, 0, 1, 0, 0] (bodyOf f13)) 1 st (fun e s => match r with | v601 => e = .exit 0 ∧ ∃ d, s = ⟨sl d 21 [(3, (intPV v601))], [(.box [(intPV p0.kind), (.dat (.lst ((List.map intD) p0.shape))), (intPV p0.buffer), (.dat (.lst ((List.map intD) p0.starts))), (intPV p0.axis), (intPV p0.amount), (.dat (.lst ((List.map intD) p0.perm))), (.dat (.lst (T_ref14_Core.toDs p0.kids)))])]⟩)
def P_ref14_Size : T_ref14_Core → Int → Prop := fun x r => match x, r with
  | p0, r0 => ∀ H, PC prog env 13 ([(T_ref14_Core.ex p0)].map .dat) H (intPV r0) H
theorem g_ref14_Size_L1 : (∀ x r, m_ref14_Size_L1 x = some r → P_ref14_Size_L1 x r) ∧ (∀ x r, m_ref14_Size x = some r → P_ref14_Size x r) := by
  refine m_ref14_Size_L1.mutual_partial_correctness P_ref14_Size_L1 P_ref14_Size ?_ ?_
  · intro m_ref14_Size_L1 m_ref14_Size w_ref14_Size_L1 w_ref14_Size x r hm
    unfold P_ref14_Size_L1
    obtain ⟨p0, v201, v202⟩ := x
    intro st hst
    refine RL_at hst ?_
    clear hst
    refine R_seq ?_
    refine R_seq ?_
    refine R_G ?_
    refine G_run 3 ?_
    refine I_len T_ref14_Core.toD p0.kids (es := T_ref14_Core.toDs p0.kids) (T_ref14_Core.toDs_eq _) ?_
    refine G_run 1 ?_
    refine G_end ?_
    refine R_ifp (p := v202 < (p0.kids.length : Int)) (rfl) (fun hc => ?_) (fun hc => ?_)
    · replace hm := pos_inv hc hm
      refine R_skip ?_
      refine R_seq ?_
      refine R_block ?_
      refine R_G ?_
      refine G_run 4 ?_
      obtain ⟨v602, hx, hm⟩ := bind_inv hm
      refine I_idx 8 T_ref14_Core.toD p0.kids v202 v602 (es := T_ref14_Core.toDs p0.kids) (d := (T_ref14_Core.ex v602)) (T_ref14_Core.toDs_eq _) hx (T_ref14_Core.toD_eq v602) rfl ?_
      refine G_run 1 ?_
      obtain ⟨v603, hx, hm⟩ := bind_inv hm
      have hq := w_ref14_Size _ _ hx []
      refine G_callP hq ?_
      refine G_run 2 ?_
      refine G_end ?_
      refine R_G ?_
      refine G_run 3 ?_
      refine G_end ?_
      exact w_ref14_Size_L1 _ _ hm _ (by kernel_rfl)
    replace hm := neg_inv hc hm
    refine R_exit ?_
    obtain rfl := inj1 hm
    exact ⟨rfl, cut_leaf (by kernel_rfl)⟩
  · intro m_ref14_Size_L1 w_ref14_Size_L1 p0 r0 hm
    unfold P_ref14_Size
    intro H
    refine PC_sx (ds := [(T_ref14_Core.ex p0)]) (fn := f13) (by kernel_rfl) (by kernel_rfl) rfl ?_ (by kernel_rfl)
    refine R_seq ?_
    refine R_G ?_
    refine G_run 2 ?_
    refine G_end ?_
    refine R_seq ?_
    refine R_G ?_
    refine G_run 1 ?_
    refine G_end ?_
    refine R_seq ?_
    refine R_seq ?_
    refine R_G ?_
    refine G_run 1 ?_
    refine G_end ?_
    refine R_block ?_
    obtain ⟨v601, hs, hm⟩ := bind_inv hm
    refine R_loop ?_
    refine RL_use (w_ref14_Size_L1 _ _ hs) (by kernel_rfl) ?_
    clear hs
    intro e s hp
    obtain ⟨rfl, d, rfl⟩ := hp
    refine R_seq ?_
    refine R_G ?_
    refine G_run 2 ?_
    refine G_end ?_
    refine R_ret ?_
    obtain rfl := inj1 hm
    exact ⟨trivial, fin_pure (by kernel_rfl)⟩
theorem w_ref14_Size_L1 : ∀ x r, m_ref14_Size_L1 x = some r → P_ref14_Size_L1 x r := g_ref14_Size_L1.1
theorem w_ref14_Size : ∀ x r, m_ref14_Size x = some r → P_ref14_Size x r := g_ref14_Size_L1.2
end Go.Proofs.Tryd
namespace Go.Proofs.Tryd
open Go Go.Pm
set_option linter.unusedVariables false
set_option maxRecDepth 2000
def m_law14_CoreRight (x : (T_ref14_Core × (List (List Int)))) : Option Bool :=
  match x with
  | (p0, p1) =>
  (m_law14_awake () >>= fun (v2 : Bool) =>
  (if v2 = false then
    some true
  else
  m_ref14_Few (p0, 500) >>= fun (v4 : Bool) =>
  some (!v4)
  ) >>= fun (v3 : Bool) =>
  if v3 = true then
    some true
  else
  some (decide ((p1.length : Int) > 100))
  ) >>= fun (v1 : Bool) =>
  if v1 = true then
    m_law14_awake () >>= fun (v5 : Bool) =>
    some v5
  else
  m_law14_Core p0 >>= fun (v6 : T_core_Core) =>
  m_core_Right ((⟨v6.kind, v6.shape, v6.buffer, v6.starts, v6.axis, v6.amount, v6.perm, v6.kids⟩ : T_core_Core), p1) >>= fun (v7 : Bool) =>
  m_ref14_Right (p0, p1) >>= fun (v8 : Bool) =>
  if (v7 == v8) = true then
    m_law14_Core p0 >>= fun (v9 : T_core_Core) =>
    m_core_Size v9 >>= fun (v10 : Int) =>
    m_ref14_Size p0 >>= fun (v11 : Int) =>
    some (v10 == v11)
  else
  some false
def P_law14_CoreRight : (T_ref14_Core × (List (List Int))) → Bool → Prop := fun x r => match x, r with
  | (p0, p1), r0 => ∀ H, PC prog env 3 ([(T_ref14_Core.ex p0), (.lst ((List.map (fun l => Dat.lst ((List.map intD) l))) p1))].map .dat) H (boolPV r0) H
theorem w_law14_CoreRight : ∀ x r, m_law14_CoreRight x = some r → P_law14_CoreRight x r := by
  intro x r0 hm
  unfold m_law14_CoreRight at hm
  unfold P_law14_CoreRight
  obtain ⟨p0, p1⟩ := x
  intro H
  refine PC_sx (ds := [(T_ref14_Core.ex p0), (.lst ((List.map (fun l => Dat.lst ((List.map intD) l))) p1))]) (fn := f3) (by kernel_rfl) (by kernel_rfl) rfl ?_ (by kernel_rfl)
  refine R_seq ?_
  refine R_G ?_
  refine G_run 2 ?_
  refine G_end ?_
  refine R_seq ?_
  refine R_seq ?_
  obtain ⟨v1, hs, hm⟩ := bind_inv hm
  refine R_cut (fun d => ⟨sl d 34 [(1, (.dat (.lst ((List.map (fun l => Dat.lst ((List.map intD) l))) p1)))), (2, (.ptr 0 0)), (16, (boolPV v1))], [(.box [(intPV p0.kind), (.dat (.lst ((List.map intD) p0.shape))), (intPV p0.buffer), (.dat (.lst ((List.map intD) p0.starts))), (intPV p0.axis), (intPV p0.amount), (.dat (.lst ((List.map intD) p0.perm))), (.dat (.lst (T_ref14_Core.toDs p0.kids)))])]⟩) ?_ (fun d => ?_)
  · replace hm := hs
    clear hs
    refine R_GN ?_
    obtain ⟨v2, hx, hm⟩ := bind_inv hm
    have hq := w_law14_awake _ _ hx []
    refine G_callP hq ?_
    refine G_run 2 ?_
    obtain ⟨v3, hs, hm⟩ := bind_inv hm
    refine G_cut (j := 7) (fun d => ⟨sl d 34 [(0, (.dat (.agg [(intD p0.kind), (.lst ((List.map intD) p0.shape)), (intD p0.buffer), (.lst ((List.map intD) p0.starts)), (intD p0.axis), (intD p0.amount), (.lst ((List.map intD) p0.perm)), (.lst (T_ref14_Core.toDs p0.kids))]))), (1, (.dat (.lst ((List.map (fun l => Dat.lst ((List.map intD) l))) p1)))), (2, (.ptr 0 0)), (4, (boolPV false)), (5, (boolPV v2)), (6, (boolPV (!v2))), (11, (boolPV v3))], [(.box [(intPV p0.kind), (.dat (.lst ((List.map intD) p0.shape))), (intPV p0.buffer), (.dat (.lst ((List.map intD) p0.starts))), (intPV p0.axis), (intPV p0.amount), (.dat (.lst ((List.map intD) p0.perm))), (.dat (.lst (T_ref14_Core.toDs p0.kids)))])]⟩) (fun d => ?_) (fun hJ => ?_)
    · clear hs
      refine G_run 1 ?_
      refine G_split (p := v3 = true) 12 (bool_dec _) (fun hc => ?_) (fun hc => ?_)
      · replace hm := pos_inv hc hm
        refine G_run 4 ?_
        refine G_end ⟨by kernel_rfl, ?_⟩
        obtain rfl := inj1 hm
        exact cut_leaf (by kernel_rfl)
      replace hm := neg_inv hc hm
      refine G_run 1 ?_
      refine I_len (fun l => Dat.lst ((List.map intD) l)) p1 (es := (List.map (fun l => Dat.lst ((List.map intD) l))) p1) rfl ?_
      refine G_run 2 ?_
      refine G_end ⟨by kernel_rfl, ?_⟩
      obtain rfl := inj1 hm
      exact cut_leaf (by kernel_rfl)
    replace hm := hs
    clear hs
    refine G_split (p := v2 = false) 7 (not_dec _) (fun hc => ?_) (fun hc => ?_)
    · replace hm := pos_inv hc hm
      refine G_run 4 ?_
      obtain rfl := inj1 hm
      exact hJ _ _ (by kernel_rfl) (by kernel_rfl)
    replace hm := neg_inv hc hm
    refine G_run 1 ?_
    obtain ⟨v4, hx, hm⟩ := bind_inv hm
    have hq := w_ref14_Few _ _ hx []
    refine G_callP hq ?_
    refine G_run 2 ?_
    obtain rfl := inj1 hm
    exact hJ _ _ (by kernel_rfl) (by kernel_rfl)
  clear hs
  refine R_ifp (p := v1 = true) (bool_dec _) (fun hc => ?_) (fun hc => ?_)
  · replace hm := pos_inv hc hm
    refine R_seq ?_
    refine R_G ?_
    obtain ⟨v5, hx, hm⟩ := bind_inv hm
    have hq := w_law14_awake _ _ hx []
    refine G_callP hq ?_
    refine G_run 1 ?_
    refine G_end ?_
    refine R_ret ?_
    obtain rfl := inj1 hm
    exact ⟨trivial, fin_pure (by kernel_rfl)⟩
  replace hm := neg_inv hc hm
  refine R_skip ?_
  refine R_seq ?_
  refine R_GD ?_
  refine G_run 1 ?_
  obtain ⟨v6, hx, hm⟩ := bind_inv hm
  have hq := w_law14_Core _ _ hx []
  refine G_callP hq ?_
  refine G_run 1 ?_
  obtain ⟨v7, hx, hm⟩ := bind_inv hm
  have hq := w_core_Right _ _ hx []
  refine G_callP hq ?_
  refine G_run 2 ?_
  obtain ⟨v8, hx, hm⟩ := bind_inv hm
  have hq := w_ref14_Right _ _ hx []
  refine G_callP hq ?_
  refine G_semN rfl (by kernel_rfl) (fun _ => E_eqlB (a := v7) (b := v8) (by kernel_rfl) rfl (by kernel_rfl) (by kernel_rfl)) ?_
  refine G_run 1 ?_
  refine G_split (p := (v7 == v8) = true) 26 (bool_dec _) (fun hc => ?_) (fun hc => ?_)
  · replace hm := pos_inv hc hm
    refine G_run 1 ?_
    obtain ⟨v9, hx, hm⟩ := bind_inv hm
    have hq := w_law14_Core _ _ hx []
    refine G_callP hq ?_
    obtain ⟨v10, hx, hm⟩ := bind_inv hm
    have hq := w_core_Size _ _ hx []
    refine G_callP hq ?_
    refine G_run 1 ?_
    obtain ⟨v11, hx, hm⟩ := bind_inv hm
    have hq := w_ref14_Size _ _ hx []
    refine G_callP hq ?_
    refine G_run 3 ?_
    refine G_end ⟨by kernel_rfl, ?_⟩
    refine R_ret ?_
    obtain rfl := inj1 hm
    exact ⟨trivial, fin_pure (by kernel_rfl)⟩
  replace hm := neg_inv hc hm
  refine G_run 8 ?_
  refine G_end ⟨by kernel_rfl, ?_⟩
  refine R_ret ?_
  obtain rfl := inj1 hm
  exact ⟨trivial, fin_pure (by kernel_rfl)⟩
end Go.Proofs.Tryd
namespace Go.Proofs.Tryd
open Go Go.Pm
set_option linter.unusedVariables false
set_option linter.unusedSimpArgs false
set_option maxRecDepth 2000
theorem Equal_L1 : ∀ (s t p q : List Int), s.length = t.length → p.length = q.length → Sm (p ++ s).length → m_ref02_Equal_L1 (p ++ s, q ++ t, (p.length : Int)) = some (if s = t then .inr () else .inl ())
  | [], [], p, q, _, _, hs => by
    rw [m_ref02_Equal_L1]; simp only [end_lt, if_false, if_true]
  | x :: s, y :: t, p, q, h1, h2, hs => by
    rw [m_ref02_Equal_L1]
    have ih := Equal_L1 s t (p ++ [x]) (q ++ [y]) (by simpa using h1) (by simp [h2]) (by rw [← mid_app]; exact hs)
    rw [← mid_app, ← mid_app] at ih
    simp only [mid_lt, if_true, mid_idx, bind_ok, mid_W hs, ih]
    rw [h2, mid_idx]
    by_cases he : x = y <;> simp [he, bind_ok]
  | [], _ :: _, _, _, h, _, _ => by cases h
  | _ :: _, [], _, _, h, _, _ => by cases h
theorem Equal_ok (a b : List Int) (hs : Sm a.length) : m_ref02_Equal (a, b) = some (decide (a = b)) := by
  simp only [m_ref02_Equal]
  by_cases h : a.length = b.length
  · have e := Equal_L1 a b [] [] h rfl hs
    have e2 : ¬ ((a.length : Int) ≠ (b.length : Int)) := by omega
    simp only [e2, if_false]
    have e3 : m_ref02_Equal_L1 (a, b, 0) = _ := e
    rw [e3]
    by_cases hab : a = b
    · subst hab; simp
    · rw [if_neg hab, decide_eq_false hab]; rfl
  · have e2 : ((a.length : Int) ≠ (b.length : Int)) := by omega
    have e3 : a ≠ b := fun e => h (by rw [e])
    rw [if_pos e2, decide_eq_false e3]

/-- the product, exactly -/
def prodI (l : List Int) : Int := l.foldl (· * ·) 1
def negB (l : List Int) : Bool := l.any fun d => decide (d < 0)
def bigB (l : List Int) : Bool := l.any fun d => decide (d > 65536)
def prodR (l : List Int) : Int × Int := if negB l then (0, 6) else if bigB l then (0, 7) else if prodI l > 65536 then (0, 7) else (prodI l, 0)
def checkR (l : List Int) : Int := if negB l then 6 else if l.length > 16 ∨ bigB l = true ∨ prodI l > 65536 then 7 else 0
def cellsR (l : List Int) : Int := if checkR l = 0 then prodI l else 0
theorem foldl_mul : ∀ (l : List Int) (x : Int), l.foldl (· * ·) x = x * l.foldl (· * ·) 1
  | [], x => by simp
  | d :: l, x => by rw [List.foldl_cons, foldl_mul l (x * d), List.foldl_cons, foldl_mul l (1 * d), Int.one_mul, Int.mul_assoc]
theorem prodI_cons (d : Int) (l : List Int) : prodI (d :: l) = d * prodI l := by rw [prodI, List.foldl_cons, foldl_mul, Int.one_mul]; rfl
theorem prodI_nil : prodI [] = 1 := rfl
theorem prodI_append (a b : List Int) : prodI (a ++ b) = prodI a * prodI b := by rw [prodI, prodI, prodI, List.foldl_append, foldl_mul]
theorem prodI_pos : ∀ {l : List Int}, (∀ d ∈ l, 1 ≤ d) → 1 ≤ prodI l
  | [], _ => by simp [prodI]
  | d :: l, h => by
    have h1 := prodI_pos (l := l) (fun x hx => h x (List.mem_cons_of_mem _ hx))
    have h2 := h d (List.mem_cons_self ..)
    rw [prodI_cons]
    have := Int.mul_le_mul h2 h1 (by omega) (by omega)
    omega
theorem prodI_zero {l : List Int} (h : (0 : Int) ∈ l) : prodI l = 0 := by
  obtain ⟨s, t, rfl⟩ := List.append_of_mem h
  rw [prodI_append, prodI_cons]; simp
theorem negB_cons (d : Int) (l : List Int) : negB (d :: l) = (decide (d < 0) || negB l) := rfl
theorem bigB_cons (d : Int) (l : List Int) : bigB (d :: l) = (decide (d > 65536) || bigB l) := rfl

theorem Prod_L1 : ∀ (s p : List Int) (z : Bool), Sm (p ++ s).length → m_ref01_Product_L1 (p ++ s, z, (p.length : Int)) = some (if negB s then .inl () else .inr (z || s.any (· == 0)))
  | [], p, z, hs => by
    rw [m_ref01_Product_L1]; simp only [end_lt, if_false]; simp [negB]
  | x :: s, p, z, hs => by
    rw [m_ref01_Product_L1]
    have ih := fun z => Prod_L1 s (p ++ [x]) z (by rw [← mid_app]; exact hs)
    rw [← mid_app] at ih
    simp only [mid_lt, if_true, mid_idx, bind_ok, mid_W hs, ih, negB_cons]
    by_cases hn : x < 0
    · simp [hn]
    · cases z <;> by_cases hz : x = 0 <;> simp [hn, hz]
theorem Prod_L2 : ∀ (s p : List Int) (z : Bool), Sm (p ++ s).length → m_ref01_Product_L2 (p ++ s, z, (p.length : Int)) = some (if bigB s then .inl () else .inr ())
  | [], p, z, hs => by
    rw [m_ref01_Product_L2]; simp only [end_lt, if_false]; simp [bigB]
  | x :: s, p, z, hs => by
    rw [m_ref01_Product_L2]
    have ih := Prod_L2 s (p ++ [x]) z (by rw [← mid_app]; exact hs)
    rw [← mid_app] at ih
    simp only [mid_lt, if_true, mid_idx, bind_ok, mid_W hs, ih, bigB_cons]
    by_cases hn : x > 65536 <;> simp [hn]
theorem Prod_L3 : ∀ (s p : List Int) (m : Int), Sm (p ++ s).length → (∀ d ∈ s, 1 ≤ d ∧ d ≤ 65536) → 1 ≤ m → m ≤ 65536 → m_ref01_Product_L3 (p ++ s, m, (p.length : Int)) = some (if m * prodI s > 65536 then .inl () else .inr (m * prodI s))
  | [], p, m, hs, hd, h1, h2 => by
    rw [m_ref01_Product_L3]; simp only [end_lt, if_false, prodI_nil, Int.mul_one]
    rw [if_neg (by omega)]
  | x :: s, p, m, hs, hd, h1, h2 => by
    rw [m_ref01_Product_L3]
    have hx := hd x (List.mem_cons_self ..)
    have b1 := Int.mul_le_mul h2 hx.2 (by omega) (by omega)
    have b2 := Int.mul_le_mul h1 hx.1 (by omega) (by omega)
    have hw : W (m * x) = m * x := W_ok (by omega) (by omega)
    have hds : ∀ d ∈ s, 1 ≤ d ∧ d ≤ 65536 := fun d h => hd d (List.mem_cons_of_mem _ h)
    simp only [mid_lt, if_true, mid_idx, bind_ok, mid_W hs, hw, prodI_cons]
    rw [← Int.mul_assoc]
    by_cases hn : m * x > 65536
    · have hp := prodI_pos (l := s) (fun d h => (hds d h).1)
      have : m * x * 1 ≤ m * x * prodI s := Int.mul_le_mul_of_nonneg_left hp (by omega)
      rw [if_pos hn, if_pos (by omega)]
    · have ih := Prod_L3 s (p ++ [x]) (m * x) (by rw [← mid_app]; exact hs) hds (by omega) (by omega)
      rw [← mid_app] at ih
      rw [if_neg hn, ih]
theorem neg_all {l : List Int} (h : negB l = false) : ∀ d ∈ l, 0 ≤ d := fun d hd => by
  have := List.any_eq_false.1 h d hd
  simp at this; omega
theorem big_all {l : List Int} (h : bigB l = false) : ∀ d ∈ l, d ≤ 65536 := fun d hd => by
  have := List.any_eq_false.1 h d hd
  simp at this; omega
theorem Product_ok (l : List Int) (hs : Sm l.length) : m_ref01_Product l = some (prodR l) := by
  have e1 : m_ref01_Product_L1 (l, false, 0) = _ := Prod_L1 l [] false hs
  have e2 : ∀ z, m_ref01_Product_L2 (l, z, 0) = _ := fun z => Prod_L2 l [] z hs
  simp only [m_ref01_Product, e1, bind_ok, prodR]
  by_cases hn : negB l = true
  · simp [hn]
  · have hn' : negB l = false := by simpa using hn
    simp only [hn', Bool.false_eq_true, if_false, Bool.false_or, e2, bind_ok]
    by_cases hb : bigB l = true
    · simp [hb]
    · have hb' : bigB l = false := by simpa using hb
      simp only [hb', Bool.false_eq_true, if_false]
      by_cases hz : (l.any (· == 0)) = true
      · have : prodI l = 0 := prodI_zero (by simpa using hz)
        simp [hz, this]
      · have hz' : l.any (· == 0) = false := (Bool.not_eq_true _).mp hz
        have e3 : m_ref01_Product_L3 (l, 1, 0) = _ := Prod_L3 l [] 1 hs (fun d hd => by
          have h1 := neg_all hn' d hd
          have h2 := big_all hb' d hd
          have h3 : d ≠ 0 := fun e => by have := List.any_eq_false.1 hz' d hd; simp [e] at this
          omega) (by omega) (by omega)
        simp only [hz', Bool.false_eq_true, if_false, e3, bind_ok, Int.one_mul]
        by_cases hp : prodI l > 65536 <;> simp [hp]
theorem Check_L1 : ∀ (s p : List Int), Sm (p ++ s).length → m_ref02_Check_L1 (p ++ s, (p.length : Int)) = some (if negB s then .inl () else .inr ())
  | [], p, hs => by
    rw [m_ref02_Check_L1]; simp only [end_lt, if_false]; simp [negB]
  | x :: s, p, hs => by
    rw [m_ref02_Check_L1]
    have ih := Check_L1 s (p ++ [x]) (by rw [← mid_app]; exact hs)
    rw [← mid_app] at ih
    simp only [mid_lt, if_true, mid_idx, bind_ok, mid_W hs, ih, negB_cons]
    by_cases hn : x < 0 <;> simp [hn]
theorem Check_ok (l : List Int) (hs : Sm l.length) : m_ref02_Check l = some (checkR l) := by
  have e1 : m_ref02_Check_L1 (l, 0) = _ := Check_L1 l [] hs
  simp only [m_ref02_Check, e1, bind_ok, checkR, Product_ok l hs]
  by_cases hn : negB l = true
  · simp [hn]
  · simp only [hn, if_false, prodR, Bool.false_eq_true]
    by_cases hl : l.length > 16
    · have : (l.length : Int) > 16 := by omega
      simp [hl, this, bind_ok]
    · have : ¬ (l.length : Int) > 16 := by omega
      by_cases hb : bigB l = true
      · simp [hl, this, hb, bind_ok]
      · by_cases hp : prodI l > 65536 <;> simp [hl, this, hb, hp, bind_ok]
end Go.Proofs.Tryd
namespace Go.Proofs.Tryd
open Go Go.Pm
set_option linter.unusedVariables false
set_option linter.unusedSimpArgs false
set_option maxRecDepth 2000
theorem Cont1_L1 : ∀ (s p : List Int), Sm (p ++ s).length → ∃ r, m_slices_IndexFunc_int_int_size_check_1_L1 (p ++ s, (p.length : Int)) = some r ∧ (negB s = true → ∃ j : Nat, r = .inl (j : Int)) ∧ (negB s = false → r = .inr ())
  | [], p, hs => by
    rw [m_slices_IndexFunc_int_int_size_check_1_L1]; simp only [end_lt, if_false]; exact ⟨_, rfl, fun h => (by cases h), fun _ => rfl⟩
  | x :: s, p, hs => by
    rw [m_slices_IndexFunc_int_int_size_check_1_L1]
    obtain ⟨r, h1, h2, h3⟩ := Cont1_L1 s (p ++ [x]) (by rw [← mid_app]; exact hs)
    rw [← mid_app] at h1
    simp only [mid_lt, if_true, mid_idx, bind_ok, mid_W hs, m_size_check_1, negB_cons]
    by_cases hn : x < 0
    · simp only [hn, decide_true, if_true]; exact ⟨_, rfl, fun _ => ⟨_, rfl⟩, fun h => by simp at h⟩
    · simp only [hn, decide_false, Bool.false_eq_true, if_false, Bool.false_or]; exact ⟨r, h1, h2, h3⟩
theorem Cont1_ok (l : List Int) (hs : Sm l.length) : m_slices_ContainsFunc_int_int_size_check_1 l = some (negB l) := by
  obtain ⟨r, h1, h2, h3⟩ := Cont1_L1 l [] hs
  have e : m_slices_IndexFunc_int_int_size_check_1_L1 (l, 0) = some r := h1
  simp only [m_slices_ContainsFunc_int_int_size_check_1, m_slices_IndexFunc_int_int_size_check_1, e, bind_ok]
  cases hn : negB l
  · rw [h3 hn]; rfl
  · obtain ⟨j, rfl⟩ := h2 hn; simp [bind_ok]
theorem Cont2_L1 : ∀ (s p : List Int), Sm (p ++ s).length → ∃ r, m_slices_IndexFunc_int_int_size_check_2_L1 (p ++ s, (p.length : Int)) = some r ∧ (bigB s = true → ∃ j : Nat, r = .inl (j : Int)) ∧ (bigB s = false → r = .inr ())
  | [], p, hs => by
    rw [m_slices_IndexFunc_int_int_size_check_2_L1]; simp only [end_lt, if_false]; exact ⟨_, rfl, fun h => (by cases h), fun _ => rfl⟩
  | x :: s, p, hs => by
    rw [m_slices_IndexFunc_int_int_size_check_2_L1]
    obtain ⟨r, h1, h2, h3⟩ := Cont2_L1 s (p ++ [x]) (by rw [← mid_app]; exact hs)
    rw [← mid_app] at h1
    simp only [mid_lt, if_true, mid_idx, bind_ok, mid_W hs, m_size_check_2, bigB_cons]
    by_cases hn : x > 65536
    · simp only [hn, decide_true, if_true]; exact ⟨_, rfl, fun _ => ⟨_, rfl⟩, fun h => by simp at h⟩
    · simp only [hn, decide_false, Bool.false_eq_true, if_false, Bool.false_or]; exact ⟨r, h1, h2, h3⟩
theorem Cont2_ok (l : List Int) (hs : Sm l.length) : m_slices_ContainsFunc_int_int_size_check_2 l = some (bigB l) := by
  obtain ⟨r, h1, h2, h3⟩ := Cont2_L1 l [] hs
  have e : m_slices_IndexFunc_int_int_size_check_2_L1 (l, 0) = some r := h1
  simp only [m_slices_ContainsFunc_int_int_size_check_2, m_slices_IndexFunc_int_int_size_check_2, e, bind_ok]
  cases hn : bigB l
  · rw [h3 hn]; rfl
  · obtain ⟨j, rfl⟩ := h2 hn; simp [bind_ok]
def errR (l : List Int) : Int := if negB l then 6 else if bigB l then 7 else 0
theorem sizecheck_ok (l : List Int) (hs : Sm l.length) : m_size_check l = some (errR l) := by
  simp only [m_size_check, Cont1_ok l hs, Cont2_ok l hs, bind_ok, errR]
  by_cases h1 : negB l = true
  · simp [h1]
  · by_cases h2 : bigB l = true <;> simp [h1, h2]
theorem Index_L1 (v : Int) : ∀ (s p : List Int), Sm (p ++ s).length → ∃ r, m_slices_Index_int_int_L1 (p ++ s, v, (p.length : Int)) = some r ∧ (s.any (v == ·) = true → ∃ j : Nat, r = .inl (j : Int)) ∧ (s.any (v == ·) = false → r = .inr ())
  | [], p, hs => by
    rw [m_slices_Index_int_int_L1]; simp only [end_lt, if_false]; exact ⟨_, rfl, fun h => (by cases h), fun _ => rfl⟩
  | x :: s, p, hs => by
    rw [m_slices_Index_int_int_L1]
    obtain ⟨r, h1, h2, h3⟩ := Index_L1 v s (p ++ [x]) (by rw [← mid_app]; exact hs)
    rw [← mid_app] at h1
    simp only [mid_lt, if_true, mid_idx, bind_ok, mid_W hs]
    by_cases hn : v = x
    · rw [if_pos hn]; exact ⟨_, rfl, fun _ => ⟨_, rfl⟩, fun h => by simp [hn] at h⟩
    · rw [if_neg hn]; exact ⟨r, h1, fun h => h2 (by simpa [hn] using h), fun h => h3 (by simpa [hn] using h)⟩
theorem Contains_ok (l : List Int) (v : Int) (hs : Sm l.length) : m_slices_Contains_int_int (l, v) = some (l.any (v == ·)) := by
  obtain ⟨r, h1, h2, h3⟩ := Index_L1 v l [] hs
  have e : m_slices_Index_int_int_L1 (l, v, 0) = some r := h1
  simp only [m_slices_Contains_int_int, m_slices_Index_int_int, e, bind_ok]
  cases hn : l.any (v == ·)
  · rw [h3 hn]; rfl
  · obtain ⟨j, rfl⟩ := h2 hn; simp [bind_ok]
theorem Mul_ok {a b : Int} (ha : 1 ≤ a ∧ a ≤ 65536) (hb : 1 ≤ b ∧ b ≤ 65536) : m_size_Mul (a, b, 65536) = some (if a * b > 65536 then (0, false) else (a * b, true)) := by
  have m1 := Int.mul_le_mul ha.2 hb.2 (by omega) (by omega)
  have m2 := Int.mul_le_mul ha.1 hb.1 (by omega) (by omega)
  have hq0 : (65536 : Int).tdiv b = 65536 / b := Int.tdiv_eq_ediv_of_nonneg (by omega)
  have hq1 : (65536 : Int) / b ≤ 65536 := Int.ediv_le_self _ (by omega)
  have hq2 : 0 ≤ (65536 : Int) / b := Int.ediv_nonneg (by omega) (by omega)
  have hq : quoM 65536 b = some (65536 / b) := by
    rw [quoM, if_neg (by omega), hq0, W_ok (by omega) (by omega)]
  have hlt : (a > 65536 / b) = (a * b > 65536) := by
    have := Int.ediv_lt_iff_lt_mul (a := 65536) (b := a) (c := b) (by omega)
    simp only [gt_iff_lt, eq_iff_iff]
    exact this
  simp only [m_size_Mul, show ¬ a < 0 by omega, show ¬ b < 0 by omega, show ¬ a > 65536 by omega, show ¬ b > 65536 by omega, show b > 0 by omega, if_false, if_true, hq, bind_ok, hlt, decide_false, Bool.false_eq_true]
  by_cases h : a * b > 65536
  · simp [h]
  · simp only [h, decide_false, bind_ok, Bool.false_eq_true, if_false]; rw [W_ok (by omega) (by omega)]
theorem foldP_L1 : ∀ (s p : List Int) (m : Int), Sm (p ++ s).length → (∀ d ∈ s, 1 ≤ d ∧ d ≤ 65536) → 1 ≤ m → m ≤ 65536 →
    ∃ r, m_size_fold_int_size_Product_1_L1 (p ++ s, m, (p.length : Int)) = some r ∧ (m * prodI s > 65536 → ∃ v, r = .inl v) ∧ (¬ m * prodI s > 65536 → r = .inr (m * prodI s))
  | [], p, m, hs, hd, h1, h2 => by
    rw [m_size_fold_int_size_Product_1_L1]; simp only [end_lt, if_false, prodI_nil, Int.mul_one]
    exact ⟨_, rfl, fun h => (by omega), fun _ => rfl⟩
  | x :: s, p, m, hs, hd, h1, h2 => by
    rw [m_size_fold_int_size_Product_1_L1]
    have hx := hd x (List.mem_cons_self ..)
    have hds : ∀ d ∈ s, 1 ≤ d ∧ d ≤ 65536 := fun d h => hd d (List.mem_cons_of_mem _ h)
    have b2 := Int.mul_le_mul h1 hx.1 (by omega) (by omega)
    simp only [mid_lt, if_true, mid_idx, bind_ok, mid_W hs, m_size_Product_1, Mul_ok ⟨h1, h2⟩ hx, prodI_cons]
    rw [← Int.mul_assoc]
    by_cases hn : m * x > 65536
    · have hp := prodI_pos (l := s) (fun d h => (hds d h).1)
      have : m * x * 1 ≤ m * x * prodI s := Int.mul_le_mul_of_nonneg_left hp (by omega)
      simp only [hn, if_true, bind_ok]
      exact ⟨_, rfl, fun _ => ⟨_, rfl⟩, fun h => absurd h (by omega)⟩
    · obtain ⟨r, e1, e2, e3⟩ := foldP_L1 s (p ++ [x]) (m * x) (by rw [← mid_app]; exact hs) hds (by omega) (by omega)
      rw [← mid_app] at e1
      simp only [hn, if_false, bind_ok, Bool.true_eq_false]
      exact ⟨r, e1, e2, e3⟩
theorem sProduct_ok (l : List Int) (hs : Sm l.length) : m_size_Product l = some (prodR l) := by
  simp only [m_size_Product, sizecheck_ok l hs, bind_ok, m_size_combined_size_Product_1, prodR, errR]
  by_cases hn : negB l = true
  · simp [hn, bind_ok]
  · have hn' : negB l = false := (Bool.not_eq_true _).mp hn
    by_cases hb : bigB l = true
    · simp [hn, hb, bind_ok]
    · have hb' : bigB l = false := (Bool.not_eq_true _).mp hb
      simp only [hn', hb', Bool.false_eq_true, if_false, if_true, Contains_ok l 0 hs, bind_ok]
      by_cases hz : l.any ((0 : Int) == ·) = true
      · have h0 : (0 : Int) ∈ l := by
          obtain ⟨x, hx, he⟩ := List.any_eq_true.1 hz
          have : (0 : Int) = x := by simpa using he
          rw [this]; exact hx
        have := prodI_zero h0
        simp [hz, this, bind_ok]
      · have hall : ∀ d ∈ l, 1 ≤ d ∧ d ≤ 65536 := fun d hd => by
          have h1 := neg_all hn' d hd
          have h2 := big_all hb' d hd
          have h3 : d ≠ 0 := fun e => hz (List.any_eq_true.2 ⟨d, hd, by simp [e]⟩)
          omega
        obtain ⟨r, e1, e2, e3⟩ := foldP_L1 l [] 1 hs hall (by omega) (by omega)
        have e4 : m_size_fold_int_size_Product_1_L1 (l, 1, 0) = some r := e1
        rw [Int.one_mul] at e2 e3
        simp only [hz, if_false, bind_ok, m_size_fold_int_size_Product_1, e4, ne_eq, not_true]
        by_cases hp : prodI l > 65536
        · obtain ⟨v, rfl⟩ := e2 hp; simp [hp, bind_ok]
        · rw [e3 hp]; simp [hp, bind_ok]
theorem shapeCheck_ok (l : List Int) (hs : Sm l.length) : m_shape_Check l = some (checkR l) := by
  simp only [m_shape_Check, sProduct_ok l hs, bind_ok, prodR, checkR]
  by_cases hn : negB l = true
  · simp [hn, bind_ok]
  · by_cases hl : l.length > 16
    · have h16 : (l.length : Int) > 16 := by omega
      by_cases hb : bigB l = true
      · simp [hn, hb, hl, h16, bind_ok]
      · by_cases hp : prodI l > 65536 <;> simp [hn, hb, hp, hl, h16, bind_ok]
    · have h16 : ¬ (l.length : Int) > 16 := by omega
      by_cases hb : bigB l = true
      · simp [hn, hb, hl, h16, bind_ok]
      · by_cases hp : prodI l > 65536 <;> simp [hn, hb, hp, hl, h16, bind_ok]
/-! sums of two dimensions -/
end Go.Proofs.Tryd
namespace Go.Proofs.Tryd
open Go Go.Pm
set_option linter.unusedVariables false
set_option linter.unusedSimpArgs false
set_option maxRecDepth 2000
theorem gEqual_L1 : ∀ (s t p q : List Int), s.length = t.length → p.length = q.length → Sm (p ++ s).length → m_slices_Equal_int_int_L1 (p ++ s, q ++ t, (p.length : Int)) = some (if s = t then .inr () else .inl ())
  | [], [], p, q, _, _, hs => by
    rw [m_slices_Equal_int_int_L1]; simp only [end_lt, if_false, if_true]
  | x :: s, y :: t, p, q, h1, h2, hs => by
    rw [m_slices_Equal_int_int_L1]
    have ih := gEqual_L1 s t (p ++ [x]) (q ++ [y]) (by simpa using h1) (by simp [h2]) (by rw [← mid_app]; exact hs)
    rw [← mid_app, ← mid_app] at ih
    simp only [mid_lt, if_true, mid_idx, bind_ok, mid_W hs, ih]
    rw [h2, mid_idx]
    by_cases he : x = y <;> simp [he, bind_ok]
  | [], _ :: _, _, _, h, _, _ => by cases h
  | _ :: _, [], _, _, h, _, _ => by cases h
theorem gEqual_ok (a b : List Int) (hs : Sm a.length) : m_slices_Equal_int_int (a, b) = some (decide (a = b)) := by
  simp only [m_slices_Equal_int_int]
  by_cases h : a.length = b.length
  · have e := gEqual_L1 a b [] [] h rfl hs
    have e2 : ¬ ((a.length : Int) ≠ (b.length : Int)) := by omega
    simp only [e2, if_false]
    have e3 : m_slices_Equal_int_int_L1 (a, b, 0) = _ := e
    rw [e3]
    by_cases hab : a = b
    · subst hab; simp
    · rw [if_neg hab, decide_eq_false hab]; rfl
  · have e2 : ((a.length : Int) ≠ (b.length : Int)) := by omega
    have e3 : a ≠ b := fun e => h (by rw [e])
    rw [if_pos e2, decide_eq_false e3]
theorem sEqual_ok (a b : List Int) (hs : Sm a.length) : m_shape_Equal (a, b) = some (decide (a = b)) := by
  simp only [m_shape_Equal, gEqual_ok a b hs, bind_ok]
theorem sEqual_ok' (a b : List Int) (hs : Sm b.length) : m_shape_Equal (a, b) = some (decide (a = b)) := by
  by_cases h : a.length = b.length
  · exact sEqual_ok a b (by rw [h]; exact hs)
  · have e2 : ((a.length : Int) ≠ (b.length : Int)) := by omega
    have e3 : a ≠ b := fun e => h (by rw [e])
    simp only [m_shape_Equal, m_slices_Equal_int_int]
    rw [if_pos e2, decide_eq_false e3]; rfl
end Go.Proofs.Tryd
namespace Go.Proofs.Tryd
open Go Go.Pm
set_option linter.unusedVariables false
set_option linter.unusedSimpArgs false
set_option maxRecDepth 2000
theorem setM_ok {l : List Int} {j : Nat} {v : Int} (h : j < l.length) : setM l (j : Int) v = some (l.set j v) := by simp [setM, h]
theorem guardM_ok {p : Prop} [Decidable p] (h : p) : guardM p = some () := if_pos h
theorem ext_getD' : ∀ {a b : List Int}, a.length = b.length → (∀ k, k < a.length → a.getD k 0 = b.getD k 0) → a = b
  | [], [], _, _ => rfl
  | x :: a, y :: b, h1, h2 => by
    rw [show x = y by simpa using h2 0 (by simp), ext_getD' (a := a) (b := b) (by simpa using h1) fun k hk => by simpa using h2 (k + 1) (by simpa using hk)]
  | [], _ :: _, h, _ => by cases h
  | _ :: _, [], h, _ => by cases h

theorem checkR_ok {s : List Int} (h : checkR s = 0) : s.length ≤ 16 ∧ prodI s ≤ 65536 ∧ ∀ n ∈ s, 0 ≤ n ∧ n ≤ 65536 := by
  unfold checkR at h
  by_cases hn : negB s = true
  · rw [if_pos hn] at h; cases h
  · rw [if_neg hn] at h
    by_cases h2 : s.length > 16 ∨ bigB s = true ∨ prodI s > 65536
    · rw [if_pos h2] at h; cases h
    · have hn' : negB s = false := by simpa using hn
      have hb : bigB s = false := by
        cases hb : bigB s with
        | false => rfl
        | true => exact absurd (Or.inr (Or.inl hb)) h2
      refine ⟨by omega, by omega, fun n hm => ⟨neg_all hn' n hm, big_all hb n hm⟩⟩
theorem getD_set {l : List Int} {j k : Nat} {v : Int} (hj : j < l.length) : (l.set j v).getD k 0 = if k = j then v else l.getD k 0 := by
  by_cases h : k = j
  · subst h; simp [hj]
  · simp [h, List.getElem?_set, Ne.symm h]
theorem guard_bind {p : Prop} [Decidable p] {β : Type} {f : Unit → Option β} {r : Option β} (h : p) (h2 : f () = r) : (guardM p >>= f) = r := by rw [guardM, if_pos h]; exact h2
mutual
def szC : T_ref14_Core → Nat
  | ⟨_, _, _, _, _, _, _, kids⟩ => 1 + szCs kids
def szCs : List T_ref14_Core → Nat
  | [] => 0
  | k :: ks => szC k + szCs ks
end
mutual
def smC : T_ref14_Core → Prop
  | ⟨_, shape, _, starts, _, _, perm, kids⟩ => shape.length ≤ 40 ∧ starts.length ≤ 40 ∧ perm.length ≤ 40 ∧ kids.length ≤ 600 ∧ smCs kids
def smCs : List T_ref14_Core → Prop
  | [] => True
  | k :: ks => smC k ∧ smCs ks
end
theorem szC_pos : ∀ c : T_ref14_Core, 1 ≤ szC c
  | ⟨_, _, _, _, _, _, _, kids⟩ => by rw [szC]; omega
theorem szCs_len : ∀ l : List T_ref14_Core, l.length ≤ szCs l
  | [] => Nat.zero_le _
  | k :: ks => by have := szCs_len ks; have := szC_pos k; rw [szCs]; simp only [List.length_cons]; omega
mutual
theorem left_ok : ∀ (c : T_ref14_Core) (n : Int), 0 ≤ n → n ≤ 600 → ∃ r, m_ref14_left (c, n) = some r ∧ -1 ≤ r ∧ r ≤ n - 1 ∧ (0 ≤ r → r + szC c ≤ n ∧ smC c)
  | ⟨k, sh, b, st, ax, am, pe, ks⟩, n, h1, h2 => by
    rw [m_ref14_left]
    simp only []
    have w : W (n - 1) = n - 1 := W_ok (by omega) (by omega)
    obtain ⟨r, e, i1, i2, i3⟩ := left_loop ks [] (n - 1) k sh b st ax am pe (by omega) (by simp; omega)
    simp only [List.nil_append, List.length_nil, Int.natCast_zero] at e
    by_cases c1 : (sh.length : Int) > 40
    · exact ⟨-1, by simp only [c1, if_true, if_false, bind_ok, decide_true, decide_false, Bool.false_eq_true], by omega, by omega, by omega⟩
    · by_cases c2 : (st.length : Int) > 40
      · exact ⟨-1, by simp only [c1, c2, if_true, if_false, bind_ok, decide_true, decide_false, Bool.false_eq_true], by omega, by omega, by omega⟩
      · by_cases c3 : (pe.length : Int) > 40
        · exact ⟨-1, by simp only [c1, c2, c3, if_true, if_false, bind_ok, decide_true, decide_false, Bool.false_eq_true], by omega, by omega, by omega⟩
        · refine ⟨r, by simp only [c1, c2, c3, w, e, if_true, if_false, bind_ok, decide_true, decide_false, Bool.false_eq_true], i1, i2, fun h => ?_⟩
          have := i3 h
          have hl := szCs_len ks
          rw [szC, smC]
          exact ⟨by omega, by omega, by omega, by omega, by omega, this.2⟩
theorem left_loop : ∀ (s p : List T_ref14_Core) (n : Int) (k : Int) (sh : List Int) (b : Int) (st : List Int) (ax am : Int) (pe : List Int), -1 ≤ n → (p.length : Int) + n ≤ 600 →
    ∃ r, m_ref14_left_L1 (⟨k, sh, b, st, ax, am, pe, p ++ s⟩, n, (p.length : Int)) = some r ∧ -1 ≤ r ∧ r ≤ n ∧ (0 ≤ r → r + szCs s ≤ n ∧ smCs s)
  | [], p, n, k, sh, b, st, ax, am, pe, h1, h2 => by
    rw [m_ref14_left_L1]
    simp only [end_lt, if_false, bind_ok, Bool.false_eq_true]
    exact ⟨n, rfl, h1, by omega, fun h => ⟨by rw [szCs]; omega, trivial⟩⟩
  | x :: s, p, n, k, sh, b, st, ax, am, pe, h1, h2 => by
    rw [m_ref14_left_L1]
    simp only [mid_lt, if_true, bind_ok]
    by_cases hn : n ≥ 0
    · rw [decide_eq_true hn]
      obtain ⟨r, e, i1, i2, i3⟩ := left_ok x n hn (by omega)
      obtain ⟨r', e', j1, j2, j3⟩ := left_loop s (p ++ [x]) r k sh b st ax am pe i1 (by simp; omega)
      rw [← mid_app] at e'
      have w : W ((p.length : Int) + 1) = ((p ++ [x]).length : Int) := by rw [W_ok (by omega) (by omega)]; simp
      simp only [if_true, mid_idx, bind_ok, e, w, e']
      refine ⟨r', rfl, j1, by omega, fun h => ?_⟩
      have a := j3 h
      have b := i3 (by omega)
      rw [szCs, smCs]
      exact ⟨by omega, b.2, a.2⟩
    · rw [decide_eq_false hn]
      simp only [Bool.false_eq_true, if_false]
      exact ⟨n, rfl, h1, by omega, fun h => by omega⟩
end
theorem Few_ok (c : T_ref14_Core) (n : Int) (h1 : 0 ≤ n) (h2 : n ≤ 600) : ∃ b, m_ref14_Few (c, n) = some b ∧ (b = true → smC c ∧ (szC c : Int) ≤ n) := by
  obtain ⟨r, e, _, _, h⟩ := left_ok c n h1 h2
  refine ⟨decide (r ≥ 0), by simp only [m_ref14_Few, e, bind_ok], fun hb => ?_⟩
  have h0 : 0 ≤ r := by simpa using hb
  have := h h0
  exact ⟨this.2, by omega⟩
mutual
def conv : T_ref14_Core → T_core_Core
  | ⟨k, sh, b, st, ax, am, pe, ks⟩ => ⟨k, sh, b, st, ax, am, pe, convs ks⟩
def convs : List T_ref14_Core → List T_core_Core
  | [] => []
  | k :: ks => conv k :: convs ks
end
theorem convs_len : ∀ l : List T_ref14_Core, (convs l).length = l.length
  | [] => rfl
  | k :: ks => by rw [convs, List.length_cons, List.length_cons, convs_len ks]
mutual
theorem Core_ok : ∀ (c : T_ref14_Core), smC c → m_law14_Core c = some (conv c)
  | ⟨k, sh, b, st, ax, am, pe, ks⟩, h => by
    rw [smC] at h
    rw [m_law14_Core]
    have e := Core_loop ks [] [] k sh b st ax am pe h.2.2.2.2 rfl (by simp; omega)
    simp only [List.nil_append, List.length_nil, Int.natCast_zero] at e
    simp only [e, bind_ok, conv]
theorem Core_loop : ∀ (s p : List T_ref14_Core) (q : List T_core_Core) (k : Int) (sh : List Int) (b : Int) (st : List Int) (ax am : Int) (pe : List Int), smCs s → q.length = p.length → p.length + s.length ≤ 600 →
    m_law14_Core_L1 (⟨k, sh, b, st, ax, am, pe, p ++ s⟩, q, (p.length : Int)) = some (q ++ convs s)
  | [], p, q, k, sh, b, st, ax, am, pe, h1, h2, h3 => by
    rw [m_law14_Core_L1]
    simp only [end_lt, if_false, convs]
    rw [List.append_nil]
  | x :: s, p, q, k, sh, b, st, ax, am, pe, h1, h2, h3 => by
    rw [m_law14_Core_L1]
    rw [smCs] at h1
    have e := Core_ok x h1.1
    simp only [List.length_cons] at h3
    have e' := Core_loop s (p ++ [x]) (q ++ [conv x]) k sh b st ax am pe h1.2 (by simp [h2]) (by simp; omega)
    rw [← mid_app] at e'
    have w : W ((p.length : Int) + 1) = ((p ++ [x]).length : Int) := by rw [W_ok (by omega) (by omega)]; simp
    have ha : app 128 q [conv x] = some (q ++ [conv x]) := app_ok (by simp only [List.length_cons, List.length_nil]; have : 602 * 128 ≤ room := by decide +kernel
                                                                      omega)
    simp only [mid_lt, if_true, mid_idx, bind_ok, e, ha, w, e', convs, List.append_assoc, List.singleton_append]
end

theorem conv_shape : ∀ k : T_ref14_Core, (conv k).shape = k.shape
  | ⟨_, _, _, _, _, _, _, _⟩ => rfl
theorem Equal_ok' (a b : List Int) (hs : Sm b.length) : m_ref02_Equal (a, b) = some (decide (a = b)) := by
  by_cases h : a.length = b.length
  · exact Equal_ok a b (by rw [h]; exact hs)
  · have e2 : ((a.length : Int) ≠ (b.length : Int)) := by omega
    have e3 : a ≠ b := fun e => h (by rw [e])
    simp only [m_ref02_Equal]
    rw [if_pos e2, decide_eq_false e3]
theorem idx_zero {α : Type} {l : List α} {k : α} {r : List α} (h : l = k :: r) : idx l 0 = some k := by subst h; rfl
theorem idx_one {α : Type} {l : List α} {k k2 : α} {r : List α} (h : l = k :: k2 :: r) : idx l 1 = some k2 := by subst h; rfl
/-- the axes of a catenation -/
def catA (ax : Int) (s a b : List Int) (k : Nat) : Prop := ((k : Int) = ax → s.getD k 0 = W (a.getD k 0 + b.getD k 0)) ∧ ((k : Int) ≠ ax → a.getD k 0 = b.getD k 0 ∧ a.getD k 0 = s.getD k 0)
theorem get_mid {p s : List Int} {x : Int} : (p ++ x :: s).getD p.length 0 = x := by simp
theorem kids_one {c : T_ref14_Core} (h : (c.kids.length : Int) = 1) : ∃ k, c.kids = [k] := by
  match hk : c.kids, h with
  | [k], _ => exact ⟨k, rfl⟩
  | [], h => simp at h
  | _ :: _ :: _, h => simp at h; omega
theorem kids_two {c : T_ref14_Core} (h : (c.kids.length : Int) = 2) : ∃ k k2, c.kids = [k, k2] := by
  match hk : c.kids, h with
  | [k, k2], _ => exact ⟨k, k2, rfl⟩
  | [], h => simp at h
  | [_], h => simp at h
  | _ :: _ :: _ :: _, h => simp at h; omega
theorem ite_some {α : Type} {p : Prop} [Decidable p] {a b : α} : (if p then some a else some b) = some (if p then a else b) := by split <;> rfl
theorem smCs_mem : ∀ {l : List T_ref14_Core}, smCs l → ∀ k ∈ l, smC k
  | x :: l, h, k, hk => by
    rw [smCs] at h
    rcases List.mem_cons.1 hk with rfl | hk
    · exact h.1
    · exact smCs_mem h.2 k hk
  | [], _, _, hk => by cases hk
theorem smC_f {c : T_ref14_Core} (h : smC c) : c.shape.length ≤ 40 ∧ c.starts.length ≤ 40 ∧ c.perm.length ≤ 40 ∧ c.kids.length ≤ 600 ∧ smCs c.kids := by
  cases c; rw [smC] at h; exact h
theorem w_step {α : Type} {p s : List α} {x : α} (h : p.length + (x :: s).length ≤ 600) : W ((p.length : Int) + 1) = ((p ++ [x]).length : Int) := by
  simp at h
  rw [W_ok (by omega) (by omega)]; simp
end Go.Proofs.Tryd
namespace Go.Proofs.Tryd
open Go Go.Pm
set_option linter.unusedVariables false
set_option linter.unusedSimpArgs false
set_option maxRecDepth 2000
/-! transposes -/
def leastS (j : Int) : List (Int × Int) → Int → Int
  | [], v => v
  | a :: l, v => leastS j l (if a.1 = j ∧ (v < 0 ∨ a.2 < v) then a.2 else v)
def inR (n : Nat) (l : List Int) : Bool := l.all fun x => decide (0 ≤ x) && decide (x < (n : Int))
theorem inR_cons (n : Nat) (x : Int) (l : List Int) : inR n (x :: l) = ((decide (0 ≤ x) && decide (x < (n : Int))) && inR n l) := rfl
def mapR (m : Nat) (g : Nat → Int) : List Int := (List.range m).map g
theorem mapR_len (m : Nat) (g : Nat → Int) : (mapR m g).length = m := by simp [mapR]
theorem mapR_get {m : Nat} {g : Nat → Int} {k : Nat} (h : k < m) : (mapR m g).getD k 0 = g k := by simp [mapR, h]
theorem mapR_idx {m : Nat} {g : Nat → Int} {k : Nat} (h : k < m) : idx (mapR m g) (k : Int) = some (g k) := by simp [idx, mapR, h]
theorem mapR_set {m : Nat} {g : Nat → Int} {k : Nat} {v : Int} (h : k < m) : (mapR m g).set k v = mapR m (fun j => if j = k then v else g j) := by
  refine ext_getD' (by simp [mapR_len]) fun j hj => ?_
  rw [List.length_set, mapR_len] at hj
  rw [getD_set (by rw [mapR_len]; exact h), mapR_get hj]
  rw [mapR_get (g := fun j => if j = k then v else g j) hj]
def trB (c : T_ref14_Core) (s : List Int) : Bool := decide (c.perm.length = s.length) && (inR c.shape.length c.perm && decide (mapR c.shape.length (fun j => leastS j (c.perm.zip s) (-1)) = c.shape))
theorem rtr_L1 (v1 p0 : T_ref14_Core) : ∀ (s t p q : List Int), v1.shape = p ++ s → p0.perm = q ++ t → s.length = t.length → p.length = q.length → Sm (p ++ s).length →
    m_ref14_transposed_L1 (v1, p0, (p.length : Int)) = some (if inR p0.shape.length t = true then .inr () else .inl ())
  | [], [], p, q, e1, e2, _, h2, hs => by
    rw [m_ref14_transposed_L1]; simp only [e1, end_lt, if_false]; rfl
  | n :: s, x :: t, p, q, e1, e2, h1, h2, hs => by
    rw [m_ref14_transposed_L1]
    have ih := rtr_L1 v1 p0 s t (p ++ [n]) (q ++ [x]) (by rw [e1]; simp) (by rw [e2]; simp) (by simpa using h1) (by simp [h2]) (by rw [← mid_app]; exact hs)
    have hi : idx (q ++ x :: t) (p.length : Int) = some x := by rw [h2]; exact mid_idx
    simp only [e1, e2, mid_lt, if_true, hi, bind_ok, mid_W hs, ih, inR_cons]
    by_cases ha : x < 0
    · simp [ha, bind_ok, show ¬ 0 ≤ x by omega]
    · by_cases hb : x ≥ (p0.shape.length : Int)
      · simp [ha, hb, bind_ok, show ¬ x < (p0.shape.length : Int) by omega]
      · simp [ha, hb, bind_ok, show 0 ≤ x by omega, show x < (p0.shape.length : Int) by omega]
  | [], _ :: _, _, _, _, _, h, _, _ => by cases h
  | _ :: _, [], _, _, _, _, h, _, _ => by cases h
theorem rtr_L3 (v1 p0 : T_ref14_Core) (j : Int) : ∀ (s t p q : List Int) (v : Int), v1.shape = p ++ s → p0.perm = q ++ t → s.length = t.length → p.length = q.length → Sm (p ++ s).length →
    m_ref14_transposed_L3 (v1, p0, j, v, (p.length : Int)) = some (leastS j (t.zip s) v)
  | [], [], p, q, v, e1, e2, _, h2, hs => by
    rw [m_ref14_transposed_L3]; simp only [e1, end_lt, if_false]; rfl
  | n :: s, x :: t, p, q, v, e1, e2, h1, h2, hs => by
    rw [m_ref14_transposed_L3]
    have ih := fun v => rtr_L3 v1 p0 j s t (p ++ [n]) (q ++ [x]) v (by rw [e1]; simp) (by rw [e2]; simp) (by simpa using h1) (by simp [h2]) (by rw [← mid_app]; exact hs)
    have hi : idx (q ++ x :: t) (p.length : Int) = some x := by rw [h2]; exact mid_idx
    simp only [e1, e2, mid_lt, if_true, hi, bind_ok, mid_idx, mid_W hs, ih, List.zip_cons_cons, leastS]
    by_cases hx : x = j
    · by_cases hv : v < 0
      · simp [hx, hv, bind_ok]
      · by_cases hn : n < v <;> simp [hx, hv, hn, bind_ok]
    · simp [hx, bind_ok]
  | [], _ :: _, _, _, _, _, _, h, _, _ => by cases h
  | _ :: _, [], _, _, _, _, _, h, _, _ => by cases h
def allS (f : Nat → Int) (i : Nat) : List Int → Bool
  | [] => true
  | n :: s => decide (f i = n) && allS f (i + 1) s
theorem allS_eq (f : Nat → Int) : ∀ (s : List Int) (i : Nat), allS f i s = decide ((List.range' i s.length).map f = s)
  | [], i => by simp [allS]
  | n :: s, i => by
    rw [allS, allS_eq f s (i + 1), List.length_cons, List.range'_succ, List.map_cons]
    by_cases h1 : f i = n <;> simp [h1]
theorem rtr_L2 (v1 p0 : T_ref14_Core) (hl : v1.shape.length = p0.perm.length) (hv : Sm v1.shape.length) : ∀ (s p : List Int), p0.shape = p ++ s → Sm (p ++ s).length →
    m_ref14_transposed_L2 (p0, v1, (p.length : Int)) = some (if allS (fun j => leastS (j : Int) (p0.perm.zip v1.shape) (-1)) p.length s = true then .inr () else .inl ())
  | [], p, e1, hs => by
    rw [m_ref14_transposed_L2]; simp only [e1, end_lt, if_false]; rfl
  | n :: s, p, e1, hs => by
    rw [m_ref14_transposed_L2]
    have er : m_ref14_transposed_L3 (v1, p0, (p.length : Int), -1, 0) = _ := rtr_L3 v1 p0 (p.length : Int) v1.shape p0.perm [] [] (-1) rfl rfl hl rfl hv
    have ih := rtr_L2 v1 p0 hl hv s (p ++ [n]) (by rw [e1]; simp) (by rw [← mid_app]; exact hs)
    rw [show (p ++ [n]).length = p.length + 1 by simp] at ih
    simp only [e1, mid_lt, if_true, er, bind_ok, mid_idx, allS]
    rw [mid_W hs, show ((p ++ [n]).length : Int) = ((p.length + 1 : Nat) : Int) by simp, ih]
    by_cases hn : leastS (p.length : Int) (p0.perm.zip v1.shape) (-1) = n <;> simp [hn]
theorem rtr_ok (p0 v1 : T_ref14_Core) (hk : idx p0.kids 0 = some v1) (h1 : Sm v1.shape.length) (h2 : Sm p0.shape.length) : m_ref14_transposed p0 = some (trB p0 v1.shape) := by
  simp only [m_ref14_transposed, hk, bind_ok, trB]
  by_cases hl : p0.perm.length = v1.shape.length
  · rw [if_neg (by omega), decide_eq_true hl]
    have e1 : m_ref14_transposed_L1 (v1, p0, 0) = _ := rtr_L1 v1 p0 v1.shape p0.perm [] [] rfl rfl hl.symm rfl h1
    have e2 : m_ref14_transposed_L2 (p0, v1, 0) = _ := rtr_L2 v1 p0 hl.symm h1 p0.shape [] rfl h2
    rw [e1, bind_ok]
    cases inR p0.shape.length p0.perm with
    | false => rfl
    | true =>
      simp only [if_true, e2, bind_ok, List.length_nil, allS_eq, Bool.true_and]
      rw [show List.range' 0 p0.shape.length = List.range p0.shape.length from List.range_eq_range'.symm]
      by_cases hq : mapR p0.shape.length (fun j => leastS j (p0.perm.zip v1.shape) (-1)) = p0.shape
      · rw [decide_eq_true hq, decide_eq_true (show List.map _ (List.range p0.shape.length) = p0.shape from hq)]; rfl
      · rw [decide_eq_false hq, decide_eq_false (show ¬ List.map _ (List.range p0.shape.length) = p0.shape from hq)]; rfl
  · rw [if_pos (by omega), decide_eq_false hl]; rfl
theorem gtr_L1 (c : T_core_Core) (kid : T_core_Core) (m : Nat) (v2 : List Int) (hv2 : v2.length = m) (hk : idx c.kids 0 = some kid) : ∀ (s t p q : List Int) (g : Nat → Int), kid.shape = p ++ s → c.perm = q ++ t → s.length = t.length → p.length = q.length → Sm (q ++ t).length →
    ∃ r, m_core_rightTranspose_L1 (c, v2, mapR m g, (q.length : Int)) = some r ∧ (inR m t = true → r = .inr (mapR m fun j => leastS j (t.zip s) (g j))) ∧ (inR m t = false → ∃ b, r = .inl b)
  | [], [], p, q, g, e1, e2, _, h2, hs => by
    refine ⟨.inr (mapR m g), ?_, fun _ => rfl, fun h => by cases h⟩
    rw [m_core_rightTranspose_L1]; simp only [e2, end_lt, if_false]
  | n :: s, x :: t, p, q, g, e1, e2, h1, h2, hs => by
    rw [m_core_rightTranspose_L1]
    have hi : idx (p ++ n :: s) (q.length : Int) = some n := by rw [← h2]; exact mid_idx
    simp only [e2, mid_lt, if_true, bind_ok, mid_idx, hk, e1, hi, hv2]
    by_cases ha : x < 0
    · exact ⟨.inl (mapR m g), by simp [ha, bind_ok], fun h => by simp [inR_cons, show ¬ 0 ≤ x by omega] at h, fun _ => ⟨_, rfl⟩⟩
    · by_cases hb : x ≥ (m : Int)
      · exact ⟨.inl (mapR m g), by simp [ha, hb, bind_ok], fun h => by simp [inR_cons, show ¬ x < (m : Int) by omega] at h, fun _ => ⟨_, rfl⟩⟩
      · obtain ⟨k, rfl⟩ := Int.eq_ofNat_of_zero_le (show 0 ≤ x by omega)
        have hkm : k < m := by omega
        have gl : ∀ {β : Type} {f : Unit → Option β}, (guardM ((mapR m g).length = m) >>= f) = f () := fun {β f} => guard_bind (mapR_len m g) rfl
        obtain ⟨r, er, h3, h4⟩ := gtr_L1 c kid m v2 hv2 hk s t (p ++ [n]) (q ++ [(k : Int)]) (fun j => if (k : Int) = (j : Int) ∧ (g j < 0 ∨ n < g j) then n else g j) (by rw [e1]; simp) (by rw [e2]; simp) (by simpa using h1) (by simp [h2]) (by rw [← mid_app]; exact hs)
        have hst : setM (mapR m g) (k : Int) n = some ((mapR m g).set k n) := setM_ok (by rw [mapR_len]; exact hkm)
        have hset : (g k < 0 ∨ n < g k) → (mapR m g).set k n = mapR m (fun j => if (k : Int) = (j : Int) ∧ (g j < 0 ∨ n < g j) then n else g j) := fun hc => by
          rw [mapR_set hkm]
          congr 1
          funext j
          by_cases hj : j = k
          · subst hj; simp [hc]
          · rw [if_neg hj, if_neg (fun h => hj (by omega))]
        have hno : ¬ (g k < 0 ∨ n < g k) → mapR m g = mapR m (fun j => if (k : Int) = (j : Int) ∧ (g j < 0 ∨ n < g j) then n else g j) := fun hc => by
          congr 1
          funext j
          by_cases hj : (k : Int) = (j : Int)
          · have : k = j := by omega
            subst this; rw [if_neg (fun h => hc h.2)]
          · rw [if_neg (fun h => hj h.1)]
        refine ⟨r, ?_, fun h => ?_, fun h => ?_⟩
        · simp only [ha, if_false, decide_eq_false hb, bind_ok, Bool.false_eq_true, gl, mapR_idx hkm, mid_W hs]
          by_cases hv : g k < 0
          · simp only [hv, if_true, bind_ok, hst, hset (Or.inl hv), er]
          · by_cases hn : n < g k
            · simp only [hv, if_false, decide_eq_true hn, bind_ok, if_true, hst, hset (Or.inr hn), er]
            · simp only [hv, if_false, decide_eq_false hn, bind_ok, Bool.false_eq_true]
              rw [hno (by omega)]
              exact er
        · rw [inR_cons, Bool.and_eq_true] at h
          rw [h3 h.2]; rfl
        · rw [inR_cons, decide_eq_true (show (0 : Int) ≤ (k : Int) by omega), decide_eq_true (show (k : Int) < (m : Int) by omega)] at h
          exact h4 (by simpa using h)
  | [], _ :: _, _, _, _, _, _, h, _, _ => by cases h
  | _ :: _, [], _, _, _, _, _, h, _, _ => by cases h
theorem conv_kid {c k : T_ref14_Core} {r : List T_ref14_Core} (h : c.kids = k :: r) : idx (conv c).kids 0 = some (conv k) := by
  cases c; simp only at h; subst h; rfl
theorem conv_kid2 {c k k2 : T_ref14_Core} {r : List T_ref14_Core} (h : c.kids = k :: k2 :: r) : idx (conv c).kids 1 = some (conv k2) := by
  cases c; simp only at h; subst h; rfl
theorem conv_f (c : T_ref14_Core) : (conv c).kind = c.kind ∧ (conv c).shape = c.shape ∧ (conv c).buffer = c.buffer ∧ (conv c).starts = c.starts ∧ (conv c).axis = c.axis ∧ (conv c).amount = c.amount ∧ (conv c).perm = c.perm ∧ (conv c).kids.length = c.kids.length := by
  cases c; exact ⟨rfl, rfl, rfl, rfl, rfl, rfl, rfl, convs_len _⟩
theorem gtr_ok (c k : T_ref14_Core) (r : List T_ref14_Core) (hk : c.kids = k :: r) (h1 : k.shape.length ≤ 1000) (h2 : c.shape.length ≤ 16) : m_core_rightTranspose (conv c) = some (trB c k.shape) := by
  obtain ⟨_, f2, _, _, _, _, f7, _⟩ := conv_f c
  simp only [m_core_rightTranspose, conv_kid hk, bind_ok, conv_shape, trB, f7]
  by_cases hl : c.perm.length = k.shape.length
  · rw [if_neg (by omega), decide_eq_true hl]
    have eR : m_slices_Repeat_int_int_8 (-1, (c.shape.length : Int)) = some (mapR c.shape.length fun _ => -1) := by
      unfold m_slices_Repeat_int_int_8
      show (if ((-1 : Int) = 1 ∨ (-1 : Int) = -1) ∧ 0 ≤ (c.shape.length : Int) ∧ (c.shape.length : Int) ≤ 16 then some (List.replicate (c.shape.length : Int).toNat (-1 : Int)) else none) = _
      rw [if_pos ⟨Or.inr rfl, by omega, by omega⟩, mapR, List.map_const', List.length_range]
      rfl
    obtain ⟨o, e, a1, a2⟩ := gtr_L1 (conv c) (conv k) c.shape.length (mapR c.shape.length fun _ => -1) (mapR_len _ _) (conv_kid hk) k.shape c.perm [] [] (fun _ => -1) (conv_shape k) f7 hl.symm rfl (Sm_of (show ([] ++ c.perm).length ≤ 1000 by simp; omega))
    have e' : m_core_rightTranspose_L1 (conv c, mapR c.shape.length (fun _ => -1), mapR c.shape.length (fun _ => -1), 0) = some o := e
    rw [eR, bind_ok, e', bind_ok]
    cases hR : inR c.shape.length c.perm with
    | false =>
      obtain ⟨b, rfl⟩ := a2 hR
      rfl
    | true =>
      rw [a1 hR]
      simp only []
      rw [guard_bind (by rw [mapR_len, mapR_len]) rfl, sEqual_ok' _ _ (Sm_of (show c.shape.length ≤ 1000 by omega))]
      rfl
  · rw [if_pos (by omega), decide_eq_false hl]; rfl
end Go.Proofs.Tryd
namespace Go.Proofs.Tryd
open Go Go.Pm
set_option linter.unusedVariables false
set_option linter.unusedSimpArgs false
set_option maxRecDepth 2000
theorem sub_lo {l : List Int} {k : Nat} (h : k ≤ l.length) : sub l 0 (k : Int) = some (l.take k) := by
  simp [sub, h]
theorem sub_hi {l : List Int} {k : Nat} (h : k ≤ l.length) : sub l (k : Int) (l.length : Int) = some (l.drop k) := by
  simp [sub, h]
theorem Concat_ok (ls : List (List Int)) (h1 : ls.length ≤ 1000) (h2 : ls.flatten.length ≤ 1000000) : m_slices_Concat_int_int ls = some ls.flatten := if_pos ⟨h1, h2⟩
theorem rep_set (l : List Int) (k : Nat) (v : Int) (hk : k < l.length) : l.take k ++ v :: l.drop (k + 1) = l.set k v := by
  rw [List.set_eq_take_append_cons_drop, if_pos hk]
theorem Replace_ok (l : List Int) (k : Nat) (v : Int) (hk : k < l.length) (hl : l.length ≤ 1000) : m_shape_Replace (l, (k : Int), v) = some (l.set k v, 0) := by
  have h1 : ¬ ((k : Int) ≥ (l.length : Int)) := by omega
  have c := Concat_ok [l.take k, [v], l.drop (k + 1)] (by simp) (by simp; omega)
  have e2 := sub_hi (l := l) (k := k + 1) (by omega)
  simp only [m_shape_Replace, h1, if_false, m_shape_one, bind_ok, W_succ (show k < 9223372036854775807 by omega), m_shape_edited_int_b9faf, show ¬ ((k : Int) < 0) by omega, decide_eq_false (show ¬ (((k + 1 : Nat) : Int) > (l.length : Int)) by omega), Bool.false_eq_true, decide_eq_false (show ¬ ((k : Int) > ((k + 1 : Nat) : Int)) by omega), sub_lo (Nat.le_of_lt hk), e2, m_shape_one_1_b9040, c]
  rw [← rep_set l k v hk]
  simp
theorem all_split {Q : Nat → Prop} {n m : Nat} (h : n < m) : (∀ k, n ≤ k → k < m → Q k) ↔ (Q n ∧ ∀ k, n + 1 ≤ k → k < m → Q k) := by
  constructor
  · exact fun g => ⟨g n (Nat.le_refl _) h, fun k h1 h2 => g k (by omega) h2⟩
  · rintro ⟨g1, g2⟩ k h1 h2
    by_cases e : k = n
    · exact e ▸ g1
    · exact g2 k (by omega) h2
theorem sum_iff {o : Unit ⊕ Unit} : (o = .inr ()) ↔ o.isRight = true := by cases o <;> simp
theorem rjoin_L1 (v1 p0 v2 : T_ref14_Core) : ∀ (a b s p q u : List Int), v1.shape = p ++ a → v2.shape = q ++ b → p0.shape = u ++ s → a.length = b.length → a.length = s.length → p.length = q.length → p.length = u.length → Sm (p ++ a).length →
    ∃ o, m_ref14_joined_L1 (v1, p0, v2, (p.length : Int)) = some o ∧ (o = .inr () ↔ ∀ k, p.length ≤ k → k < v1.shape.length → catA p0.axis p0.shape v1.shape v2.shape k)
  | [], b, s, p, q, u, e1, e2, e3, _, _, _, _, hs => by
    refine ⟨.inr (), ?_, by constructor
                            · exact fun _ k h1 h2 => by rw [e1] at h2; simp at h2; omega
                            · exact fun _ => rfl⟩
    rw [m_ref14_joined_L1]; simp only [e1, end_lt, if_false]
  | x :: a, y :: b, z :: s, p, q, u, e1, e2, e3, h1, h2, h3, h4, hs => by
    rw [m_ref14_joined_L1]
    obtain ⟨o, e, ho⟩ := rjoin_L1 v1 p0 v2 a b s (p ++ [x]) (q ++ [y]) (u ++ [z]) (by rw [e1]; simp) (by rw [e2]; simp) (by rw [e3]; simp) (by simpa using h1) (by simpa using h2) (by simp [h3]) (by simp [h4]) (by rw [← mid_app]; exact hs)
    have i1 : idx v1.shape (p.length : Int) = some x := by rw [e1]; exact mid_idx
    have i2 : idx v2.shape (p.length : Int) = some y := by rw [e2, h3]; exact mid_idx
    have i3 : idx p0.shape (p.length : Int) = some z := by rw [e3, h4]; exact mid_idx
    have g1 : v1.shape.getD p.length 0 = x := by rw [e1]; exact get_mid
    have g2 : v2.shape.getD p.length 0 = y := by rw [e2, h3]; exact get_mid
    have g3 : p0.shape.getD p.length 0 = z := by rw [e3, h4]; exact get_mid
    have ht : ((p.length : Int) < (v1.shape.length : Int)) := by rw [e1]; exact mid_lt
    have w : W ((p.length : Int) + 1) = ((p ++ [x]).length : Int) := mid_W hs
    rw [show (p ++ [x]).length = p.length + 1 by simp] at ho
    rw [all_split (Q := fun k => catA p0.axis p0.shape v1.shape v2.shape k) (by omega)]
    have hc : catA p0.axis p0.shape v1.shape v2.shape p.length ↔ (((p.length : Int) = p0.axis → z = W (x + y)) ∧ ((p.length : Int) ≠ p0.axis → x = y ∧ x = z)) := by rw [catA, g1, g2, g3]
    rw [hc]
    simp only [ht, if_true, i1, i2, i3, bind_ok, w, e]
    by_cases ha : (p.length : Int) = p0.axis
    · simp only [ha, if_true, bind_ok, ne_eq, not_true, if_false]
      by_cases hz : z = W (x + y)
      · exact ⟨o, by simp [hz], by rw [ho]; simp [hz]⟩
      · exact ⟨.inl (), by simp [hz], by simp [hz]⟩
    · simp only [ha, if_false, bind_ok, ne_eq, not_false_eq_true, if_true, Bool.false_eq_true]
      by_cases hx : x = y
      · by_cases hz : x = z
        · exact ⟨o, by simp [← hx, ← hz], by rw [ho]; simp [← hx, ← hz]⟩
        · exact ⟨.inl (), by simp [← hx, hz], by simp [hz]⟩
      · exact ⟨.inl (), by simp [hx], by simp [hx]⟩
  | _ :: _, [], _, _, _, _, _, _, _, h, _, _, _, _ => by cases h
  | _ :: _, _ :: _, [], _, _, _, _, _, _, _, h, _, _, _ => by cases h
/-- the conditions of a catenation -/
def jP (c : T_ref14_Core) (a b : List Int) : Prop := a.length = b.length ∧ a.length = c.shape.length ∧ 0 ≤ c.axis ∧ c.axis < (a.length : Int) ∧ ∀ k, k < a.length → catA c.axis c.shape a b k
theorem rjoin_ok (p0 v1 v2 : T_ref14_Core) (r : List T_ref14_Core) (hk : p0.kids = v1 :: v2 :: r) (hs : Sm v1.shape.length) : ∃ b, m_ref14_joined p0 = some b ∧ (b = true ↔ jP p0 v1.shape v2.shape) := by
  simp only [m_ref14_joined, idx_zero hk, idx_one hk, bind_ok]
  by_cases h1 : v1.shape.length = v2.shape.length
  · by_cases h2 : v1.shape.length = p0.shape.length
    · have c1 : ¬ ((v1.shape.length : Int) ≠ (v2.shape.length : Int)) := by omega
      have c2 : ((v1.shape.length : Int) != (p0.shape.length : Int)) = false := by simp [h2]
      by_cases h3 : p0.axis < 0
      · exact ⟨false, by simp [h1, h2, ← h2, h3], by constructor
                                                     · exact fun h => by cases h
                                                     · exact fun h => absurd h.2.2.1 (by omega)⟩
      · by_cases h4 : p0.axis ≥ (v1.shape.length : Int)
        · refine ⟨false, ?_, by constructor
                                · exact fun h => by cases h
                                · exact fun h => absurd h.2.2.2.1 (by omega)⟩
          simp only [c1, if_false, c2, bind_ok, Bool.false_eq_true, decide_eq_false h3, decide_eq_true h4, if_true]
        · obtain ⟨o, e, ho⟩ := rjoin_L1 v1 p0 v2 v1.shape v2.shape p0.shape [] [] [] rfl rfl rfl h1 h2 rfl rfl hs
          have e' : m_ref14_joined_L1 (v1, p0, v2, 0) = some o := e
          simp only [c1, if_false, c2, bind_ok, Bool.false_eq_true, decide_eq_false h3, decide_eq_false h4, e']
          refine ⟨o.isRight, by cases o <;> rfl, ?_⟩
          rw [← sum_iff, ho]
          exact ⟨fun h => ⟨h1, h2, by omega, by omega, fun k hk => h k (Nat.zero_le _) hk⟩, fun h k _ hk => h.2.2.2.2 k hk⟩
    · refine ⟨false, ?_, by constructor
                            · exact fun h => by cases h
                            · exact fun h => absurd h.2.1 h2⟩
      have c1 : ¬ ((v1.shape.length : Int) ≠ (v2.shape.length : Int)) := by omega
      have c2 : ((v1.shape.length : Int) != (p0.shape.length : Int)) = true := by simp; omega
      simp only [c1, if_false, bind_ok, c2, if_true]
  · refine ⟨false, ?_, by constructor
                          · exact fun h => by cases h
                          · exact fun h => absurd h.1 h1⟩
    have c1 : ((v1.shape.length : Int) ≠ (v2.shape.length : Int)) := by omega
    simp only [if_pos c1, bind_ok, if_true]
theorem set_cat {s a b : List Int} {j : Nat} (hl : a.length = b.length) (hj : j < a.length) : (b.set j (a.getD j 0) = a ∧ a.set j (W (a.getD j 0 + b.getD j 0)) = s) ↔ (a.length = s.length ∧ ∀ k, k < a.length → catA (j : Int) s a b k) := by
  constructor
  · rintro ⟨h1, h2⟩
    refine ⟨by rw [← h2, List.length_set], fun k hk => ⟨fun e => ?_, fun e => ?_⟩⟩
    · have : k = j := by omega
      subst this
      rw [← h2, getD_set hj, if_pos rfl]
    · have e2 : k ≠ j := fun h => e (by omega)
      have q1 : (b.set j (a.getD j 0)).getD k 0 = a.getD k 0 := by rw [h1]
      have q2 : (a.set j (W (a.getD j 0 + b.getD j 0))).getD k 0 = s.getD k 0 := by rw [h2]
      rw [getD_set (by omega), if_neg e2] at q1
      rw [getD_set hj, if_neg e2] at q2
      exact ⟨q1.symm, q2⟩
  · rintro ⟨h1, h2⟩
    constructor
    · refine ext_getD' (by simp [hl]) fun k hk => ?_
      rw [List.length_set] at hk
      rw [getD_set (by omega)]
      by_cases e : k = j
      · rw [if_pos e, e]
      · rw [if_neg e]; exact ((h2 k (by omega)).2 (by omega)).1.symm
    · refine ext_getD' (by simp [h1]) fun k hk => ?_
      rw [List.length_set] at hk
      rw [getD_set hj]
      by_cases e : k = j
      · rw [if_pos e, e]; exact ((h2 j hj).1 rfl).symm
      · rw [if_neg e]; exact ((h2 k hk).2 (by omega)).2
theorem gjoin_ok (c k k2 : T_ref14_Core) (r : List T_ref14_Core) (hk : c.kids = k :: k2 :: r) (h1 : k.shape.length ≤ 1000) (h2 : k2.shape.length ≤ 1000) (h3 : c.shape.length ≤ 1000) : ∃ b, m_core_rightCatenate (conv c) = some b ∧ (b = true ↔ jP c k.shape k2.shape) := by
  obtain ⟨_, f2, _, _, f5, _, _, _⟩ := conv_f c
  simp only [m_core_rightCatenate, conv_kid hk, conv_kid2 hk, bind_ok, conv_shape, f5]
  by_cases g1 : c.axis < 0
  · exact ⟨false, by simp [g1], by constructor
                                   · exact fun h => by cases h
                                   · exact fun h => absurd h.2.2.1 (by omega)⟩
  · by_cases g2 : c.axis ≥ (k.shape.length : Int)
    · exact ⟨false, by simp [g1, g2], by constructor
                                         · exact fun h => by cases h
                                         · exact fun h => absurd h.2.2.2.1 (by omega)⟩
    · by_cases g3 : k.shape.length = k2.shape.length
      · have b3 : ((k2.shape.length : Int) != (k.shape.length : Int)) = false := by simp [g3]
        obtain ⟨j, hj⟩ := Int.eq_ofNat_of_zero_le (show 0 ≤ c.axis by omega)
        have hj1 : j < k.shape.length := by omega
        have i1 : idx k.shape (j : Int) = some (k.shape.getD j 0) := by simp [idx, hj1]
        have i2 : idx k2.shape (j : Int) = some (k2.shape.getD j 0) := by simp [idx, show j < k2.shape.length by omega]
        rw [hj] at g1 g2
        simp only [hj, g1, if_false, decide_eq_false g2, bind_ok, Bool.false_eq_true, b3, i1, i2, Replace_ok _ _ _ hj1 h1, Replace_ok _ _ _ (show j < k2.shape.length by omega) h2, sEqual_ok' _ _ (Sm_of h1), sEqual_ok' _ _ (Sm_of h3)]
        have e := set_cat (s := c.shape) g3 hj1
        refine ⟨decide (k2.shape.set j (k.shape.getD j 0) = k.shape) && decide (k.shape.set j (W (k.shape.getD j 0 + k2.shape.getD j 0)) = c.shape), ?_, ?_⟩
        · cases decide (k2.shape.set j (k.shape.getD j 0) = k.shape) <;> rfl
        · rw [Bool.and_eq_true, decide_eq_true_eq, decide_eq_true_eq, e, jP, hj]
          exact ⟨fun h => ⟨g3, h.1, by omega, by omega, h.2⟩, fun h => ⟨h.2.1, h.2.2.2.2⟩⟩
      · refine ⟨false, ?_, by constructor
                              · exact fun h => by cases h
                              · exact fun h => absurd h.1 g3⟩
        have b3 : ((k2.shape.length : Int) != (k.shape.length : Int)) = true := by simp; omega
        simp only [g1, if_false, decide_eq_false g2, bind_ok, Bool.false_eq_true, b3, if_true]
end Go.Proofs.Tryd
namespace Go.Proofs.Tryd
open Go Go.Pm
set_option linter.unusedVariables false
set_option linter.unusedSimpArgs false
set_option maxRecDepth 2000
theorem gen_all {P : Bool → Prop} (h1 : P true) (h2 : P false) : ∀ b, P b := fun b => by cases b <;> assumption
theorem win_L1 : ∀ (s p : List Int), Sm (p ++ s).length → ∃ r, m_slices_IndexFunc_int_int_core_rightWindow_1_L1 (p ++ s, (p.length : Int)) = some r ∧ (s.any (fun x => decide (x < -65536) || decide (x > 65536)) = true → ∃ j : Nat, r = .inl (j : Int)) ∧ (s.any (fun x => decide (x < -65536) || decide (x > 65536)) = false → r = .inr ())
  | [], p, hs => by
    rw [m_slices_IndexFunc_int_int_core_rightWindow_1_L1]; simp only [end_lt, if_false]; exact ⟨_, rfl, fun h => (by cases h), fun _ => rfl⟩
  | x :: s, p, hs => by
    rw [m_slices_IndexFunc_int_int_core_rightWindow_1_L1]
    obtain ⟨r, h1, h2, h3⟩ := win_L1 s (p ++ [x]) (by rw [← mid_app]; exact hs)
    rw [← mid_app] at h1
    simp only [mid_lt, if_true, mid_idx, bind_ok, mid_W hs, m_core_rightWindow_1, List.any_cons]
    by_cases hn : x < -65536
    · simp only [hn, decide_true, if_true, Bool.true_or, bind_ok]; exact ⟨_, rfl, fun _ => ⟨_, rfl⟩, fun h => by cases h⟩
    · by_cases hm : x > 65536
      · simp only [hn, hm, decide_true, decide_false, if_false, if_true, Bool.false_or, Bool.true_or, bind_ok]; exact ⟨_, rfl, fun _ => ⟨_, rfl⟩, fun h => by cases h⟩
      · simp only [hn, hm, decide_false, if_false, Bool.false_eq_true, Bool.false_or, bind_ok]; exact ⟨r, h1, h2, h3⟩
def farB (l : List Int) : Bool := l.any fun x => decide (x < -65536) || decide (x > 65536)
theorem gwin_ok (l : List Int) (hs : Sm l.length) : m_slices_ContainsFunc_int_int_core_rightWindow_1 l = some (farB l) := by
  obtain ⟨r, h1, h2, h3⟩ := win_L1 l [] hs
  have e : m_slices_IndexFunc_int_int_core_rightWindow_1_L1 (l, 0) = some r := h1
  simp only [m_slices_ContainsFunc_int_int_core_rightWindow_1, m_slices_IndexFunc_int_int_core_rightWindow_1, e, bind_ok, farB]
  cases hn : l.any fun x => decide (x < -65536) || decide (x > 65536)
  · rw [h3 hn]; rfl
  · obtain ⟨j, rfl⟩ := h2 hn; simp [bind_ok]
theorem rwin_L1 (c : T_ref14_Core) : ∀ (s p : List Int), c.starts = p ++ s → Sm (p ++ s).length → m_ref14_node_L1 (c, (p.length : Int)) = some (if farB s = true then .inl () else .inr ())
  | [], p, e1, hs => by
    rw [m_ref14_node_L1]; simp only [e1, end_lt, if_false]; rfl
  | x :: s, p, e1, hs => by
    rw [m_ref14_node_L1]
    have ih := rwin_L1 c s (p ++ [x]) (by rw [e1]; simp) (by rw [← mid_app]; exact hs)
    simp only [e1, mid_lt, if_true, mid_idx, bind_ok, mid_W hs, ih, farB, List.any_cons]
    by_cases ha : x < -65536
    · simp [ha, bind_ok]
    · by_cases hb : x > 65536
      · simp [ha, hb, bind_ok]
      · simp [ha, hb, bind_ok]
theorem ralike_ok (p0 k : T_ref14_Core) (r : List T_ref14_Core) (hk : p0.kids = k :: r) (hs : Sm p0.shape.length) : m_ref14_alike p0 = some (decide (k.shape = p0.shape) && (decide (p0.axis ≥ 0) && decide (p0.axis < (p0.shape.length : Int)))) := by
  simp only [m_ref14_alike, idx_zero hk, bind_ok, Equal_ok' _ _ hs]
  cases decide (k.shape = p0.shape) <;> cases decide (p0.axis ≥ 0) <;> rfl
theorem galike_ok (c k : T_ref14_Core) (r : List T_ref14_Core) (hk : c.kids = k :: r) (hs : Sm c.shape.length) : m_core_alike (conv c) = some (decide (k.shape = c.shape) && (decide (c.axis ≥ 0) && decide (c.axis < (c.shape.length : Int)))) := by
  obtain ⟨_, f2, _, _, f5, _, _, _⟩ := conv_f c
  simp only [m_core_alike, conv_kid hk, bind_ok, conv_shape, sEqual_ok' _ _ hs, f5]
  cases decide (k.shape = c.shape) <;> cases decide (c.axis ≥ 0) <;> rfl
theorem idx_getD {l : List Int} {j : Int} (h : 0 ≤ j) (h2 : j < (l.length : Int)) : idx l j = some (l.getD j.toNat 0) := by
  have : j.toNat < l.length := by omega
  simp [idx, h, this]
theorem eta_core (d : T_core_Core) : (⟨d.kind, d.shape, d.buffer, d.starts, d.axis, d.amount, d.perm, d.kids⟩ : T_core_Core) = d := by cases d; rfl
def nodeE (c : T_ref14_Core) (bs : List (List Int)) : Prop := ∃ b, m_ref14_node (c, bs) = some b ∧ m_core_node (conv c, bs) = some b
theorem node_k1 (c : T_ref14_Core) (bs : List (List Int)) (hk : c.kind = 1) (hm : smC c) : nodeE c bs := by
  obtain ⟨f1, f2, f3, f4, f5⟩ := smC_f hm
  obtain ⟨q1, q2, q3, q4, q5, q6, q7, q8⟩ := conv_f c
  have hS : Sm c.shape.length := Sm_of (show c.shape.length ≤ 1000 by omega)
  unfold nodeE
  have hg : ∀ {β : Type} {f : Unit → Option β} {inst : Decidable ((0 : Int) ≤ 1 ∧ (1 : Int) < 8)}, (@guardM ((0 : Int) ≤ 1 ∧ (1 : Int) < 8) inst >>= f) = f () := fun {β f inst} => @guard_bind _ inst _ _ _ ⟨by omega, by omega⟩ rfl
  have ht : idx ([0, 0, 1, 1, 1, 1, 1, 2] : List Int) 1 = some 0 := rfl
  by_cases hA : ¬ (c.kids.length : Int) = 0
  · have hA2 : ((c.kids.length : Int) != 0) = true := by simpa using hA
    refine ⟨false, ?_, ?_⟩
    · simp only [m_ref14_node, hk, bind_ok, hA2, ne_eq, not_true, not_false_eq_true, if_true, if_false, decide_false, Bool.false_eq_true, show ¬ ((1 : Int) = 0) by decide, show ¬ ((1 : Int) = 2) by decide, show ¬ ((1 : Int) = 3) by decide, show ¬ ((1 : Int) = 4) by decide, show ¬ ((1 : Int) = 5) by decide, show ¬ ((1 : Int) = 6) by decide, show ¬ ((1 : Int) = 7) by decide, show ¬ ((1 : Int) < 1) by decide, show ¬ ((1 : Int) > 7) by decide]
    · simp only [m_core_node, eta_core, q1, q8, hk, bind_ok, hg, ht, hA2, ne_eq, not_true, not_false_eq_true, if_true, if_false, decide_false, Bool.false_eq_true, show ¬ ((1 : Int) = 0) by decide, show ¬ ((1 : Int) = 2) by decide, show ¬ ((1 : Int) = 3) by decide, show ¬ ((1 : Int) = 4) by decide, show ¬ ((1 : Int) = 5) by decide, show ¬ ((1 : Int) = 6) by decide, show ¬ ((1 : Int) = 7) by decide, show ¬ ((1 : Int) < 1) by decide, show ¬ ((1 : Int) > 7) by decide]
  replace hA := Decidable.not_not.1 hA
  have hA2 : ((c.kids.length : Int) != 0) = false := by simp [hA]
  have e3 : ∀ v, m_ref02_Equal (v, c.shape) = some (decide (v = c.shape)) := fun v => Equal_ok' _ _ hS
  have e4 : ∀ v, m_shape_Equal (v, c.shape) = some (decide (v = c.shape)) := fun v => sEqual_ok' _ _ hS
  by_cases hC : ¬ checkR c.shape = 0
  · have hC2 : (checkR c.shape != 0) = true := by simpa using hC
    refine ⟨false, ?_, ?_⟩
    · simp only [m_ref14_node, hk, bind_ok, Check_ok c.shape hS, hA2, hC2, ne_eq, not_true, not_false_eq_true, if_true, if_false, decide_false, Bool.false_eq_true, show ¬ ((1 : Int) = 0) by decide, show ¬ ((1 : Int) = 2) by decide, show ¬ ((1 : Int) = 3) by decide, show ¬ ((1 : Int) = 4) by decide, show ¬ ((1 : Int) = 5) by decide, show ¬ ((1 : Int) = 6) by decide, show ¬ ((1 : Int) = 7) by decide, show ¬ ((1 : Int) < 1) by decide, show ¬ ((1 : Int) > 7) by decide, show ((1 : Int) == 4) = false by decide, show ((1 : Int) == 7) = false by decide, show ((1 : Int) != 4) = true by decide, show ((1 : Int) != 7) = true by decide]
    · simp only [m_core_node, m_core_fields, eta_core, q1, q2, q3, q4, q5, q6, q7, q8, hk, bind_ok, shapeCheck_ok c.shape hS, hg, ht, hA2, hC2, ne_eq, not_true, not_false_eq_true, if_true, if_false, decide_false, Bool.false_eq_true, show ¬ ((1 : Int) = 0) by decide, show ¬ ((1 : Int) = 2) by decide, show ¬ ((1 : Int) = 3) by decide, show ¬ ((1 : Int) = 4) by decide, show ¬ ((1 : Int) = 5) by decide, show ¬ ((1 : Int) = 6) by decide, show ¬ ((1 : Int) = 7) by decide, show ¬ ((1 : Int) < 1) by decide, show ¬ ((1 : Int) > 7) by decide, show ((1 : Int) == 4) = false by decide, show ((1 : Int) == 7) = false by decide]
      generalize decide ((c.starts.length : Int) > 0) = B2
      generalize (c.axis != 0) = B3
      generalize (c.amount != 0) = B4
      generalize decide ((c.perm.length : Int) > 0) = B5
      cases B2 <;> cases B3 <;> cases B4 <;> cases B5 <;> rfl
  replace hC := Decidable.not_not.1 hC
  have hC2 : (checkR c.shape != 0) = false := by simp [hC]
  have h16 := (checkR_ok hC).1
  simp only [m_ref14_node, hk, bind_ok, Check_ok c.shape hS, hA2, hC2, ne_eq, not_true, not_false_eq_true, if_true, if_false, decide_false, Bool.false_eq_true, show ¬ ((1 : Int) = 0) by decide, show ¬ ((1 : Int) = 2) by decide, show ¬ ((1 : Int) = 3) by decide, show ¬ ((1 : Int) = 4) by decide, show ¬ ((1 : Int) = 5) by decide, show ¬ ((1 : Int) = 6) by decide, show ¬ ((1 : Int) = 7) by decide, show ¬ ((1 : Int) < 1) by decide, show ¬ ((1 : Int) > 7) by decide, show ((1 : Int) == 4) = false by decide, show ((1 : Int) == 7) = false by decide, show ((1 : Int) != 4) = true by decide, show ((1 : Int) != 7) = true by decide, e3, e4, m_core_nothing]
  simp only [m_core_node, m_core_fields, eta_core, q1, q2, q3, q4, q5, q6, q7, q8, hk, bind_ok, shapeCheck_ok c.shape hS, hg, ht, hA2, hC2, ne_eq, not_true, not_false_eq_true, if_true, if_false, decide_false, Bool.false_eq_true, show ¬ ((1 : Int) = 0) by decide, show ¬ ((1 : Int) = 2) by decide, show ¬ ((1 : Int) = 3) by decide, show ¬ ((1 : Int) = 4) by decide, show ¬ ((1 : Int) = 5) by decide, show ¬ ((1 : Int) = 6) by decide, show ¬ ((1 : Int) = 7) by decide, show ¬ ((1 : Int) < 1) by decide, show ¬ ((1 : Int) > 7) by decide, show ((1 : Int) == 4) = false by decide, show ((1 : Int) == 7) = false by decide, e3, e4, m_core_nothing]
  generalize decide ((c.starts.length : Int) > 0) = B2
  generalize (c.axis != 0) = B3
  generalize (c.amount != 0) = B4
  generalize decide ((c.perm.length : Int) > 0) = B5
  by_cases hB : (B2 || B3 || B4 || B5) = true
  · refine ⟨false, ?_, ?_⟩
    · revert hB; cases B2 <;> cases B3 <;> cases B4 <;> cases B5 <;> first | exact fun _ => rfl | exact fun h => absurd h (by decide)
    · revert hB; cases B2 <;> cases B3 <;> cases B4 <;> cases B5 <;> first | exact fun _ => rfl | exact fun h => absurd h (by decide)
  have hB2 : B2 = false ∧ B3 = false ∧ B4 = false ∧ B5 = false := by revert hB; cases B2 <;> cases B3 <;> cases B4 <;> cases B5 <;> simp
  obtain ⟨rfl, rfl, rfl, rfl⟩ := hB2
  clear hB
  simp only [bind_ok, if_true, if_false, Bool.false_eq_true, Bool.true_eq_false, Bool.not_true, Bool.not_false]
  by_cases hb : 0 ≤ c.buffer ∧ c.buffer < (bs.length : Int)
  · have hi : c.buffer.toNat < bs.length := by omega
    have e : idx bs c.buffer = some bs[c.buffer.toNat] := by simp [idx, hb.1, hi]
    simp only [show c.buffer ≥ 0 from hb.1, show ¬ c.buffer < 0 by omega, decide_eq_true hb.2, decide_eq_false (show ¬ c.buffer ≥ (bs.length : Int) by omega), if_true, if_false, bind_ok, Bool.false_eq_true, e, e3, e4]
    refine ⟨decide (bs[c.buffer.toNat] = c.shape), rfl, ?_⟩
    cases decide (bs[c.buffer.toNat] = c.shape) <;> rfl
  · by_cases h0 : c.buffer < 0
    · exact ⟨false, by simp only [show ¬ c.buffer ≥ 0 by omega, if_false, bind_ok, Bool.false_eq_true], by simp only [h0, if_true, bind_ok]⟩
    · have h1 : c.buffer ≥ (bs.length : Int) := by omega
      exact ⟨false, by simp only [show c.buffer ≥ 0 by omega, decide_eq_false (show ¬ c.buffer < (bs.length : Int) by omega), if_true, if_false, bind_ok, Bool.false_eq_true], by simp only [h0, decide_eq_true h1, if_true, if_false, bind_ok]⟩
theorem node_k2 (c : T_ref14_Core) (bs : List (List Int)) (hk : c.kind = 2) (hm : smC c) : nodeE c bs := by
  obtain ⟨f1, f2, f3, f4, f5⟩ := smC_f hm
  obtain ⟨q1, q2, q3, q4, q5, q6, q7, q8⟩ := conv_f c
  have hS : Sm c.shape.length := Sm_of (show c.shape.length ≤ 1000 by omega)
  unfold nodeE
  have hg : ∀ {β : Type} {f : Unit → Option β} {inst : Decidable ((0 : Int) ≤ 2 ∧ (2 : Int) < 8)}, (@guardM ((0 : Int) ≤ 2 ∧ (2 : Int) < 8) inst >>= f) = f () := fun {β f inst} => @guard_bind _ inst _ _ _ ⟨by omega, by omega⟩ rfl
  have ht : idx ([0, 0, 1, 1, 1, 1, 1, 2] : List Int) 2 = some 1 := rfl
  by_cases hA : ¬ (c.kids.length : Int) = 1
  · have hA2 : ((c.kids.length : Int) != 1) = true := by simpa using hA
    refine ⟨false, ?_, ?_⟩
    · simp only [m_ref14_node, hk, bind_ok, hA2, ne_eq, not_true, not_false_eq_true, if_true, if_false, decide_false, Bool.false_eq_true, show ¬ ((2 : Int) = 0) by decide, show ¬ ((2 : Int) = 1) by decide, show ¬ ((2 : Int) = 3) by decide, show ¬ ((2 : Int) = 4) by decide, show ¬ ((2 : Int) = 5) by decide, show ¬ ((2 : Int) = 6) by decide, show ¬ ((2 : Int) = 7) by decide, show ¬ ((2 : Int) < 1) by decide, show ¬ ((2 : Int) > 7) by decide]
    · simp only [m_core_node, eta_core, q1, q8, hk, bind_ok, hg, ht, hA2, ne_eq, not_true, not_false_eq_true, if_true, if_false, decide_false, Bool.false_eq_true, show ¬ ((2 : Int) = 0) by decide, show ¬ ((2 : Int) = 1) by decide, show ¬ ((2 : Int) = 3) by decide, show ¬ ((2 : Int) = 4) by decide, show ¬ ((2 : Int) = 5) by decide, show ¬ ((2 : Int) = 6) by decide, show ¬ ((2 : Int) = 7) by decide, show ¬ ((2 : Int) < 1) by decide, show ¬ ((2 : Int) > 7) by decide]
  replace hA := Decidable.not_not.1 hA
  have hA2 : ((c.kids.length : Int) != 1) = false := by simp [hA]
  obtain ⟨kid, hkd⟩ := kids_one (c := c) hA
  have hkl : kid.shape.length ≤ 40 := (smC_f (smCs_mem f5 kid (by rw [hkd]; simp))).1
  have e3 : m_ref14_node_L1 (c, 0) = _ := rwin_L1 c c.starts [] rfl (Sm_of (show c.starts.length ≤ 1000 by omega))
  have e4 := gwin_ok c.starts (Sm_of (show c.starts.length ≤ 1000 by omega))
  have i1 := conv_kid hkd
  have i2 := idx_zero hkd
  by_cases hC : ¬ checkR c.shape = 0
  · have hC2 : (checkR c.shape != 0) = true := by simpa using hC
    refine ⟨false, ?_, ?_⟩
    · simp only [m_ref14_node, hk, bind_ok, Check_ok c.shape hS, hA2, hC2, ne_eq, not_true, not_false_eq_true, if_true, if_false, decide_false, Bool.false_eq_true, show ¬ ((2 : Int) = 0) by decide, show ¬ ((2 : Int) = 1) by decide, show ¬ ((2 : Int) = 3) by decide, show ¬ ((2 : Int) = 4) by decide, show ¬ ((2 : Int) = 5) by decide, show ¬ ((2 : Int) = 6) by decide, show ¬ ((2 : Int) = 7) by decide, show ¬ ((2 : Int) < 1) by decide, show ¬ ((2 : Int) > 7) by decide, show ((2 : Int) == 4) = false by decide, show ((2 : Int) == 7) = false by decide, show ((2 : Int) != 4) = true by decide, show ((2 : Int) != 7) = true by decide]
    · simp only [m_core_node, m_core_fields, eta_core, q1, q2, q3, q4, q5, q6, q7, q8, hk, bind_ok, shapeCheck_ok c.shape hS, hg, ht, hA2, hC2, ne_eq, not_true, not_false_eq_true, if_true, if_false, decide_false, Bool.false_eq_true, show ¬ ((2 : Int) = 0) by decide, show ¬ ((2 : Int) = 1) by decide, show ¬ ((2 : Int) = 3) by decide, show ¬ ((2 : Int) = 4) by decide, show ¬ ((2 : Int) = 5) by decide, show ¬ ((2 : Int) = 6) by decide, show ¬ ((2 : Int) = 7) by decide, show ¬ ((2 : Int) < 1) by decide, show ¬ ((2 : Int) > 7) by decide, show ((2 : Int) == 4) = false by decide, show ((2 : Int) == 7) = false by decide]
      generalize (c.buffer != 0) = B1
      generalize (c.axis != 0) = B3
      generalize (c.amount != 0) = B4
      generalize decide ((c.perm.length : Int) > 0) = B5
      cases B1 <;> cases B3 <;> cases B4 <;> cases B5 <;> rfl
  replace hC := Decidable.not_not.1 hC
  have hC2 : (checkR c.shape != 0) = false := by simp [hC]
  have h16 := (checkR_ok hC).1
  simp only [m_ref14_node, hk, bind_ok, Check_ok c.shape hS, hA2, hC2, ne_eq, not_true, not_false_eq_true, if_true, if_false, decide_false, Bool.false_eq_true, show ¬ ((2 : Int) = 0) by decide, show ¬ ((2 : Int) = 1) by decide, show ¬ ((2 : Int) = 3) by decide, show ¬ ((2 : Int) = 4) by decide, show ¬ ((2 : Int) = 5) by decide, show ¬ ((2 : Int) = 6) by decide, show ¬ ((2 : Int) = 7) by decide, show ¬ ((2 : Int) < 1) by decide, show ¬ ((2 : Int) > 7) by decide, show ((2 : Int) == 4) = false by decide, show ((2 : Int) == 7) = false by decide, show ((2 : Int) != 4) = true by decide, show ((2 : Int) != 7) = true by decide, e3, e4, i1, i2, conv_shape, m_core_rightWindow, q1, q2, q3, q4, q5, q6, q7, q8]
  simp only [m_core_node, m_core_fields, eta_core, q1, q2, q3, q4, q5, q6, q7, q8, hk, bind_ok, shapeCheck_ok c.shape hS, hg, ht, hA2, hC2, ne_eq, not_true, not_false_eq_true, if_true, if_false, decide_false, Bool.false_eq_true, show ¬ ((2 : Int) = 0) by decide, show ¬ ((2 : Int) = 1) by decide, show ¬ ((2 : Int) = 3) by decide, show ¬ ((2 : Int) = 4) by decide, show ¬ ((2 : Int) = 5) by decide, show ¬ ((2 : Int) = 6) by decide, show ¬ ((2 : Int) = 7) by decide, show ¬ ((2 : Int) < 1) by decide, show ¬ ((2 : Int) > 7) by decide, show ((2 : Int) == 4) = false by decide, show ((2 : Int) == 7) = false by decide, e3, e4, i1, i2, conv_shape, m_core_rightWindow, q1, q2, q3, q4, q5, q6, q7, q8]
  generalize (c.buffer != 0) = B1
  generalize (c.axis != 0) = B3
  generalize (c.amount != 0) = B4
  generalize decide ((c.perm.length : Int) > 0) = B5
  by_cases hB : (B1 || B3 || B4 || B5) = true
  · refine ⟨false, ?_, ?_⟩
    · revert hB; cases B1 <;> cases B3 <;> cases B4 <;> cases B5 <;> first | exact fun _ => rfl | exact fun h => absurd h (by decide)
    · revert hB; cases B1 <;> cases B3 <;> cases B4 <;> cases B5 <;> first | exact fun _ => rfl | exact fun h => absurd h (by decide)
  have hB2 : B1 = false ∧ B3 = false ∧ B4 = false ∧ B5 = false := by revert hB; cases B1 <;> cases B3 <;> cases B4 <;> cases B5 <;> simp
  obtain ⟨rfl, rfl, rfl, rfl⟩ := hB2
  clear hB
  simp only [bind_ok, if_true, if_false, Bool.false_eq_true, Bool.true_eq_false, Bool.not_true, Bool.not_false]
  cases farB c.starts
  · by_cases hq : (c.starts.length : Int) = (c.shape.length : Int)
    · refine ⟨(kid.shape.length : Int) == (c.shape.length : Int), by simp [hq, i2, bind_ok], ?_⟩
      simp only [hq, if_true, bind_ok]
      cases (kid.shape.length : Int) == (c.shape.length : Int) <;> rfl
    · exact ⟨false, by simp [hq], by simp [hq, bind_ok]⟩
  · refine ⟨false, by simp, ?_⟩
    by_cases hq : (c.starts.length : Int) = (c.shape.length : Int)
    · simp only [hq, if_true, bind_ok]
      cases (kid.shape.length : Int) == (c.shape.length : Int) <;> rfl
    · simp [hq, bind_ok]
theorem node_k3 (c : T_ref14_Core) (bs : List (List Int)) (hk : c.kind = 3) (hm : smC c) : nodeE c bs := by
  obtain ⟨f1, f2, f3, f4, f5⟩ := smC_f hm
  obtain ⟨q1, q2, q3, q4, q5, q6, q7, q8⟩ := conv_f c
  have hS : Sm c.shape.length := Sm_of (show c.shape.length ≤ 1000 by omega)
  unfold nodeE
  have hg : ∀ {β : Type} {f : Unit → Option β} {inst : Decidable ((0 : Int) ≤ 3 ∧ (3 : Int) < 8)}, (@guardM ((0 : Int) ≤ 3 ∧ (3 : Int) < 8) inst >>= f) = f () := fun {β f inst} => @guard_bind _ inst _ _ _ ⟨by omega, by omega⟩ rfl
  have ht : idx ([0, 0, 1, 1, 1, 1, 1, 2] : List Int) 3 = some 1 := rfl
  by_cases hA : ¬ (c.kids.length : Int) = 1
  · have hA2 : ((c.kids.length : Int) != 1) = true := by simpa using hA
    refine ⟨false, ?_, ?_⟩
    · simp only [m_ref14_node, hk, bind_ok, hA2, ne_eq, not_true, not_false_eq_true, if_true, if_false, decide_false, Bool.false_eq_true, show ¬ ((3 : Int) = 0) by decide, show ¬ ((3 : Int) = 1) by decide, show ¬ ((3 : Int) = 2) by decide, show ¬ ((3 : Int) = 4) by decide, show ¬ ((3 : Int) = 5) by decide, show ¬ ((3 : Int) = 6) by decide, show ¬ ((3 : Int) = 7) by decide, show ¬ ((3 : Int) < 1) by decide, show ¬ ((3 : Int) > 7) by decide]
    · simp only [m_core_node, eta_core, q1, q8, hk, bind_ok, hg, ht, hA2, ne_eq, not_true, not_false_eq_true, if_true, if_false, decide_false, Bool.false_eq_true, show ¬ ((3 : Int) = 0) by decide, show ¬ ((3 : Int) = 1) by decide, show ¬ ((3 : Int) = 2) by decide, show ¬ ((3 : Int) = 4) by decide, show ¬ ((3 : Int) = 5) by decide, show ¬ ((3 : Int) = 6) by decide, show ¬ ((3 : Int) = 7) by decide, show ¬ ((3 : Int) < 1) by decide, show ¬ ((3 : Int) > 7) by decide]
  replace hA := Decidable.not_not.1 hA
  have hA2 : ((c.kids.length : Int) != 1) = false := by simp [hA]
  obtain ⟨kid, hkd⟩ := kids_one (c := c) hA
  have hkl : kid.shape.length ≤ 40 := (smC_f (smCs_mem f5 kid (by rw [hkd]; simp))).1
  have e3 := ralike_ok c kid [] hkd hS
  have e4 := galike_ok c kid [] hkd hS
  by_cases hC : ¬ checkR c.shape = 0
  · have hC2 : (checkR c.shape != 0) = true := by simpa using hC
    refine ⟨false, ?_, ?_⟩
    · simp only [m_ref14_node, hk, bind_ok, Check_ok c.shape hS, hA2, hC2, ne_eq, not_true, not_false_eq_true, if_true, if_false, decide_false, Bool.false_eq_true, show ¬ ((3 : Int) = 0) by decide, show ¬ ((3 : Int) = 1) by decide, show ¬ ((3 : Int) = 2) by decide, show ¬ ((3 : Int) = 4) by decide, show ¬ ((3 : Int) = 5) by decide, show ¬ ((3 : Int) = 6) by decide, show ¬ ((3 : Int) = 7) by decide, show ¬ ((3 : Int) < 1) by decide, show ¬ ((3 : Int) > 7) by decide, show ((3 : Int) == 4) = false by decide, show ((3 : Int) == 7) = false by decide, show ((3 : Int) != 4) = true by decide, show ((3 : Int) != 7) = true by decide]
    · simp only [m_core_node, m_core_fields, eta_core, q1, q2, q3, q4, q5, q6, q7, q8, hk, bind_ok, shapeCheck_ok c.shape hS, hg, ht, hA2, hC2, ne_eq, not_true, not_false_eq_true, if_true, if_false, decide_false, Bool.false_eq_true, show ¬ ((3 : Int) = 0) by decide, show ¬ ((3 : Int) = 1) by decide, show ¬ ((3 : Int) = 2) by decide, show ¬ ((3 : Int) = 4) by decide, show ¬ ((3 : Int) = 5) by decide, show ¬ ((3 : Int) = 6) by decide, show ¬ ((3 : Int) = 7) by decide, show ¬ ((3 : Int) < 1) by decide, show ¬ ((3 : Int) > 7) by decide, show ((3 : Int) == 4) = false by decide, show ((3 : Int) == 7) = false by decide]
      generalize (c.buffer != 0) = B1
      generalize decide ((c.starts.length : Int) > 0) = B2
      generalize (c.amount != 0) = B4
      generalize decide ((c.perm.length : Int) > 0) = B5
      cases B1 <;> cases B2 <;> cases B4 <;> cases B5 <;> rfl
  replace hC := Decidable.not_not.1 hC
  have hC2 : (checkR c.shape != 0) = false := by simp [hC]
  have h16 := (checkR_ok hC).1
  simp only [m_ref14_node, hk, bind_ok, Check_ok c.shape hS, hA2, hC2, ne_eq, not_true, not_false_eq_true, if_true, if_false, decide_false, Bool.false_eq_true, show ¬ ((3 : Int) = 0) by decide, show ¬ ((3 : Int) = 1) by decide, show ¬ ((3 : Int) = 2) by decide, show ¬ ((3 : Int) = 4) by decide, show ¬ ((3 : Int) = 5) by decide, show ¬ ((3 : Int) = 6) by decide, show ¬ ((3 : Int) = 7) by decide, show ¬ ((3 : Int) < 1) by decide, show ¬ ((3 : Int) > 7) by decide, show ((3 : Int) == 4) = false by decide, show ((3 : Int) == 7) = false by decide, show ((3 : Int) != 4) = true by decide, show ((3 : Int) != 7) = true by decide, e3, e4, m_core_rightReverse]
  simp only [m_core_node, m_core_fields, eta_core, q1, q2, q3, q4, q5, q6, q7, q8, hk, bind_ok, shapeCheck_ok c.shape hS, hg, ht, hA2, hC2, ne_eq, not_true, not_false_eq_true, if_true, if_false, decide_false, Bool.false_eq_true, show ¬ ((3 : Int) = 0) by decide, show ¬ ((3 : Int) = 1) by decide, show ¬ ((3 : Int) = 2) by decide, show ¬ ((3 : Int) = 4) by decide, show ¬ ((3 : Int) = 5) by decide, show ¬ ((3 : Int) = 6) by decide, show ¬ ((3 : Int) = 7) by decide, show ¬ ((3 : Int) < 1) by decide, show ¬ ((3 : Int) > 7) by decide, show ((3 : Int) == 4) = false by decide, show ((3 : Int) == 7) = false by decide, e3, e4, m_core_rightReverse]
  generalize (c.buffer != 0) = B1
  generalize decide ((c.starts.length : Int) > 0) = B2
  generalize (c.amount != 0) = B4
  generalize decide ((c.perm.length : Int) > 0) = B5
  by_cases hB : (B1 || B2 || B4 || B5) = true
  · refine ⟨false, ?_, ?_⟩
    · revert hB; cases B1 <;> cases B2 <;> cases B4 <;> cases B5 <;> first | exact fun _ => rfl | exact fun h => absurd h (by decide)
    · revert hB; cases B1 <;> cases B2 <;> cases B4 <;> cases B5 <;> first | exact fun _ => rfl | exact fun h => absurd h (by decide)
  have hB2 : B1 = false ∧ B2 = false ∧ B4 = false ∧ B5 = false := by revert hB; cases B1 <;> cases B2 <;> cases B4 <;> cases B5 <;> simp
  obtain ⟨rfl, rfl, rfl, rfl⟩ := hB2
  clear hB
  simp only [bind_ok, if_true, if_false, Bool.false_eq_true, Bool.true_eq_false, Bool.not_true, Bool.not_false]
  exact ⟨_, rfl, rfl⟩
theorem node_k4 (c : T_ref14_Core) (bs : List (List Int)) (hk : c.kind = 4) (hm : smC c) : nodeE c bs := by
  obtain ⟨f1, f2, f3, f4, f5⟩ := smC_f hm
  obtain ⟨q1, q2, q3, q4, q5, q6, q7, q8⟩ := conv_f c
  have hS : Sm c.shape.length := Sm_of (show c.shape.length ≤ 1000 by omega)
  unfold nodeE
  have hg : ∀ {β : Type} {f : Unit → Option β} {inst : Decidable ((0 : Int) ≤ 4 ∧ (4 : Int) < 8)}, (@guardM ((0 : Int) ≤ 4 ∧ (4 : Int) < 8) inst >>= f) = f () := fun {β f inst} => @guard_bind _ inst _ _ _ ⟨by omega, by omega⟩ rfl
  have ht : idx ([0, 0, 1, 1, 1, 1, 1, 2] : List Int) 4 = some 1 := rfl
  by_cases hA : ¬ (c.kids.length : Int) = 1
  · have hA2 : ((c.kids.length : Int) != 1) = true := by simpa using hA
    refine ⟨false, ?_, ?_⟩
    · simp only [m_ref14_node, hk, bind_ok, hA2, ne_eq, not_true, not_false_eq_true, if_true, if_false, decide_false, Bool.false_eq_true, show ¬ ((4 : Int) = 0) by decide, show ¬ ((4 : Int) = 1) by decide, show ¬ ((4 : Int) = 2) by decide, show ¬ ((4 : Int) = 3) by decide, show ¬ ((4 : Int) = 5) by decide, show ¬ ((4 : Int) = 6) by decide, show ¬ ((4 : Int) = 7) by decide, show ¬ ((4 : Int) < 1) by decide, show ¬ ((4 : Int) > 7) by decide]
    · simp only [m_core_node, eta_core, q1, q8, hk, bind_ok, hg, ht, hA2, ne_eq, not_true, not_false_eq_true, if_true, if_false, decide_false, Bool.false_eq_true, show ¬ ((4 : Int) = 0) by decide, show ¬ ((4 : Int) = 1) by decide, show ¬ ((4 : Int) = 2) by decide, show ¬ ((4 : Int) = 3) by decide, show ¬ ((4 : Int) = 5) by decide, show ¬ ((4 : Int) = 6) by decide, show ¬ ((4 : Int) = 7) by decide, show ¬ ((4 : Int) < 1) by decide, show ¬ ((4 : Int) > 7) by decide]
  replace hA := Decidable.not_not.1 hA
  have hA2 : ((c.kids.length : Int) != 1) = false := by simp [hA]
  obtain ⟨kid, hkd⟩ := kids_one (c := c) hA
  have hkl : kid.shape.length ≤ 40 := (smC_f (smCs_mem f5 kid (by rw [hkd]; simp))).1
  have e3 := ralike_ok c kid [] hkd hS
  have e4 := galike_ok c kid [] hkd hS
  by_cases hC : ¬ checkR c.shape = 0
  · have hC2 : (checkR c.shape != 0) = true := by simpa using hC
    refine ⟨false, ?_, ?_⟩
    · simp only [m_ref14_node, hk, bind_ok, Check_ok c.shape hS, hA2, hC2, ne_eq, not_true, not_false_eq_true, if_true, if_false, decide_false, Bool.false_eq_true, show ¬ ((4 : Int) = 0) by decide, show ¬ ((4 : Int) = 1) by decide, show ¬ ((4 : Int) = 2) by decide, show ¬ ((4 : Int) = 3) by decide, show ¬ ((4 : Int) = 5) by decide, show ¬ ((4 : Int) = 6) by decide, show ¬ ((4 : Int) = 7) by decide, show ¬ ((4 : Int) < 1) by decide, show ¬ ((4 : Int) > 7) by decide, show ((4 : Int) == 4) = true by decide, show ((4 : Int) == 7) = false by decide, show ((4 : Int) != 4) = false by decide, show ((4 : Int) != 7) = true by decide]
    · simp only [m_core_node, m_core_fields, eta_core, q1, q2, q3, q4, q5, q6, q7, q8, hk, bind_ok, shapeCheck_ok c.shape hS, hg, ht, hA2, hC2, ne_eq, not_true, not_false_eq_true, if_true, if_false, decide_false, Bool.false_eq_true, show ¬ ((4 : Int) = 0) by decide, show ¬ ((4 : Int) = 1) by decide, show ¬ ((4 : Int) = 2) by decide, show ¬ ((4 : Int) = 3) by decide, show ¬ ((4 : Int) = 5) by decide, show ¬ ((4 : Int) = 6) by decide, show ¬ ((4 : Int) = 7) by decide, show ¬ ((4 : Int) < 1) by decide, show ¬ ((4 : Int) > 7) by decide, show ((4 : Int) == 4) = true by decide, show ((4 : Int) == 7) = false by decide]
      generalize (c.buffer != 0) = B1
      generalize decide ((c.starts.length : Int) > 0) = B2
      generalize decide ((c.perm.length : Int) > 0) = B5
      cases B1 <;> cases B2 <;> cases B5 <;> rfl
  replace hC := Decidable.not_not.1 hC
  have hC2 : (checkR c.shape != 0) = false := by simp [hC]
  have h16 := (checkR_ok hC).1
  simp only [m_ref14_node, hk, bind_ok, Check_ok c.shape hS, hA2, hC2, ne_eq, not_true, not_false_eq_true, if_true, if_false, decide_false, Bool.false_eq_true, show ¬ ((4 : Int) = 0) by decide, show ¬ ((4 : Int) = 1) by decide, show ¬ ((4 : Int) = 2) by decide, show ¬ ((4 : Int) = 3) by decide, show ¬ ((4 : Int) = 5) by decide, show ¬ ((4 : Int) = 6) by decide, show ¬ ((4 : Int) = 7) by decide, show ¬ ((4 : Int) < 1) by decide, show ¬ ((4 : Int) > 7) by decide, show ((4 : Int) == 4) = true by decide, show ((4 : Int) == 7) = false by decide, show ((4 : Int) != 4) = false by decide, show ((4 : Int) != 7) = true by decide, e3, e4, m_core_rightRotate, q2, q5, q6]
  simp only [m_core_node, m_core_fields, eta_core, q1, q2, q3, q4, q5, q6, q7, q8, hk, bind_ok, shapeCheck_ok c.shape hS, hg, ht, hA2, hC2, ne_eq, not_true, not_false_eq_true, if_true, if_false, decide_false, Bool.false_eq_true, show ¬ ((4 : Int) = 0) by decide, show ¬ ((4 : Int) = 1) by decide, show ¬ ((4 : Int) = 2) by decide, show ¬ ((4 : Int) = 3) by decide, show ¬ ((4 : Int) = 5) by decide, show ¬ ((4 : Int) = 6) by decide, show ¬ ((4 : Int) = 7) by decide, show ¬ ((4 : Int) < 1) by decide, show ¬ ((4 : Int) > 7) by decide, show ((4 : Int) == 4) = true by decide, show ((4 : Int) == 7) = false by decide, e3, e4, m_core_rightRotate, q2, q5, q6]
  generalize (c.buffer != 0) = B1
  generalize decide ((c.starts.length : Int) > 0) = B2
  generalize decide ((c.perm.length : Int) > 0) = B5
  by_cases hB : (B1 || B2 || B5) = true
  · refine ⟨false, ?_, ?_⟩
    · revert hB; cases B1 <;> cases B2 <;> cases B5 <;> first | exact fun _ => rfl | exact fun h => absurd h (by decide)
    · revert hB; cases B1 <;> cases B2 <;> cases B5 <;> first | exact fun _ => rfl | exact fun h => absurd h (by decide)
  have hB2 : B1 = false ∧ B2 = false ∧ B5 = false := by revert hB; cases B1 <;> cases B2 <;> cases B5 <;> simp
  obtain ⟨rfl, rfl, rfl⟩ := hB2
  clear hB
  simp only [bind_ok, if_true, if_false, Bool.false_eq_true, Bool.true_eq_false, Bool.not_true, Bool.not_false]
  by_cases h1 : kid.shape = c.shape
  · by_cases h2 : c.axis ≥ 0
    · by_cases h3 : c.axis < (c.shape.length : Int)
      · have hi := idx_getD h2 h3
        simp only [decide_eq_true h1, decide_eq_true h2, decide_eq_true h3, Bool.and_self, if_true, bind_ok, hi]
        by_cases h4 : c.amount ≥ 0
        · simp only [decide_eq_true h4, if_true, bind_ok]
          by_cases h5 : c.amount = 0
          · refine ⟨true, by rw [if_pos h5], ?_⟩
            rw [decide_eq_true]
            split <;> omega
          · refine ⟨decide (c.amount < c.shape.getD c.axis.toNat 0), by rw [if_neg h5], ?_⟩
            congr 1
            rw [Bool.eq_iff_iff, decide_eq_true_eq, decide_eq_true_eq]
            split <;> omega
        · exact ⟨false, by simp only [decide_eq_false h4, Bool.false_eq_true, if_false, bind_ok], by simp only [decide_eq_false h4, Bool.false_eq_true, if_false, bind_ok]⟩
      · exact ⟨false, by simp [h1, h2, h3], by simp [h1, h2, h3]⟩
    · exact ⟨false, by simp [h1, h2], by simp [h1, h2]⟩
  · exact ⟨false, by simp [h1], by simp [h1]⟩
theorem node_k5 (c : T_ref14_Core) (bs : List (List Int)) (hk : c.kind = 5) (hm : smC c) : nodeE c bs := by
  obtain ⟨f1, f2, f3, f4, f5⟩ := smC_f hm
  obtain ⟨q1, q2, q3, q4, q5, q6, q7, q8⟩ := conv_f c
  have hS : Sm c.shape.length := Sm_of (show c.shape.length ≤ 1000 by omega)
  unfold nodeE
  have hg : ∀ {β : Type} {f : Unit → Option β} {inst : Decidable ((0 : Int) ≤ 5 ∧ (5 : Int) < 8)}, (@guardM ((0 : Int) ≤ 5 ∧ (5 : Int) < 8) inst >>= f) = f () := fun {β f inst} => @guard_bind _ inst _ _ _ ⟨by omega, by omega⟩ rfl
  have ht : idx ([0, 0, 1, 1, 1, 1, 1, 2] : List Int) 5 = some 1 := rfl
  by_cases hA : ¬ (c.kids.length : Int) = 1
  · have hA2 : ((c.kids.length : Int) != 1) = true := by simpa using hA
    refine ⟨false, ?_, ?_⟩
    · simp only [m_ref14_node, hk, bind_ok, hA2, ne_eq, not_true, not_false_eq_true, if_true, if_false, decide_false, Bool.false_eq_true, show ¬ ((5 : Int) = 0) by decide, show ¬ ((5 : Int) = 1) by decide, show ¬ ((5 : Int) = 2) by decide, show ¬ ((5 : Int) = 3) by decide, show ¬ ((5 : Int) = 4) by decide, show ¬ ((5 : Int) = 6) by decide, show ¬ ((5 : Int) = 7) by decide, show ¬ ((5 : Int) < 1) by decide, show ¬ ((5 : Int) > 7) by decide]
    · simp only [m_core_node, eta_core, q1, q8, hk, bind_ok, hg, ht, hA2, ne_eq, not_true, not_false_eq_true, if_true, if_false, decide_false, Bool.false_eq_true, show ¬ ((5 : Int) = 0) by decide, show ¬ ((5 : Int) = 1) by decide, show ¬ ((5 : Int) = 2) by decide, show ¬ ((5 : Int) = 3) by decide, show ¬ ((5 : Int) = 4) by decide, show ¬ ((5 : Int) = 6) by decide, show ¬ ((5 : Int) = 7) by decide, show ¬ ((5 : Int) < 1) by decide, show ¬ ((5 : Int) > 7) by decide]
  replace hA := Decidable.not_not.1 hA
  have hA2 : ((c.kids.length : Int) != 1) = false := by simp [hA]
  obtain ⟨kid, hkd⟩ := kids_one (c := c) hA
  have hkl : kid.shape.length ≤ 40 := (smC_f (smCs_mem f5 kid (by rw [hkd]; simp))).1
  have e3 := rtr_ok c kid (idx_zero hkd) (Sm_of (show kid.shape.length ≤ 1000 by omega)) hS
  by_cases hC : ¬ checkR c.shape = 0
  · have hC2 : (checkR c.shape != 0) = true := by simpa using hC
    refine ⟨false, ?_, ?_⟩
    · simp only [m_ref14_node, hk, bind_ok, Check_ok c.shape hS, hA2, hC2, ne_eq, not_true, not_false_eq_true, if_true, if_false, decide_false, Bool.false_eq_true, show ¬ ((5 : Int) = 0) by decide, show ¬ ((5 : Int) = 1) by decide, show ¬ ((5 : Int) = 2) by decide, show ¬ ((5 : Int) = 3) by decide, show ¬ ((5 : Int) = 4) by decide, show ¬ ((5 : Int) = 6) by decide, show ¬ ((5 : Int) = 7) by decide, show ¬ ((5 : Int) < 1) by decide, show ¬ ((5 : Int) > 7) by decide, show ((5 : Int) == 4) = false by decide, show ((5 : Int) == 7) = false by decide, show ((5 : Int) != 4) = true by decide, show ((5 : Int) != 7) = true by decide]
    · simp only [m_core_node, m_core_fields, eta_core, q1, q2, q3, q4, q5, q6, q7, q8, hk, bind_ok, shapeCheck_ok c.shape hS, hg, ht, hA2, hC2, ne_eq, not_true, not_false_eq_true, if_true, if_false, decide_false, Bool.false_eq_true, show ¬ ((5 : Int) = 0) by decide, show ¬ ((5 : Int) = 1) by decide, show ¬ ((5 : Int) = 2) by decide, show ¬ ((5 : Int) = 3) by decide, show ¬ ((5 : Int) = 4) by decide, show ¬ ((5 : Int) = 6) by decide, show ¬ ((5 : Int) = 7) by decide, show ¬ ((5 : Int) < 1) by decide, show ¬ ((5 : Int) > 7) by decide, show ((5 : Int) == 4) = false by decide, show ((5 : Int) == 7) = false by decide]
      generalize (c.buffer != 0) = B1
      generalize decide ((c.starts.length : Int) > 0) = B2
      generalize (c.axis != 0) = B3
      generalize (c.amount != 0) = B4
      cases B1 <;> cases B2 <;> cases B3 <;> cases B4 <;> rfl
  replace hC := Decidable.not_not.1 hC
  have hC2 : (checkR c.shape != 0) = false := by simp [hC]
  have h16 := (checkR_ok hC).1
  have e4 := gtr_ok c kid [] hkd (by omega) h16
  simp only [m_ref14_node, hk, bind_ok, Check_ok c.shape hS, hA2, hC2, ne_eq, not_true, not_false_eq_true, if_true, if_false, decide_false, Bool.false_eq_true, show ¬ ((5 : Int) = 0) by decide, show ¬ ((5 : Int) = 1) by decide, show ¬ ((5 : Int) = 2) by decide, show ¬ ((5 : Int) = 3) by decide, show ¬ ((5 : Int) = 4) by decide, show ¬ ((5 : Int) = 6) by decide, show ¬ ((5 : Int) = 7) by decide, show ¬ ((5 : Int) < 1) by decide, show ¬ ((5 : Int) > 7) by decide, show ((5 : Int) == 4) = false by decide, show ((5 : Int) == 7) = false by decide, show ((5 : Int) != 4) = true by decide, show ((5 : Int) != 7) = true by decide, e3, e4]
  simp only [m_core_node, m_core_fields, eta_core, q1, q2, q3, q4, q5, q6, q7, q8, hk, bind_ok, shapeCheck_ok c.shape hS, hg, ht, hA2, hC2, ne_eq, not_true, not_false_eq_true, if_true, if_false, decide_false, Bool.false_eq_true, show ¬ ((5 : Int) = 0) by decide, show ¬ ((5 : Int) = 1) by decide, show ¬ ((5 : Int) = 2) by decide, show ¬ ((5 : Int) = 3) by decide, show ¬ ((5 : Int) = 4) by decide, show ¬ ((5 : Int) = 6) by decide, show ¬ ((5 : Int) = 7) by decide, show ¬ ((5 : Int) < 1) by decide, show ¬ ((5 : Int) > 7) by decide, show ((5 : Int) == 4) = false by decide, show ((5 : Int) == 7) = false by decide, e3, e4]
  generalize (c.buffer != 0) = B1
  generalize decide ((c.starts.length : Int) > 0) = B2
  generalize (c.axis != 0) = B3
  generalize (c.amount != 0) = B4
  by_cases hB : (B1 || B2 || B3 || B4) = true
  · refine ⟨false, ?_, ?_⟩
    · revert hB; cases B1 <;> cases B2 <;> cases B3 <;> cases B4 <;> first | exact fun _ => rfl | exact fun h => absurd h (by decide)
    · revert hB; cases B1 <;> cases B2 <;> cases B3 <;> cases B4 <;> first | exact fun _ => rfl | exact fun h => absurd h (by decide)
  have hB2 : B1 = false ∧ B2 = false ∧ B3 = false ∧ B4 = false := by revert hB; cases B1 <;> cases B2 <;> cases B3 <;> cases B4 <;> simp
  obtain ⟨rfl, rfl, rfl, rfl⟩ := hB2
  clear hB
  simp only [bind_ok, if_true, if_false, Bool.false_eq_true, Bool.true_eq_false, Bool.not_true, Bool.not_false]
  exact ⟨_, rfl, rfl⟩
theorem node_k6 (c : T_ref14_Core) (bs : List (List Int)) (hk : c.kind = 6) (hm : smC c) : nodeE c bs := by
  obtain ⟨f1, f2, f3, f4, f5⟩ := smC_f hm
  obtain ⟨q1, q2, q3, q4, q5, q6, q7, q8⟩ := conv_f c
  have hS : Sm c.shape.length := Sm_of (show c.shape.length ≤ 1000 by omega)
  unfold nodeE
  have hg : ∀ {β : Type} {f : Unit → Option β} {inst : Decidable ((0 : Int) ≤ 6 ∧ (6 : Int) < 8)}, (@guardM ((0 : Int) ≤ 6 ∧ (6 : Int) < 8) inst >>= f) = f () := fun {β f inst} => @guard_bind _ inst _ _ _ ⟨by omega, by omega⟩ rfl
  have ht : idx ([0, 0, 1, 1, 1, 1, 1, 2] : List Int) 6 = some 1 := rfl
  by_cases hA : ¬ (c.kids.length : Int) = 1
  · have hA2 : ((c.kids.length : Int) != 1) = true := by simpa using hA
    refine ⟨false, ?_, ?_⟩
    · simp only [m_ref14_node, hk, bind_ok, hA2, ne_eq, not_true, not_false_eq_true, if_true, if_false, decide_false, Bool.false_eq_true, show ¬ ((6 : Int) = 0) by decide, show ¬ ((6 : Int) = 1) by decide, show ¬ ((6 : Int) = 2) by decide, show ¬ ((6 : Int) = 3) by decide, show ¬ ((6 : Int) = 4) by decide, show ¬ ((6 : Int) = 5) by decide, show ¬ ((6 : Int) = 7) by decide, show ¬ ((6 : Int) < 1) by decide, show ¬ ((6 : Int) > 7) by decide]
    · simp only [m_core_node, eta_core, q1, q8, hk, bind_ok, hg, ht, hA2, ne_eq, not_true, not_false_eq_true, if_true, if_false, decide_false, Bool.false_eq_true, show ¬ ((6 : Int) = 0) by decide, show ¬ ((6 : Int) = 1) by decide, show ¬ ((6 : Int) = 2) by decide, show ¬ ((6 : Int) = 3) by decide, show ¬ ((6 : Int) = 4) by decide, show ¬ ((6 : Int) = 5) by decide, show ¬ ((6 : Int) = 7) by decide, show ¬ ((6 : Int) < 1) by decide, show ¬ ((6 : Int) > 7) by decide]
  replace hA := Decidable.not_not.1 hA
  have hA2 : ((c.kids.length : Int) != 1) = false := by simp [hA]
  obtain ⟨kid, hkd⟩ := kids_one (c := c) hA
  have hkl : kid.shape.length ≤ 40 := (smC_f (smCs_mem f5 kid (by rw [hkd]; simp))).1
  by_cases hC : ¬ checkR c.shape = 0
  · have hC2 : (checkR c.shape != 0) = true := by simpa using hC
    refine ⟨false, ?_, ?_⟩
    · simp only [m_ref14_node, hk, bind_ok, Check_ok c.shape hS, hA2, hC2, ne_eq, not_true, not_false_eq_true, if_true, if_false, decide_false, Bool.false_eq_true, show ¬ ((6 : Int) = 0) by decide, show ¬ ((6 : Int) = 1) by decide, show ¬ ((6 : Int) = 2) by decide, show ¬ ((6 : Int) = 3) by decide, show ¬ ((6 : Int) = 4) by decide, show ¬ ((6 : Int) = 5) by decide, show ¬ ((6 : Int) = 7) by decide, show ¬ ((6 : Int) < 1) by decide, show ¬ ((6 : Int) > 7) by decide, show ((6 : Int) == 4) = false by decide, show ((6 : Int) == 7) = false by decide, show ((6 : Int) != 4) = true by decide, show ((6 : Int) != 7) = true by decide]
    · simp only [m_core_node, m_core_fields, eta_core, q1, q2, q3, q4, q5, q6, q7, q8, hk, bind_ok, shapeCheck_ok c.shape hS, hg, ht, hA2, hC2, ne_eq, not_true, not_false_eq_true, if_true, if_false, decide_false, Bool.false_eq_true, show ¬ ((6 : Int) = 0) by decide, show ¬ ((6 : Int) = 1) by decide, show ¬ ((6 : Int) = 2) by decide, show ¬ ((6 : Int) = 3) by decide, show ¬ ((6 : Int) = 4) by decide, show ¬ ((6 : Int) = 5) by decide, show ¬ ((6 : Int) = 7) by decide, show ¬ ((6 : Int) < 1) by decide, show ¬ ((6 : Int) > 7) by decide, show ((6 : Int) == 4) = false by decide, show ((6 : Int) == 7) = false by decide]
      generalize (c.buffer != 0) = B1
      generalize decide ((c.starts.length : Int) > 0) = B2
      generalize (c.axis != 0) = B3
      generalize (c.amount != 0) = B4
      generalize decide ((c.perm.length : Int) > 0) = B5
      cases B1 <;> cases B2 <;> cases B3 <;> cases B4 <;> cases B5 <;> rfl
  replace hC := Decidable.not_not.1 hC
  have hC2 : (checkR c.shape != 0) = false := by simp [hC]
  have h16 := (checkR_ok hC).1
  simp only [m_ref14_node, hk, bind_ok, Check_ok c.shape hS, hA2, hC2, ne_eq, not_true, not_false_eq_true, if_true, if_false, decide_false, Bool.false_eq_true, show ¬ ((6 : Int) = 0) by decide, show ¬ ((6 : Int) = 1) by decide, show ¬ ((6 : Int) = 2) by decide, show ¬ ((6 : Int) = 3) by decide, show ¬ ((6 : Int) = 4) by decide, show ¬ ((6 : Int) = 5) by decide, show ¬ ((6 : Int) = 7) by decide, show ¬ ((6 : Int) < 1) by decide, show ¬ ((6 : Int) > 7) by decide, show ((6 : Int) == 4) = false by decide, show ((6 : Int) == 7) = false by decide, show ((6 : Int) != 4) = true by decide, show ((6 : Int) != 7) = true by decide, m_core_nothing]
  simp only [m_core_node, m_core_fields, eta_core, q1, q2, q3, q4, q5, q6, q7, q8, hk, bind_ok, shapeCheck_ok c.shape hS, hg, ht, hA2, hC2, ne_eq, not_true, not_false_eq_true, if_true, if_false, decide_false, Bool.false_eq_true, show ¬ ((6 : Int) = 0) by decide, show ¬ ((6 : Int) = 1) by decide, show ¬ ((6 : Int) = 2) by decide, show ¬ ((6 : Int) = 3) by decide, show ¬ ((6 : Int) = 4) by decide, show ¬ ((6 : Int) = 5) by decide, show ¬ ((6 : Int) = 7) by decide, show ¬ ((6 : Int) < 1) by decide, show ¬ ((6 : Int) > 7) by decide, show ((6 : Int) == 4) = false by decide, show ((6 : Int) == 7) = false by decide, m_core_nothing]
  generalize (c.buffer != 0) = B1
  generalize decide ((c.starts.length : Int) > 0) = B2
  generalize (c.axis != 0) = B3
  generalize (c.amount != 0) = B4
  generalize decide ((c.perm.length : Int) > 0) = B5
  by_cases hB : (B1 || B2 || B3 || B4 || B5) = true
  · refine ⟨false, ?_, ?_⟩
    · revert hB; cases B1 <;> cases B2 <;> cases B3 <;> cases B4 <;> cases B5 <;> first | exact fun _ => rfl | exact fun h => absurd h (by decide)
    · revert hB; cases B1 <;> cases B2 <;> cases B3 <;> cases B4 <;> cases B5 <;> first | exact fun _ => rfl | exact fun h => absurd h (by decide)
  have hB2 : B1 = false ∧ B2 = false ∧ B3 = false ∧ B4 = false ∧ B5 = false := by revert hB; cases B1 <;> cases B2 <;> cases B3 <;> cases B4 <;> cases B5 <;> simp
  obtain ⟨rfl, rfl, rfl, rfl, rfl⟩ := hB2
  clear hB
  simp only [bind_ok, if_true, if_false, Bool.false_eq_true, Bool.true_eq_false, Bool.not_true, Bool.not_false]
  exact ⟨true, rfl, rfl⟩
theorem node_k7 (c : T_ref14_Core) (bs : List (List Int)) (hk : c.kind = 7) (hm : smC c) : nodeE c bs := by
  obtain ⟨f1, f2, f3, f4, f5⟩ := smC_f hm
  obtain ⟨q1, q2, q3, q4, q5, q6, q7, q8⟩ := conv_f c
  have hS : Sm c.shape.length := Sm_of (show c.shape.length ≤ 1000 by omega)
  unfold nodeE
  have hg : ∀ {β : Type} {f : Unit → Option β} {inst : Decidable ((0 : Int) ≤ 7 ∧ (7 : Int) < 8)}, (@guardM ((0 : Int) ≤ 7 ∧ (7 : Int) < 8) inst >>= f) = f () := fun {β f inst} => @guard_bind _ inst _ _ _ ⟨by omega, by omega⟩ rfl
  have ht : idx ([0, 0, 1, 1, 1, 1, 1, 2] : List Int) 7 = some 2 := rfl
  by_cases hA : ¬ (c.kids.length : Int) = 2
  · have hA2 : ((c.kids.length : Int) != 2) = true := by simpa using hA
    refine ⟨false, ?_, ?_⟩
    · simp only [m_ref14_node, hk, bind_ok, hA2, ne_eq, not_true, not_false_eq_true, if_true, if_false, decide_false, Bool.false_eq_true, show ¬ ((7 : Int) = 0) by decide, show ¬ ((7 : Int) = 1) by decide, show ¬ ((7 : Int) = 2) by decide, show ¬ ((7 : Int) = 3) by decide, show ¬ ((7 : Int) = 4) by decide, show ¬ ((7 : Int) = 5) by decide, show ¬ ((7 : Int) = 6) by decide, show ¬ ((7 : Int) < 1) by decide, show ¬ ((7 : Int) > 7) by decide]
    · simp only [m_core_node, eta_core, q1, q8, hk, bind_ok, hg, ht, hA2, ne_eq, not_true, not_false_eq_true, if_true, if_false, decide_false, Bool.false_eq_true, show ¬ ((7 : Int) = 0) by decide, show ¬ ((7 : Int) = 1) by decide, show ¬ ((7 : Int) = 2) by decide, show ¬ ((7 : Int) = 3) by decide, show ¬ ((7 : Int) = 4) by decide, show ¬ ((7 : Int) = 5) by decide, show ¬ ((7 : Int) = 6) by decide, show ¬ ((7 : Int) < 1) by decide, show ¬ ((7 : Int) > 7) by decide]
  replace hA := Decidable.not_not.1 hA
  have hA2 : ((c.kids.length : Int) != 2) = false := by simp [hA]
  obtain ⟨kid, kid2, hkd⟩ := kids_two (c := c) hA
  have hkl : kid.shape.length ≤ 40 := (smC_f (smCs_mem f5 kid (by rw [hkd]; simp))).1
  have hkl2 : kid2.shape.length ≤ 40 := (smC_f (smCs_mem f5 kid2 (by rw [hkd]; simp))).1
  obtain ⟨b3, e3, i3⟩ := rjoin_ok c kid kid2 [] hkd (Sm_of (show kid.shape.length ≤ 1000 by omega))
  obtain ⟨b4, e4, i4⟩ := gjoin_ok c kid kid2 [] hkd (by omega) (by omega) (show c.shape.length ≤ 1000 by omega)
  have e5 : b4 = b3 := by rw [Bool.eq_iff_iff, i3, i4]
  subst e5
  by_cases hC : ¬ checkR c.shape = 0
  · have hC2 : (checkR c.shape != 0) = true := by simpa using hC
    refine ⟨false, ?_, ?_⟩
    · simp only [m_ref14_node, hk, bind_ok, Check_ok c.shape hS, hA2, hC2, ne_eq, not_true, not_false_eq_true, if_true, if_false, decide_false, Bool.false_eq_true, show ¬ ((7 : Int) = 0) by decide, show ¬ ((7 : Int) = 1) by decide, show ¬ ((7 : Int) = 2) by decide, show ¬ ((7 : Int) = 3) by decide, show ¬ ((7 : Int) = 4) by decide, show ¬ ((7 : Int) = 5) by decide, show ¬ ((7 : Int) = 6) by decide, show ¬ ((7 : Int) < 1) by decide, show ¬ ((7 : Int) > 7) by decide, show ((7 : Int) == 4) = false by decide, show ((7 : Int) == 7) = true by decide, show ((7 : Int) != 4) = true by decide, show ((7 : Int) != 7) = false by decide]
    · simp only [m_core_node, m_core_fields, eta_core, q1, q2, q3, q4, q5, q6, q7, q8, hk, bind_ok, shapeCheck_ok c.shape hS, hg, ht, hA2, hC2, ne_eq, not_true, not_false_eq_true, if_true, if_false, decide_false, Bool.false_eq_true, show ¬ ((7 : Int) = 0) by decide, show ¬ ((7 : Int) = 1) by decide, show ¬ ((7 : Int) = 2) by decide, show ¬ ((7 : Int) = 3) by decide, show ¬ ((7 : Int) = 4) by decide, show ¬ ((7 : Int) = 5) by decide, show ¬ ((7 : Int) = 6) by decide, show ¬ ((7 : Int) < 1) by decide, show ¬ ((7 : Int) > 7) by decide, show ((7 : Int) == 4) = false by decide, show ((7 : Int) == 7) = true by decide]
      generalize (c.buffer != 0) = B1
      generalize decide ((c.starts.length : Int) > 0) = B2
      generalize (c.amount != 0) = B4
      generalize decide ((c.perm.length : Int) > 0) = B5
      cases B1 <;> cases B2 <;> cases B4 <;> cases B5 <;> rfl
  replace hC := Decidable.not_not.1 hC
  have hC2 : (checkR c.shape != 0) = false := by simp [hC]
  have h16 := (checkR_ok hC).1
  simp only [m_ref14_node, hk, bind_ok, Check_ok c.shape hS, hA2, hC2, ne_eq, not_true, not_false_eq_true, if_true, if_false, decide_false, Bool.false_eq_true, show ¬ ((7 : Int) = 0) by decide, show ¬ ((7 : Int) = 1) by decide, show ¬ ((7 : Int) = 2) by decide, show ¬ ((7 : Int) = 3) by decide, show ¬ ((7 : Int) = 4) by decide, show ¬ ((7 : Int) = 5) by decide, show ¬ ((7 : Int) = 6) by decide, show ¬ ((7 : Int) < 1) by decide, show ¬ ((7 : Int) > 7) by decide, show ((7 : Int) == 4) = false by decide, show ((7 : Int) == 7) = true by decide, show ((7 : Int) != 4) = true by decide, show ((7 : Int) != 7) = false by decide, e3, e4]
  simp only [m_core_node, m_core_fields, eta_core, q1, q2, q3, q4, q5, q6, q7, q8, hk, bind_ok, shapeCheck_ok c.shape hS, hg, ht, hA2, hC2, ne_eq, not_true, not_false_eq_true, if_true, if_false, decide_false, Bool.false_eq_true, show ¬ ((7 : Int) = 0) by decide, show ¬ ((7 : Int) = 1) by decide, show ¬ ((7 : Int) = 2) by decide, show ¬ ((7 : Int) = 3) by decide, show ¬ ((7 : Int) = 4) by decide, show ¬ ((7 : Int) = 5) by decide, show ¬ ((7 : Int) = 6) by decide, show ¬ ((7 : Int) < 1) by decide, show ¬ ((7 : Int) > 7) by decide, show ((7 : Int) == 4) = false by decide, show ((7 : Int) == 7) = true by decide, e3, e4]
  generalize (c.buffer != 0) = B1
  generalize decide ((c.starts.length : Int) > 0) = B2
  generalize (c.amount != 0) = B4
  generalize decide ((c.perm.length : Int) > 0) = B5
  by_cases hB : (B1 || B2 || B4 || B5) = true
  · refine ⟨false, ?_, ?_⟩
    · revert hB; cases B1 <;> cases B2 <;> cases B4 <;> cases B5 <;> first | exact fun _ => rfl | exact fun h => absurd h (by decide)
    · revert hB; cases B1 <;> cases B2 <;> cases B4 <;> cases B5 <;> first | exact fun _ => rfl | exact fun h => absurd h (by decide)
  have hB2 : B1 = false ∧ B2 = false ∧ B4 = false ∧ B5 = false := by revert hB; cases B1 <;> cases B2 <;> cases B4 <;> cases B5 <;> simp
  obtain ⟨rfl, rfl, rfl, rfl⟩ := hB2
  clear hB
  simp only [bind_ok, if_true, if_false, Bool.false_eq_true, Bool.true_eq_false, Bool.not_true, Bool.not_false]
  have e6 : (⟨7, c.shape, c.buffer, c.starts, c.axis, c.amount, c.perm, (conv c).kids⟩ : T_core_Core) = conv c := by
    cases c
    simp only at hk
    subst hk
    rfl
  rw [e6, e4]
  exact ⟨_, rfl, rfl⟩
end Go.Proofs.Tryd
namespace Go.Proofs.Tryd
open Go Go.Pm
set_option linter.unusedVariables false
set_option linter.unusedSimpArgs false
set_option maxRecDepth 2000
mutual
def depthC : T_ref14_Core → Nat
  | ⟨_, _, _, _, _, _, _, kids⟩ => depthCs kids + 1
def depthCs : List T_ref14_Core → Nat
  | [] => 0
  | k :: ks => max (depthC k) (depthCs ks)
end
mutual
theorem depth_sz : ∀ c : T_ref14_Core, depthC c ≤ szC c
  | ⟨_, _, _, _, _, _, _, kids⟩ => by rw [depthC, szC]; have := depths_sz kids; omega
theorem depths_sz : ∀ l : List T_ref14_Core, depthCs l ≤ szCs l
  | [] => Nat.zero_le _
  | k :: ks => by rw [depthCs, szCs]; have := depth_sz k; have := depths_sz ks; omega
end
def nb (bs : List (List Int)) (c : T_ref14_Core) : Bool := (m_ref14_node (c, bs)).getD false
theorem nb_of {bs : List (List Int)} {c : T_ref14_Core} (h : nodeE c bs) : m_ref14_node (c, bs) = some (nb bs c) ∧ m_core_node (conv c, bs) = some (nb bs c) := by
  obtain ⟨b, h1, h2⟩ := h
  have e : nb bs c = b := by rw [nb, h1]; rfl
  rw [e]; exact ⟨h1, h2⟩
theorem node_bad (c : T_ref14_Core) (bs : List (List Int)) (h : c.kind < 1 ∨ c.kind > 7) (hS : c.shape.length ≤ 40) : nodeE c bs := by
  obtain ⟨f1, _, _, _, _, _, _, f8⟩ := conv_f c
  rcases h with h | h
  · refine ⟨false, ?_, ?_⟩
    · have h1 : ¬ c.kind = 1 := by omega
      have h7 : ¬ c.kind = 7 := by omega
      simp only [m_ref14_node, h1, h7, h, if_true, if_false, bind_ok]
    · simp only [m_core_node, f1, h, if_true, bind_ok]
  · refine ⟨false, ?_, ?_⟩
    · have h1 : ¬ c.kind = 1 := by omega
      have h7 : ¬ c.kind = 7 := by omega
      simp only [m_ref14_node, h1, h7, show ¬ c.kind < 1 by omega, decide_eq_true h, if_true, if_false, bind_ok]
    · simp only [m_core_node, f1, show ¬ c.kind < 1 by omega, decide_eq_true h, if_true, if_false, bind_ok]
theorem node_E (c : T_ref14_Core) (bs : List (List Int)) (h : smC c) : nodeE c bs := by
  by_cases hb : c.kind < 1 ∨ c.kind > 7
  · exact node_bad _ bs hb (smC_f h).1
  · have hc : c.kind = 1 ∨ c.kind = 2 ∨ c.kind = 3 ∨ c.kind = 4 ∨ c.kind = 5 ∨ c.kind = 6 ∨ c.kind = 7 := by omega
    rcases hc with e | e | e | e | e | e | e
    · exact node_k1 c bs e h
    · exact node_k2 c bs e h
    · exact node_k3 c bs e h
    · exact node_k4 c bs e h
    · exact node_k5 c bs e h
    · exact node_k6 c bs e h
    · exact node_k7 c bs e h
mutual
def nodesB (bs : List (List Int)) : T_ref14_Core → Bool
  | ⟨k, sh, b, st, ax, am, pe, ks⟩ => nb bs ⟨k, sh, b, st, ax, am, pe, ks⟩ && nodesBs bs ks
def nodesBs (bs : List (List Int)) : List T_ref14_Core → Bool
  | [] => true
  | k :: ks => nodesB bs k && nodesBs bs ks
end
mutual
theorem rnodes_ok (bs : List (List Int)) : ∀ (c : T_ref14_Core), smC c → m_ref14_nodes (c, bs) = some (nodesB bs c)
  | ⟨k, sh, b, st, ax, am, pe, ks⟩, h => by
    have hf := smC_f h
    rw [m_ref14_nodes, nodesB]
    have e := (nb_of (node_E _ bs h)).1
    simp only [e, bind_ok]
    cases nb bs ⟨k, sh, b, st, ax, am, pe, ks⟩ with
    | false => rfl
    | true =>
      have e2 := rnodes_loop bs ks [] k sh b st ax am pe hf.2.2.2.2 (by have := hf.2.2.2.1; simpa using this)
      simp only [List.nil_append, List.length_nil, Int.natCast_zero] at e2
      simp only [Bool.true_eq_false, if_false, e2, bind_ok]
      cases nodesBs bs ks <;> rfl
theorem rnodes_loop (bs : List (List Int)) : ∀ (s p : List T_ref14_Core) (k : Int) (sh : List Int) (b : Int) (st : List Int) (ax am : Int) (pe : List Int), smCs s → p.length + s.length ≤ 600 →
    m_ref14_nodes_L1 (⟨k, sh, b, st, ax, am, pe, p ++ s⟩, bs, (p.length : Int)) = some (if nodesBs bs s = true then .inr () else .inl ())
  | [], p, k, sh, b, st, ax, am, pe, h1, h2 => by
    rw [m_ref14_nodes_L1]; simp only [end_lt, if_false, nodesBs, if_true]
  | x :: s, p, k, sh, b, st, ax, am, pe, h1, h2 => by
    rw [m_ref14_nodes_L1, nodesBs]
    rw [smCs] at h1
    have e := rnodes_ok bs x h1.1
    have e' := rnodes_loop bs s (p ++ [x]) k sh b st ax am pe h1.2 (by simp at h2 ⊢; omega)
    rw [← mid_app] at e'
    simp only [mid_lt, if_true, mid_idx, bind_ok, e, w_step h2, e']
    cases nodesB bs x <;> rfl
end
mutual
theorem rdepth_ok : ∀ (c : T_ref14_Core), smC c → szC c ≤ 600 → m_ref14_Depth c = some (depthC c : Int)
  | ⟨k, sh, b, st, ax, am, pe, ks⟩, h, hz => by
    have hf := smC_f h
    rw [szC] at hz
    rw [m_ref14_Depth]
    have e2 := rdepth_loop ks [] 0 k sh b st ax am pe hf.2.2.2.2 (by have := hf.2.2.2.1; simpa using this) (by omega)
    simp only [List.nil_append, List.length_nil, Int.natCast_zero] at e2
    have hd := depths_sz ks
    simp only [e2, bind_ok, depthC]
    rw [show max (0 : Nat) (depthCs ks) = depthCs ks by omega, W_ok (by omega) (by omega)]
    rfl
theorem rdepth_loop : ∀ (s p : List T_ref14_Core) (d : Nat) (k : Int) (sh : List Int) (b : Int) (st : List Int) (ax am : Int) (pe : List Int), smCs s → p.length + s.length ≤ 600 → szCs s ≤ 600 →
    m_ref14_Depth_L1 (⟨k, sh, b, st, ax, am, pe, p ++ s⟩, (d : Int), (p.length : Int)) = some ((max d (depthCs s) : Nat) : Int)
  | [], p, d, k, sh, b, st, ax, am, pe, h1, h2, h3 => by
    rw [m_ref14_Depth_L1]; simp only [end_lt, if_false, depthCs, Nat.max_zero]
  | x :: s, p, d, k, sh, b, st, ax, am, pe, h1, h2, h3 => by
    rw [m_ref14_Depth_L1]
    rw [smCs] at h1
    rw [szCs] at h3
    have e := rdepth_ok x h1.1 (by omega)
    have e' := rdepth_loop s (p ++ [x]) (max d (depthC x)) k sh b st ax am pe h1.2 (by simp at h2 ⊢; omega) (by omega)
    rw [← mid_app] at e'
    have em : (if (d : Int) < (depthC x : Int) then (depthC x : Int) else (d : Int)) = ((max d (depthC x) : Nat) : Int) := by split <;> omega
    simp only [mid_lt, if_true, mid_idx, bind_ok, e, w_step h2, em, e', depthCs]
    congr 2
    omega
end
mutual
theorem rsize_ok : ∀ (c : T_ref14_Core), smC c → szC c ≤ 1000 → m_ref14_Size c = some (szC c : Int)
  | ⟨k, sh, b, st, ax, am, pe, ks⟩, h, hz => by
    have hf := smC_f h
    rw [szC] at hz
    rw [m_ref14_Size]
    have e2 := rsize_loop ks [] 1 k sh b st ax am pe hf.2.2.2.2 (by have := hf.2.2.2.1; simpa using this) (by omega)
    simp only [List.nil_append, List.length_nil, Int.natCast_zero] at e2
    have e3 : m_ref14_Size_L1 (⟨k, sh, b, st, ax, am, pe, ks⟩, 1, 0) = some ((1 + szCs ks : Nat) : Int) := e2
    simp only [e3, bind_ok, szC]
theorem rsize_loop : ∀ (s p : List T_ref14_Core) (d : Nat) (k : Int) (sh : List Int) (b : Int) (st : List Int) (ax am : Int) (pe : List Int), smCs s → p.length + s.length ≤ 600 → d + szCs s ≤ 1000 →
    m_ref14_Size_L1 (⟨k, sh, b, st, ax, am, pe, p ++ s⟩, (d : Int), (p.length : Int)) = some ((d + szCs s : Nat) : Int)
  | [], p, d, k, sh, b, st, ax, am, pe, h1, h2, h3 => by
    rw [m_ref14_Size_L1]; simp only [end_lt, if_false, szCs, Nat.add_zero]
  | x :: s, p, d, k, sh, b, st, ax, am, pe, h1, h2, h3 => by
    rw [m_ref14_Size_L1]
    rw [smCs] at h1
    rw [szCs] at h3
    have e := rsize_ok x h1.1 (by omega)
    have e' := rsize_loop s (p ++ [x]) (d + szC x) k sh b st ax am pe h1.2 (by simp at h2 ⊢; omega) (by omega)
    rw [← mid_app] at e'
    have w : W ((d : Int) + (szC x : Int)) = ((d + szC x : Nat) : Int) := by rw [W_ok (by omega) (by omega)]; omega
    simp only [mid_lt, if_true, mid_idx, bind_ok, e, w_step h2, w, e', szCs, Nat.add_assoc]
end
mutual
theorem gsize_ok : ∀ (c : T_ref14_Core), smC c → szC c ≤ 1000 → m_core_Size (conv c) = some (szC c : Int)
  | ⟨k, sh, b, st, ax, am, pe, ks⟩, h, hz => by
    have hf := smC_f h
    rw [szC] at hz
    rw [conv, m_core_Size]
    have e2 := gsize_loop ks [] 1 k sh b st ax am pe hf.2.2.2.2 (by have := hf.2.2.2.1; simpa using this) (by omega)
    simp only [List.nil_append, List.length_nil, Int.natCast_zero] at e2
    have e3 : m_core_Size_L1 (⟨k, sh, b, st, ax, am, pe, convs ks⟩, 1, 0) = some ((1 + szCs ks : Nat) : Int) := e2
    simp only [e3, bind_ok, szC]
theorem gsize_loop : ∀ (s : List T_ref14_Core) (p : List T_core_Core) (d : Nat) (k : Int) (sh : List Int) (b : Int) (st : List Int) (ax am : Int) (pe : List Int), smCs s → p.length + s.length ≤ 600 → d + szCs s ≤ 1000 →
    m_core_Size_L1 (⟨k, sh, b, st, ax, am, pe, p ++ convs s⟩, (d : Int), (p.length : Int)) = some ((d + szCs s : Nat) : Int)
  | [], p, d, k, sh, b, st, ax, am, pe, h1, h2, h3 => by
    rw [convs, m_core_Size_L1]; simp only [end_lt, if_false, szCs, Nat.add_zero]
  | x :: s, p, d, k, sh, b, st, ax, am, pe, h1, h2, h3 => by
    rw [convs, m_core_Size_L1]
    rw [smCs] at h1
    rw [szCs] at h3
    have e := gsize_ok x h1.1 (by omega)
    have e' := gsize_loop s (p ++ [conv x]) (d + szC x) k sh b st ax am pe h1.2 (by simp at h2 ⊢; omega) (by omega)
    rw [← mid_app] at e'
    have w : W ((d : Int) + (szC x : Int)) = ((d + szC x : Nat) : Int) := by rw [W_ok (by omega) (by omega)]; omega
    have w2 : W ((p.length : Int) + 1) = ((p ++ [conv x]).length : Int) := by
      simp at h2
      rw [W_ok (by omega) (by omega)]; simp
    simp only [mid_lt, if_true, mid_idx, bind_ok, e, w2, w, e', szCs, Nat.add_assoc]
end
mutual
theorem within_ok (bs : List (List Int)) : ∀ (c : T_ref14_Core), smC c → ∀ m : Nat, m ≤ 300 → m_core_within (conv c, bs, (m : Int)) = some (decide (depthC c ≤ m) && nodesB bs c)
  | ⟨k, sh, b, st, ax, am, pe, ks⟩, h, m, hm => by
    have hf := smC_f h
    rw [m_core_within, depthC, nodesB]
    have e := (nb_of (node_E _ bs h)).2
    by_cases h0 : (m : Int) > 0
    · simp only [h0, if_true, eta_core, e, bind_ok]
      cases nb bs ⟨k, sh, b, st, ax, am, pe, ks⟩ with
      | false => simp
      | true =>
        obtain ⟨r, e2, h3, h4⟩ := within_loop bs ks [] m k sh b st ax am pe hf.2.2.2.2 (by omega) (by omega) (by have := hf.2.2.2.1; simpa using this)
        simp only [List.nil_append, List.length_nil, Int.natCast_zero] at e2
        simp only [if_true, conv, m_slices_ContainsFunc_core_Core_core_Core_b6f47, m_slices_IndexFunc_core_Core_core_Core_b6f47, e2, bind_ok, Bool.true_and]
        by_cases hq : depthCs ks + 1 ≤ m ∧ nodesBs bs ks = true
        · rw [h3 hq, decide_eq_true hq.1, hq.2]; rfl
        · obtain ⟨a1, a2, a3, a4, a5, a6, a7, a8, j, rfl⟩ := h4 hq
          have : (decide (depthCs ks + 1 ≤ m) && nodesBs bs ks) = false := by
            rw [Bool.eq_false_iff]
            intro hh
            rw [Bool.and_eq_true, decide_eq_true_eq] at hh
            exact hq hh
          rw [this]
          simp [bind_ok]
    · have : ¬ depthCs ks + 1 ≤ m := by omega
      simp only [h0, if_false, bind_ok, Bool.false_eq_true, decide_eq_false this, Bool.false_and]
theorem within_loop (bs : List (List Int)) : ∀ (s : List T_ref14_Core) (p : List T_core_Core) (m : Nat) (k : Int) (sh : List Int) (b : Int) (st : List Int) (ax am : Int) (pe : List Int), smCs s → 1 ≤ m → m ≤ 300 → p.length + s.length ≤ 600 →
    ∃ r, m_slices_IndexFunc_core_Core_core_Core_b6f47_L1 (p ++ convs s, k, sh, b, st, ax, am, pe, bs, (m : Int), (p.length : Int)) = some r ∧ (depthCs s + 1 ≤ m ∧ nodesBs bs s = true → r = .inr ()) ∧
      (¬ (depthCs s + 1 ≤ m ∧ nodesBs bs s = true) → ∃ a1 a2 a3 a4 a5 a6 a7 a8, ∃ j : Nat, r = .inl (a1, a2, a3, a4, a5, a6, a7, a8, (j : Int)))
  | [], p, m, k, sh, b, st, ax, am, pe, h1, h2, h3, h4 => by
    refine ⟨.inr (), ?_, fun _ => rfl, fun h => absurd ⟨by rw [depthCs]; omega, rfl⟩ h⟩
    rw [convs, m_slices_IndexFunc_core_Core_core_Core_b6f47_L1]; simp only [end_lt, if_false]
  | x :: s, p, m, k, sh, b, st, ax, am, pe, h1, h2, h3, h4 => by
    rw [convs, m_slices_IndexFunc_core_Core_core_Core_b6f47_L1]
    rw [smCs] at h1
    have e := within_ok bs x h1.1 (m - 1) (by omega)
    obtain ⟨r, e', i1, i2⟩ := within_loop bs s (p ++ [conv x]) m k sh b st ax am pe h1.2 h2 h3 (by simp at h4 ⊢; omega)
    rw [← mid_app] at e'
    have w2 : W ((p.length : Int) + 1) = ((p ++ [conv x]).length : Int) := by
      simp at h4
      rw [W_ok (by omega) (by omega)]; simp
    have w3 : W ((m : Int) - 1) = ((m - 1 : Nat) : Int) := by rw [W_ok (by omega) (by omega)]; omega
    simp only [mid_lt, if_true, mid_idx, bind_ok, m_core_within_1_b964f, eta_core, w3, e, w2, e', depthCs, nodesBs]
    by_cases hq : (decide (depthC x ≤ m - 1) && nodesB bs x) = true
    · have hq2 := hq
      rw [Bool.and_eq_true, decide_eq_true_eq] at hq2
      simp only [hq, Bool.not_true, Bool.false_eq_true, if_false]
      refine ⟨r, rfl, fun h => i1 ⟨by omega, ?_⟩, fun h => i2 fun g => h ⟨by omega, ?_⟩⟩
      · have := h.2
        rw [hq2.2] at this
        simpa using this
      · rw [hq2.2, g.2]; rfl
    · have hq3 : (decide (depthC x ≤ m - 1) && nodesB bs x) = false := by simpa using hq
      simp only [hq3, Bool.not_false, if_true]
      refine ⟨_, rfl, fun h => ?_, fun _ => ⟨_, _, _, _, _, _, _, _, p.length, rfl⟩⟩
      exfalso
      apply hq
      have h6 := h.2
      rw [Bool.and_eq_true] at h6
      rw [Bool.and_eq_true, decide_eq_true_eq]
      exact ⟨by have := h.1; omega, h6.1⟩
end
theorem CoreRight_ok (c : T_ref14_Core) (bs : List (List Int)) : m_law14_CoreRight (c, bs) = some true := by
  have eta : (⟨c.kind, c.shape, c.buffer, c.starts, c.axis, c.amount, c.perm, c.kids⟩ : T_ref14_Core) = c := by cases c; rfl
  obtain ⟨b, e, hb⟩ := Few_ok c 500 (by omega) (by omega)
  simp only [m_law14_CoreRight, m_law14_awake, bind_ok, Bool.true_eq_false, if_false, e]
  cases b with
  | false => rfl
  | true =>
    obtain ⟨hs, hz⟩ := hb rfl
    by_cases hl : (bs.length : Int) > 100
    · simp only [Bool.not_true, Bool.false_eq_true, if_false, decide_eq_true hl, bind_ok, if_true]
    · have e1 := within_ok bs c hs 300 (by omega)
      have e2 : m_core_within (conv c, bs, 300) = some (decide (depthC c ≤ 300) && nodesB bs c) := e1
      have hz' : szC c ≤ 600 := by omega
      simp only [Bool.not_true, Bool.false_eq_true, if_false, decide_eq_false hl, bind_ok, Core_ok c hs, m_core_Right, eta_core, e2, m_ref14_Right, eta, rdepth_ok c hs hz', rnodes_ok bs c hs, gsize_ok c hs (by omega), rsize_ok c hs (by omega)]
      by_cases hd : depthC c ≤ 300
      · have hd2 : (depthC c : Int) ≤ 300 := by omega
        simp [hd, hd2, bind_ok]
      · have hd2 : ¬ (depthC c : Int) ≤ 300 := by omega
        simp [hd, hd2, bind_ok]
end Go.Proofs.Tryd
namespace Go.Proofs.Tryd
open Go Go.Pm
set_option linter.unusedVariables false
set_option linter.unusedSimpArgs false
set_option maxRecDepth 2000
theorem ua3 : prog.underlying 3 = some (TypeDesc.int IntKind.i64) := by kernel_rfl
theorem ua22 : prog.underlying 22 = some (TypeDesc.slice 3) := by kernel_rfl
theorem ua25 : prog.underlying 25 = some (TypeDesc.struct { toList := [{ name := "Kind", type := 3, offset := 0, embedded := false, tag := "", pkgPath := "", byteOffset := 0 }, { name := "Shape", type := 22, offset := 1, embedded := false, tag := "", pkgPath := "", byteOffset := 8 }, { name := "Buffer", type := 3, offset := 2, embedded := false, tag := "", pkgPath := "", byteOffset := 32 }, { name := "Starts", type := 22, offset := 3, embedded := false, tag := "", pkgPath := "", byteOffset := 40 }, { name := "Axis", type := 3, offset := 4, embedded := false, tag := "", pkgPath := "", byteOffset := 64 }, { name := "Amount", type := 3, offset := 5, embedded := false, tag := "", pkgPath := "", byteOffset := 72 }, { name := "Perm", type := 22, offset := 6, embedded := false, tag := "", pkgPath := "", byteOffset := 80 }, { name := "Kids", type := 23, offset := 7, embedded := false, tag := "", pkgPath := "", byteOffset := 104 }] }) := by kernel_rfl
theorem ua23 : prog.underlying 23 = some (TypeDesc.slice 25) := by kernel_rfl
theorem ua26 : prog.underlying 26 = some (TypeDesc.slice 22) := by kernel_rfl
theorem ua4 : prog.underlying 4 = some TypeDesc.bool := by kernel_rfl
theorem exists_map {α β : Type} {f : β → α} {p : β → Prop} : ∀ {L : List α}, (∀ x ∈ L, ∃ y, x = f y ∧ p y) → ∃ l : List β, L = l.map f ∧ ∀ y ∈ l, p y
  | [], _ => ⟨[], rfl, fun y h => by cases h⟩
  | x :: L, h => by
    obtain ⟨y, rfl, hy⟩ := h x (List.mem_cons_self ..)
    obtain ⟨l, rfl, hl⟩ := exists_map (fun x hx => h x (List.mem_cons_of_mem _ hx))
    exact ⟨y :: l, rfl, fun z hz => by
      rcases List.mem_cons.1 hz with rfl | hz
      · exact hy
      · exact hl z hz⟩
variable {B : Nat} {n : Nat} {cs : List Dat}
theorem tc3 (h : TyC prog B n 3 cs) : ∃ m : Int, cs = [(intD m)] ∧ ((-9223372036854775808) ≤ m ∧ m ≤ 9223372036854775807) := by
  cases n with
  | zero => exact h.elim
  | succ n =>
    simp only [TyC, ua3] at h
    obtain ⟨m, rfl, hm⟩ := h
    refine ⟨m, rfl, ?_⟩
    simpa [Lit.wf, IntKind.min, IntKind.max, IntKind.signed, IntKind.bits] using hm
def ok22 (B : Nat) (x : (List Int)) : Prop := x.length ≤ B ∧ ∀ m ∈ x, ((-9223372036854775808) ≤ m ∧ m ≤ 9223372036854775807)
theorem tc22 (h : TyC prog B n 22 cs) : ∃ l : (List Int), cs = [.lst ((List.map intD) l)] ∧ ok22 B l := by
  cases n with
  | zero => exact h.elim
  | succ n =>
    simp only [TyC, ua22] at h
    obtain ⟨L, rfl, hl, hx⟩ := h
    obtain ⟨l, rfl, hm⟩ := exists_map (f := fun m => [(intD m)]) (p := fun m => ((-9223372036854775808) ≤ m ∧ m ≤ 9223372036854775807)) (fun x hx' => tc3 (hx x hx'))
    refine ⟨l, ?_, by simpa using hl, hm⟩
    have e : (l.map (fun m => [(intD m)])).map (elemD prog 3) = l.map intD := by
      rw [List.map_map]; exact List.map_congr_left (fun m _ => by simp only [Function.comp_apply]; simp [elemD, aggB, ua3])
    rw [e]
def ok25 (B : Nat) (x : T_ref14_Core) : Prop := True
theorem ts25 (ih : ∀ cs, TyC prog B n 23 cs → ∃ l : List T_ref14_Core, cs = [.lst (T_ref14_Core.toDs l)]) (h : TyC prog B (n + 1) 25 cs) : ∃ x : T_ref14_Core, cs = [(intD x.kind), (.lst ((List.map intD) x.shape)), (intD x.buffer), (.lst ((List.map intD) x.starts)), (intD x.axis), (intD x.amount), (.lst ((List.map intD) x.perm)), (.lst (T_ref14_Core.toDs x.kids))] := by
  simp only [TyC, ua25, List.foldr] at h
  obtain ⟨_, _, rfl, h0, _, _, rfl, h1, _, _, rfl, h2, _, _, rfl, h3, _, _, rfl, h4, _, _, rfl, h5, _, _, rfl, h6, _, _, rfl, h7, rfl⟩ := h
  obtain ⟨m0, rfl, _⟩ := tc3 h0
  obtain ⟨m1, rfl, _⟩ := tc22 h1
  obtain ⟨m2, rfl, _⟩ := tc3 h2
  obtain ⟨m3, rfl, _⟩ := tc22 h3
  obtain ⟨m4, rfl, _⟩ := tc3 h4
  obtain ⟨m5, rfl, _⟩ := tc3 h5
  obtain ⟨m6, rfl, _⟩ := tc22 h6
  obtain ⟨m7, rfl⟩ := ih _ h7
  exact ⟨⟨m0, m1, m2, m3, m4, m5, m6, m7⟩, rfl⟩
theorem tl25 (ih : ∀ cs, TyC prog B n 25 cs → ∃ x : T_ref14_Core, cs = [(intD x.kind), (.lst ((List.map intD) x.shape)), (intD x.buffer), (.lst ((List.map intD) x.starts)), (intD x.axis), (intD x.amount), (.lst ((List.map intD) x.perm)), (.lst (T_ref14_Core.toDs x.kids))]) (h : TyC prog B (n + 1) 23 cs) : ∃ l : List T_ref14_Core, cs = [.lst (T_ref14_Core.toDs l)] := by
  simp only [TyC, ua23] at h
  obtain ⟨L, rfl, hl, hx⟩ := h
  obtain ⟨l, rfl, _⟩ := exists_map (f := fun (x : T_ref14_Core) => [(intD x.kind), (.lst ((List.map intD) x.shape)), (intD x.buffer), (.lst ((List.map intD) x.starts)), (intD x.axis), (intD x.amount), (.lst ((List.map intD) x.perm)), (.lst (T_ref14_Core.toDs x.kids))]) (p := fun _ => True) (fun c hc => by obtain ⟨x, e⟩ := ih c (hx c hc); exact ⟨x, e, trivial⟩)
  refine ⟨l, ?_⟩
  have e : (l.map (fun (x : T_ref14_Core) => [(intD x.kind), (.lst ((List.map intD) x.shape)), (intD x.buffer), (.lst ((List.map intD) x.starts)), (intD x.axis), (intD x.amount), (.lst ((List.map intD) x.perm)), (.lst (T_ref14_Core.toDs x.kids))])).map (elemD prog 25) = T_ref14_Core.toDs l := by
    rw [T_ref14_Core.toDs_eq, List.map_map]; exact List.map_congr_left (fun m _ => by rw [T_ref14_Core.toD_eq]; simp only [Function.comp_apply]; simp [elemD, aggB, ua25]; rfl)
  rw [e]
theorem tr25 : ∀ n, (∀ cs, TyC prog B n 25 cs → ∃ x : T_ref14_Core, cs = [(intD x.kind), (.lst ((List.map intD) x.shape)), (intD x.buffer), (.lst ((List.map intD) x.starts)), (intD x.axis), (intD x.amount), (.lst ((List.map intD) x.perm)), (.lst (T_ref14_Core.toDs x.kids))]) ∧ (∀ cs, TyC prog B n 23 cs → ∃ l : List T_ref14_Core, cs = [.lst (T_ref14_Core.toDs l)])
  | 0 => ⟨fun _ h => h.elim, fun _ h => h.elim⟩
  | n + 1 => ⟨fun _ h => ts25 (tr25 n).2 h, fun _ h => tl25 (tr25 n).1 h⟩
theorem tc25 (h : TyC prog B n 25 cs) : ∃ x : T_ref14_Core, cs = [(intD x.kind), (.lst ((List.map intD) x.shape)), (intD x.buffer), (.lst ((List.map intD) x.starts)), (intD x.axis), (intD x.amount), (.lst ((List.map intD) x.perm)), (.lst (T_ref14_Core.toDs x.kids))] ∧ ok25 B x := by
  obtain ⟨x, e⟩ := (tr25 n).1 cs h
  exact ⟨x, e, trivial⟩
def ok26 (B : Nat) (x : (List (List Int))) : Prop := x.length ≤ B ∧ ∀ m ∈ x, (ok22 B m)
theorem tc26 (h : TyC prog B n 26 cs) : ∃ l : (List (List Int)), cs = [.lst ((List.map (fun l => Dat.lst ((List.map intD) l))) l)] ∧ ok26 B l := by
  cases n with
  | zero => exact h.elim
  | succ n =>
    simp only [TyC, ua26] at h
    obtain ⟨L, rfl, hl, hx⟩ := h
    obtain ⟨l, rfl, hm⟩ := exists_map (f := fun m => [(.lst ((List.map intD) m))]) (p := fun m => (ok22 B m)) (fun x hx' => tc22 (hx x hx'))
    refine ⟨l, ?_, by simpa using hl, hm⟩
    have e : (l.map (fun m => [(.lst ((List.map intD) m))])).map (elemD prog 22) = l.map (fun l => Dat.lst ((List.map intD) l)) := by
      rw [List.map_map]; exact List.map_congr_left (fun m _ => by simp only [Function.comp_apply]; simp [elemD, aggB, ua22])
    rw [e]
theorem ty25 {d : Dat} (h : TyA prog B 25 d) : ∃ m : T_ref14_Core, d = (T_ref14_Core.ex m) ∧ (ok25 B m) := by
  obtain ⟨n, cs, h, hd⟩ := h
  obtain ⟨m, rfl, hm⟩ := tc25 h
  exact ⟨m, by rw [hd]; simp [elemD, aggB, ua25]; rfl, hm⟩
theorem ty26 {d : Dat} (h : TyA prog B 26 d) : ∃ m : (List (List Int)), d = (.lst ((List.map (fun l => Dat.lst ((List.map intD) l))) m)) ∧ (ok26 B m) := by
  obtain ⟨n, cs, h, hd⟩ := h
  obtain ⟨m, rfl, hm⟩ := tc26 h
  exact ⟨m, by rw [hd]; simp [elemD, aggB, ua26], hm⟩
theorem ty22 {d : Dat} (h : TyA prog B 22 d) : ∃ m : (List Int), d = (.lst ((List.map intD) m)) ∧ (ok22 B m) := by
  obtain ⟨n, cs, h, hd⟩ := h
  obtain ⟨m, rfl, hm⟩ := tc22 h
  exact ⟨m, by rw [hd]; simp [elemD, aggB, ua22], hm⟩
def argTs : List TypeId := [3, 22, 25, 23, 26, 4]
theorem argTs_closed : closedTs prog argTs = true := by kernel_rfl
theorem laidOut : laidOutB prog = true := by kernel_rfl
theorem summ : SummOK prog env := fun f s h => by cases h
theorem mixed : prog.follows .mixedOrders = true := by kernel_rfl
/-- a call that comes to a value keeps it in the model -/
theorem pure_of {f : FuncId} {dss : List Dat} {p : PV} (ho : p.out = true) (h : PC prog env f (dss.map .dat) [] p []) : PureCall prog f dss p := by
  obtain ⟨N, hN⟩ := h
  exact pure_sound summ mixed (hN N (Nat.le_refl _)) ho
end Go.Proofs.Tryd
