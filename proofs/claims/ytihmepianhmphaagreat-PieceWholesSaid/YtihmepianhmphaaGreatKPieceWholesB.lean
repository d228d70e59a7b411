/-
  Models of functions, their walks, and plain laws.
-/
import Derived.Test.YtihmepianhmphaaGreatPmLaw
import Derived.Test.YtihmepianhmphaaGreatKPieceWholesA
namespace Go.Proofs.Tryz
open Go Go.Pm
set_option linter.unusedVariables false
set_option maxHeartbeats 2000000
set_option maxRecDepth 2000
def m_ref06_Same (x : (T_ref06_Box × T_ref06_Box)) : Option Bool :=
  match x with
  | (p0, p1) =>
  m_ref02_Equal (p0.lo, p1.lo) >>= fun (v1 : Bool) =>
  if v1 = true then
    m_ref02_Equal (p0.hi, p1.hi) >>= fun (v2 : Bool) =>
    some v2
  else
  some false
def P_ref06_Same : (T_ref06_Box × T_ref06_Box) → Bool → Prop := fun x r => match x, r with
  | (p0, p1), r0 => ∀ H, PC prog env 25 ([(T_ref06_Box.toD p0), (T_ref06_Box.toD p1)].map .dat) H (boolPV r0) H
theorem w_ref06_Same : ∀ x r, m_ref06_Same x = some r → P_ref06_Same x r := by
  intro x r0 hm
  unfold m_ref06_Same at hm
  unfold P_ref06_Same
  obtain ⟨p0, p1⟩ := x
  intro H
  refine PC_sx (ds := [(T_ref06_Box.toD p0), (T_ref06_Box.toD p1)]) (fn := f25) (by kernel_rfl) (by kernel_rfl) rfl ?_ (by kernel_rfl)
  refine R_seq ?_
  refine R_G ?_
  refine G_run 3 ?_
  refine G_end ?_
  refine R_seq ?_
  refine R_G ?_
  refine G_run 4 ?_
  obtain ⟨v1, hx, hm⟩ := bind_inv hm
  have hq := w_ref02_Equal _ _ hx []
  refine G_callP hq ?_
  refine G_run 1 ?_
  refine G_split (p := v1 = true) 10 (bool_dec _) (fun hc => ?_) (fun hc => ?_)
  · replace hm := pos_inv hc hm
    refine G_run 4 ?_
    obtain ⟨v2, hx, hm⟩ := bind_inv hm
    have hq := w_ref02_Equal _ _ hx []
    refine G_callP hq ?_
    refine G_run 2 ?_
    refine G_end ?_
    refine R_ret ?_
    obtain rfl := inj1 hm
    exact ⟨trivial, fin_pure (by kernel_rfl)⟩
  replace hm := neg_inv hc hm
  refine G_run 7 ?_
  refine G_end ?_
  refine R_ret ?_
  obtain rfl := inj1 hm
  exact ⟨trivial, fin_pure (by kernel_rfl)⟩
end Go.Proofs.Tryz
namespace Go.Proofs.Tryz
open Go Go.Pm
set_option linter.unusedVariables false
set_option maxHeartbeats 2000000
set_option maxRecDepth 2000
def m_ref17_Same (x : (T_ref17_Access × T_ref17_Access)) : Option Bool :=
  match x with
  | (p0, p1) =>
  (if p0.kind = p1.kind then
    some (p0.buffer == p1.buffer)
  else
  some false
  ) >>= fun (v1 : Bool) =>
  (if v1 = true then
    some (p0.base == p1.base)
  else
  some false
  ) >>= fun (v2 : Bool) =>
  (if v2 = true then
    some (p0.start == p1.start)
  else
  some false
  ) >>= fun (v3 : Bool) =>
  (if v3 = true then
    some (p0.step == p1.step)
  else
  some false
  ) >>= fun (v4 : Bool) =>
  (if v4 = true then
    some (p0.mod == p1.mod)
  else
  some false
  ) >>= fun (v5 : Bool) =>
  if v5 = true then
    m_ref02_Equal (p0.strides, p1.strides) >>= fun (v6 : Bool) =>
    some v6
  else
  some false
def P_ref17_Same : (T_ref17_Access × T_ref17_Access) → Bool → Prop := fun x r => match x, r with
  | (p0, p1), r0 => ∀ H, PC prog env 26 ([(T_ref17_Access.toD p0), (T_ref17_Access.toD p1)].map .dat) H (boolPV r0) H
theorem w_ref17_Same : ∀ x r, m_ref17_Same x = some r → P_ref17_Same x r := by
  intro x r0 hm
  unfold m_ref17_Same at hm
  unfold P_ref17_Same
  obtain ⟨p0, p1⟩ := x
  intro H
  refine PC_sx (ds := [(T_ref17_Access.toD p0), (T_ref17_Access.toD p1)]) (fn := f26) (by kernel_rfl) (by kernel_rfl) rfl ?_ (by kernel_rfl)
  refine R_seq ?_
  refine R_G ?_
  refine G_run 3 ?_
  refine G_end ?_
  refine R_seq ?_
  refine R_GN ?_
  refine G_run 6 ?_
  obtain ⟨v1, hs, hm⟩ := bind_inv hm
  refine G_cut (j := 12) (fun d => ⟨sl d 52 [(0, (.dat (.agg [(intD p0.kind), (intD p0.buffer), (intD p0.base), (.lst ((List.map intD) p0.strides)), (intD p0.start), (intD p0.step), (intD p0.mod)]))), (1, (.dat (.agg [(intD p1.kind), (intD p1.buffer), (intD p1.base), (.lst ((List.map intD) p1.strides)), (intD p1.start), (intD p1.step), (intD p1.mod)]))), (2, (.ptr 0 0)), (3, (.ptr 1 0)), (4, (boolPV false)), (5, (.ptr 0 0)), (6, (intPV p0.kind)), (7, (.ptr 1 0)), (8, (intPV p1.kind)), (9, (boolPV (p0.kind == p1.kind))), (16, (boolPV v1))], [(.box [(intPV p0.kind), (intPV p0.buffer), (intPV p0.base), (.dat (.lst ((List.map intD) p0.strides))), (intPV p0.start), (intPV p0.step), (intPV p0.mod)]), (.box [(intPV p1.kind), (intPV p1.buffer), (intPV p1.base), (.dat (.lst ((List.map intD) p1.strides))), (intPV p1.start), (intPV p1.step), (intPV p1.mod)])]⟩) (fun d => ?_) (fun hJ => ?_)
  · clear hs
    refine G_run 1 ?_
    obtain ⟨v2, hs, hm⟩ := bind_inv hm
    refine G_cut (j := 19) (fun d => ⟨sl d 52 [(0, (.dat (.agg [(intD p0.kind), (intD p0.buffer), (intD p0.base), (.lst ((List.map intD) p0.strides)), (intD p0.start), (intD p0.step), (intD p0.mod)]))), (1, (.dat (.agg [(intD p1.kind), (intD p1.buffer), (intD p1.base), (.lst ((List.map intD) p1.strides)), (intD p1.start), (intD p1.step), (intD p1.mod)]))), (2, (.ptr 0 0)), (3, (.ptr 1 0)), (4, (boolPV false)), (5, (.ptr 0 0)), (6, (intPV p0.kind)), (7, (.ptr 1 0)), (8, (intPV p1.kind)), (9, (boolPV (p0.kind == p1.kind))), (16, (boolPV v1)), (23, (boolPV v2))], [(.box [(intPV p0.kind), (intPV p0.buffer), (intPV p0.base), (.dat (.lst ((List.map intD) p0.strides))), (intPV p0.start), (intPV p0.step), (intPV p0.mod)]), (.box [(intPV p1.kind), (intPV p1.buffer), (intPV p1.base), (.dat (.lst ((List.map intD) p1.strides))), (intPV p1.start), (intPV p1.step), (intPV p1.mod)])]⟩) (fun d => ?_) (fun hJ => ?_)
    · clear hs
      refine G_run 1 ?_
      obtain ⟨v3, hs, hm⟩ := bind_inv hm
      refine G_cut (j := 26) (fun d => ⟨sl d 52 [(0, (.dat (.agg [(intD p0.kind), (intD p0.buffer), (intD p0.base), (.lst ((List.map intD) p0.strides)), (intD p0.start), (intD p0.step), (intD p0.mod)]))), (1, (.dat (.agg [(intD p1.kind), (intD p1.buffer), (intD p1.base), (.lst ((List.map intD) p1.strides)), (intD p1.start), (intD p1.step), (intD p1.mod)]))), (2, (.ptr 0 0)), (3, (.ptr 1 0)), (4, (boolPV false)), (5, (.ptr 0 0)), (6, (intPV p0.kind)), (7, (.ptr 1 0)), (8, (intPV p1.kind)), (9, (boolPV (p0.kind == p1.kind))), (16, (boolPV v1)), (23, (boolPV v2)), (30, (boolPV v3))], [(.box [(intPV p0.kind), (intPV p0.buffer), (intPV p0.base), (.dat (.lst ((List.map intD) p0.strides))), (intPV p0.start), (intPV p0.step), (intPV p0.mod)]), (.box [(intPV p1.kind), (intPV p1.buffer), (intPV p1.base), (.dat (.lst ((List.map intD) p1.strides))), (intPV p1.start), (intPV p1.step), (intPV p1.mod)])]⟩) (fun d => ?_) (fun hJ => ?_)
      · clear hs
        refine G_run 1 ?_
        obtain ⟨v4, hs, hm⟩ := bind_inv hm
        refine G_cut (j := 33) (fun d => ⟨sl d 52 [(0, (.dat (.agg [(intD p0.kind), (intD p0.buffer), (intD p0.base), (.lst ((List.map intD) p0.strides)), (intD p0.start), (intD p0.step), (intD p0.mod)]))), (1, (.dat (.agg [(intD p1.kind), (intD p1.buffer), (intD p1.base), (.lst ((List.map intD) p1.strides)), (intD p1.start), (intD p1.step), (intD p1.mod)]))), (2, (.ptr 0 0)), (3, (.ptr 1 0)), (4, (boolPV false)), (5, (.ptr 0 0)), (6, (intPV p0.kind)), (7, (.ptr 1 0)), (8, (intPV p1.kind)), (9, (boolPV (p0.kind == p1.kind))), (16, (boolPV v1)), (23, (boolPV v2)), (30, (boolPV v3)), (37, (boolPV v4))], [(.box [(intPV p0.kind), (intPV p0.buffer), (intPV p0.base), (.dat (.lst ((List.map intD) p0.strides))), (intPV p0.start), (intPV p0.step), (intPV p0.mod)]), (.box [(intPV p1.kind), (intPV p1.buffer), (intPV p1.base), (.dat (.lst ((List.map intD) p1.strides))), (intPV p1.start), (intPV p1.step), (intPV p1.mod)])]⟩) (fun d => ?_) (fun hJ => ?_)
        · clear hs
          refine G_run 1 ?_
          obtain ⟨v5, hs, hm⟩ := bind_inv hm
          refine G_cut (j := 40) (fun d => ⟨sl d 52 [(0, (.dat (.agg [(intD p0.kind), (intD p0.buffer), (intD p0.base), (.lst ((List.map intD) p0.strides)), (intD p0.start), (intD p0.step), (intD p0.mod)]))), (1, (.dat (.agg [(intD p1.kind), (intD p1.buffer), (intD p1.base), (.lst ((List.map intD) p1.strides)), (intD p1.start), (intD p1.step), (intD p1.mod)]))), (2, (.ptr 0 0)), (3, (.ptr 1 0)), (4, (boolPV false)), (5, (.ptr 0 0)), (6, (intPV p0.kind)), (7, (.ptr 1 0)), (8, (intPV p1.kind)), (9, (boolPV (p0.kind == p1.kind))), (16, (boolPV v1)), (23, (boolPV v2)), (30, (boolPV v3)), (37, (boolPV v4)), (44, (boolPV v5))], [(.box [(intPV p0.kind), (intPV p0.buffer), (intPV p0.base), (.dat (.lst ((List.map intD) p0.strides))), (intPV p0.start), (intPV p0.step), (intPV p0.mod)]), (.box [(intPV p1.kind), (intPV p1.buffer), (intPV p1.base), (.dat (.lst ((List.map intD) p1.strides))), (intPV p1.start), (intPV p1.step), (intPV p1.mod)])]⟩) (fun d => ?_) (fun hJ => ?_)
          · clear hs
            refine G_run 1 ?_
            refine G_split (p := v5 = true) 45 (bool_dec _) (fun hc => ?_) (fun hc => ?_)
            · replace hm := pos_inv hc hm
              refine G_run 4 ?_
              obtain ⟨v6, hx, hm⟩ := bind_inv hm
              have hq := w_ref02_Equal _ _ hx []
              refine G_callP hq ?_
              refine G_run 2 ?_
              refine G_end ⟨by kernel_rfl, ?_⟩
              refine R_ret ?_
              obtain rfl := inj1 hm
              exact ⟨trivial, fin_pure (by kernel_rfl)⟩
            replace hm := neg_inv hc hm
            refine G_run 7 ?_
            refine G_end ⟨by kernel_rfl, ?_⟩
            refine R_ret ?_
            obtain rfl := inj1 hm
            exact ⟨trivial, fin_pure (by kernel_rfl)⟩
          replace hm := hs
          clear hs
          refine G_split (p := v4 = true) 38 (bool_dec _) (fun hc => ?_) (fun hc => ?_)
          · replace hm := pos_inv hc hm
            refine G_run 6 ?_
            obtain rfl := inj1 hm
            exact hJ _ _ (by kernel_rfl) (by kernel_rfl)
          replace hm := neg_inv hc hm
          refine G_run 6 ?_
          obtain rfl := inj1 hm
          exact hJ _ _ (by kernel_rfl) (by kernel_rfl)
        replace hm := hs
        clear hs
        refine G_split (p := v3 = true) 31 (bool_dec _) (fun hc => ?_) (fun hc => ?_)
        · replace hm := pos_inv hc hm
          refine G_run 6 ?_
          obtain rfl := inj1 hm
          exact hJ _ _ (by kernel_rfl) (by kernel_rfl)
        replace hm := neg_inv hc hm
        refine G_run 6 ?_
        obtain rfl := inj1 hm
        exact hJ _ _ (by kernel_rfl) (by kernel_rfl)
      replace hm := hs
      clear hs
      refine G_split (p := v2 = true) 24 (bool_dec _) (fun hc => ?_) (fun hc => ?_)
      · replace hm := pos_inv hc hm
        refine G_run 6 ?_
        obtain rfl := inj1 hm
        exact hJ _ _ (by kernel_rfl) (by kernel_rfl)
      replace hm := neg_inv hc hm
      refine G_run 6 ?_
      obtain rfl := inj1 hm
      exact hJ _ _ (by kernel_rfl) (by kernel_rfl)
    replace hm := hs
    clear hs
    refine G_split (p := v1 = true) 17 (bool_dec _) (fun hc => ?_) (fun hc => ?_)
    · replace hm := pos_inv hc hm
      refine G_run 6 ?_
      obtain rfl := inj1 hm
      exact hJ _ _ (by kernel_rfl) (by kernel_rfl)
    replace hm := neg_inv hc hm
    refine G_run 6 ?_
    obtain rfl := inj1 hm
    exact hJ _ _ (by kernel_rfl) (by kernel_rfl)
  replace hm := hs
  clear hs
  refine G_split (p := p0.kind = p1.kind) 10 (eq_dec _ _) (fun hc => ?_) (fun hc => ?_)
  · replace hm := pos_inv hc hm
    refine G_run 6 ?_
    obtain rfl := inj1 hm
    exact hJ _ _ (by kernel_rfl) (by kernel_rfl)
  replace hm := neg_inv hc hm
  refine G_run 6 ?_
  obtain rfl := inj1 hm
  exact hJ _ _ (by kernel_rfl) (by kernel_rfl)
end Go.Proofs.Tryz
namespace Go.Proofs.Tryz
open Go Go.Pm
set_option linter.unusedVariables false
set_option maxHeartbeats 2000000
set_option maxRecDepth 2000
def m_ref18_Same_L1 (x : ((List T_ref18_Piece) × (List T_ref18_Piece) × Int)) : Option (Unit ⊕ Unit) :=
  match x with
  | (p0, p1, v201) =>
  if v201 < (p0.length : Int) then
    (idx p0 v201 >>= fun v602 =>
    idx p1 v201 >>= fun v603 =>
    m_ref06_Same (v602.box, v603.box) >>= fun (v604 : Bool) =>
    if v604 = false then
      some true
    else
    idx p0 v201 >>= fun v605 =>
    idx p1 v201 >>= fun v606 =>
    m_ref17_Same (v605.access, v606.access) >>= fun (v607 : Bool) =>
    some (!v607)
    ) >>= fun (v601 : Bool) =>
    if v601 = true then
      some (Sum.inl ())
    else
    m_ref18_Same_L1 (p0, p1, (W (v201 + 1)))
  else
  some (Sum.inr ())
  partial_fixpoint
def P_ref18_Same_L1 : ((List T_ref18_Piece) × (List T_ref18_Piece) × Int) → (Unit ⊕ Unit) → Prop := fun x r => match x with
  | (p0, p1, v201) => ∀ st, prune 0 ((firstRegion (codeAt [1, 1, 0, 1, 0, 0] (bodyOf f8))).bind (env.hint 8).keepAt) st = ⟨kp 43 [(0, (.dat (.lst ((List.map T_ref18_Piece.toD) p0)))), (1, (.dat (.lst ((List.map T_ref18_Piece.toD) p1)))), (5, (intPV v201))], []⟩ →
    RL prog env (env.hint 8) true (codeAt [1, 1, 0, 1, 0, 0] (bodyOf f8)) 0 st (fun e s => match r with | .inl _ => e = .ret ∧ ∃ d, s = ⟨sl d 43 [(4, (boolPV false))], []⟩ | .inr (_) => e = .exit 0 ∧ ∃ d, s = ⟨sl d 43 [], []⟩)
theorem w_ref18_Same_L1 : ∀ x r, m_ref18_Same_L1 x = some r → P_ref18_Same_L1 x r := by
  refine m_ref18_Same_L1.partial_correctness _ (fun m_ref18_Same_L1 w_ref18_Same_L1 x r hm => ?_)
  unfold P_ref18_Same_L1
  obtain ⟨p0, p1, v201⟩ := x
  intro st hst
  refine RL_at hst ?_
  clear hst
  refine R_seq ?_
  refine R_seq ?_
  refine R_G ?_
  refine G_run 2 ?_
  refine I_len T_ref18_Piece.toD p0 (es := (List.map T_ref18_Piece.toD) p0) rfl ?_
  refine G_run 1 ?_
  refine G_end ?_
  refine R_ifp (p := v201 < (p0.length : Int)) (rfl) (fun hc => ?_) (fun hc => ?_)
  · replace hm := pos_inv hc hm
    refine R_skip ?_
    refine R_seq ?_
    refine R_block ?_
    refine R_seq ?_
    obtain ⟨v601, hs, hm⟩ := bind_inv hm
    refine R_cut (fun d => ⟨sl d 43 [(0, (.dat (.lst ((List.map T_ref18_Piece.toD) p0)))), (1, (.dat (.lst ((List.map T_ref18_Piece.toD) p1)))), (5, (intPV v201)), (42, (boolPV v601))], []⟩) ?_ (fun d => ?_)
    · replace hm := hs
      clear hs
      refine R_GD ?_
      refine G_run 2 ?_
      obtain ⟨v602, hx, hm⟩ := bind_inv hm
      refine I_idx 9 T_ref18_Piece.toD p0 v201 v602 (es := (List.map T_ref18_Piece.toD) p0) (d := (T_ref18_Piece.toD v602)) rfl hx rfl rfl ?_
      refine G_run 4 ?_
      obtain ⟨v603, hx, hm⟩ := bind_inv hm
      refine I_idx 9 T_ref18_Piece.toD p1 v201 v603 (es := (List.map T_ref18_Piece.toD) p1) (d := (T_ref18_Piece.toD v603)) rfl hx rfl rfl ?_
      refine G_run 2 ?_
      obtain ⟨v604, hx, hm⟩ := bind_inv hm
      have hq := w_ref06_Same _ _ hx []
      refine G_callP hq ?_
      refine G_run 2 ?_
      refine G_split (p := v604 = false) 29 (not_dec _) (fun hc => ?_) (fun hc => ?_)
      · replace hm := pos_inv hc hm
        refine G_run 13 ?_
        refine G_end ⟨by kernel_rfl, ?_⟩
        obtain rfl := inj1 hm
        exact cut_leaf (by kernel_rfl)
      replace hm := neg_inv hc hm
      refine G_run 2 ?_
      obtain ⟨v605, hx, hm⟩ := bind_inv hm
      refine I_idx 9 T_ref18_Piece.toD p0 v201 v605 (es := (List.map T_ref18_Piece.toD) p0) (d := (T_ref18_Piece.toD v605)) rfl hx rfl rfl ?_
      refine G_run 4 ?_
      obtain ⟨v606, hx, hm⟩ := bind_inv hm
      refine I_idx 9 T_ref18_Piece.toD p1 v201 v606 (es := (List.map T_ref18_Piece.toD) p1) (d := (T_ref18_Piece.toD v606)) rfl hx rfl rfl ?_
      refine G_run 2 ?_
      obtain ⟨v607, hx, hm⟩ := bind_inv hm
      have hq := w_ref17_Same _ _ hx []
      refine G_callP hq ?_
      refine G_run 2 ?_
      refine G_end ⟨by kernel_rfl, ?_⟩
      obtain rfl := inj1 hm
      exact cut_leaf (by kernel_rfl)
    clear hs
    refine R_ifp (p := v601 = true) (bool_dec _) (fun hc => ?_) (fun hc => ?_)
    · replace hm := pos_inv hc hm
      refine R_seq ?_
      refine R_G ?_
      refine G_run 1 ?_
      refine G_end ?_
      refine R_ret ?_
      obtain rfl := inj1 hm
      exact ⟨rfl, cut_leaf (by kernel_rfl)⟩
    replace hm := neg_inv hc hm
    refine R_skip ?_
    refine R_G ?_
    refine G_run 3 ?_
    refine G_end ?_
    exact w_ref18_Same_L1 _ _ hm _ (by kernel_rfl)
  replace hm := neg_inv hc hm
  refine R_exit ?_
  obtain rfl := inj1 hm
  exact ⟨rfl, cut_leaf (by kernel_rfl)⟩
def m_ref18_Same (x : ((List T_ref18_Piece) × (List T_ref18_Piece))) : Option Bool :=
  match x with
  | (p0, p1) =>
  if (p0.length : Int) ≠ (p1.length : Int) then
    some false
  else
  (
  m_ref18_Same_L1 (p0, p1, 0) >>= fun (out : Unit ⊕ Unit) =>
  match out with
  | .inl _ =>
    some false
  | .inr (_) =>
    some true
  )
def P_ref18_Same : ((List T_ref18_Piece) × (List T_ref18_Piece)) → Bool → Prop := fun x r => match x, r with
  | (p0, p1), r0 => ∀ H, PC prog env 8 ([(.lst ((List.map T_ref18_Piece.toD) p0)), (.lst ((List.map T_ref18_Piece.toD) p1))].map .dat) H (boolPV r0) H
theorem w_ref18_Same : ∀ x r, m_ref18_Same x = some r → P_ref18_Same x r := by
  intro x r0 hm
  unfold m_ref18_Same at hm
  unfold P_ref18_Same
  obtain ⟨p0, p1⟩ := x
  intro H
  refine PC_sx (ds := [(.lst ((List.map T_ref18_Piece.toD) p0)), (.lst ((List.map T_ref18_Piece.toD) p1))]) (fn := f8) (by kernel_rfl) (by kernel_rfl) rfl ?_ (by kernel_rfl)
  refine R_seq ?_
  refine R_G ?_
  refine G_run 1 ?_
  refine G_end ?_
  refine R_seq ?_
  refine R_seq ?_
  refine R_G ?_
  refine G_run 1 ?_
  refine I_len T_ref18_Piece.toD p0 (es := (List.map T_ref18_Piece.toD) p0) rfl ?_
  refine G_run 1 ?_
  refine I_len T_ref18_Piece.toD p1 (es := (List.map T_ref18_Piece.toD) p1) rfl ?_
  refine G_run 1 ?_
  refine G_end ?_
  refine R_ifp (p := (p0.length : Int) ≠ (p1.length : Int)) (ne_dec _ _) (fun hc => ?_) (fun hc => ?_)
  · replace hm := pos_inv hc hm
    refine R_seq ?_
    refine R_G ?_
    refine G_run 1 ?_
    refine G_end ?_
    refine R_ret ?_
    obtain rfl := inj1 hm
    exact ⟨trivial, fin_pure (by kernel_rfl)⟩
  replace hm := neg_inv hc hm
  refine R_skip ?_
  refine R_seq ?_
  refine R_seq ?_
  refine R_G ?_
  refine G_run 1 ?_
  refine G_end ?_
  refine R_block ?_
  obtain ⟨out, hs, hm⟩ := bind_inv hm
  refine R_loop ?_
  rcases out with _ | _
  · refine RL_use (w_ref18_Same_L1 _ _ hs) (by kernel_rfl) ?_
    clear hs
    intro e s hp
    obtain ⟨rfl, d, rfl⟩ := hp
    obtain rfl := inj1 hm
    exact ⟨trivial, fin_pure (by kernel_rfl)⟩
  · refine RL_use (w_ref18_Same_L1 _ _ hs) (by kernel_rfl) ?_
    clear hs
    intro e s hp
    obtain ⟨rfl, d, rfl⟩ := hp
    refine R_seq ?_
    refine R_G ?_
    refine G_run 1 ?_
    refine G_end ?_
    refine R_ret ?_
    obtain rfl := inj1 hm
    exact ⟨trivial, fin_pure (by kernel_rfl)⟩
end Go.Proofs.Tryz
namespace Go.Proofs.Tryz
open Go Go.Pm
set_option linter.unusedVariables false
set_option maxHeartbeats 2000000
set_option maxRecDepth 2000
def m_ref18_Filled (x : (List Int)) : Option (List T_ref18_Piece) :=
  match x with
  | p0 =>
  m_ref18_whole p0 >>= fun (v1 : T_ref06_Box) =>
  m_ref18_put (([] : (List T_ref18_Piece)), (⟨v1, (⟨1, 0, 0, ([] : (List Int)), 0, 0, 0⟩ : T_ref17_Access)⟩ : T_ref18_Piece)) >>= fun (v2 : (List T_ref18_Piece)) =>
  some v2
def P_ref18_Filled : (List Int) → (List T_ref18_Piece) → Prop := fun x r => match x, r with
  | p0, r0 => ∀ H, PC prog env 11 ([(.lst ((List.map intD) p0))].map .dat) H (.dat (.lst ((List.map T_ref18_Piece.toD) r0))) H
theorem w_ref18_Filled : ∀ x r, m_ref18_Filled x = some r → P_ref18_Filled x r := by
  intro p0 r0 hm
  unfold m_ref18_Filled at hm
  unfold P_ref18_Filled
  intro H
  refine PC_sx (ds := [(.lst ((List.map intD) p0))]) (fn := f11) (by kernel_rfl) (by kernel_rfl) rfl ?_ (by kernel_rfl)
  refine R_seq ?_
  refine R_G ?_
  refine G_run 1 ?_
  refine G_end ?_
  refine R_seq ?_
  refine R_G ?_
  refine G_run 1 ?_
  obtain ⟨v1, hx, hm⟩ := bind_inv hm
  have hq := w_ref18_whole _ _ hx []
  refine G_callP hq ?_
  refine G_run 2 ?_
  obtain ⟨v2, hx, hm⟩ := bind_inv hm
  have hq := w_ref18_put _ _ hx []
  refine G_callP hq ?_
  refine G_run 1 ?_
  refine G_end ?_
  refine R_ret ?_
  obtain rfl := inj1 hm
  exact ⟨trivial, fin_pure (by kernel_rfl)⟩
end Go.Proofs.Tryz
namespace Go.Proofs.Tryz
open Go Go.Pm
set_option linter.unusedVariables false
set_option maxHeartbeats 2000000
set_option maxRecDepth 2000
def m_ref03_All_L3 (x : ((List Int) × Int × (List (List Int)) × Int × (List (List Int)) × Int)) : Option ((List (List Int))) :=
  match x with
  | (p0, v202, v201, v803, v1403, v1404) =>
  idx p0 v202 >>= fun v1804 =>
  if v1404 < v1804 then
    idx v201 v803 >>= fun v1805 =>
    app 8 ([] : List Int) v1805 >>= fun v1806 =>
    app 8 v1806 ([v1404] : List Int) >>= fun v1807 =>
    app 24 v1403 ([v1807] : List (List Int)) >>= fun v1808 =>
    m_ref03_All_L3 (p0, v202, v201, v803, v1808, (W (v1404 + 1)))
  else
  some v1403
  partial_fixpoint
def P_ref03_All_L3 : ((List Int) × Int × (List (List Int)) × Int × (List (List Int)) × Int) → (List (List Int)) → Prop := fun x r => match x with
  | (p0, v202, v201, v803, v1403, v1404) => ∀ st, prune 1 ((firstRegion (codeAt [1, 1, 0, 1, 0, 0, 1, 0, 0, 1, 0, 1, 0, 0, 1, 0, 0, 1, 0, 0] (bodyOf f36))).bind (env.hint 36).keepAt) st = ⟨kp 44 [(0, (.dat (.lst ((List.map intD) p0)))), (3, (.dat (.lst ((List.map (fun l => Dat.lst ((List.map intD) l))) v201)))), (4, (intPV v202)), (5, (.vec 0 ((List.map (fun l => Dat.lst ((List.map intD) l))) v1403))), (6, (intPV v803)), (7, (intPV v1404))], [(.tok 23 v1403.length)]⟩ →
    RL prog env (env.hint 36) true (codeAt [1, 1, 0, 1, 0, 0, 1, 0, 0, 1, 0, 1, 0, 0, 1, 0, 0, 1, 0, 0] (bodyOf f36)) 1 st (fun e s => match r with | v1803 => e = .exit 4 ∧ ∃ d, s = ⟨sl d 44 [(0, (.dat (.lst ((List.map intD) p0)))), (3, (.dat (.lst ((List.map (fun l => Dat.lst ((List.map intD) l))) v201)))), (4, (intPV v202)), (5, (.vec 0 ((List.map (fun l => Dat.lst ((List.map intD) l))) v1803))), (6, (intPV v803))], [(.tok 23 v1803.length)]⟩)
theorem w_ref03_All_L3 : ∀ x r, m_ref03_All_L3 x = some r → P_ref03_All_L3 x r := by
  refine m_ref03_All_L3.partial_correctness _ (fun m_ref03_All_L3 w_ref03_All_L3 x r hm => ?_)
  unfold P_ref03_All_L3
  obtain ⟨p0, v202, v201, v803, v1403, v1404⟩ := x
  intro st hst
  refine RL_at hst ?_
  clear hst
  refine R_seq ?_
  refine R_seq ?_
  refine R_G ?_
  refine G_run 3 ?_
  obtain ⟨v1804, hx, hm⟩ := bind_inv hm
  refine I_idx 1 intD p0 v202 v1804 (es := (List.map intD) p0) (d := (intD v1804)) rfl hx rfl rfl ?_
  refine G_run 2 ?_
  refine G_end ?_
  refine R_ifp (p := v1404 < v1804) (rfl) (fun hc => ?_) (fun hc => ?_)
  · replace hm := pos_inv hc hm
    refine R_skip ?_
    refine R_seq ?_
    refine R_block ?_
    refine R_G ?_
    refine G_run 4 ?_
    obtain ⟨v1805, hx, hm⟩ := bind_inv hm
    refine I_idx 1 (fun l => Dat.lst ((List.map intD) l)) v201 v803 v1805 (es := (List.map (fun l => Dat.lst ((List.map intD) l))) v201) (d := (.lst ((List.map intD) v1805))) rfl hx rfl rfl ?_
    refine G_run 1 ?_
    obtain ⟨v1806, hx, hm⟩ := bind_inv hm
    refine I_app 3 1 8 1 intD ([] : List Int) v1805 v1806 (xs := (List.map intD) ([] : List Int)) (es := (List.map intD) v1805) (L := (List.map intD)) (fun _ => rfl) rfl rfl (fun _ => rfl) hx ?_
    refine G_run 2 ?_
    obtain ⟨v1807, hx, hm⟩ := bind_inv hm
    refine I_app 3 1 8 1 intD v1806 ([v1404] : List Int) v1807 (xs := (List.map intD) v1806) (es := (List.map intD) ([v1404] : List Int)) (L := (List.map intD)) (fun _ => rfl) rfl rfl (fun _ => rfl) hx ?_
    refine G_run 1 ?_
    obtain ⟨v1808, hx, hm⟩ := bind_inv hm
    refine I_app 23 1 24 0 (fun l => Dat.lst ((List.map intD) l)) v1403 ([v1807] : List (List Int)) v1808 (xs := (List.map (fun l => Dat.lst ((List.map intD) l))) v1403) (es := (List.map (fun l => Dat.lst ((List.map intD) l))) ([v1807] : List (List Int))) (L := (List.map (fun l => Dat.lst ((List.map intD) l)))) (fun _ => rfl) rfl rfl (fun _ => rfl) hx ?_
    refine G_run 1 ?_
    refine G_end ?_
    refine R_G ?_
    refine G_run 3 ?_
    refine G_end ?_
    exact w_ref03_All_L3 _ _ hm _ (by kernel_rfl)
  replace hm := neg_inv hc hm
  refine R_exit ?_
  obtain rfl := inj1 hm
  exact ⟨rfl, cut_leaf (by kernel_rfl)⟩
def m_ref03_All_L2 (x : ((List (List Int)) × (List Int) × Int × (List (List Int)) × Int)) : Option ((List (List Int))) :=
  match x with
  | (v201, p0, v202, v802, v803) =>
  if v803 < (v201.length : Int) then
    m_ref03_All_L3 (p0, v202, v201, v803, v802, 0) >>= fun (v1803 : (List (List Int))) =>
    m_ref03_All_L2 (v201, p0, v202, v1803, (W (v803 + 1)))
  else
  some v802
  partial_fixpoint
def P_ref03_All_L2 : ((List (List Int)) × (List Int) × Int × (List (List Int)) × Int) → (List (List Int)) → Prop := fun x r => match x with
  | (v201, p0, v202, v802, v803) => ∀ st, prune 1 ((firstRegion (codeAt [1, 1, 0, 1, 0, 0, 1, 0, 0, 1, 0, 1, 0, 0] (bodyOf f36))).bind (env.hint 36).keepAt) st = ⟨kp 44 [(0, (.dat (.lst ((List.map intD) p0)))), (3, (.dat (.lst ((List.map (fun l => Dat.lst ((List.map intD) l))) v201)))), (4, (intPV v202)), (5, (.vec 0 ((List.map (fun l => Dat.lst ((List.map intD) l))) v802))), (6, (intPV v803))], [(.tok 23 v802.length)]⟩ →
    RL prog env (env.hint 36) true (codeAt [1, 1, 0, 1, 0, 0, 1, 0, 0, 1, 0, 1, 0, 0] (bodyOf f36)) 1 st (fun e s => match r with | v1202 => e = .exit 2 ∧ ∃ d, s = ⟨sl d 44 [(0, (.dat (.lst ((List.map intD) p0)))), (4, (intPV v202)), (5, (.vec 0 ((List.map (fun l => Dat.lst ((List.map intD) l))) v1202)))], [(.tok 23 v1202.length)]⟩)
theorem w_ref03_All_L2 : ∀ x r, m_ref03_All_L2 x = some r → P_ref03_All_L2 x r := by
  refine m_ref03_All_L2.partial_correctness _ (fun m_ref03_All_L2 w_ref03_All_L2 x r hm => ?_)
  unfold P_ref03_All_L2
  obtain ⟨v201, p0, v202, v802, v803⟩ := x
  intro st hst
  refine RL_at hst ?_
  clear hst
  refine R_seq ?_
  refine R_seq ?_
  refine R_G ?_
  refine G_run 2 ?_
  refine I_len (fun l => Dat.lst ((List.map intD) l)) v201 (es := (List.map (fun l => Dat.lst ((List.map intD) l))) v201) rfl ?_
  refine G_run 1 ?_
  refine G_end ?_
  refine R_ifp (p := v803 < (v201.length : Int)) (rfl) (fun hc => ?_) (fun hc => ?_)
  · replace hm := pos_inv hc hm
    refine R_skip ?_
    refine R_seq ?_
    refine R_block ?_
    refine R_seq ?_
    refine R_G ?_
    refine G_run 1 ?_
    refine G_end ?_
    refine R_block ?_
    obtain ⟨v1803, hs, hm⟩ := bind_inv hm
    refine R_loop ?_
    refine RL_use (w_ref03_All_L3 _ _ hs) (by kernel_rfl) ?_
    clear hs
    intro e s hp
    obtain ⟨rfl, d, rfl⟩ := hp
    refine R_G ?_
    refine G_run 3 ?_
    refine G_end ?_
    exact w_ref03_All_L2 _ _ hm _ (by kernel_rfl)
  replace hm := neg_inv hc hm
  refine R_exit ?_
  obtain rfl := inj1 hm
  exact ⟨rfl, cut_leaf (by kernel_rfl)⟩
def m_ref03_All_L1 (x : ((List Int) × (List (List Int)) × Int)) : Option ((List (List Int))) :=
  match x with
  | (p0, v201, v202) =>
  if v202 < (p0.length : Int) then
    m_ref03_All_L2 (v201, p0, v202, ([] : List (List Int)), 0) >>= fun (v1202 : (List (List Int))) =>
    m_ref03_All_L1 (p0, v1202, (W (v202 + 1)))
  else
  some v201
  partial_fixpoint
def P_ref03_All_L1 : ((List Int) × (List (List Int)) × Int) → (List (List Int)) → Prop := fun x r => match x with
  | (p0, v201, v202) => ∀ st, prune 0 ((firstRegion (codeAt [1, 1, 0, 1, 0, 0] (bodyOf f36))).bind (env.hint 36).keepAt) st = ⟨kp 44 [(0, (.dat (.lst ((List.map intD) p0)))), (3, (.dat (.lst ((List.map (fun l => Dat.lst ((List.map intD) l))) v201)))), (4, (intPV v202))], []⟩ →
    RL prog env (env.hint 36) true (codeAt [1, 1, 0, 1, 0, 0] (bodyOf f36)) 0 st (fun e s => match r with | v601 => e = .exit 0 ∧ ∃ d, s = ⟨sl d 44 [(3, (.dat (.lst ((List.map (fun l => Dat.lst ((List.map intD) l))) v601))))], []⟩)
theorem w_ref03_All_L1 : ∀ x r, m_ref03_All_L1 x = some r → P_ref03_All_L1 x r := by
  refine m_ref03_All_L1.partial_correctness _ (fun m_ref03_All_L1 w_ref03_All_L1 x r hm => ?_)
  unfold P_ref03_All_L1
  obtain ⟨p0, v201, v202⟩ := x
  intro st hst
  refine RL_at hst ?_
  clear hst
  refine R_seq ?_
  refine R_seq ?_
  refine R_G ?_
  refine G_run 2 ?_
  refine I_len intD p0 (es := (List.map intD) p0) rfl ?_
  refine G_run 1 ?_
  refine G_end ?_
  refine R_ifp (p := v202 < (p0.length : Int)) (rfl) (fun hc => ?_) (fun hc => ?_)
  · replace hm := pos_inv hc hm
    refine R_skip ?_
    refine R_seq ?_
    refine R_block ?_
    refine R_seq ?_
    refine R_G ?_
    refine G_run 1 ?_
    refine G_end ?_
    refine R_seq ?_
    refine R_seq ?_
    refine R_G ?_
    refine G_run 1 ?_
    refine G_end ?_
    refine R_block ?_
    obtain ⟨v1202, hs, hm⟩ := bind_inv hm
    refine R_loop ?_
    refine RL_use (w_ref03_All_L2 _ _ hs) (by kernel_rfl) ?_
    clear hs
    intro e s hp
    obtain ⟨rfl, d, rfl⟩ := hp
    refine R_G ?_
    refine G_run 2 ?_
    refine G_end ?_
    refine R_G ?_
    refine G_run 3 ?_
    refine G_end ?_
    exact w_ref03_All_L1 _ _ hm _ (by kernel_rfl)
  replace hm := neg_inv hc hm
  refine R_exit ?_
  obtain rfl := inj1 hm
  exact ⟨rfl, cut_leaf (by kernel_rfl)⟩
def m_ref03_All (x : (List Int)) : Option (List (List Int)) :=
  match x with
  | p0 =>
  m_ref03_All_L1 (p0, ([([] : (List Int))] : List (List Int)), 0) >>= fun (v601 : (List (List Int))) =>
  some v601
def P_ref03_All : (List Int) → (List (List Int)) → Prop := fun x r => match x, r with
  | p0, r0 => ∀ H, PC prog env 36 ([(.lst ((List.map intD) p0))].map .dat) H (.dat (.lst ((List.map (fun l => Dat.lst ((List.map intD) l))) r0))) H
theorem w_ref03_All : ∀ x r, m_ref03_All x = some r → P_ref03_All x r := by
  intro p0 r0 hm
  unfold m_ref03_All at hm
  unfold P_ref03_All
  intro H
  refine PC_sx (ds := [(.lst ((List.map intD) p0))]) (fn := f36) (by kernel_rfl) (by kernel_rfl) rfl ?_ (by kernel_rfl)
  refine R_seq ?_
  refine R_G ?_
  refine G_run 1 ?_
  refine G_end ?_
  refine R_seq ?_
  refine R_G ?_
  refine G_run 3 ?_
  refine G_end ?_
  refine R_seq ?_
  refine R_seq ?_
  refine R_G ?_
  refine G_run 1 ?_
  refine G_end ?_
  refine R_block ?_
  obtain ⟨v601, hs, hm⟩ := bind_inv hm
  refine R_loop ?_
  refine RL_use (w_ref03_All_L1 _ _ hs) (by kernel_rfl) ?_
  clear hs
  intro e s hp
  obtain ⟨rfl, d, rfl⟩ := hp
  refine R_seq ?_
  refine R_G ?_
  refine G_run 2 ?_
  refine G_end ?_
  refine R_ret ?_
  obtain rfl := inj1 hm
  exact ⟨trivial, fin_pure (by kernel_rfl)⟩
end Go.Proofs.Tryz
namespace Go.Proofs.Tryz
open Go Go.Pm
set_option linter.unusedVariables false
set_option maxHeartbeats 2000000
set_option maxRecDepth 2000
def m_ref06_Has_L1 (x : ((List Int) × T_ref06_Box × Int)) : Option (Unit ⊕ Unit) :=
  match x with
  | (p1, p0, v201) =>
  if v201 < (p1.length : Int) then
    (idx p1 v201 >>= fun v602 =>
    idx p0.lo v201 >>= fun v603 =>
    if v602 < v603 then
      some true
    else
    idx p1 v201 >>= fun v604 =>
    idx p0.hi v201 >>= fun v605 =>
    some (decide (v604 ≥ v605))
    ) >>= fun (v601 : Bool) =>
    if v601 = true then
      some (Sum.inl ())
    else
    m_ref06_Has_L1 (p1, p0, (W (v201 + 1)))
  else
  some (Sum.inr ())
  partial_fixpoint
def P_ref06_Has_L1 : ((List Int) × T_ref06_Box × Int) → (Unit ⊕ Unit) → Prop := fun x r => match x with
  | (p1, p0, v201) => ∀ st, prune 1 ((firstRegion (codeAt [1, 1, 0, 1, 0, 0] (bodyOf f70))).bind (env.hint 70).keepAt) st = ⟨kp 40 [(1, (.dat (.lst ((List.map intD) p1)))), (2, (.ptr 0 0)), (5, (intPV v201))], [(.box [(.dat (.lst ((List.map intD) p0.lo))), (.dat (.lst ((List.map intD) p0.hi)))])]⟩ →
    RL prog env (env.hint 70) true (codeAt [1, 1, 0, 1, 0, 0] (bodyOf f70)) 1 st (fun e s => match r with | .inl _ => e = .ret ∧ ∃ d, s = ⟨sl d 40 [(4, (boolPV false))], [(.box [(.dat (.lst ((List.map intD) p0.lo))), (.dat (.lst ((List.map intD) p0.hi)))])]⟩ | .inr (_) => e = .exit 0 ∧ ∃ d, s = ⟨sl d 40 [], [(.box [(.dat (.lst ((List.map intD) p0.lo))), (.dat (.lst ((List.map intD) p0.hi)))])]⟩)
theorem w_ref06_Has_L1 : ∀ x r, m_ref06_Has_L1 x = some r → P_ref06_Has_L1 x r := by
  refine m_ref06_Has_L1.partial_correctness _ (fun m_ref06_Has_L1 w_ref06_Has_L1 x r hm => ?_)
  unfold P_ref06_Has_L1
  obtain ⟨p1, p0, v201⟩ := x
  intro st hst
  refine RL_at hst ?_
  clear hst
  refine R_seq ?_
  refine R_seq ?_
  refine R_G ?_
  refine G_run 2 ?_
  refine I_len intD p1 (es := (List.map intD) p1) rfl ?_
  refine G_run 1 ?_
  refine G_end ?_
  refine R_ifp (p := v201 < (p1.length : Int)) (rfl) (fun hc => ?_) (fun hc => ?_)
  · replace hm := pos_inv hc hm
    refine R_skip ?_
    refine R_seq ?_
    refine R_block ?_
    refine R_seq ?_
    obtain ⟨v601, hs, hm⟩ := bind_inv hm
    refine R_cut (fun d => ⟨sl d 40 [(1, (.dat (.lst ((List.map intD) p1)))), (2, (.ptr 0 0)), (5, (intPV v201)), (39, (boolPV v601))], [(.box [(.dat (.lst ((List.map intD) p0.lo))), (.dat (.lst ((List.map intD) p0.hi)))])]⟩) ?_ (fun d => ?_)
    · replace hm := hs
      clear hs
      refine R_GD ?_
      refine G_run 2 ?_
      obtain ⟨v602, hx, hm⟩ := bind_inv hm
      refine I_idx 1 intD p1 v201 v602 (es := (List.map intD) p1) (d := (intD v602)) rfl hx rfl rfl ?_
      refine G_run 4 ?_
      obtain ⟨v603, hx, hm⟩ := bind_inv hm
      refine I_idx 1 intD p0.lo v201 v603 (es := (List.map intD) p0.lo) (d := (intD v603)) rfl hx rfl rfl ?_
      refine G_run 3 ?_
      refine G_split (p := v602 < v603) 28 (rfl) (fun hc => ?_) (fun hc => ?_)
      · replace hm := pos_inv hc hm
        refine G_run 11 ?_
        refine G_end ⟨by kernel_rfl, ?_⟩
        obtain rfl := inj1 hm
        exact cut_leaf (by kernel_rfl)
      replace hm := neg_inv hc hm
      refine G_run 2 ?_
      obtain ⟨v604, hx, hm⟩ := bind_inv hm
      refine I_idx 1 intD p1 v201 v604 (es := (List.map intD) p1) (d := (intD v604)) rfl hx rfl rfl ?_
      refine G_run 4 ?_
      obtain ⟨v605, hx, hm⟩ := bind_inv hm
      refine I_idx 1 intD p0.hi v201 v605 (es := (List.map intD) p0.hi) (d := (intD v605)) rfl hx rfl rfl ?_
      refine G_run 3 ?_
      refine G_end ⟨by kernel_rfl, ?_⟩
      obtain rfl := inj1 hm
      exact cut_leaf (by kernel_rfl)
    clear hs
    refine R_ifp (p := v601 = true) (bool_dec _) (fun hc => ?_) (fun hc => ?_)
    · replace hm := pos_inv hc hm
      refine R_seq ?_
      refine R_G ?_
      refine G_run 1 ?_
      refine G_end ?_
      refine R_ret ?_
      obtain rfl := inj1 hm
      exact ⟨rfl, cut_leaf (by kernel_rfl)⟩
    replace hm := neg_inv hc hm
    refine R_skip ?_
    refine R_G ?_
    refine G_run 3 ?_
    refine G_end ?_
    exact w_ref06_Has_L1 _ _ hm _ (by kernel_rfl)
  replace hm := neg_inv hc hm
  refine R_exit ?_
  obtain rfl := inj1 hm
  exact ⟨rfl, cut_leaf (by kernel_rfl)⟩
def m_ref06_Has (x : (T_ref06_Box × (List Int))) : Option Bool :=
  match x with
  | (p0, p1) =>
  if (p1.length : Int) ≠ (p0.lo.length : Int) then
    some false
  else
  (
  m_ref06_Has_L1 (p1, p0, 0) >>= fun (out : Unit ⊕ Unit) =>
  match out with
  | .inl _ =>
    some false
  | .inr (_) =>
    some true
  )
def P_ref06_Has : (T_ref06_Box × (List Int)) → Bool → Prop := fun x r => match x, r with
  | (p0, p1), r0 => ∀ H, PC prog env 70 ([(T_ref06_Box.toD p0), (.lst ((List.map intD) p1))].map .dat) H (boolPV r0) H
theorem w_ref06_Has : ∀ x r, m_ref06_Has x = some r → P_ref06_Has x r := by
  intro x r0 hm
  unfold m_ref06_Has at hm
  unfold P_ref06_Has
  obtain ⟨p0, p1⟩ := x
  intro H
  refine PC_sx (ds := [(T_ref06_Box.toD p0), (.lst ((List.map intD) p1))]) (fn := f70) (by kernel_rfl) (by kernel_rfl) rfl ?_ (by kernel_rfl)
  refine R_seq ?_
  refine R_G ?_
  refine G_run 2 ?_
  refine G_end ?_
  refine R_seq ?_
  refine R_seq ?_
  refine R_G ?_
  refine G_run 1 ?_
  refine I_len intD p1 (es := (List.map intD) p1) rfl ?_
  refine G_run 2 ?_
  refine I_len intD p0.lo (es := (List.map intD) p0.lo) rfl ?_
  refine G_run 1 ?_
  refine G_end ?_
  refine R_ifp (p := (p1.length : Int) ≠ (p0.lo.length : Int)) (ne_dec _ _) (fun hc => ?_) (fun hc => ?_)
  · replace hm := pos_inv hc hm
    refine R_seq ?_
    refine R_G ?_
    refine G_run 1 ?_
    refine G_end ?_
    refine R_ret ?_
    obtain rfl := inj1 hm
    exact ⟨trivial, fin_pure (by kernel_rfl)⟩
  replace hm := neg_inv hc hm
  refine R_skip ?_
  refine R_seq ?_
  refine R_seq ?_
  refine R_G ?_
  refine G_run 1 ?_
  refine G_end ?_
  refine R_block ?_
  obtain ⟨out, hs, hm⟩ := bind_inv hm
  refine R_loop ?_
  rcases out with _ | _
  · refine RL_use (w_ref06_Has_L1 _ _ hs) (by kernel_rfl) ?_
    clear hs
    intro e s hp
    obtain ⟨rfl, d, rfl⟩ := hp
    obtain rfl := inj1 hm
    exact ⟨trivial, fin_pure (by kernel_rfl)⟩
  · refine RL_use (w_ref06_Has_L1 _ _ hs) (by kernel_rfl) ?_
    clear hs
    intro e s hp
    obtain ⟨rfl, d, rfl⟩ := hp
    refine R_seq ?_
    refine R_G ?_
    refine G_run 1 ?_
    refine G_end ?_
    refine R_ret ?_
    obtain rfl := inj1 hm
    exact ⟨trivial, fin_pure (by kernel_rfl)⟩
end Go.Proofs.Tryz
namespace Go.Proofs.Tryz
open Go Go.Pm
set_option linter.unusedVariables false
set_option maxHeartbeats 2000000
set_option maxRecDepth 2000
def m_ref03_Dot_L1 (x : ((List Int) × (List Int) × Int × Int)) : Option (Int) :=
  match x with
  | (p0, p1, v201, v202) =>
  (if v202 < (p0.length : Int) then
    some (decide (v202 < (p1.length : Int)))
  else
  some false
  ) >>= fun (v602 : Bool) =>
  if v602 = true then
    idx p0 v202 >>= fun v603 =>
    idx p1 v202 >>= fun v604 =>
    m_ref03_Dot_L1 (p0, p1, (W (v201 + (W (v603 * v604)))), (W (v202 + 1)))
  else
  some v201
  partial_fixpoint
def P_ref03_Dot_L1 : ((List Int) × (List Int) × Int × Int) → Int → Prop := fun x r => match x with
  | (p0, p1, v201, v202) => ∀ st, prune 0 ((firstRegion (codeAt [1, 1, 0, 1, 0, 0] (bodyOf f98))).bind (env.hint 98).keepAt) st = ⟨kp 31 [(0, (.dat (.lst ((List.map intD) p0)))), (1, (.dat (.lst ((List.map intD) p1)))), (5, (intPV v201)), (6, (intPV v202))], []⟩ →
    RL prog env (env.hint 98) true (codeAt [1, 1, 0, 1, 0, 0] (bodyOf f98)) 0 st (fun e s => match r with | v601 => e = .exit 0 ∧ ∃ d, s = ⟨sl d 31 [(5, (intPV v601))], []⟩)
theorem w_ref03_Dot_L1 : ∀ x r, m_ref03_Dot_L1 x = some r → P_ref03_Dot_L1 x r := by
  refine m_ref03_Dot_L1.partial_correctness _ (fun m_ref03_Dot_L1 w_ref03_Dot_L1 x r hm => ?_)
  unfold P_ref03_Dot_L1
  obtain ⟨p0, p1, v201, v202⟩ := x
  intro st hst
  refine RL_at hst ?_
  clear hst
  refine R_seq ?_
  refine R_seq ?_
  obtain ⟨v602, hs, hm⟩ := bind_inv hm
  refine R_cut (fun d => ⟨sl d 31 [(0, (.dat (.lst ((List.map intD) p0)))), (1, (.dat (.lst ((List.map intD) p1)))), (5, (intPV v201)), (6, (intPV v202)), (16, (boolPV v602))], []⟩) ?_ (fun d => ?_)
  · replace hm := hs
    clear hs
    refine R_G ?_
    refine G_run 2 ?_
    refine I_len intD p0 (es := (List.map intD) p0) rfl ?_
    refine G_run 2 ?_
    refine G_split (p := v202 < (p0.length : Int)) 11 (rfl) (fun hc => ?_) (fun hc => ?_)
    · replace hm := pos_inv hc hm
      refine G_run 2 ?_
      refine I_len intD p1 (es := (List.map intD) p1) rfl ?_
      refine G_run 2 ?_
      refine G_end ?_
      obtain rfl := inj1 hm
      exact cut_leaf (by kernel_rfl)
    replace hm := neg_inv hc hm
    refine G_run 5 ?_
    refine G_end ?_
    obtain rfl := inj1 hm
    exact cut_leaf (by kernel_rfl)
  clear hs
  refine R_ifp (p := v602 = true) (bool_dec _) (fun hc => ?_) (fun hc => ?_)
  · replace hm := pos_inv hc hm
    refine R_skip ?_
    refine R_seq ?_
    refine R_block ?_
    refine R_GD ?_
    refine G_run 3 ?_
    obtain ⟨v603, hx, hm⟩ := bind_inv hm
    refine I_idx 1 intD p0 v202 v603 (es := (List.map intD) p0) (d := (intD v603)) rfl hx rfl rfl ?_
    refine G_run 3 ?_
    obtain ⟨v604, hx, hm⟩ := bind_inv hm
    refine I_idx 1 intD p1 v202 v604 (es := (List.map intD) p1) (d := (intD v604)) rfl hx rfl rfl ?_
    refine G_run 4 ?_
    refine G_end ⟨by kernel_rfl, ?_⟩
    refine R_G ?_
    refine G_run 3 ?_
    refine G_end ?_
    exact w_ref03_Dot_L1 _ _ hm _ (by kernel_rfl)
  replace hm := neg_inv hc hm
  refine R_exit ?_
  obtain rfl := inj1 hm
  exact ⟨rfl, cut_leaf (by kernel_rfl)⟩
def m_ref03_Dot (x : ((List Int) × (List Int))) : Option Int :=
  match x with
  | (p0, p1) =>
  m_ref03_Dot_L1 (p0, p1, 0, 0) >>= fun (v601 : Int) =>
  some v601
def P_ref03_Dot : ((List Int) × (List Int)) → Int → Prop := fun x r => match x, r with
  | (p0, p1), r0 => ∀ H, PC prog env 98 ([(.lst ((List.map intD) p0)), (.lst ((List.map intD) p1))].map .dat) H (intPV r0) H
theorem w_ref03_Dot : ∀ x r, m_ref03_Dot x = some r → P_ref03_Dot x r := by
  intro x r0 hm
  unfold m_ref03_Dot at hm
  unfold P_ref03_Dot
  obtain ⟨p0, p1⟩ := x
  intro H
  refine PC_sx (ds := [(.lst ((List.map intD) p0)), (.lst ((List.map intD) p1))]) (fn := f98) (by kernel_rfl) (by kernel_rfl) rfl ?_ (by kernel_rfl)
  refine R_seq ?_
  refine R_G ?_
  refine G_run 1 ?_
  refine G_end ?_
  refine R_seq ?_
  refine R_G ?_
  refine G_run 1 ?_
  refine G_end ?_
  refine R_seq ?_
  refine R_seq ?_
  refine R_G ?_
  refine G_run 1 ?_
  refine G_end ?_
  refine R_block ?_
  obtain ⟨v601, hs, hm⟩ := bind_inv hm
  refine R_loop ?_
  refine RL_use (w_ref03_Dot_L1 _ _ hs) (by kernel_rfl) ?_
  clear hs
  intro e s hp
  obtain ⟨rfl, d, rfl⟩ := hp
  refine R_seq ?_
  refine R_G ?_
  refine G_run 2 ?_
  refine G_end ?_
  refine R_ret ?_
  obtain rfl := inj1 hm
  exact ⟨trivial, fin_pure (by kernel_rfl)⟩
end Go.Proofs.Tryz
namespace Go.Proofs.Tryz
open Go Go.Pm
set_option linter.unusedVariables false
set_option maxHeartbeats 2000000
set_option maxRecDepth 2000
def m_ref17_At (x : (T_ref17_Access × (List Int))) : Option (Int × Bool) :=
  match x with
  | (p0, p1) =>
  m_ref03_Dot (p0.strides, p1) >>= fun (v1 : Int) =>
  if p0.kind = 1 then
    some (0, false)
  else
  if p0.kind = 2 then
    some ((W (p0.base + v1)), true)
  else
  remM (W (p0.start + v1)) p0.mod >>= fun v2 =>
  (if v2 < 0 then
    some (W (v2 + p0.mod))
  else
  some v2
  ) >>= fun (v3 : Int) =>
  some ((W (p0.base + (W (p0.step * v3)))), true)
def P_ref17_At : (T_ref17_Access × (List Int)) → (Int × Bool) → Prop := fun x r => match x, r with
  | (p0, p1), (r0, r1) => ∀ H, PC prog env 71 ([(T_ref17_Access.toD p0), (.lst ((List.map intD) p1))].map .dat) H (.tup [(intPV r0), (boolPV r1)]) H
theorem w_ref17_At : ∀ x r, m_ref17_At x = some r → P_ref17_At x r := by
  intro x r hm
  unfold m_ref17_At at hm
  unfold P_ref17_At
  obtain ⟨p0, p1⟩ := x
  obtain ⟨r0, r1⟩ := r
  intro H
  refine PC_sx (ds := [(T_ref17_Access.toD p0), (.lst ((List.map intD) p1))]) (fn := f71) (by kernel_rfl) (by kernel_rfl) rfl ?_ (by kernel_rfl)
  refine R_seq ?_
  refine R_G ?_
  refine G_run 3 ?_
  refine G_end ?_
  refine R_seq ?_
  refine R_G ?_
  refine G_run 3 ?_
  obtain ⟨v1, hx, hm⟩ := bind_inv hm
  have hq := w_ref03_Dot _ _ hx []
  refine G_callP hq ?_
  refine G_run 1 ?_
  refine G_end ?_
  refine R_seq ?_
  refine R_seq ?_
  refine R_G ?_
  refine G_run 3 ?_
  refine G_end ?_
  refine R_ifp (p := p0.kind = 1) (eq_dec _ _) (fun hc => ?_) (fun hc => ?_)
  · replace hm := pos_inv hc hm
    refine R_seq ?_
    refine R_G ?_
    refine G_run 2 ?_
    refine G_end ?_
    refine R_ret ?_
    obtain ⟨rfl, rfl⟩ := inj2 hm
    exact ⟨trivial, fin_pure (by kernel_rfl)⟩
  replace hm := neg_inv hc hm
  refine R_skip ?_
  refine R_seq ?_
  refine R_seq ?_
  refine R_G ?_
  refine G_run 3 ?_
  refine G_end ?_
  refine R_ifp (p := p0.kind = 2) (eq_dec _ _) (fun hc => ?_) (fun hc => ?_)
  · replace hm := pos_inv hc hm
    refine R_seq ?_
    refine R_G ?_
    refine G_run 6 ?_
    refine G_end ?_
    refine R_ret ?_
    obtain ⟨rfl, rfl⟩ := inj2 hm
    exact ⟨trivial, fin_pure (by kernel_rfl)⟩
  replace hm := neg_inv hc hm
  refine R_skip ?_
  refine R_seq ?_
  refine R_G ?_
  refine G_run 6 ?_
  obtain ⟨v2, hx, hm⟩ := bind_inv hm
  refine G_semN rfl (by kernel_rfl) (fun _ => E_rem (a := (W (p0.start + v1))) (b := p0.mod) hx rfl (by kernel_rfl) (by kernel_rfl)) ?_
  refine G_run 1 ?_
  refine G_end ?_
  refine R_seq ?_
  refine R_seq ?_
  refine R_G ?_
  refine G_run 2 ?_
  refine G_end ?_
  obtain ⟨v3, hs, hm⟩ := bind_inv hm
  refine R_cut (fun d => ⟨sl d 42 [(2, (.ptr 0 0)), (7, (intPV v3))], [(.box [(intPV p0.kind), (intPV p0.buffer), (intPV p0.base), (.dat (.lst ((List.map intD) p0.strides))), (intPV p0.start), (intPV p0.step), (intPV p0.mod)])]⟩) ?_ (fun d => ?_)
  · replace hm := hs
    clear hs
    refine R_ifp (p := v2 < 0) (rfl) (fun hc => ?_) (fun hc => ?_)
    · replace hm := pos_inv hc hm
      refine R_G ?_
      refine G_run 5 ?_
      refine G_end ?_
      obtain rfl := inj1 hm
      exact cut_leaf (by kernel_rfl)
    replace hm := neg_inv hc hm
    refine R_skip ?_
    obtain rfl := inj1 hm
    exact cut_leaf (by kernel_rfl)
  clear hs
  refine R_seq ?_
  refine R_G ?_
  refine G_run 9 ?_
  refine G_end ?_
  refine R_ret ?_
  obtain ⟨rfl, rfl⟩ := inj2 hm
  exact ⟨trivial, fin_pure (by kernel_rfl)⟩
end Go.Proofs.Tryz
namespace Go.Proofs.Tryz
open Go Go.Pm
set_option linter.unusedVariables false
set_option maxHeartbeats 2000000
set_option maxRecDepth 2000
def m_ref18_Origin_L1 (x : ((List T_ref18_Piece) × (List Int) × Int)) : Option ((Bool × Int × Int) ⊕ Unit) :=
  match x with
  | (p0, p1, v201) =>
  if v201 < (p0.length : Int) then
    idx p0 v201 >>= fun v604 =>
    m_ref06_Has (v604.box, p1) >>= fun (v605 : Bool) =>
    if v605 = true then
      idx p0 v201 >>= fun v606 =>
      m_ref17_At (v606.access, p1) >>= fun ((v607, v608) : (Int × Bool)) =>
      if v608 = false then
        some (Sum.inl (true, 0, 0))
      else
      idx p0 v201 >>= fun v609 =>
      some (Sum.inl (false, v609.access.buffer, v607))
    else
    m_ref18_Origin_L1 (p0, p1, (W (v201 + 1)))
  else
  some (Sum.inr ())
  partial_fixpoint
def P_ref18_Origin_L1 : ((List T_ref18_Piece) × (List Int) × Int) → ((Bool × Int × Int) ⊕ Unit) → Prop := fun x r => match x with
  | (p0, p1, v201) => ∀ st, prune 1 ((firstRegion (codeAt [1, 0, 1, 0, 0] (bodyOf f37))).bind (env.hint 37).keepAt) st = ⟨kp 44 [(0, (.dat (.lst ((List.map T_ref18_Piece.toD) p0)))), (1, (.dat (.lst ((List.map intD) p1)))), (4, (.ptr 0 0)), (6, (intPV v201))], [(.box [(boolPV false), (intPV 0), (intPV 0)])]⟩ →
    RL prog env (env.hint 37) true (codeAt [1, 0, 1, 0, 0] (bodyOf f37)) 1 st (fun e s => match r with | .inl (v601, v602, v603) => e = .ret ∧ ∃ d, s = ⟨sl d 44 [(4, (.ptr 0 0)), (5, (boolPV true))], [(.box [(boolPV v601), (intPV v602), (intPV v603)])]⟩ | .inr (_) => e = .exit 0 ∧ ∃ d, s = ⟨sl d 44 [(4, (.ptr 0 0))], [(.box [(boolPV false), (intPV 0), (intPV 0)])]⟩)
theorem w_ref18_Origin_L1 : ∀ x r, m_ref18_Origin_L1 x = some r → P_ref18_Origin_L1 x r := by
  refine m_ref18_Origin_L1.partial_correctness _ (fun m_ref18_Origin_L1 w_ref18_Origin_L1 x r hm => ?_)
  unfold P_ref18_Origin_L1
  obtain ⟨p0, p1, v201⟩ := x
  intro st hst
  refine RL_at hst ?_
  clear hst
  refine R_seq ?_
  refine R_seq ?_
  refine R_G ?_
  refine G_run 2 ?_
  refine I_len T_ref18_Piece.toD p0 (es := (List.map T_ref18_Piece.toD) p0) rfl ?_
  refine G_run 1 ?_
  refine G_end ?_
  refine R_ifp (p := v201 < (p0.length : Int)) (rfl) (fun hc => ?_) (fun hc => ?_)
  · replace hm := pos_inv hc hm
    refine R_skip ?_
    refine R_seq ?_
    refine R_block ?_
    refine R_seq ?_
    refine R_G ?_
    refine G_run 2 ?_
    obtain ⟨v604, hx, hm⟩ := bind_inv hm
    refine I_idx 9 T_ref18_Piece.toD p0 v201 v604 (es := (List.map T_ref18_Piece.toD) p0) (d := (T_ref18_Piece.toD v604)) rfl hx rfl rfl ?_
    refine G_run 3 ?_
    obtain ⟨v605, hx, hm⟩ := bind_inv hm
    have hq := w_ref06_Has _ _ hx []
    refine G_callP hq ?_
    refine G_end ?_
    refine R_ifp (p := v605 = true) (bool_dec _) (fun hc => ?_) (fun hc => ?_)
    · replace hm := pos_inv hc hm
      refine R_seq ?_
      refine R_G ?_
      refine G_run 2 ?_
      obtain ⟨v606, hx, hm⟩ := bind_inv hm
      refine I_idx 9 T_ref18_Piece.toD p0 v201 v606 (es := (List.map T_ref18_Piece.toD) p0) (d := (T_ref18_Piece.toD v606)) rfl hx rfl rfl ?_
      refine G_run 3 ?_
      obtain ⟨⟨v607, v608⟩, hx, hm⟩ := bind_inv hm
      have hq := w_ref17_At _ _ hx []
      refine G_callP hq ?_
      refine G_run 5 ?_
      refine G_end ?_
      refine R_seq ?_
      refine R_seq ?_
      refine R_G ?_
      refine G_run 2 ?_
      refine G_end ?_
      refine R_ifp (p := v608 = false) (not_dec _) (fun hc => ?_) (fun hc => ?_)
      · replace hm := pos_inv hc hm
        refine R_seq ?_
        refine R_G ?_
        refine G_run 3 ?_
        refine G_end ?_
        refine R_ret ?_
        obtain rfl := inj1 hm
        exact ⟨rfl, cut_leaf (by kernel_rfl)⟩
      replace hm := neg_inv hc hm
      refine R_skip ?_
      refine R_seq ?_
      refine R_G ?_
      refine G_run 2 ?_
      obtain ⟨v609, hx, hm⟩ := bind_inv hm
      refine I_idx 9 T_ref18_Piece.toD p0 v201 v609 (es := (List.map T_ref18_Piece.toD) p0) (d := (T_ref18_Piece.toD v609)) rfl hx rfl rfl ?_
      refine G_run 7 ?_
      refine G_end ?_
      refine R_ret ?_
      obtain rfl := inj1 hm
      exact ⟨rfl, cut_leaf (by kernel_rfl)⟩
    replace hm := neg_inv hc hm
    refine R_skip ?_
    refine R_G ?_
    refine G_run 3 ?_
    refine G_end ?_
    exact w_ref18_Origin_L1 _ _ hm _ (by kernel_rfl)
  replace hm := neg_inv hc hm
  refine R_exit ?_
  obtain rfl := inj1 hm
  exact ⟨rfl, cut_leaf (by kernel_rfl)⟩
def m_ref18_Origin (x : ((List T_ref18_Piece) × (List Int))) : Option (T_ref16_Cell × Bool) :=
  match x with
  | (p0, p1) =>
  (
  m_ref18_Origin_L1 (p0, p1, 0) >>= fun (out : (Bool × Int × Int) ⊕ Unit) =>
  match out with
  | .inl (v601, v602, v603) =>
    some ((⟨v601, v602, v603⟩ : T_ref16_Cell), true)
  | .inr (_) =>
    some ((⟨false, 0, 0⟩ : T_ref16_Cell), false)
  )
def P_ref18_Origin : ((List T_ref18_Piece) × (List Int)) → (T_ref16_Cell × Bool) → Prop := fun x r => match x, r with
  | (p0, p1), (r0, r1) => ∀ H, PC prog env 37 ([(.lst ((List.map T_ref18_Piece.toD) p0)), (.lst ((List.map intD) p1))].map .dat) H (.tup [(.dat (T_ref16_Cell.toD r0)), (boolPV r1)]) H
theorem w_ref18_Origin : ∀ x r, m_ref18_Origin x = some r → P_ref18_Origin x r := by
  intro x r hm
  unfold m_ref18_Origin at hm
  unfold P_ref18_Origin
  obtain ⟨p0, p1⟩ := x
  obtain ⟨r0, r1⟩ := r
  intro H
  refine PC_sx (ds := [(.lst ((List.map T_ref18_Piece.toD) p0)), (.lst ((List.map intD) p1))]) (fn := f37) (by kernel_rfl) (by kernel_rfl) rfl ?_ (by kernel_rfl)
  refine R_seq ?_
  refine R_G ?_
  refine G_run 2 ?_
  refine G_end ?_
  refine R_seq ?_
  refine R_seq ?_
  refine R_G ?_
  refine G_run 1 ?_
  refine G_end ?_
  refine R_block ?_
  obtain ⟨out, hs, hm⟩ := bind_inv hm
  refine R_loop ?_
  rcases out with ⟨v601, v602, v603⟩ | _
  · refine RL_use (w_ref18_Origin_L1 _ _ hs) (by kernel_rfl) ?_
    clear hs
    intro e s hp
    obtain ⟨rfl, d, rfl⟩ := hp
    obtain ⟨rfl, rfl⟩ := inj2 hm
    exact ⟨trivial, fin_pure (by kernel_rfl)⟩
  · refine RL_use (w_ref18_Origin_L1 _ _ hs) (by kernel_rfl) ?_
    clear hs
    intro e s hp
    obtain ⟨rfl, d, rfl⟩ := hp
    refine R_seq ?_
    refine R_G ?_
    refine G_run 3 ?_
    refine G_end ?_
    refine R_ret ?_
    obtain ⟨rfl, rfl⟩ := inj2 hm
    exact ⟨trivial, fin_pure (by kernel_rfl)⟩
end Go.Proofs.Tryz
namespace Go.Proofs.Tryz
open Go Go.Pm
set_option linter.unusedVariables false
set_option maxHeartbeats 2000000
set_option maxRecDepth 2000
def m_ref18_Origins_L1 (x : ((List (List Int)) × (List T_ref18_Piece) × (List T_ref16_Cell) × Int)) : Option ((List T_ref16_Cell)) :=
  match x with
  | (v1, p1, v202, v203) =>
  if v203 < (v1.length : Int) then
    idx v1 v203 >>= fun v603 =>
    m_ref18_Origin (p1, v603) >>= fun ((v604, v605) : (T_ref16_Cell × Bool)) =>
    app 24 v202 ([v604] : List T_ref16_Cell) >>= fun v606 =>
    m_ref18_Origins_L1 (v1, p1, v606, (W (v203 + 1)))
  else
  some v202
  partial_fixpoint
def P_ref18_Origins_L1 : ((List (List Int)) × (List T_ref18_Piece) × (List T_ref16_Cell) × Int) → (List T_ref16_Cell) → Prop := fun x r => match x with
  | (v1, p1, v202, v203) => ∀ st, prune 1 ((firstRegion (codeAt [1, 1, 1, 0, 1, 0, 0] (bodyOf f13))).bind (env.hint 13).keepAt) st = ⟨kp 32 [(1, (.dat (.lst ((List.map T_ref18_Piece.toD) p1)))), (5, (.vec 0 ((List.map T_ref16_Cell.toD) v202))), (6, (.dat (.lst ((List.map (fun l => Dat.lst ((List.map intD) l))) v1)))), (7, (intPV v203))], [(.tok 38 v202.length)]⟩ →
    RL prog env (env.hint 13) true (codeAt [1, 1, 1, 0, 1, 0, 0] (bodyOf f13)) 1 st (fun e s => match r with | v602 => e = .exit 0 ∧ ∃ d, s = ⟨sl d 32 [(5, (.vec 0 ((List.map T_ref16_Cell.toD) v602)))], [(.tok 38 v602.length)]⟩)
theorem w_ref18_Origins_L1 : ∀ x r, m_ref18_Origins_L1 x = some r → P_ref18_Origins_L1 x r := by
  refine m_ref18_Origins_L1.partial_correctness _ (fun m_ref18_Origins_L1 w_ref18_Origins_L1 x r hm => ?_)
  unfold P_ref18_Origins_L1
  obtain ⟨v1, p1, v202, v203⟩ := x
  intro st hst
  refine RL_at hst ?_
  clear hst
  refine R_seq ?_
  refine R_seq ?_
  refine R_G ?_
  refine G_run 2 ?_
  refine I_len (fun l => Dat.lst ((List.map intD) l)) v1 (es := (List.map (fun l => Dat.lst ((List.map intD) l))) v1) rfl ?_
  refine G_run 1 ?_
  refine G_end ?_
  refine R_ifp (p := v203 < (v1.length : Int)) (rfl) (fun hc => ?_) (fun hc => ?_)
  · replace hm := pos_inv hc hm
    refine R_skip ?_
    refine R_seq ?_
    refine R_block ?_
    refine R_seq ?_
    refine R_G ?_
    refine G_run 3 ?_
    obtain ⟨v603, hx, hm⟩ := bind_inv hm
    refine I_idx 1 (fun l => Dat.lst ((List.map intD) l)) v1 v203 v603 (es := (List.map (fun l => Dat.lst ((List.map intD) l))) v1) (d := (.lst ((List.map intD) v603))) rfl hx rfl rfl ?_
    refine G_run 1 ?_
    obtain ⟨⟨v604, v605⟩, hx, hm⟩ := bind_inv hm
    have hq := w_ref18_Origin _ _ hx []
    refine G_callP hq ?_
    refine G_run 6 ?_
    refine G_end ?_
    refine R_G ?_
    refine G_run 3 ?_
    obtain ⟨v606, hx, hm⟩ := bind_inv hm
    refine I_app 38 3 24 0 T_ref16_Cell.toD v202 ([v604] : List T_ref16_Cell) v606 (xs := (List.map T_ref16_Cell.toD) v202) (es := (List.map T_ref16_Cell.toD) ([v604] : List T_ref16_Cell)) (L := (List.map T_ref16_Cell.toD)) (fun _ => rfl) rfl rfl T_ref16_Cell.fit hx ?_
    refine G_run 1 ?_
    refine G_end ?_
    refine R_G ?_
    refine G_run 3 ?_
    refine G_end ?_
    exact w_ref18_Origins_L1 _ _ hm _ (by kernel_rfl)
  replace hm := neg_inv hc hm
  refine R_exit ?_
  obtain rfl := inj1 hm
  exact ⟨rfl, cut_leaf (by kernel_rfl)⟩
def m_ref18_Origins (x : ((List Int) × (List T_ref18_Piece))) : Option (List T_ref16_Cell) :=
  match x with
  | (p0, p1) =>
  m_ref03_All p0 >>= fun (v1 : (List (List Int))) =>
  m_ref18_Origins_L1 (v1, p1, ([] : List T_ref16_Cell), 0) >>= fun (v602 : (List T_ref16_Cell)) =>
  some v602
def P_ref18_Origins : ((List Int) × (List T_ref18_Piece)) → (List T_ref16_Cell) → Prop := fun x r => match x, r with
  | (p0, p1), r0 => ∀ H, PC prog env 13 ([(.lst ((List.map intD) p0)), (.lst ((List.map T_ref18_Piece.toD) p1))].map .dat) H (.dat (.lst ((List.map T_ref16_Cell.toD) r0))) H
theorem w_ref18_Origins : ∀ x r, m_ref18_Origins x = some r → P_ref18_Origins x r := by
  intro x r0 hm
  unfold m_ref18_Origins at hm
  unfold P_ref18_Origins
  obtain ⟨p0, p1⟩ := x
  intro H
  refine PC_sx (ds := [(.lst ((List.map intD) p0)), (.lst ((List.map T_ref18_Piece.toD) p1))]) (fn := f13) (by kernel_rfl) (by kernel_rfl) rfl ?_ (by kernel_rfl)
  refine R_seq ?_
  refine R_G ?_
  refine G_run 1 ?_
  refine G_end ?_
  refine R_seq ?_
  refine R_G ?_
  refine G_run 1 ?_
  refine G_end ?_
  refine R_seq ?_
  refine R_G ?_
  refine G_run 1 ?_
  obtain ⟨v1, hx, hm⟩ := bind_inv hm
  have hq := w_ref03_All _ _ hx []
  refine G_callP hq ?_
  refine G_run 1 ?_
  refine G_end ?_
  refine R_seq ?_
  refine R_seq ?_
  refine R_G ?_
  refine G_run 1 ?_
  refine G_end ?_
  refine R_block ?_
  obtain ⟨v602, hs, hm⟩ := bind_inv hm
  refine R_loop ?_
  refine RL_use (w_ref18_Origins_L1 _ _ hs) (by kernel_rfl) ?_
  clear hs
  intro e s hp
  obtain ⟨rfl, d, rfl⟩ := hp
  refine R_seq ?_
  refine R_G ?_
  refine G_run 2 ?_
  refine G_end ?_
  refine R_ret ?_
  obtain rfl := inj1 hm
  exact ⟨trivial, fin_pure (by kernel_rfl)⟩
end Go.Proofs.Tryz
namespace Go.Proofs.Tryz
open Go Go.Pm
set_option linter.unusedVariables false
set_option maxHeartbeats 2000000
set_option maxRecDepth 2000
def m_law18_PieceWholes_L1 (x : ((List T_ref16_Cell) × Int × (List T_piece_Piece) × Int)) : Option (Unit ⊕ Unit) :=
  match x with
  | (v19, p0, v5, v220) =>
  if v220 < (v19.length : Int) then
    idx v19 v220 >>= fun v620 =>
    if ((v620.fill == false) && ((v620.buffer == (W (p0))) && ((v620.offset == v220) && true))) = false then
      some (Sum.inl ())
    else
    m_law18_PieceWholes_L1 (v19, p0, v5, (W (v220 + 1)))
  else
  some (Sum.inr ())
  partial_fixpoint
def P_law18_PieceWholes_L1 : ((List T_ref16_Cell) × Int × (List T_piece_Piece) × Int) → (Unit ⊕ Unit) → Prop := fun x r => match x with
  | (v19, p0, v5, v220) => ∀ st, prune 0 ((firstRegion (codeAt [1, 1, 1, 1, 1, 1, 0, 1, 0, 0] (bodyOf f3))).bind (env.hint 3).keepAt) st = ⟨kp 76 [(0, (.dat (numD .u16 p0))), (5, (.dat (.lst ((List.map T_piece_Piece.toD) v5)))), (7, (.dat (.lst ((List.map T_ref16_Cell.toD) v19)))), (8, (intPV v220))], []⟩ →
    RL prog env (env.hint 3) true (codeAt [1, 1, 1, 1, 1, 1, 0, 1, 0, 0] (bodyOf f3)) 0 st (fun e s => match r with | .inl _ => e = .ret ∧ ∃ d, s = ⟨sl d 76 [(4, (boolPV false))], []⟩ | .inr (_) => e = .exit 0 ∧ ∃ d, s = ⟨sl d 76 [(5, (.dat (.lst ((List.map T_piece_Piece.toD) v5)))), (7, (.dat (.lst ((List.map T_ref16_Cell.toD) v19))))], []⟩)
theorem w_law18_PieceWholes_L1 : ∀ x r, m_law18_PieceWholes_L1 x = some r → P_law18_PieceWholes_L1 x r := by
  refine m_law18_PieceWholes_L1.partial_correctness _ (fun m_law18_PieceWholes_L1 w_law18_PieceWholes_L1 x r hm => ?_)
  unfold P_law18_PieceWholes_L1
  obtain ⟨v19, p0, v5, v220⟩ := x
  intro st hst
  refine RL_at hst ?_
  clear hst
  refine R_seq ?_
  refine R_seq ?_
  refine R_G ?_
  refine G_run 2 ?_
  refine I_len T_ref16_Cell.toD v19 (es := (List.map T_ref16_Cell.toD) v19) rfl ?_
  refine G_run 1 ?_
  refine G_end ?_
  refine R_ifp (p := v220 < (v19.length : Int)) (rfl) (fun hc => ?_) (fun hc => ?_)
  · replace hm := pos_inv hc hm
    refine R_skip ?_
    refine R_seq ?_
    refine R_block ?_
    refine R_seq ?_
    refine R_G ?_
    refine G_run 2 ?_
    obtain ⟨v620, hx, hm⟩ := bind_inv hm
    refine I_idx 3 T_ref16_Cell.toD v19 v220 v620 (es := (List.map T_ref16_Cell.toD) v19) (d := (T_ref16_Cell.toD v620)) rfl hx rfl rfl ?_
    refine G_run 5 ?_
    refine G_semN rfl (by kernel_rfl) (fun _ => E_neqS (t := 38) (xs := #[.bool v620.fill, .int .i64 v620.buffer, .int .i64 v620.offset]) (ys := #[.bool false, .int .i64 (W (p0)), .int .i64 v220]) (b := ((v620.fill == false) && ((v620.buffer == (W (p0))) && ((v620.offset == v220) && true)))) rfl (by kernel_rfl) (by kernel_rfl) (SEq_of (fs := prog.fieldsOf 38) (by kernel_rfl) (by kernel_rfl) (by kernel_rfl) (by kernel_rfl))) ?_
    refine G_end ?_
    refine R_ifp (p := ((v620.fill == false) && ((v620.buffer == (W (p0))) && ((v620.offset == v220) && true))) = false) (not_dec _) (fun hc => ?_) (fun hc => ?_)
    · replace hm := pos_inv hc hm
      refine R_seq ?_
      refine R_G ?_
      refine G_run 1 ?_
      refine G_end ?_
      refine R_ret ?_
      obtain rfl := inj1 hm
      exact ⟨rfl, cut_leaf (by kernel_rfl)⟩
    replace hm := neg_inv hc hm
    refine R_skip ?_
    refine R_G ?_
    refine G_run 3 ?_
    refine G_end ?_
    exact w_law18_PieceWholes_L1 _ _ hm _ (by kernel_rfl)
  replace hm := neg_inv hc hm
  refine R_exit ?_
  obtain rfl := inj1 hm
  exact ⟨rfl, cut_leaf (by kernel_rfl)⟩
def m_law18_PieceWholes (x : (Int × (List Int))) : Option Bool :=
  match x with
  | (p0, p1) =>
  (m_law18_awake () >>= fun (v2 : Bool) =>
  if v2 = false then
    some true
  else
  m_ref02_Small (p1, 300) >>= fun (v3 : Bool) =>
  some (!v3)
  ) >>= fun (v1 : Bool) =>
  if v1 = true then
    m_law18_awake () >>= fun (v4 : Bool) =>
    some v4
  else
  m_piece_Whole ((W (p0)), p1) >>= fun (v5 : (List T_piece_Piece)) =>
  m_piece_Filled p1 >>= fun (v6 : (List T_piece_Piece)) =>
  (m_law18_Back v5 >>= fun (v8 : (List T_ref18_Piece)) =>
  m_ref18_Whole ((W (p0)), p1) >>= fun (v9 : (List T_ref18_Piece)) =>
  m_ref18_Same (v8, v9) >>= fun (v10 : Bool) =>
  (if v10 = false then
    some true
  else
  m_law18_Back v6 >>= fun (v12 : (List T_ref18_Piece)) =>
  m_ref18_Filled p1 >>= fun (v13 : (List T_ref18_Piece)) =>
  m_ref18_Same (v12, v13) >>= fun (v14 : Bool) =>
  some (!v14)
  ) >>= fun (v11 : Bool) =>
  (if v11 = true then
    some true
  else
  m_piece_Covers_k (p1, v5) >>= fun (v16 : Bool) =>
  some (!v16)
  ) >>= fun (v15 : Bool) =>
  if v15 = true then
    some true
  else
  m_piece_Covers_k (p1, v6) >>= fun (v17 : Bool) =>
  some (!v17)
  ) >>= fun (v7 : Bool) =>
  if v7 = true then
    some false
  else
  m_law18_Back v5 >>= fun (v18 : (List T_ref18_Piece)) =>
  m_ref18_Origins (p1, v18) >>= fun (v19 : (List T_ref16_Cell)) =>
  (
  m_law18_PieceWholes_L1 (v19, p0, v5, 0) >>= fun (out : Unit ⊕ Unit) =>
  match out with
  | .inl _ =>
    some false
  | .inr (_) =>
    some ((v5.length : Int) == (if 1 < (v19.length : Int) then 1 else (v19.length : Int)))
  )
def P_law18_PieceWholes : (Int × (List Int)) → Bool → Prop := fun x r => match x, r with
  | (p0, p1), r0 => ∀ H, PC prog env 3 ([(numD .u16 p0), (.lst ((List.map intD) p1))].map .dat) H (boolPV r0) H
theorem w_law18_PieceWholes : ∀ x r, m_law18_PieceWholes x = some r → P_law18_PieceWholes x r := by
  intro x r0 hm
  unfold m_law18_PieceWholes at hm
  unfold P_law18_PieceWholes
  obtain ⟨p0, p1⟩ := x
  intro H
  refine PC_sx (ds := [(numD .u16 p0), (.lst ((List.map intD) p1))]) (fn := f3) (by kernel_rfl) (by kernel_rfl) rfl ?_ (by kernel_rfl)
  refine R_seq ?_
  refine R_G ?_
  refine G_run 1 ?_
  refine G_end ?_
  refine R_seq ?_
  refine R_seq ?_
  obtain ⟨v1, hs, hm⟩ := bind_inv hm
  refine R_cut (fun d => ⟨sl d 76 [(0, (.dat (numD .u16 p0))), (1, (.dat (.lst ((List.map intD) p1)))), (15, (boolPV v1))], []⟩) ?_ (fun d => ?_)
  · replace hm := hs
    clear hs
    refine R_G ?_
    obtain ⟨v2, hx, hm⟩ := bind_inv hm
    have hq := w_law18_awake _ _ hx []
    refine G_callP hq ?_
    refine G_run 2 ?_
    refine G_split (p := v2 = false) 11 (not_dec _) (fun hc => ?_) (fun hc => ?_)
    · replace hm := pos_inv hc hm
      refine G_run 4 ?_
      refine G_end ?_
      obtain rfl := inj1 hm
      exact cut_leaf (by kernel_rfl)
    replace hm := neg_inv hc hm
    refine G_run 1 ?_
    obtain ⟨v3, hx, hm⟩ := bind_inv hm
    have hq := w_ref02_Small _ _ hx []
    refine G_callP hq ?_
    refine G_run 2 ?_
    refine G_end ?_
    obtain rfl := inj1 hm
    exact cut_leaf (by kernel_rfl)
  clear hs
  refine R_ifp (p := v1 = true) (bool_dec _) (fun hc => ?_) (fun hc => ?_)
  · replace hm := pos_inv hc hm
    refine R_seq ?_
    refine R_G ?_
    obtain ⟨v4, hx, hm⟩ := bind_inv hm
    have hq := w_law18_awake _ _ hx []
    refine G_callP hq ?_
    refine G_run 1 ?_
    refine G_end ?_
    refine R_ret ?_
    obtain rfl := inj1 hm
    exact ⟨trivial, fin_pure (by kernel_rfl)⟩
  replace hm := neg_inv hc hm
  refine R_skip ?_
  refine R_seq ?_
  refine R_G ?_
  refine G_run 3 ?_
  obtain ⟨v5, hx, hm⟩ := bind_inv hm
  have hq := w_piece_Whole _ _ hx []
  refine G_callP hq ?_
  refine G_run 1 ?_
  refine G_end ?_
  refine R_seq ?_
  refine R_G ?_
  refine G_run 1 ?_
  obtain ⟨v6, hx, hm⟩ := bind_inv hm
  have hq := w_piece_Filled _ _ hx []
  refine G_callP hq ?_
  refine G_run 1 ?_
  refine G_end ?_
  refine R_seq ?_
  refine R_seq ?_
  obtain ⟨v7, hs, hm⟩ := bind_inv hm
  refine R_cut (fun d => ⟨sl d 76 [(0, (.dat (numD .u16 p0))), (1, (.dat (.lst ((List.map intD) p1)))), (5, (.dat (.lst ((List.map T_piece_Piece.toD) v5)))), (50, (boolPV v7))], []⟩) ?_ (fun d => ?_)
  · replace hm := hs
    clear hs
    refine R_GN ?_
    refine G_run 1 ?_
    obtain ⟨v8, hx, hm⟩ := bind_inv hm
    have hq := w_law18_Back _ _ hx []
    refine G_callP hq ?_
    refine G_run 3 ?_
    obtain ⟨v9, hx, hm⟩ := bind_inv hm
    have hq := w_ref18_Whole _ _ hx []
    refine G_callP hq ?_
    obtain ⟨v10, hx, hm⟩ := bind_inv hm
    have hq := w_ref18_Same _ _ hx []
    refine G_callP hq ?_
    refine G_run 2 ?_
    obtain ⟨v11, hs, hm⟩ := bind_inv hm
    refine G_cut (j := 16) (fun d => ⟨sl d 76 [(0, (.dat (numD .u16 p0))), (1, (.dat (.lst ((List.map intD) p1)))), (5, (.dat (.lst ((List.map T_piece_Piece.toD) v5)))), (6, (.dat (.lst ((List.map T_piece_Piece.toD) v6)))), (15, (boolPV v1)), (17, (.dat (numD .u16 p0))), (18, (intPV (W (p0)))), (19, (.dat (.lst ((List.map intD) p1)))), (20, (.dat (.lst ((List.map T_piece_Piece.toD) v5)))), (21, (.dat (.lst ((List.map intD) p1)))), (22, (.dat (.lst ((List.map T_piece_Piece.toD) v6)))), (23, (.dat (.lst ((List.map T_piece_Piece.toD) v5)))), (24, (.dat (.lst ((List.map T_ref18_Piece.toD) v8)))), (25, (.dat (numD .u16 p0))), (26, (intPV (W (p0)))), (27, (.dat (.lst ((List.map intD) p1)))), (28, (.dat (.lst ((List.map T_ref18_Piece.toD) v9)))), (29, (boolPV v10)), (30, (boolPV (!v10))), (38, (boolPV v11))], []⟩) (fun d => ?_) (fun hJ => ?_)
    · clear hs
      refine G_run 1 ?_
      obtain ⟨v15, hs, hm⟩ := bind_inv hm
      refine G_cut (j := 22) (fun d => ⟨sl d 76 [(0, (.dat (numD .u16 p0))), (1, (.dat (.lst ((List.map intD) p1)))), (5, (.dat (.lst ((List.map T_piece_Piece.toD) v5)))), (6, (.dat (.lst ((List.map T_piece_Piece.toD) v6)))), (15, (boolPV v1)), (17, (.dat (numD .u16 p0))), (18, (intPV (W (p0)))), (19, (.dat (.lst ((List.map intD) p1)))), (20, (.dat (.lst ((List.map T_piece_Piece.toD) v5)))), (21, (.dat (.lst ((List.map intD) p1)))), (22, (.dat (.lst ((List.map T_piece_Piece.toD) v6)))), (23, (.dat (.lst ((List.map T_piece_Piece.toD) v5)))), (24, (.dat (.lst ((List.map T_ref18_Piece.toD) v8)))), (25, (.dat (numD .u16 p0))), (26, (intPV (W (p0)))), (27, (.dat (.lst ((List.map intD) p1)))), (28, (.dat (.lst ((List.map T_ref18_Piece.toD) v9)))), (29, (boolPV v10)), (30, (boolPV (!v10))), (38, (boolPV v11)), (44, (boolPV v15))], []⟩) (fun d => ?_) (fun hJ => ?_)
      · clear hs
        refine G_run 1 ?_
        refine G_split (p := v15 = true) 45 (bool_dec _) (fun hc => ?_) (fun hc => ?_)
        · replace hm := pos_inv hc hm
          refine G_run 5 ?_
          refine G_end ⟨by kernel_rfl, ?_⟩
          obtain rfl := inj1 hm
          exact cut_leaf (by kernel_rfl)
        replace hm := neg_inv hc hm
        refine G_run 2 ?_
        obtain ⟨v17, hx, hm⟩ := bind_inv hm
        have hq := w_piece_Covers_k _ _ hx []
        refine G_callP hq ?_
        refine G_run 2 ?_
        refine G_end ⟨by kernel_rfl, ?_⟩
        obtain rfl := inj1 hm
        exact cut_leaf (by kernel_rfl)
      replace hm := hs
      clear hs
      refine G_split (p := v11 = true) 39 (bool_dec _) (fun hc => ?_) (fun hc => ?_)
      · replace hm := pos_inv hc hm
        refine G_run 5 ?_
        obtain rfl := inj1 hm
        exact hJ _ _ (by kernel_rfl) (by kernel_rfl)
      replace hm := neg_inv hc hm
      refine G_run 2 ?_
      obtain ⟨v16, hx, hm⟩ := bind_inv hm
      have hq := w_piece_Covers_k _ _ hx []
      refine G_callP hq ?_
      refine G_run 2 ?_
      obtain rfl := inj1 hm
      exact hJ _ _ (by kernel_rfl) (by kernel_rfl)
    replace hm := hs
    clear hs
    refine G_split (p := v10 = false) 31 (not_dec _) (fun hc => ?_) (fun hc => ?_)
    · replace hm := pos_inv hc hm
      refine G_run 7 ?_
      obtain rfl := inj1 hm
      exact hJ _ _ (by kernel_rfl) (by kernel_rfl)
    replace hm := neg_inv hc hm
    refine G_run 1 ?_
    obtain ⟨v12, hx, hm⟩ := bind_inv hm
    have hq := w_law18_Back _ _ hx []
    refine G_callP hq ?_
    refine G_run 1 ?_
    obtain ⟨v13, hx, hm⟩ := bind_inv hm
    have hq := w_ref18_Filled _ _ hx []
    refine G_callP hq ?_
    obtain ⟨v14, hx, hm⟩ := bind_inv hm
    have hq := w_ref18_Same _ _ hx []
    refine G_callP hq ?_
    refine G_run 2 ?_
    obtain rfl := inj1 hm
    exact hJ _ _ (by kernel_rfl) (by kernel_rfl)
  clear hs
  refine R_ifp (p := v7 = true) (bool_dec _) (fun hc => ?_) (fun hc => ?_)
  · replace hm := pos_inv hc hm
    refine R_seq ?_
    refine R_G ?_
    refine G_run 1 ?_
    refine G_end ?_
    refine R_ret ?_
    obtain rfl := inj1 hm
    exact ⟨trivial, fin_pure (by kernel_rfl)⟩
  replace hm := neg_inv hc hm
  refine R_skip ?_
  refine R_seq ?_
  refine R_G ?_
  refine G_run 2 ?_
  obtain ⟨v18, hx, hm⟩ := bind_inv hm
  have hq := w_law18_Back _ _ hx []
  refine G_callP hq ?_
  obtain ⟨v19, hx, hm⟩ := bind_inv hm
  have hq := w_ref18_Origins _ _ hx []
  refine G_callP hq ?_
  refine G_run 1 ?_
  refine G_end ?_
  refine R_seq ?_
  refine R_seq ?_
  refine R_G ?_
  refine G_run 1 ?_
  refine G_end ?_
  refine R_block ?_
  obtain ⟨out, hs, hm⟩ := bind_inv hm
  refine R_loop ?_
  rcases out with _ | _
  · refine RL_use (w_law18_PieceWholes_L1 _ _ hs) (by kernel_rfl) ?_
    clear hs
    intro e s hp
    obtain ⟨rfl, d, rfl⟩ := hp
    obtain rfl := inj1 hm
    exact ⟨trivial, fin_pure (by kernel_rfl)⟩
  · refine RL_use (w_law18_PieceWholes_L1 _ _ hs) (by kernel_rfl) ?_
    clear hs
    intro e s hp
    obtain ⟨rfl, d, rfl⟩ := hp
    refine R_seq ?_
    refine R_G ?_
    refine G_run 1 ?_
    refine I_len T_piece_Piece.toD v5 (es := (List.map T_piece_Piece.toD) v5) rfl ?_
    refine G_run 1 ?_
    refine I_len T_ref16_Cell.toD v19 (es := (List.map T_ref16_Cell.toD) v19) rfl ?_
    refine G_semN rfl (by kernel_rfl) (fun _ => E_min (k := .i64) (m := (v19.length : Int)) (n := 1) rfl (by kernel_rfl) (by kernel_rfl)) ?_
    refine G_run 2 ?_
    refine G_end ?_
    refine R_ret ?_
    obtain rfl := inj1 hm
    exact ⟨trivial, fin_pure (by kernel_rfl)⟩
end Go.Proofs.Tryz
namespace Go.Proofs.Tryz
open Go Go.Pm
set_option linter.unusedVariables false
set_option linter.unusedSimpArgs false
set_option maxRecDepth 2000
theorem Equal_L1 : ∀ (s t p q : List Int), s.length = t.length → p.length = q.length → Sm (p ++ s).length → m_ref02_Equal_L1 (p ++ s, q ++ t, (p.length : Int)) = some (if s = t then .inr () else .inl ())
  | [], [], p, q, _, _, hs => by
    rw [m_ref02_Equal_L1]; simp only [end_lt, if_false, if_true]
  | x :: s, y :: t, p, q, h1, h2, hs => by
    rw [m_ref02_Equal_L1]
    have ih := Equal_L1 s t (p ++ [x]) (q ++ [y]) (by simpa using h1) (by simp [h2]) (by rw [← mid_app]; exact hs)
    rw [← mid_app, ← mid_app] at ih
    simp only [mid_lt, if_true, mid_idx, bind_ok, mid_W hs, ih]
    rw [h2, mid_idx]
    by_cases he : x = y <;> simp [he, bind_ok]
  | [], _ :: _, _, _, h, _, _ => by cases h
  | _ :: _, [], _, _, h, _, _ => by cases h
theorem Equal_ok (a b : List Int) (hs : Sm a.length) : m_ref02_Equal (a, b) = some (decide (a = b)) := by
  simp only [m_ref02_Equal]
  by_cases h : a.length = b.length
  · have e := Equal_L1 a b [] [] h rfl hs
    have e2 : ¬ ((a.length : Int) ≠ (b.length : Int)) := by omega
    simp only [e2, if_false]
    have e3 : m_ref02_Equal_L1 (a, b, 0) = _ := e
    rw [e3]
    by_cases hab : a = b
    · subst hab; simp
    · rw [if_neg hab, decide_eq_false hab]; rfl
  · have e2 : ((a.length : Int) ≠ (b.length : Int)) := by omega
    have e3 : a ≠ b := fun e => h (by rw [e])
    rw [if_pos e2, decide_eq_false e3]

/-- the product, exactly -/
def prodI (l : List Int) : Int := l.foldl (· * ·) 1
def negB (l : List Int) : Bool := l.any fun d => decide (d < 0)
def bigB (l : List Int) : Bool := l.any fun d => decide (d > 65536)
def prodR (l : List Int) : Int × Int := if negB l then (0, 6) else if bigB l then (0, 7) else if prodI l > 65536 then (0, 7) else (prodI l, 0)
def checkR (l : List Int) : Int := if negB l then 6 else if l.length > 16 ∨ bigB l = true ∨ prodI l > 65536 then 7 else 0
def cellsR (l : List Int) : Int := if checkR l = 0 then prodI l else 0
theorem foldl_mul : ∀ (l : List Int) (x : Int), l.foldl (· * ·) x = x * l.foldl (· * ·) 1
  | [], x => by simp
  | d :: l, x => by rw [List.foldl_cons, foldl_mul l (x * d), List.foldl_cons, foldl_mul l (1 * d), Int.one_mul, Int.mul_assoc]
theorem prodI_cons (d : Int) (l : List Int) : prodI (d :: l) = d * prodI l := by rw [prodI, List.foldl_cons, foldl_mul, Int.one_mul]; rfl
theorem prodI_nil : prodI [] = 1 := rfl
theorem prodI_append (a b : List Int) : prodI (a ++ b) = prodI a * prodI b := by rw [prodI, prodI, prodI, List.foldl_append, foldl_mul]
theorem prodI_pos : ∀ {l : List Int}, (∀ d ∈ l, 1 ≤ d) → 1 ≤ prodI l
  | [], _ => by simp [prodI]
  | d :: l, h => by
    have h1 := prodI_pos (l := l) (fun x hx => h x (List.mem_cons_of_mem _ hx))
    have h2 := h d (List.mem_cons_self ..)
    rw [prodI_cons]
    have := Int.mul_le_mul h2 h1 (by omega) (by omega)
    omega
theorem prodI_zero {l : List Int} (h : (0 : Int) ∈ l) : prodI l = 0 := by
  obtain ⟨s, t, rfl⟩ := List.append_of_mem h
  rw [prodI_append, prodI_cons]; simp
theorem negB_cons (d : Int) (l : List Int) : negB (d :: l) = (decide (d < 0) || negB l) := rfl
theorem bigB_cons (d : Int) (l : List Int) : bigB (d :: l) = (decide (d > 65536) || bigB l) := rfl

theorem Prod_L1 : ∀ (s p : List Int) (z : Bool), Sm (p ++ s).length → m_ref01_Product_L1 (p ++ s, z, (p.length : Int)) = some (if negB s then .inl () else .inr (z || s.any (· == 0)))
  | [], p, z, hs => by
    rw [m_ref01_Product_L1]; simp only [end_lt, if_false]; simp [negB]
  | x :: s, p, z, hs => by
    rw [m_ref01_Product_L1]
    have ih := fun z => Prod_L1 s (p ++ [x]) z (by rw [← mid_app]; exact hs)
    rw [← mid_app] at ih
    simp only [mid_lt, if_true, mid_idx, bind_ok, mid_W hs, ih, negB_cons]
    by_cases hn : x < 0
    · simp [hn]
    · cases z <;> by_cases hz : x = 0 <;> simp [hn, hz]
theorem Prod_L2 : ∀ (s p : List Int) (z : Bool), Sm (p ++ s).length → m_ref01_Product_L2 (p ++ s, z, (p.length : Int)) = some (if bigB s then .inl () else .inr ())
  | [], p, z, hs => by
    rw [m_ref01_Product_L2]; simp only [end_lt, if_false]; simp [bigB]
  | x :: s, p, z, hs => by
    rw [m_ref01_Product_L2]
    have ih := Prod_L2 s (p ++ [x]) z (by rw [← mid_app]; exact hs)
    rw [← mid_app] at ih
    simp only [mid_lt, if_true, mid_idx, bind_ok, mid_W hs, ih, bigB_cons]
    by_cases hn : x > 65536 <;> simp [hn]
theorem Prod_L3 : ∀ (s p : List Int) (m : Int), Sm (p ++ s).length → (∀ d ∈ s, 1 ≤ d ∧ d ≤ 65536) → 1 ≤ m → m ≤ 65536 → m_ref01_Product_L3 (p ++ s, m, (p.length : Int)) = some (if m * prodI s > 65536 then .inl () else .inr (m * prodI s))
  | [], p, m, hs, hd, h1, h2 => by
    rw [m_ref01_Product_L3]; simp only [end_lt, if_false, prodI_nil, Int.mul_one]
    rw [if_neg (by omega)]
  | x :: s, p, m, hs, hd, h1, h2 => by
    rw [m_ref01_Product_L3]
    have hx := hd x (List.mem_cons_self ..)
    have b1 := Int.mul_le_mul h2 hx.2 (by omega) (by omega)
    have b2 := Int.mul_le_mul h1 hx.1 (by omega) (by omega)
    have hw : W (m * x) = m * x := W_ok (by omega) (by omega)
    have hds : ∀ d ∈ s, 1 ≤ d ∧ d ≤ 65536 := fun d h => hd d (List.mem_cons_of_mem _ h)
    simp only [mid_lt, if_true, mid_idx, bind_ok, mid_W hs, hw, prodI_cons]
    rw [← Int.mul_assoc]
    by_cases hn : m * x > 65536
    · have hp := prodI_pos (l := s) (fun d h => (hds d h).1)
      have : m * x * 1 ≤ m * x * prodI s := Int.mul_le_mul_of_nonneg_left hp (by omega)
      rw [if_pos hn, if_pos (by omega)]
    · have ih := Prod_L3 s (p ++ [x]) (m * x) (by rw [← mid_app]; exact hs) hds (by omega) (by omega)
      rw [← mid_app] at ih
      rw [if_neg hn, ih]
theorem neg_all {l : List Int} (h : negB l = false) : ∀ d ∈ l, 0 ≤ d := fun d hd => by
  have := List.any_eq_false.1 h d hd
  simp at this; omega
theorem big_all {l : List Int} (h : bigB l = false) : ∀ d ∈ l, d ≤ 65536 := fun d hd => by
  have := List.any_eq_false.1 h d hd
  simp at this; omega
theorem Product_ok (l : List Int) (hs : Sm l.length) : m_ref01_Product l = some (prodR l) := by
  have e1 : m_ref01_Product_L1 (l, false, 0) = _ := Prod_L1 l [] false hs
  have e2 : ∀ z, m_ref01_Product_L2 (l, z, 0) = _ := fun z => Prod_L2 l [] z hs
  simp only [m_ref01_Product, e1, bind_ok, prodR]
  by_cases hn : negB l = true
  · simp [hn]
  · have hn' : negB l = false := by simpa using hn
    simp only [hn', Bool.false_eq_true, if_false, Bool.false_or, e2, bind_ok]
    by_cases hb : bigB l = true
    · simp [hb]
    · have hb' : bigB l = false := by simpa using hb
      simp only [hb', Bool.false_eq_true, if_false]
      by_cases hz : (l.any (· == 0)) = true
      · have : prodI l = 0 := prodI_zero (by simpa using hz)
        simp [hz, this]
      · have hz' : l.any (· == 0) = false := (Bool.not_eq_true _).mp hz
        have e3 : m_ref01_Product_L3 (l, 1, 0) = _ := Prod_L3 l [] 1 hs (fun d hd => by
          have h1 := neg_all hn' d hd
          have h2 := big_all hb' d hd
          have h3 : d ≠ 0 := fun e => by have := List.any_eq_false.1 hz' d hd; simp [e] at this
          omega) (by omega) (by omega)
        simp only [hz', Bool.false_eq_true, if_false, e3, bind_ok, Int.one_mul]
        by_cases hp : prodI l > 65536 <;> simp [hp]
theorem Check_L1 : ∀ (s p : List Int), Sm (p ++ s).length → m_ref02_Check_L1 (p ++ s, (p.length : Int)) = some (if negB s then .inl () else .inr ())
  | [], p, hs => by
    rw [m_ref02_Check_L1]; simp only [end_lt, if_false]; simp [negB]
  | x :: s, p, hs => by
    rw [m_ref02_Check_L1]
    have ih := Check_L1 s (p ++ [x]) (by rw [← mid_app]; exact hs)
    rw [← mid_app] at ih
    simp only [mid_lt, if_true, mid_idx, bind_ok, mid_W hs, ih, negB_cons]
    by_cases hn : x < 0 <;> simp [hn]
theorem Check_ok (l : List Int) (hs : Sm l.length) : m_ref02_Check l = some (checkR l) := by
  have e1 : m_ref02_Check_L1 (l, 0) = _ := Check_L1 l [] hs
  simp only [m_ref02_Check, e1, bind_ok, checkR, Product_ok l hs]
  by_cases hn : negB l = true
  · simp [hn]
  · simp only [hn, if_false, prodR, Bool.false_eq_true]
    by_cases hl : l.length > 16
    · have : (l.length : Int) > 16 := by omega
      simp [hl, this, bind_ok]
    · have : ¬ (l.length : Int) > 16 := by omega
      by_cases hb : bigB l = true
      · simp [hl, this, hb, bind_ok]
      · by_cases hp : prodI l > 65536 <;> simp [hl, this, hb, hp, bind_ok]

theorem Cont1_L1 : ∀ (s p : List Int), Sm (p ++ s).length → ∃ r, m_slices_IndexFunc_int_int_size_check_1_L1 (p ++ s, (p.length : Int)) = some r ∧ (negB s = true → ∃ j : Nat, r = .inl (j : Int)) ∧ (negB s = false → r = .inr ())
  | [], p, hs => by
    rw [m_slices_IndexFunc_int_int_size_check_1_L1]; simp only [end_lt, if_false]; exact ⟨_, rfl, fun h => (by cases h), fun _ => rfl⟩
  | x :: s, p, hs => by
    rw [m_slices_IndexFunc_int_int_size_check_1_L1]
    obtain ⟨r, h1, h2, h3⟩ := Cont1_L1 s (p ++ [x]) (by rw [← mid_app]; exact hs)
    rw [← mid_app] at h1
    simp only [mid_lt, if_true, mid_idx, bind_ok, mid_W hs, m_size_check_1, negB_cons]
    by_cases hn : x < 0
    · simp only [hn, decide_true, if_true]; exact ⟨_, rfl, fun _ => ⟨_, rfl⟩, fun h => by simp at h⟩
    · simp only [hn, decide_false, Bool.false_eq_true, if_false, Bool.false_or]; exact ⟨r, h1, h2, h3⟩
theorem Cont1_ok (l : List Int) (hs : Sm l.length) : m_slices_ContainsFunc_int_int_size_check_1 l = some (negB l) := by
  obtain ⟨r, h1, h2, h3⟩ := Cont1_L1 l [] hs
  have e : m_slices_IndexFunc_int_int_size_check_1_L1 (l, 0) = some r := h1
  simp only [m_slices_ContainsFunc_int_int_size_check_1, m_slices_IndexFunc_int_int_size_check_1, e, bind_ok]
  cases hn : negB l
  · rw [h3 hn]; rfl
  · obtain ⟨j, rfl⟩ := h2 hn; simp [bind_ok]
theorem Cont2_L1 : ∀ (s p : List Int), Sm (p ++ s).length → ∃ r, m_slices_IndexFunc_int_int_size_check_2_L1 (p ++ s, (p.length : Int)) = some r ∧ (bigB s = true → ∃ j : Nat, r = .inl (j : Int)) ∧ (bigB s = false → r = .inr ())
  | [], p, hs => by
    rw [m_slices_IndexFunc_int_int_size_check_2_L1]; simp only [end_lt, if_false]; exact ⟨_, rfl, fun h => (by cases h), fun _ => rfl⟩
  | x :: s, p, hs => by
    rw [m_slices_IndexFunc_int_int_size_check_2_L1]
    obtain ⟨r, h1, h2, h3⟩ := Cont2_L1 s (p ++ [x]) (by rw [← mid_app]; exact hs)
    rw [← mid_app] at h1
    simp only [mid_lt, if_true, mid_idx, bind_ok, mid_W hs, m_size_check_2, bigB_cons]
    by_cases hn : x > 65536
    · simp only [hn, decide_true, if_true]; exact ⟨_, rfl, fun _ => ⟨_, rfl⟩, fun h => by simp at h⟩
    · simp only [hn, decide_false, Bool.false_eq_true, if_false, Bool.false_or]; exact ⟨r, h1, h2, h3⟩
theorem Cont2_ok (l : List Int) (hs : Sm l.length) : m_slices_ContainsFunc_int_int_size_check_2 l = some (bigB l) := by
  obtain ⟨r, h1, h2, h3⟩ := Cont2_L1 l [] hs
  have e : m_slices_IndexFunc_int_int_size_check_2_L1 (l, 0) = some r := h1
  simp only [m_slices_ContainsFunc_int_int_size_check_2, m_slices_IndexFunc_int_int_size_check_2, e, bind_ok]
  cases hn : bigB l
  · rw [h3 hn]; rfl
  · obtain ⟨j, rfl⟩ := h2 hn; simp [bind_ok]
def errR (l : List Int) : Int := if negB l then 6 else if bigB l then 7 else 0
theorem sizecheck_ok (l : List Int) (hs : Sm l.length) : m_size_check l = some (errR l) := by
  simp only [m_size_check, Cont1_ok l hs, Cont2_ok l hs, bind_ok, errR]
  by_cases h1 : negB l = true
  · simp [h1]
  · by_cases h2 : bigB l = true <;> simp [h1, h2]
theorem Index_L1 (v : Int) : ∀ (s p : List Int), Sm (p ++ s).length → ∃ r, m_slices_Index_int_int_L1 (p ++ s, v, (p.length : Int)) = some r ∧ (s.any (v == ·) = true → ∃ j : Nat, r = .inl (j : Int)) ∧ (s.any (v == ·) = false → r = .inr ())
  | [], p, hs => by
    rw [m_slices_Index_int_int_L1]; simp only [end_lt, if_false]; exact ⟨_, rfl, fun h => (by cases h), fun _ => rfl⟩
  | x :: s, p, hs => by
    rw [m_slices_Index_int_int_L1]
    obtain ⟨r, h1, h2, h3⟩ := Index_L1 v s (p ++ [x]) (by rw [← mid_app]; exact hs)
    rw [← mid_app] at h1
    simp only [mid_lt, if_true, mid_idx, bind_ok, mid_W hs]
    by_cases hn : v = x
    · rw [if_pos hn]; exact ⟨_, rfl, fun _ => ⟨_, rfl⟩, fun h => by simp [hn] at h⟩
    · rw [if_neg hn]; exact ⟨r, h1, fun h => h2 (by simpa [hn] using h), fun h => h3 (by simpa [hn] using h)⟩
theorem Contains_ok (l : List Int) (v : Int) (hs : Sm l.length) : m_slices_Contains_int_int (l, v) = some (l.any (v == ·)) := by
  obtain ⟨r, h1, h2, h3⟩ := Index_L1 v l [] hs
  have e : m_slices_Index_int_int_L1 (l, v, 0) = some r := h1
  simp only [m_slices_Contains_int_int, m_slices_Index_int_int, e, bind_ok]
  cases hn : l.any (v == ·)
  · rw [h3 hn]; rfl
  · obtain ⟨j, rfl⟩ := h2 hn; simp [bind_ok]
theorem Mul_ok {a b : Int} (ha : 1 ≤ a ∧ a ≤ 65536) (hb : 1 ≤ b ∧ b ≤ 65536) : m_size_Mul (a, b, 65536) = some (if a * b > 65536 then (0, false) else (a * b, true)) := by
  have m1 := Int.mul_le_mul ha.2 hb.2 (by omega) (by omega)
  have m2 := Int.mul_le_mul ha.1 hb.1 (by omega) (by omega)
  have hq0 : (65536 : Int).tdiv b = 65536 / b := Int.tdiv_eq_ediv_of_nonneg (by omega)
  have hq1 : (65536 : Int) / b ≤ 65536 := Int.ediv_le_self _ (by omega)
  have hq2 : 0 ≤ (65536 : Int) / b := Int.ediv_nonneg (by omega) (by omega)
  have hq : quoM 65536 b = some (65536 / b) := by
    rw [quoM, if_neg (by omega), hq0, W_ok (by omega) (by omega)]
  have hlt : (a > 65536 / b) = (a * b > 65536) := by
    have := Int.ediv_lt_iff_lt_mul (a := 65536) (b := a) (c := b) (by omega)
    simp only [gt_iff_lt, eq_iff_iff]
    exact this
  simp only [m_size_Mul, show ¬ a < 0 by omega, show ¬ b < 0 by omega, show ¬ a > 65536 by omega, show ¬ b > 65536 by omega, show b > 0 by omega, if_false, if_true, hq, bind_ok, hlt, decide_false, Bool.false_eq_true]
  by_cases h : a * b > 65536
  · simp [h]
  · simp only [h, decide_false, bind_ok, Bool.false_eq_true, if_false]; rw [W_ok (by omega) (by omega)]
theorem foldP_L1 : ∀ (s p : List Int) (m : Int), Sm (p ++ s).length → (∀ d ∈ s, 1 ≤ d ∧ d ≤ 65536) → 1 ≤ m → m ≤ 65536 →
    ∃ r, m_size_fold_int_size_Product_1_L1 (p ++ s, m, (p.length : Int)) = some r ∧ (m * prodI s > 65536 → ∃ v, r = .inl v) ∧ (¬ m * prodI s > 65536 → r = .inr (m * prodI s))
  | [], p, m, hs, hd, h1, h2 => by
    rw [m_size_fold_int_size_Product_1_L1]; simp only [end_lt, if_false, prodI_nil, Int.mul_one]
    exact ⟨_, rfl, fun h => (by omega), fun _ => rfl⟩
  | x :: s, p, m, hs, hd, h1, h2 => by
    rw [m_size_fold_int_size_Product_1_L1]
    have hx := hd x (List.mem_cons_self ..)
    have hds : ∀ d ∈ s, 1 ≤ d ∧ d ≤ 65536 := fun d h => hd d (List.mem_cons_of_mem _ h)
    have b2 := Int.mul_le_mul h1 hx.1 (by omega) (by omega)
    simp only [mid_lt, if_true, mid_idx, bind_ok, mid_W hs, m_size_Product_1, Mul_ok ⟨h1, h2⟩ hx, prodI_cons]
    rw [← Int.mul_assoc]
    by_cases hn : m * x > 65536
    · have hp := prodI_pos (l := s) (fun d h => (hds d h).1)
      have : m * x * 1 ≤ m * x * prodI s := Int.mul_le_mul_of_nonneg_left hp (by omega)
      simp only [hn, if_true, bind_ok]
      exact ⟨_, rfl, fun _ => ⟨_, rfl⟩, fun h => absurd h (by omega)⟩
    · obtain ⟨r, e1, e2, e3⟩ := foldP_L1 s (p ++ [x]) (m * x) (by rw [← mid_app]; exact hs) hds (by omega) (by omega)
      rw [← mid_app] at e1
      simp only [hn, if_false, bind_ok, Bool.true_eq_false]
      exact ⟨r, e1, e2, e3⟩
theorem sProduct_ok (l : List Int) (hs : Sm l.length) : m_size_Product l = some (prodR l) := by
  simp only [m_size_Product, sizecheck_ok l hs, bind_ok, m_size_combined_size_Product_1, prodR, errR]
  by_cases hn : negB l = true
  · simp [hn, bind_ok]
  · have hn' : negB l = false := (Bool.not_eq_true _).mp hn
    by_cases hb : bigB l = true
    · simp [hn, hb, bind_ok]
    · have hb' : bigB l = false := (Bool.not_eq_true _).mp hb
      simp only [hn', hb', Bool.false_eq_true, if_false, if_true, Contains_ok l 0 hs, bind_ok]
      by_cases hz : l.any ((0 : Int) == ·) = true
      · have h0 : (0 : Int) ∈ l := by
          obtain ⟨x, hx, he⟩ := List.any_eq_true.1 hz
          have : (0 : Int) = x := by simpa using he
          rw [this]; exact hx
        have := prodI_zero h0
        simp [hz, this, bind_ok]
      · have hall : ∀ d ∈ l, 1 ≤ d ∧ d ≤ 65536 := fun d hd => by
          have h1 := neg_all hn' d hd
          have h2 := big_all hb' d hd
          have h3 : d ≠ 0 := fun e => hz (List.any_eq_true.2 ⟨d, hd, by simp [e]⟩)
          omega
        obtain ⟨r, e1, e2, e3⟩ := foldP_L1 l [] 1 hs hall (by omega) (by omega)
        have e4 : m_size_fold_int_size_Product_1_L1 (l, 1, 0) = some r := e1
        rw [Int.one_mul] at e2 e3
        simp only [hz, if_false, bind_ok, m_size_fold_int_size_Product_1, e4, ne_eq, not_true]
        by_cases hp : prodI l > 65536
        · obtain ⟨v, rfl⟩ := e2 hp; simp [hp, bind_ok]
        · rw [e3 hp]; simp [hp, bind_ok]
theorem shapeCheck_ok (l : List Int) (hs : Sm l.length) : m_shape_Check l = some (checkR l) := by
  simp only [m_shape_Check, sProduct_ok l hs, bind_ok, prodR, checkR]
  by_cases hn : negB l = true
  · simp [hn, bind_ok]
  · by_cases hl : l.length > 16
    · have h16 : (l.length : Int) > 16 := by omega
      by_cases hb : bigB l = true
      · simp [hn, hb, hl, h16, bind_ok]
      · by_cases hp : prodI l > 65536 <;> simp [hn, hb, hp, hl, h16, bind_ok]
    · have h16 : ¬ (l.length : Int) > 16 := by omega
      by_cases hb : bigB l = true
      · simp [hn, hb, hl, h16, bind_ok]
      · by_cases hp : prodI l > 65536 <;> simp [hn, hb, hp, hl, h16, bind_ok]
/-! sums of two dimensions -/

theorem Cells_ok (l : List Int) (hs : Sm l.length) : m_ref02_Cells l = some (cellsR l) := by
  simp only [m_ref02_Cells, Check_ok l hs, bind_ok, Product_ok l hs, cellsR]
  by_cases hc : checkR l = 0
  · have : (prodR l).1 = prodI l := by
      unfold checkR at hc
      unfold prodR
      by_cases hn : negB l = true
      · simp [hn] at hc
      · by_cases hb : bigB l = true
        · simp [hn, hb] at hc
        · by_cases hp : prodI l > 65536
          · simp [hn, hb, hp] at hc
          · simp [hn, hb, hp]
    simp [hc, this]
  · simp [hc]
end Go.Proofs.Tryz
namespace Go.Proofs.Tryz
open Go Go.Pm
set_option linter.unusedVariables false
set_option linter.unusedSimpArgs false
set_option maxRecDepth 2000
theorem setM_ok {l : List Int} {j : Nat} {v : Int} (h : j < l.length) : setM l (j : Int) v = some (l.set j v) := by simp [setM, h]
theorem guardM_ok {p : Prop} [Decidable p] (h : p) : guardM p = some () := if_pos h
theorem mid_set {α : Type} {p s : List α} {x y : α} : (p ++ x :: s).set p.length y = (p ++ [y]) ++ s := by simp
def vld : List Int → List Int → Bool
  | [], [] => true
  | n :: s, x :: i => (decide (0 ≤ x) && decide (x < n)) && vld s i
  | _, _ => false
theorem vld_len : ∀ {s i : List Int}, vld s i = true → s.length = i.length
  | [], [], _ => rfl
  | n :: s, x :: i, h => by
    simp only [vld, Bool.and_eq_true] at h
    simp [vld_len h.2]
  | [], _ :: _, h => by cases h
  | _ :: _, [], h => by cases h
theorem vld_ne : ∀ {s i : List Int}, s.length ≠ i.length → vld s i = false
  | [], [], h => absurd rfl h
  | n :: s, x :: i, h => by rw [vld, vld_ne (fun e => h (by simp [e])), Bool.and_false]
  | [], _ :: _, _ => rfl
  | _ :: _, [], _ => rfl
theorem vld_get : ∀ {s i : List Int}, vld s i = true → ∀ k, k < s.length → 0 ≤ i.getD k 0 ∧ i.getD k 0 < s.getD k 0
  | [], _, _, k, hk => by cases hk
  | n :: s, x :: i, h, k, hk => by
    simp only [vld, Bool.and_eq_true, decide_eq_true_eq] at h
    cases k with
    | zero => simpa using h.1
    | succ k => simpa using vld_get h.2 k (by simpa using hk)
  | _ :: _, [], h, _, _ => by cases h
theorem vld_of : ∀ {s i : List Int}, s.length = i.length → (∀ k, k < s.length → 0 ≤ i.getD k 0 ∧ i.getD k 0 < s.getD k 0) → vld s i = true
  | [], [], _, _ => rfl
  | n :: s, x :: i, h, hg => by
    simp only [vld, Bool.and_eq_true, decide_eq_true_eq]
    exact ⟨by simpa using hg 0 (by simp), vld_of (by simpa using h) fun k hk => by simpa using hg (k + 1) (by simpa using hk)⟩
  | [], _ :: _, h, _ => by cases h
  | _ :: _, [], h, _ => by cases h
def dotp : List Int → List Int → Int
  | _ :: s, x :: i => x * prodI s + dotp s i
  | _, _ => 0
def strd : List Int → List Int
  | [] => []
  | _ :: s => prodI s :: strd s
def dig : List Int → Int → List Int
  | [], _ => []
  | _ :: s, o => o / prodI s :: dig s (o % prodI s)
theorem strd_len : ∀ s : List Int, (strd s).length = s.length
  | [] => rfl
  | _ :: s => by simp [strd, strd_len s]
theorem dig_len : ∀ (s : List Int) (o : Int), (dig s o).length = s.length
  | [], _ => rfl
  | _ :: s, o => by simp [dig, dig_len s]
theorem vld_pos : ∀ {s i : List Int}, vld s i = true → ∀ n ∈ s, 1 ≤ n
  | n :: s, x :: i, h, m, hm => by
    simp only [vld, Bool.and_eq_true, decide_eq_true_eq] at h
    rcases List.mem_cons.1 hm with rfl | hm
    · omega
    · exact vld_pos h.2 m hm
  | [], _, _, m, hm => by cases hm
  | _ :: _, [], h, _, _ => by cases h
theorem dotp_range : ∀ {s i : List Int}, vld s i = true → 0 ≤ dotp s i ∧ dotp s i < prodI s
  | [], [], _ => by simp [dotp, prodI]
  | n :: s, x :: i, h => by
    simp only [vld, Bool.and_eq_true, decide_eq_true_eq] at h
    obtain ⟨h1, h2⟩ := dotp_range h.2
    have hp := prodI_pos (vld_pos h.2)
    rw [dotp, prodI_cons]
    have a1 : 0 ≤ x * prodI s := Int.mul_nonneg h.1.1 (by omega)
    have a2 : (x + 1) * prodI s ≤ n * prodI s := Int.mul_le_mul_of_nonneg_right (by omega) (by omega)
    rw [Int.add_mul, Int.one_mul] at a2
    omega
  | [], _ :: _, h => by cases h
  | _ :: _, [], h => by cases h
theorem prod_le {a b : List Int} (ha : ∀ n ∈ a, 1 ≤ n) (hb : ∀ n ∈ b, 1 ≤ n) : prodI b ≤ prodI (a ++ b) := by
  rw [prodI_append]
  have h1 := prodI_pos ha
  have h2 := prodI_pos hb
  have := Int.mul_le_mul_of_nonneg_right h1 (show 0 ≤ prodI b by omega)
  omega
theorem str_L1 (s v2 : List Int) (hv2 : v2.length = s.length) (hs : s.length ≤ 1000) (hpos : ∀ n ∈ s, 1 ≤ n) (hP : prodI s ≤ 65536) : ∀ (m : Nat) (a b : List Int), a.length = m → s = a ++ b →
    m_shape_Strides_L1 (s, v2, List.replicate a.length 0 ++ strd b, prodI b, (b.length : Int)) = some (strd s)
  | 0, a, b, ha, e => by
    obtain rfl := List.eq_nil_of_length_eq_zero ha
    rw [m_shape_Strides_L1]
    have : ¬ ((b.length : Int) < (s.length : Int)) := by rw [e]; simp
    simp only [this, if_false]; rw [e]; rfl
  | m + 1, a, b, ha, e => by
    rcases List.eq_nil_or_concat a with rfl | ⟨a', n, rfl⟩
    · simp at ha
    · simp only [List.concat_eq_append] at ha e ⊢
      have ha' : a'.length = m := by simpa using ha
      rw [m_shape_Strides_L1]
      have hl : s.length = a'.length + 1 + b.length := by rw [e]; simp; omega
      have ht : ((b.length : Int) < (s.length : Int)) := by omega
      have w : W (W ((s.length : Int) - 1) - (b.length : Int)) = (a'.length : Int) := by
        rw [show W ((s.length : Int) - 1) = (s.length : Int) - 1 from W_ok (by omega) (by omega), W_ok (by omega) (by omega)]; omega
      have e' : s = a' ++ (n :: b) := by rw [e]; simp
      have hg : (List.replicate (a' ++ [n]).length (0 : Int) ++ strd b).length = v2.length := by simp [strd_len, hv2, hl]
      have er : List.replicate (a' ++ [n]).length (0 : Int) ++ strd b = List.replicate a'.length 0 ++ 0 :: strd b := by
        rw [List.length_append, List.length_singleton, List.replicate_succ', List.append_assoc]; rfl
      have hj : a'.length < (List.replicate (a' ++ [n]).length (0 : Int) ++ strd b).length := by simp; omega
      have hset : (List.replicate (a' ++ [n]).length (0 : Int) ++ strd b).set a'.length (prodI b) = List.replicate a'.length 0 ++ strd (n :: b) := by
        rw [er]
        have := mid_set (p := List.replicate a'.length (0 : Int)) (s := strd b) (x := 0) (y := prodI b)
        simp only [List.length_replicate] at this
        rw [this, ← mid_app]; rfl
      have hidx : idx s (a'.length : Int) = some n := by rw [e']; exact mid_idx
      have hposb : ∀ k ∈ n :: b, 1 ≤ k := fun k hk => hpos k (by rw [e']; exact List.mem_append_right _ hk)
      have hposa : ∀ k ∈ a', 1 ≤ k := fun k hk => hpos k (by rw [e']; exact List.mem_append_left _ hk)
      have hle : prodI (n :: b) ≤ 65536 := by
        have := prod_le hposa hposb
        rw [← e'] at this; omega
      have hge := prodI_pos hposb
      have w2 : W (prodI b * n) = prodI (n :: b) := by rw [prodI_cons, Int.mul_comm, W_ok (by rw [← prodI_cons]; omega) (by rw [← prodI_cons]; omega)]
      have w3 : W ((b.length : Int) + 1) = ((n :: b).length : Int) := by rw [W_ok (by omega) (by omega)]; simp
      have ih := str_L1 s v2 hv2 hs hpos hP m a' (n :: b) ha' e'
      simp only [ht, if_true, w, guardM_ok hg, bind_ok, idx_ok hj, setM_ok hj, hset, hidx, w2, w3]
      exact ih
theorem checkR_ok {s : List Int} (h : checkR s = 0) : s.length ≤ 16 ∧ prodI s ≤ 65536 ∧ ∀ n ∈ s, 0 ≤ n ∧ n ≤ 65536 := by
  unfold checkR at h
  by_cases hn : negB s = true
  · rw [if_pos hn] at h; cases h
  · rw [if_neg hn] at h
    by_cases h2 : s.length > 16 ∨ bigB s = true ∨ prodI s > 65536
    · rw [if_pos h2] at h; cases h
    · have hn' : negB s = false := by simpa using hn
      have hb : bigB s = false := by
        cases hb : bigB s with
        | false => rfl
        | true => exact absurd (Or.inr (Or.inl hb)) h2
      refine ⟨by omega, by omega, fun n hm => ⟨neg_all hn' n hm, big_all hb n hm⟩⟩
theorem gCells_ok (s : List Int) (hs : Sm s.length) : m_shape_Cells s = some (cellsR s) := by
  simp only [m_shape_Cells, shapeCheck_ok s hs, bind_ok, cellsR, sProduct_ok s hs]
  by_cases h : checkR s = 0
  · obtain ⟨h1, h2, h3⟩ := checkR_ok h
    have hn : negB s = false := by
      cases hn : negB s with
      | false => rfl
      | true => unfold checkR at h; rw [if_pos hn] at h; cases h
    have hb : bigB s = false := by
      cases hb : bigB s with
      | false => rfl
      | true => unfold checkR at h; rw [if_neg (by simp [hn]), if_pos (Or.inr (Or.inl hb))] at h; cases h
    simp [h, prodR, hn, hb, show ¬ prodI s > 65536 by omega]
  · simp [h]
theorem strides_ok {s : List Int} (hc : checkR s = 0) (hpos : ∀ n ∈ s, 1 ≤ n) : m_shape_Strides s = some (strd s) := by
  obtain ⟨h1, h2, h3⟩ := checkR_ok hc
  have hp := prodI_pos hpos
  have hm : makeM 8 (s.length : Int) (0 : Int) = some (List.replicate s.length 0) := by
    have : ((s.length : Int) * 8 ≤ (room : Int)) := by
      have : (1000 : Nat) * 8 ≤ room := by decide +kernel
      omega
    simp [makeM, this]; omega
  have e := str_L1 s (List.replicate s.length 0) (by simp) (by omega) hpos h2 s.length s [] rfl (by simp)
  simp only [strd, List.append_nil, prodI_nil, List.length_nil, Int.natCast_zero] at e
  simp only [m_shape_Strides, shapeCheck_ok s (Sm_of (show s.length ≤ 1000 by omega)), bind_ok, hc, hm, gCells_ok s (Sm_of (show s.length ≤ 1000 by omega)), cellsR, if_true, ne_eq, not_true, if_false, show ¬ prodI s = 0 by omega, e]
  rw [guardM_ok (by simp [strd_len])]; rfl
theorem ite_some {α : Type} {p : Prop} [Decidable p] {a b : α} : (if p then some a else some b) = some (if p then a else b) := by split <;> rfl
theorem w_step {α : Type} {p s : List α} {x : α} (h : p.length + (x :: s).length ≤ 600) : W ((p.length : Int) + 1) = ((p ++ [x]).length : Int) := by
  simp at h
  rw [W_ok (by omega) (by omega)]; simp
/-- the product of the dimensions, where none counts less than one -/
def pmI : List Int → Int
  | [] => 1
  | n :: s => (if n < 1 then 1 else n) * pmI s
theorem pmI_pos : ∀ s : List Int, 1 ≤ pmI s
  | [] => Int.le_refl _
  | n :: s => by
    have h1 := pmI_pos s
    have h2 : 1 ≤ (if n < 1 then 1 else n) := by split <;> omega
    rw [pmI]
    have := Int.mul_le_mul h2 h1 (by omega) (by omega)
    omega
theorem small_L1 (most : Int) (hm : 0 ≤ most ∧ most ≤ 1000000) : ∀ (s p : List Int) (v : Int), p.length + s.length ≤ 600 → (∀ n ∈ s, n ≤ 65536) → 1 ≤ v → v ≤ 100000000 → ∃ o, m_ref02_Small_L1 (p ++ s, most, v, (p.length : Int)) = some o ∧ (o = .inr () → s = [] ∨ v * pmI s ≤ 100 * most)
  | [], p, v, h, hd, h1, h2 => by
    refine ⟨.inr (), ?_, fun _ => Or.inl rfl⟩; rw [m_ref02_Small_L1]; simp only [end_lt, if_false]
  | x :: s, p, v, h, hd, h1, h2 => by
    rw [m_ref02_Small_L1]
    have w1 : W (100 * most) = 100 * most := W_ok (by omega) (by omega)
    have hx := hd x (List.mem_cons_self ..)
    have hx2 : 1 ≤ (if x < 1 then 1 else x) ∧ (if x < 1 then 1 else x) ≤ 65536 := by split <;> omega
    have b1 := Int.mul_le_mul h2 hx2.2 (by omega) (by omega)
    have b2 := Int.mul_le_mul h1 hx2.1 (by omega) (by omega)
    have w2 : W (v * (if x < 1 then 1 else x)) = v * (if x < 1 then 1 else x) := W_ok (by omega) (by omega)
    simp only [mid_lt, if_true, mid_idx, bind_ok, w_step h, w1, w2]
    by_cases hg : v * (if x < 1 then 1 else x) > 100 * most
    · exact ⟨_, if_pos hg, fun h => by cases h⟩
    · obtain ⟨o, e, ho⟩ := small_L1 most hm s (p ++ [x]) (v * (if x < 1 then 1 else x)) (by simp at h ⊢; omega) (fun n hn => hd n (List.mem_cons_of_mem _ hn)) (by omega) (by omega)
      rw [← mid_app] at e
      rw [if_neg hg]
      refine ⟨o, e, fun h => Or.inr ?_⟩
      rw [pmI, ← Int.mul_assoc]
      rcases ho h with rfl | h
      · rw [pmI, Int.mul_one]; omega
      · exact h
/-- a small shape -/
def smallS (m : Int) (l : List Int) : Prop := l.length ≤ 6 ∧ checkR l = 0 ∧ prodI l ≤ m ∧ (l = [] ∨ pmI l ≤ 100 * m)
theorem small_ok2 (l : List Int) (most : Int) (hm : 0 ≤ most ∧ most ≤ 1000000) (hS : Sm l.length) : ∃ b, m_ref02_Small (l, most) = some b ∧ (b = true → smallS most l) := by
  simp only [m_ref02_Small, Check_ok _ hS, Cells_ok _ hS, bind_ok, ite_some]
  by_cases g1 : (l.length : Int) > 6
  · exact ⟨false, by simp [g1], fun h => by cases h⟩
  by_cases g2 : checkR l = 0
  · have hc : cellsR l = prodI l := by rw [cellsR, if_pos g2]
    by_cases g3 : cellsR l > most
    · exact ⟨false, by simp [g1, g2, g3], fun h => by cases h⟩
    · obtain ⟨o, e, ho⟩ := small_L1 most hm l [] 1 (by simp; omega) (fun n hn => ((checkR_ok g2).2.2 n hn).2) (by omega) (by omega)
      have e' : m_ref02_Small_L1 (l, most, 1, 0) = some o := e
      simp only [g1, g2, g3, e', if_false, bne_self_eq_false, Bool.false_eq_true, decide_false, bind_ok]
      cases o with
      | inl _ => exact ⟨_, rfl, fun h => by cases h⟩
      | inr _ => exact ⟨_, rfl, fun _ => ⟨by omega, g2, by omega, by rcases ho rfl with h | h; exact Or.inl h; exact Or.inr (by omega)⟩⟩
  · exact ⟨false, by simp [g1, g2], fun h => by cases h⟩
theorem prodI_zero_iff {s : List Int} (h : ∀ n ∈ s, 0 ≤ n) (hz : prodI s ≠ 0) : ∀ n ∈ s, 1 ≤ n := fun n hn => by
  have h0 := h n hn
  rcases Int.lt_or_eq_of_le h0 with g | g
  · omega
  · subst g; exact absurd (prodI_zero hn) hz
theorem Count_L1 : ∀ (s p : List Int), p.length + s.length ≤ 600 → m_odometer_Count_L1 (List.replicate (p.length + s.length) 0, p ++ s, (p.length : Int)) = some (if s.any (fun n => decide (n ≤ 0)) then .inl () else .inr ())
  | [], p, h => by
    rw [m_odometer_Count_L1]
    have : ¬ ((p.length : Int) < ((List.replicate (p.length + ([] : List Int).length) (0 : Int)).length : Int)) := by simp
    simp only [this, if_false]; rfl
  | x :: s, p, h => by
    rw [m_odometer_Count_L1]
    have h1 : ((p.length : Int) < ((List.replicate (p.length + (x :: s).length) (0 : Int)).length : Int)) := by simp; omega
    have h2 : idx (List.replicate (p.length + (x :: s).length) (0 : Int)) (p.length : Int) = some 0 := by rw [idx_ok (by simp)]; simp
    have e := Count_L1 s (p ++ [x]) (by simp at h ⊢; omega)
    rw [← mid_app, show (p ++ [x]).length + s.length = p.length + (x :: s).length by simp; omega] at e
    simp only [h1, if_true, h2, mid_idx, bind_ok, w_step h, e, List.any_cons]
    by_cases g : x ≤ 0
    · have g' : (0 : Int) ≥ x := g
      simp only [g', if_true, g, decide_true, Bool.true_or]
    · have g' : ¬ (0 : Int) ≥ x := g
      simp only [g', if_false, g, decide_false, Bool.false_or]
theorem Count_L2 : ∀ (s p : List Int) (v : Int), p.length + s.length ≤ 600 → (∀ n ∈ s, 1 ≤ n) → 1 ≤ v → v * prodI s ≤ 65536 → m_odometer_Count_L2 (List.replicate (p.length + s.length) 0, p ++ s, v, (p.length : Int)) = some (v * prodI s)
  | [], p, v, h, h1, h2, h3 => by
    rw [m_odometer_Count_L2]
    have : ¬ ((p.length : Int) < ((List.replicate (p.length + ([] : List Int).length) (0 : Int)).length : Int)) := by simp
    simp only [this, if_false, prodI_nil, Int.mul_one]
  | x :: s, p, v, h, h1, h2, h3 => by
    rw [m_odometer_Count_L2]
    have g1 : ((p.length : Int) < ((List.replicate (p.length + (x :: s).length) (0 : Int)).length : Int)) := by simp; omega
    have g2 : idx (List.replicate (p.length + (x :: s).length) (0 : Int)) (p.length : Int) = some 0 := by rw [idx_ok (by simp)]; simp
    have hx := h1 x (List.mem_cons_self ..)
    have hs := prodI_pos (fun n hn => h1 n (List.mem_cons_of_mem _ hn))
    rw [prodI_cons, ← Int.mul_assoc] at h3
    have b1 : 1 ≤ v * x := by have := Int.mul_le_mul h2 hx (by omega) (by omega); omega
    have b2 : (v * x) * 1 ≤ v * x * prodI s := Int.mul_le_mul_of_nonneg_left hs (by omega)
    have b3 : 1 * x ≤ v * x := Int.mul_le_mul_of_nonneg_right h2 (by omega)
    have w1 : W (x - 0) = x := by rw [Int.sub_zero]; exact W_ok (by omega) (by omega)
    have w2 : W (v * x) = v * x := W_ok (by omega) (by omega)
    have e := Count_L2 s (p ++ [x]) (v * x) (by simp at h ⊢; omega) (fun n hn => h1 n (List.mem_cons_of_mem _ hn)) b1 h3
    rw [← mid_app, show (p ++ [x]).length + s.length = p.length + (x :: s).length by simp; omega] at e
    simp only [g1, if_true, g2, mid_idx, bind_ok, w_step h, w1, w2, e, prodI_cons, Int.mul_assoc]
theorem app_le {α : Type} {b : Nat} {l es : List α} (h : l.length + es.length ≤ 100000000) (hb : b ≤ 1000) : app b l es = some (l ++ es) := app_ok (by
  have h1 : (l.length + es.length) * b ≤ 100000000 * 1000 := Nat.mul_le_mul h hb
  have h2 : 100000000 * 1000 ≤ room := by decide +kernel
  omega)
def rowI (n : Int) (a : List Int) : List (List Int) := (List.range n.toNat).map fun (k : Nat) => a ++ [(k : Int)]
def extI (out : List (List Int)) (n : Int) : List (List Int) := out.flatMap (rowI n)
/-- all indices -/
def allL : List Int → List (List Int)
  | [] => [[]]
  | n :: s => (List.range n.toNat).flatMap fun (k : Nat) => (allL s).map ((k : Int) :: ·)
theorem foldl_ext : ∀ (s : List Int) (out : List (List Int)), s.foldl extI out = out.flatMap fun a => (allL s).map (a ++ ·)
  | [], out => by
    simp only [List.foldl_nil, allL, List.map_cons, List.append_nil, List.map_nil]
    induction out with
    | nil => rfl
    | cons a o ih => rw [List.flatMap_cons, ← ih]; rfl
  | n :: s, out => by
    rw [List.foldl_cons, foldl_ext s, extI, List.flatMap_assoc]
    congr 1
    funext a
    rw [rowI, List.flatMap_map, allL, List.map_flatMap]
    congr 1
    funext k
    rw [List.map_map]
    congr 1
    funext x
    simp
theorem allI_eq (s : List Int) : s.foldl extI [[]] = allL s := by rw [foldl_ext]; simp
/-- the product of the dimensions, where none counts less than one -/
def pm : List Int → Nat
  | [] => 1
  | n :: s => max n.toNat 1 * pm s
theorem pm_pos : ∀ s : List Int, 1 ≤ pm s
  | [] => Nat.le_refl _
  | n :: s => by
    have := pm_pos s
    rw [pm]
    exact Nat.mul_le_mul (show 1 ≤ max n.toNat 1 by omega) this
theorem rowI_len (n : Int) (a : List Int) : (rowI n a).length = n.toNat := by simp [rowI]
theorem extI_len (n : Int) : ∀ out : List (List Int), (extI out n).length = out.length * n.toNat
  | [] => by simp [extI]
  | a :: o => by
    have := extI_len n o
    unfold extI at this ⊢
    rw [List.flatMap_cons, List.length_append, rowI_len, this, List.length_cons, Nat.add_mul, Nat.one_mul]; omega
theorem all_L3 (p : List Int) (i : Nat) (n : Int) (hi : idx p (i : Int) = some n) (out : List (List Int)) (k : Nat) (a : List Int) (hk : idx out (k : Int) = some a) (ha : a.length ≤ 1000) (base : List (List Int)) :
    ∀ (m j : Nat), j + m = n.toNat → base.length + n.toNat ≤ 1000000 → m_ref03_All_L3 (p, (i : Int), out, (k : Int), base ++ ((List.range j).map fun (x : Nat) => a ++ [(x : Int)]), (j : Int)) = some (base ++ rowI n a)
  | 0, j, h1, h2 => by
    rw [m_ref03_All_L3]
    have : ¬ ((j : Int) < n) := by omega
    simp only [hi, bind_ok, this, if_false]
    rw [rowI, ← h1]; rfl
  | m + 1, j, h1, h2 => by
    rw [m_ref03_All_L3]
    have ht : ((j : Int) < n) := by omega
    have ih := all_L3 p i n hi out k a hk ha base m (j + 1) (by omega) h2
    have w : W ((j : Int) + 1) = ((j + 1 : Nat) : Int) := W_succ (by omega)
    have a1 : app 8 ([] : List Int) a = some a := by rw [app_le (by simp; omega) (by omega)]; rfl
    have a2 : app 8 a [(j : Int)] = some (a ++ [(j : Int)]) := app_le (by simp; omega) (by omega)
    have a3 : app 24 (base ++ ((List.range j).map fun (x : Nat) => a ++ [(x : Int)])) [a ++ [(j : Int)]] = some (base ++ ((List.range (j + 1)).map fun (x : Nat) => a ++ [(x : Int)])) := by
      rw [app_le (by simp; omega) (by omega), List.range_succ]; simp
    simp only [hi, bind_ok, ht, if_true, hk, a1, a2, a3, w, ih]
theorem all_L2 (p : List Int) (i : Nat) (n : Int) (hi : idx p (i : Int) = some n) : ∀ (s q : List (List Int)), (∀ a ∈ s, a.length ≤ 1000) → ((q ++ s).length + 1) * (max n.toNat 1) ≤ 1000000 →
    m_ref03_All_L2 (q ++ s, p, (i : Int), extI q n, (q.length : Int)) = some (extI (q ++ s) n)
  | [], q, h1, h2 => by
    rw [m_ref03_All_L2]; simp only [List.append_nil, Int.lt_irrefl, if_false]
  | a :: s, q, h1, h2 => by
    rw [m_ref03_All_L2]
    have hm : (q ++ a :: s).length + 1 ≤ 1000000 := Nat.le_trans (Nat.le_mul_of_pos_right _ (by omega)) h2
    have hb : (extI q n).length + n.toNat ≤ 1000000 := by
      rw [extI_len]
      have e1 : q.length * n.toNat + n.toNat = (q.length + 1) * n.toNat := by rw [Nat.add_mul, Nat.one_mul]
      rw [e1]
      refine Nat.le_trans (Nat.mul_le_mul ?_ ?_) h2
      · simp
      · omega
    have e := all_L3 p i n hi (q ++ a :: s) q.length a mid_idx (h1 a (List.mem_cons_self ..)) (extI q n) n.toNat 0 (by omega) hb
    have ih := all_L2 p i n hi s (q ++ [a]) (fun x hx => h1 x (List.mem_cons_of_mem _ hx)) (by rw [← mid_app]; exact h2)
    rw [← mid_app] at ih
    simp only [List.range_zero, List.map_nil, List.append_nil, Int.natCast_zero] at e
    have ee : extI (q ++ [a]) n = extI q n ++ rowI n a := by unfold extI; rw [List.flatMap_append]; simp
    simp only [mid_lt, if_true, e, bind_ok, mid_W (Sm_of (show (q ++ a :: s).length ≤ 1000000 by omega)), ← ee, ih]
theorem mem_ext_len {out : List (List Int)} {n : Int} {m : Nat} (h : ∀ a ∈ out, a.length = m) : ∀ a ∈ extI out n, a.length = m + 1 := fun a ha => by
  unfold extI at ha
  obtain ⟨b, hb, hc⟩ := List.mem_flatMap.1 ha
  unfold rowI at hc
  obtain ⟨k, _, rfl⟩ := List.mem_map.1 hc
  simp [h b hb]
theorem all_L1 : ∀ (s p : List Int) (out : List (List Int)), (p ++ s).length ≤ 900 → (∀ a ∈ out, a.length = p.length) → (out.length + 1) * pm s ≤ 500000 → m_ref03_All_L1 (p ++ s, out, (p.length : Int)) = some (s.foldl extI out)
  | [], p, out, hs, h1, h2 => by
    rw [m_ref03_All_L1]; simp only [end_lt, if_false, List.foldl_nil]
  | n :: s, p, out, hs, h1, h2 => by
    rw [m_ref03_All_L1]
    have hp := pm_pos s
    rw [pm, ← Nat.mul_assoc] at h2
    have b1 : (out.length + 1) * max n.toNat 1 ≤ 500000 := Nat.le_trans (Nat.le_mul_of_pos_right _ hp) h2
    have e : m_ref03_All_L2 (out, p ++ n :: s, (p.length : Int), [], 0) = some (extI out n) := all_L2 (p ++ n :: s) p.length n mid_idx out [] (fun a ha => by have := h1 a ha; simp at hs; omega) (Nat.le_trans b1 (by omega))
    have ih := all_L1 s (p ++ [n]) (extI out n) (by rw [← mid_app]; exact hs) (fun a ha => by rw [mem_ext_len h1 a ha]; simp) (by
      refine Nat.le_trans (Nat.mul_le_mul_right _ ?_) h2
      rw [extI_len, Nat.add_mul, Nat.one_mul]
      have := Nat.mul_le_mul_left out.length (show n.toNat ≤ max n.toNat 1 by omega)
      omega)
    rw [← mid_app] at ih
    simp only [mid_lt, if_true, e, bind_ok, mid_W (Sm_of hs), ih, List.foldl_cons]
theorem All_ok {s : List Int} (hs : s.length ≤ 900) (h : pm s ≤ 250000) : m_ref03_All s = some (allL s) := by
  have e : m_ref03_All_L1 (s, [[]], 0) = some (s.foldl extI [[]]) := all_L1 s [] [[]] hs (by simp) (by simpa using by omega)
  simp only [m_ref03_All, e, bind_ok, allI_eq]

theorem mem_allL : ∀ {s x : List Int}, x ∈ allL s ↔ vld s x = true
  | [], x => by
    cases x with
    | nil => simp [allL, vld]
    | cons a x => simp [allL, vld]
  | n :: s, x => by
    rw [allL, List.mem_flatMap]
    constructor
    · rintro ⟨k, hk, h⟩
      obtain ⟨y, hy, rfl⟩ := List.mem_map.1 h
      have := List.mem_range.1 hk
      simp only [vld, Bool.and_eq_true, decide_eq_true_eq]
      exact ⟨by omega, mem_allL.1 hy⟩
    · intro h
      cases x with
      | nil => cases h
      | cons a x =>
        simp only [vld, Bool.and_eq_true, decide_eq_true_eq] at h
        refine ⟨a.toNat, List.mem_range.2 (by omega), List.mem_map.2 ⟨x, mem_allL.2 h.2, ?_⟩⟩
        rw [Int.toNat_of_nonneg h.1.1]
theorem flat_len {α : Type} (f : Nat → List α) (c : Nat) (h : ∀ k, (f k).length = c) : ∀ m : Nat, ((List.range m).flatMap f).length = m * c
  | 0 => by simp
  | m + 1 => by rw [List.range_succ, List.flatMap_append, List.length_append, flat_len f c h m]; simp [h, Nat.add_mul]
theorem allL_len : ∀ {s : List Int}, (∀ n ∈ s, 0 ≤ n) → ((allL s).length : Int) = prodI s
  | [], _ => by simp [allL, prodI]
  | n :: s, h => by
    have ih := allL_len (s := s) fun m hm => h m (List.mem_cons_of_mem _ hm)
    have h0 := h n (List.mem_cons_self ..)
    rw [allL, flat_len _ (allL s).length (fun k => by simp), Int.natCast_mul, ih, prodI_cons, Int.toNat_of_nonneg h0]
theorem flat_get {α : Type} (f : Nat → List α) (c : Nat) (h : ∀ k, (f k).length = c) (hc : 1 ≤ c) : ∀ (m j : Nat), j < m * c → ((List.range m).flatMap f)[j]? = (f (j / c))[j % c]?
  | 0, j, hj => by simp at hj
  | m + 1, j, hj => by
    rw [List.range_succ, List.flatMap_append, List.getElem?_append]
    have hl := flat_len f c h m
    rw [hl]
    by_cases hlt : j < m * c
    · rw [if_pos hlt]; exact flat_get f c h hc m j hlt
    · rw [if_neg hlt]
      have e1 : j / c = m := Nat.div_eq_of_lt_le (by omega) (by omega)
      have e2 : j % c = j - m * c := by
        have := Nat.div_add_mod j c
        rw [e1, Nat.mul_comm] at this
        omega
      rw [e1, e2]; simp
theorem allL_get : ∀ {s : List Int}, (∀ n ∈ s, 1 ≤ n) → ∀ j : Nat, (j : Int) < prodI s → (allL s)[j]? = some (dig s (j : Int))
  | [], _, j, hj => by
    have : j = 0 := by simp [prodI] at hj; omega
    subst this; rfl
  | n :: s, h, j, hj => by
    have hs : ∀ m ∈ s, 1 ≤ m := fun m hm => h m (List.mem_cons_of_mem _ hm)
    have h0 := h n (List.mem_cons_self ..)
    have hl := allL_len (s := s) fun m hm => by have := hs m hm; omega
    have hp := prodI_pos hs
    rw [prodI_cons] at hj
    have hc : 1 ≤ (allL s).length := by omega
    have hj2 : j < n.toNat * (allL s).length := by
      have : ((n.toNat * (allL s).length : Nat) : Int) = n * prodI s := by rw [Int.natCast_mul, hl, Int.toNat_of_nonneg (by omega)]
      omega
    rw [allL, flat_get _ (allL s).length (fun k => by simp) hc _ _ hj2, List.getElem?_map]
    have hm : ((j % (allL s).length : Nat) : Int) = (j : Int) % prodI s := by rw [Int.natCast_emod, hl]
    have hd : ((j / (allL s).length : Nat) : Int) = (j : Int) / prodI s := by rw [Int.natCast_ediv, hl]
    rw [allL_get hs (j % (allL s).length) (by rw [hm]; exact Int.emod_lt_of_pos _ (by omega)), Option.map_some, hm, hd, dig]
theorem pm_pmI : ∀ s : List Int, ((pm s : Nat) : Int) = pmI s
  | [] => rfl
  | n :: s => by
    rw [pm, pmI, Int.natCast_mul, pm_pmI s]
    congr 1
    split <;> omega
theorem small_pm {m : Int} {s : List Int} (h : smallS m s) (hm : 1 ≤ m) : (pm s : Int) ≤ 100 * m := by
  rcases h.2.2.2 with rfl | h
  · simp [pm]; omega
  · rw [pm_pmI]; exact h
theorem small_All {m : Int} {s : List Int} (h : smallS m s) (hm : 1 ≤ m ∧ m ≤ 2500) : m_ref03_All s = some (allL s) := All_ok (by have := h.1; omega) (by have := small_pm h hm.1; omega)

/-- sums of products, as the machine adds -/
def dotF : List Int → List Int → Int → Int
  | a :: s, b :: t, x => dotF s t (W (x + W (a * b)))
  | _, _, x => x
theorem rDot_L1 : ∀ (s t p q : List Int) (x : Int), p.length = q.length → (p ++ s).length ≤ 1000 → (q ++ t).length ≤ 1000 → m_ref03_Dot_L1 (p ++ s, q ++ t, x, (p.length : Int)) = some (dotF s t x)
  | [], t, p, q, x, h, h1, h2 => by
    rw [m_ref03_Dot_L1]
    simp only [end_lt, if_false, bind_ok, Bool.false_eq_true, dotF]
  | a :: s, [], p, q, x, h, h1, h2 => by
    rw [m_ref03_Dot_L1]
    have : ¬ ((p.length : Int) < ((q ++ ([] : List Int)).length : Int)) := by simp; omega
    simp only [mid_lt, if_true, this, decide_false, bind_ok, Bool.false_eq_true, if_false, dotF]
  | a :: s, b :: t, p, q, x, h, h1, h2 => by
    rw [m_ref03_Dot_L1]
    have e1 : ((p.length : Int) < ((q ++ b :: t).length : Int)) := by simp; omega
    have e2 : idx (q ++ b :: t) (p.length : Int) = some b := by rw [h]; exact mid_idx
    have e := rDot_L1 s t (p ++ [a]) (q ++ [b]) (W (x + W (a * b))) (by simp [h]) (by simpa using h1) (by simpa using h2)
    rw [← mid_app, ← mid_app] at e
    have w : W ((p.length : Int) + 1) = ((p ++ [a]).length : Int) := mid_W (Sm_of h1)
    simp only [mid_lt, if_true, e1, decide_true, bind_ok, mid_idx, e2, w, e, dotF]
theorem rDot_ok {a b : List Int} (h1 : a.length ≤ 1000) (h2 : b.length ≤ 1000) : m_ref03_Dot (a, b) = some (dotF a b 0) := by
  have e := rDot_L1 a b [] [] 0 rfl (by simpa using h1) (by simpa using h2)
  simp only [List.nil_append, List.length_nil, Int.natCast_zero] at e
  unfold m_ref03_Dot
  simp only [e, bind_ok]
end Go.Proofs.Tryz
namespace Go.Proofs.Tryz
open Go Go.Pm
set_option linter.unusedVariables false
set_option linter.unusedSimpArgs false
set_option maxRecDepth 2000
theorem dotp_dig : ∀ {s : List Int}, (∀ n ∈ s, 1 ≤ n) → ∀ j : Int, 0 ≤ j → j < prodI s → dotp s (dig s j) = j
  | [], _, j, h0, h1 => by rw [prodI_nil] at h1; simp only [dig, dotp]; omega
  | n :: s, hp, j, h0, h1 => by
    have hs := prodI_pos (fun n hn => hp n (List.mem_cons_of_mem _ hn))
    have hm := Int.emod_nonneg j (show prodI s ≠ 0 by omega)
    have hl := Int.emod_lt_of_pos j (show 0 < prodI s by omega)
    have he := Int.emod_add_mul_ediv j (prodI s)
    rw [dig, dotp, dotp_dig (fun n hn => hp n (List.mem_cons_of_mem _ hn)) _ hm hl, Int.mul_comm]
    omega
theorem Count_ok {s : List Int} (hc : checkR s = 0) : m_odometer_Count (List.replicate s.length 0, s) = some (prodI s) := by
  obtain ⟨h1, h2, h3⟩ := checkR_ok hc
  unfold m_odometer_Count
  have e1 := Count_L1 s [] (by simp; omega)
  simp only [List.nil_append, List.length_nil, Nat.zero_add, Int.natCast_zero] at e1
  by_cases g : s.any (fun n => decide (n ≤ 0)) = true
  · obtain ⟨n, hn, h0⟩ := List.any_eq_true.1 g
    have : n = 0 := by have := h3 n hn; have := of_decide_eq_true h0; omega
    subst this
    simp only [e1, g, if_true, bind_ok, prodI_zero hn]
  · have hp : ∀ n ∈ s, 1 ≤ n := fun n hn => by
      rcases Int.lt_or_le 0 n with h | h
      · omega
      · exact absurd (List.any_eq_true.2 ⟨n, hn, decide_eq_true h⟩) g
    have e2 := Count_L2 s [] 1 (by simp; omega) hp (by omega) (by omega)
    simp only [List.nil_append, List.length_nil, Nat.zero_add, Int.natCast_zero, Int.one_mul] at e2
    simp only [e1, g, if_false, bind_ok, e2]
    rfl
theorem make_ok (s : List Int) (h : s.length ≤ 600) : makeM 8 (s.length : Int) (0 : Int) = some (List.replicate s.length 0) := by
  have : ((s.length : Int) * 8 ≤ (room : Int)) := by
    have : (1000 : Nat) * 8 ≤ room := by decide +kernel
    omega
  simp [makeM, this]; omega
theorem whole_ok (s : List Int) (h : s.length ≤ 600) : ∃ g, m_box_Whole_b4e7c s = some (g, List.replicate s.length 0, s) := by
  refine ⟨mg (List.replicate s.length (0 : Int)), ?_⟩
  simp only [m_box_Whole_b4e7c, make_ok s h, bind_ok, m_slices_Clone_int_int, app_le (b := 8) (l := ([] : List Int)) (es := s) (by simp; omega) (by omega), List.nil_append]
theorem listed_one (x : T_piece_Piece) {c : Int} (hc : m_odometer_Count (x.box.lo, x.box.hi) = some c) : m_piece_listed [x] = some (if c > 0 then [x] else []) := by
  unfold m_piece_listed m_piece_kept_piece_Piece_b5533
  dsimp only
  rw [m_piece_kept_piece_Piece_b5533_L1]
  have i0 : idx [x] 0 = some x := rfl
  have l0 : ((0 : Int) < (([x] : List T_piece_Piece).length : Int)) := by simp
  have l1 : ¬ ((1 : Int) < (([x] : List T_piece_Piece).length : Int)) := by simp
  have w : W (0 + 1) = 1 := by decide
  simp only [l0, if_true, i0, bind_ok, m_piece_listed_1, m_box_Size, hc]
  by_cases g : c > 0
  · simp only [g, decide_true, if_true]
    rw [app_le (by simp) (by omega), bind_ok, w, m_piece_kept_piece_Piece_b5533_L1]
    simp only [l1, if_false, bind_ok, m_slices_SortFunc_piece_Piece_piece_Piece__piece_before_own]
    rfl
  · simp only [g, decide_false, Bool.false_eq_true, if_false, w]
    rw [m_piece_kept_piece_Piece_b5533_L1]
    simp only [l1, if_false, bind_ok, m_slices_SortFunc_piece_Piece_piece_Piece__piece_before_own]
    rfl
theorem prod_nonneg {s : List Int} (h : ∀ n ∈ s, 0 ≤ n) : 0 ≤ prodI s := by
  by_cases g : prodI s = 0
  · omega
  · have := prodI_pos (prodI_zero_iff h g); omega
def wholeP (b : Int) (s : List Int) : T_piece_Piece := ⟨⟨List.replicate s.length 0, s⟩, ⟨2, b, 0, strd s, 0, 0, 0⟩⟩
def fillP (s : List Int) : T_piece_Piece := ⟨⟨List.replicate s.length 0, s⟩, ⟨1, 0, 0, [], 0, 0, 0⟩⟩
theorem pWhole_ok (b : Int) {s : List Int} (hc : checkR s = 0) : m_piece_Whole (b, s) = some (if prodI s = 0 then [] else [wholeP b s]) := by
  obtain ⟨h1, h2, h3⟩ := checkR_ok hc
  obtain ⟨g, eg⟩ := whole_ok s (by omega)
  have hn := prod_nonneg fun n hn => (h3 n hn).1
  have hS : Sm s.length := Sm_of (show s.length ≤ 1000 by omega)
  unfold m_piece_Whole
  simp only [eg, bind_ok, m_access_Direct]
  by_cases z : prodI s = 0
  · have es : m_shape_Strides s = some (List.replicate s.length 0) := by
      simp only [m_shape_Strides, shapeCheck_ok s hS, bind_ok, hc, ne_eq, not_true, if_false, make_ok s (by omega), gCells_ok s hS, cellsR, z, if_true]
    simp only [es, bind_ok]
    rw [listed_one _ (c := prodI s) (Count_ok hc), bind_ok, if_neg (by omega), if_pos z]
  · simp only [strides_ok hc (prodI_zero_iff (fun n hn => (h3 n hn).1) z), bind_ok]
    rw [listed_one _ (c := prodI s) (Count_ok hc), bind_ok, if_pos (by omega), if_neg z]
    rfl
theorem pFilled_ok {s : List Int} (hc : checkR s = 0) : m_piece_Filled s = some (if prodI s = 0 then [] else [fillP s]) := by
  obtain ⟨h1, h2, h3⟩ := checkR_ok hc
  obtain ⟨g, eg⟩ := whole_ok s (by omega)
  have hn := prod_nonneg fun n hn => (h3 n hn).1
  unfold m_piece_Filled
  simp only [eg, bind_ok]
  rw [listed_one _ (c := prodI s) (Count_ok hc), bind_ok]
  by_cases z : prodI s = 0
  · rw [if_neg (by omega), if_pos z]
  · rw [if_pos (by omega), if_neg z]; rfl
/-! ### the fixed results -/
theorem awake_ok : m_law18_awake () = some true := by
  have e1 : m_piece_Whole (2, [3]) = some [⟨⟨[0], [3]⟩, ⟨2, 2, 0, [1], 0, 0, 0⟩⟩] := by
    rw [pWhole_ok 2 (s := [3]) (by decide)]; rfl
  have e2 : m_piece_Window ([⟨⟨[0], [3]⟩, ⟨2, 2, 0, [1], 0, 0, 0⟩⟩], [3], [5], [-1]) = some r_piece_Window0 := if_pos rfl
  have e3 : m_piece_Origin (r_piece_Window0, [2]) = some (⟨false, 2, 1⟩, true) := if_pos rfl
  have e4 : m_piece_Origin (r_piece_Window0, [5]) = some (⟨false, 0, 0⟩, false) := (if_neg (by decide)).trans (if_pos rfl)
  have e5 : m_piece_Covers_k ([5], r_piece_Window0) = some true := if_pos rfl
  have e6 : m_piece_Covers_k ([6], r_piece_Window0) = some false := (if_neg (by decide)).trans (if_pos rfl)
  have e7 : m_piece_Filled [0] = some [] := by rw [pFilled_ok (s := [0]) (by decide)]; rfl
  have e8 : m_piece_Rotate (r_piece_Window0, 0, 2, 5) = some r_piece_Rotate0 := if_pos rfl
  have e9 : m_piece_Reverse (r_piece_Window0, 0, 5) = some r_piece_Reverse0 := if_pos rfl
  have e10 : m_piece_Transpose (r_piece_Window0, [0], [5]) = some r_piece_Transpose0 := if_pos rfl
  have e11 : m_piece_Catenate (r_piece_Window0, r_piece_Window0, 0, 5) = some r_piece_Catenate0 := if_pos rfl
  have l1 : ((r_piece_Window0.length : Int) = 3) := rfl
  have l2 : idx r_piece_Window0 1 = some ⟨⟨[1], [4]⟩, ⟨2, 2, -1, [1], 0, 0, 0⟩⟩ := rfl
  have l3 : ((r_piece_Rotate0.length : Int) = 4) := rfl
  have l4 : ((r_piece_Reverse0.length : Int) = 3) := rfl
  have l5 : ((r_piece_Transpose0.length : Int) = 3) := rfl
  have l6 : ((r_piece_Catenate0.length : Int) = 6) := rfl
  unfold m_law18_awake
  simp only [e1, e2, e3, e4, bind_ok, l1, ne_eq, not_true, if_false, l2, bne_self_eq_false, Bool.false_eq_true, e5, if_true, e6, Bool.not_false, beq_self_eq_true, e7, List.length_nil, Int.natCast_zero, e8, l3, e9, l4, e10, l5, e11, l6]
  rfl
/-! ### in the reference -/
def bkP (x : T_piece_Piece) : T_ref18_Piece := ⟨⟨x.box.lo, x.box.hi⟩, ⟨x.access.kind, x.access.buffer, x.access.base, x.access.strides, x.access.start, x.access.step, x.access.mod⟩⟩
theorem Back_nil : m_law18_Back [] = some [] := by
  unfold m_law18_Back
  dsimp only
  rw [m_law18_Back_L1]
  rfl
theorem Back_one (x : T_piece_Piece) : m_law18_Back [x] = some [bkP x] := by
  unfold m_law18_Back
  dsimp only
  rw [m_law18_Back_L1]
  have i0 : idx [x] 0 = some x := rfl
  have l0 : ((0 : Int) < (([x] : List T_piece_Piece).length : Int)) := by simp
  have l1 : ¬ ((1 : Int) < (([x] : List T_piece_Piece).length : Int)) := by simp
  have w : W (0 + 1) = 1 := by decide
  simp only [l0, if_true, i0, bind_ok, w]
  rw [app_le (by simp) (by omega), bind_ok, m_law18_Back_L1]
  simp only [l1, if_false, bind_ok]
  rfl
theorem rS_L2 (o : List Int) (k : Int) : ∀ (s p : List Int) (v : Int), p.length + s.length ≤ 600 → (∀ n ∈ s, 1 ≤ n) → 1 ≤ v → v * prodI s ≤ 65536 → m_ref02_Strides_L2 (p ++ s, o, k, v, (p.length : Int)) = some (v * prodI s)
  | [], p, v, h, hp, h1, h2 => by
    rw [m_ref02_Strides_L2]
    simp only [end_lt, if_false, bind_ok, Bool.false_eq_true, prodI_nil, Int.mul_one]
  | x :: s, p, v, h, hp, h1, h2 => by
    rw [m_ref02_Strides_L2]
    have hx := hp x (List.mem_cons_self ..)
    have hs := prodI_pos (fun n hn => hp n (List.mem_cons_of_mem _ hn))
    rw [prodI_cons, ← Int.mul_assoc] at h2
    have b1 : 1 ≤ v * x := by have := Int.mul_le_mul h1 hx (by omega) (by omega); omega
    have b2 : (v * x) * 1 ≤ v * x * prodI s := Int.mul_le_mul_of_nonneg_left hs (by omega)
    have w2 : W (v * x) = v * x := W_ok (by omega) (by omega)
    have e := rS_L2 o k s (p ++ [x]) (v * x) (by simp at h ⊢; omega) (fun n hn => hp n (List.mem_cons_of_mem _ hn)) b1 h2
    rw [← mid_app] at e
    simp only [mid_lt, if_true, show v > 0 by omega, decide_true, bind_ok, mid_idx, w_step h, w2, e, prodI_cons, Int.mul_assoc]
theorem rS_L1 : ∀ (s p out : List Int), p.length + s.length ≤ 600 → checkR (p ++ s) = 0 → (∀ n ∈ p ++ s, 1 ≤ n) → out.length ≤ p.length → m_ref02_Strides_L1 (p ++ s, out, (p.length : Int)) = some (out ++ strd s)
  | [], p, out, h, hc, hp, ho => by
    rw [m_ref02_Strides_L1]
    simp only [end_lt, if_false]
    simp only [strd, List.append_nil]
  | x :: s, p, out, h, hc, hp, ho => by
    rw [m_ref02_Strides_L1]
    have hS : Sm (p ++ x :: s).length := Sm_of (show (p ++ x :: s).length ≤ 1000 by simp at h ⊢; omega)
    have hP := prodI_pos hp
    have hps : ∀ n ∈ s, 1 ≤ n := fun n hn => hp n (by simp [hn])
    have hle : prodI s ≤ 65536 := by
      have := prod_le (a := p ++ [x]) (b := s) (fun n hn => hp n (by simp at hn ⊢; rcases hn with h | h <;> simp [h])) hps
      rw [← mid_app] at this
      have := (checkR_ok hc).2.1; omega
    have hcell : m_ref02_Cells (p ++ x :: s) = some (prodI (p ++ x :: s)) := by rw [Cells_ok _ hS, cellsR, if_pos hc]
    have e2 := rS_L2 out (p.length : Int) s (p ++ [x]) 1 (by simp at h ⊢; omega) hps (by omega) (by omega)
    rw [← mid_app, Int.one_mul] at e2
    have e := rS_L1 s (p ++ [x]) (out ++ [prodI s]) (by simp at h ⊢; omega) (by rw [← mid_app]; exact hc) (by rw [← mid_app]; exact hp) (by simp; omega)
    rw [← mid_app] at e
    simp only [mid_lt, if_true, hcell, bind_ok, show ¬ prodI (p ++ x :: s) = 0 by omega, if_false, w_step h, e2]
    rw [app_le (by simp at h ⊢; omega) (by omega), bind_ok, e, strd]
    simp
theorem rS0_L1 : ∀ (s p out : List Int), p.length + s.length ≤ 600 → cellsR (p ++ s) = 0 → out.length ≤ p.length → ∃ o, m_ref02_Strides_L1 (p ++ s, out, (p.length : Int)) = some o
  | [], p, out, h, hc, ho => by
    rw [m_ref02_Strides_L1]
    simp only [end_lt, if_false]; exact ⟨_, rfl⟩
  | x :: s, p, out, h, hc, ho => by
    rw [m_ref02_Strides_L1]
    have hS : Sm (p ++ x :: s).length := Sm_of (show (p ++ x :: s).length ≤ 1000 by simp at h ⊢; omega)
    have e2 : ∀ k, m_ref02_Strides_L2 (p ++ x :: s, out, (p.length : Int), 0, k) = some 0 := fun k => by
      rw [m_ref02_Strides_L2]
      simp only [show ¬ ((0 : Int) > 0) by omega, decide_false, ite_some, bind_ok]
      by_cases hk : k < ((p ++ x :: s).length : Int)
      · simp only [hk, if_true, Bool.false_eq_true, if_false]
      · simp only [hk, if_false, Bool.false_eq_true]
    obtain ⟨o, e⟩ := rS0_L1 s (p ++ [x]) (out ++ [0]) (by simp at h ⊢; omega) (by rw [← mid_app]; exact hc) (by simp; omega)
    rw [← mid_app] at e
    simp only [mid_lt, if_true, Cells_ok _ hS, bind_ok, hc, w_step h, e2]
    rw [app_le (by simp at h ⊢; omega) (by omega), bind_ok]
    exact ⟨o, e⟩
theorem rwhole_ok (s : List Int) (h : s.length ≤ 600) : m_ref18_whole s = some ⟨List.replicate s.length 0, s⟩ := by
  simp only [m_ref18_whole, make_ok s h, bind_ok]
theorem empty_L1 : ∀ (s p : List Int), p.length + s.length ≤ 600 → m_ref18_empty_L1 (⟨List.replicate (p.length + s.length) 0, p ++ s⟩, (p.length : Int)) = some (if s.any (fun n => decide (n ≤ 0)) then .inl () else .inr ())
  | [], p, h => by
    rw [m_ref18_empty_L1]
    have : ¬ ((p.length : Int) < ((List.replicate (p.length + ([] : List Int).length) (0 : Int)).length : Int)) := by simp
    simp only [this, if_false]; rfl
  | x :: s, p, h => by
    rw [m_ref18_empty_L1]
    have h1 : ((p.length : Int) < ((List.replicate (p.length + (x :: s).length) (0 : Int)).length : Int)) := by simp; omega
    have h2 : idx (List.replicate (p.length + (x :: s).length) (0 : Int)) (p.length : Int) = some 0 := by rw [idx_ok (by simp)]; simp
    have e := empty_L1 s (p ++ [x]) (by simp at h ⊢; omega)
    rw [← mid_app, show (p ++ [x]).length + s.length = p.length + (x :: s).length by simp; omega] at e
    simp only [h1, if_true, h2, mid_idx, bind_ok, w_step h, e, List.any_cons]
    by_cases g : x ≤ 0
    · have g' : (0 : Int) ≥ x := g
      simp only [g', if_true, g, decide_true, Bool.true_or]
    · have g' : ¬ (0 : Int) ≥ x := g
      simp only [g', if_false, g, decide_false, Bool.false_or]
theorem put_ok {s : List Int} (hc : checkR s = 0) (a : T_ref17_Access) : m_ref18_put ([], ⟨⟨List.replicate s.length 0, s⟩, a⟩) = some (if prodI s = 0 then [] else [⟨⟨List.replicate s.length 0, s⟩, a⟩]) := by
  obtain ⟨h1, h2, h3⟩ := checkR_ok hc
  have e1 := empty_L1 s [] (by simp; omega)
  simp only [List.nil_append, List.length_nil, Nat.zero_add, Int.natCast_zero] at e1
  unfold m_ref18_put m_ref18_empty
  dsimp only
  by_cases g : s.any (fun n => decide (n ≤ 0)) = true
  · obtain ⟨n, hn, h0⟩ := List.any_eq_true.1 g
    have : n = 0 := by have := h3 n hn; have := of_decide_eq_true h0; omega
    subst this
    simp only [e1, g, if_true, bind_ok, prodI_zero hn]
  · have hp : ∀ n ∈ s, 1 ≤ n := fun n hn => by
      rcases Int.lt_or_le 0 n with h | h
      · omega
      · exact absurd (List.any_eq_true.2 ⟨n, hn, decide_eq_true h⟩) g
    have hpr := prodI_pos hp
    simp only [e1, g, if_false, bind_ok, Bool.false_eq_true]
    rw [m_ref18_put_L1]
    have l0 : ¬ ((0 : Int) < (([] : List T_ref18_Piece).length : Int)) := by simp
    have s0 : sub ([] : List T_ref18_Piece) 0 0 = some [] := rfl
    have s1 : sub ([] : List T_ref18_Piece) 0 (([] : List T_ref18_Piece).length : Int) = some [] := rfl
    simp only [l0, if_false, bind_ok, Bool.false_eq_true, s0, s1]
    rw [app_le (by simp) (by omega), bind_ok, app_le (by simp) (by omega), bind_ok, app_le (by simp) (by omega), bind_ok, if_neg (by omega)]
    rfl
theorem rWhole_ok (b : Int) {s : List Int} (hc : checkR s = 0) : m_ref18_Whole (b, s) = some (if prodI s = 0 then [] else [bkP (wholeP b s)]) := by
  obtain ⟨h1, h2, h3⟩ := checkR_ok hc
  have hS : Sm s.length := Sm_of (show s.length ≤ 1000 by omega)
  unfold m_ref18_Whole
  simp only [rwhole_ok s (by omega), bind_ok, m_ref17_Direct, m_ref02_Strides, Check_ok s hS, hc, ne_eq, not_true, if_false]
  by_cases z : prodI s = 0
  · obtain ⟨o, e⟩ := rS0_L1 s [] [] (by simp; omega) (by rw [List.nil_append, cellsR, if_pos hc, z]) (by simp)
    have e' : m_ref02_Strides_L1 (s, [], 0) = some o := e
    simp only [e', bind_ok, put_ok hc, z, if_true]
  · have e := rS_L1 s [] [] (by simp; omega) hc (prodI_zero_iff (fun n hn => (h3 n hn).1) z) (by simp)
    have e' : m_ref02_Strides_L1 (s, [], 0) = some (strd s) := e
    simp only [e', bind_ok, put_ok hc, z, if_false]
    rfl
theorem rFilled_ok {s : List Int} (hc : checkR s = 0) : m_ref18_Filled s = some (if prodI s = 0 then [] else [bkP (fillP s)]) := by
  obtain ⟨h1, h2, h3⟩ := checkR_ok hc
  unfold m_ref18_Filled
  simp only [rwhole_ok s (by omega), bind_ok, put_ok hc]
  rfl
theorem Same_nil : m_ref18_Same ([], []) = some true := by
  unfold m_ref18_Same
  dsimp only
  rw [m_ref18_Same_L1]
  rfl
theorem Same_one (x : T_ref18_Piece) (h1 : Sm x.box.lo.length) (h2 : Sm x.box.hi.length) (h3 : Sm x.access.strides.length) : m_ref18_Same ([x], [x]) = some true := by
  unfold m_ref18_Same
  dsimp only
  rw [m_ref18_Same_L1]
  have i0 : idx [x] 0 = some x := rfl
  have l0 : ((0 : Int) < (([x] : List T_ref18_Piece).length : Int)) := by simp
  have l1 : ¬ ((1 : Int) < (([x] : List T_ref18_Piece).length : Int)) := by simp
  have w : W (0 + 1) = 1 := by decide
  simp only [ne_eq, not_true, if_false, l0, if_true, i0, bind_ok, m_ref06_Same, m_ref17_Same, Equal_ok _ _ h1, Equal_ok _ _ h2, Equal_ok _ _ h3, decide_true, beq_self_eq_true, Bool.true_eq_false, Bool.not_true, Bool.false_eq_true, w]
  rw [m_ref18_Same_L1]
  simp only [l1, if_false, bind_ok]
end Go.Proofs.Tryz
namespace Go.Proofs.Tryz
open Go Go.Pm
set_option linter.unusedVariables false
set_option linter.unusedSimpArgs false
set_option maxRecDepth 2000
theorem bRight_L1 : ∀ (s p : List Int), p.length + s.length ≤ 600 → (∀ n ∈ s, 0 ≤ n ∧ n ≤ 65536) → m_box_Right_L1 (⟨List.replicate (p.length + s.length) 0, p ++ s⟩, (p.length : Int)) = some (.inr ())
  | [], p, h, hs => by
    rw [m_box_Right_L1]
    have : ¬ ((p.length : Int) < ((List.replicate (p.length + ([] : List Int).length) (0 : Int)).length : Int)) := by simp
    simp only [this, if_false]
  | x :: s, p, h, hs => by
    rw [m_box_Right_L1]
    have h1 : ((p.length : Int) < ((List.replicate (p.length + (x :: s).length) (0 : Int)).length : Int)) := by simp; omega
    have h2 : idx (List.replicate (p.length + (x :: s).length) (0 : Int)) (p.length : Int) = some 0 := by rw [idx_ok (by simp)]; simp
    have e := bRight_L1 s (p ++ [x]) (by simp at h ⊢; omega) (fun n hn => hs n (List.mem_cons_of_mem _ hn))
    rw [← mid_app, show (p ++ [x]).length + s.length = p.length + (x :: s).length by simp; omega] at e
    have hx := hs x (List.mem_cons_self ..)
    have g1 : ¬ (0 : Int) < 0 := by omega
    have g2 : ¬ (0 : Int) > x := by omega
    have g3 : ¬ x > 65536 := by omega
    simp only [h1, if_true, h2, mid_idx, bind_ok, w_step h, e, g1, if_false, g2, decide_false, Bool.false_eq_true, g3]
theorem bRight_ok {s : List Int} (hc : checkR s = 0) : m_box_Right ⟨List.replicate s.length 0, s⟩ = some true := by
  obtain ⟨h1, h2, h3⟩ := checkR_ok hc
  have e := bRight_L1 s [] (by simp; omega) h3
  simp only [List.nil_append, List.length_nil, Nat.zero_add, Int.natCast_zero] at e
  have g1 : ¬ (((List.replicate s.length (0 : Int)).length : Int) ≠ (s.length : Int)) := by simp
  have g2 : ¬ (((List.replicate s.length (0 : Int)).length : Int) > 16) := by simp; omega
  unfold m_box_Right
  simp only [g1, if_false, g2, decide_false, bind_ok, Bool.false_eq_true, e]
theorem bin_L1 (lo : List Int) : ∀ (s p : List Int), p.length + s.length ≤ 600 → m_box_in_L1 (⟨lo, p ++ s⟩, p ++ s, (p.length : Int)) = some (.inr ())
  | [], p, h => by
    rw [m_box_in_L1]
    simp only [end_lt, if_false]
  | x :: s, p, h => by
    rw [m_box_in_L1]
    have e := bin_L1 lo s (p ++ [x]) (by simp at h ⊢; omega)
    rw [← mid_app] at e
    have g : ¬ x > x := by omega
    simp only [mid_lt, if_true, mid_idx, bind_ok, g, if_false, w_step h, e]
theorem bin_ok {s : List Int} (hc : checkR s = 0) : m_box_in (s, ⟨List.replicate s.length 0, s⟩) = some true := by
  obtain ⟨h1, h2, h3⟩ := checkR_ok hc
  have e := bin_L1 (List.replicate s.length 0) s [] (by simp; omega)
  simp only [List.nil_append, List.length_nil, Int.natCast_zero] at e
  unfold m_box_in
  simp only [bRight_ok hc, bind_ok, Bool.true_eq_false, if_false, bne_self_eq_false, Bool.false_eq_true, e]
theorem Exact_one {s : List Int} (hc : checkR s = 0) : m_box_Exact (s, [⟨List.replicate s.length 0, s⟩]) = some true := by
  obtain ⟨h1, h2, h3⟩ := checkR_ok hc
  have hS : Sm s.length := Sm_of (show s.length ≤ 1000 by omega)
  have hn := prod_nonneg fun n hn => (h3 n hn).1
  unfold m_box_Exact
  dsimp only
  rw [m_box_Exact_L1]
  have i0 : ∀ x : T_box_Box, idx [x] 0 = some x := fun x => rfl
  have l0 : ∀ x : T_box_Box, ((0 : Int) < (([x] : List T_box_Box).length : Int)) := fun x => by simp
  have l1 : ∀ x : T_box_Box, ¬ ((1 : Int) < (([x] : List T_box_Box).length : Int)) := fun x => by simp
  have w : W (0 + 1) = 1 := by decide
  have s0 : ∀ x : T_box_Box, sub [x] 0 0 = some [] := fun x => by simp [sub]
  have w2 : W (0 + prodI s) = prodI s := by rw [Int.zero_add]; exact W_ok (by omega) (by omega)
  have z : ¬ ((0 : Int) < (([] : List T_box_Box).length : Int)) := by simp
  simp only [l0, if_true, i0, bind_ok, bin_ok hc, Bool.true_eq_false, if_false, m_box_Size, Count_ok hc, s0, w, w2]
  rw [m_box_Exact_L2]
  simp only [z, if_false, bind_ok]
  rw [m_box_Exact_L1]
  simp only [l1, if_false, bind_ok, gCells_ok s hS, cellsR, hc, if_true, beq_self_eq_true]
theorem Exact_nil {s : List Int} (hc : checkR s = 0) (z : prodI s = 0) : m_box_Exact (s, []) = some true := by
  obtain ⟨h1, h2, h3⟩ := checkR_ok hc
  have hS : Sm s.length := Sm_of (show s.length ≤ 1000 by omega)
  unfold m_box_Exact
  dsimp only
  rw [m_box_Exact_L1]
  have l0 : ¬ ((0 : Int) < (([] : List T_box_Box).length : Int)) := by simp
  simp only [l0, if_false, bind_ok, gCells_ok s hS, cellsR, hc, if_true, z, beq_self_eq_true]
theorem far_L1 : ∀ (s p : List Int), Sm (p ++ s).length → (∀ n ∈ s, -1099511627776 ≤ n ∧ n ≤ 1099511627776) → m_slices_IndexFunc_int_int_access_far_L1 (p ++ s, (p.length : Int)) = some (.inr ())
  | [], p, h, hs => by rw [m_slices_IndexFunc_int_int_access_far_L1]; simp only [end_lt, if_false]
  | x :: s, p, h, hs => by
    rw [m_slices_IndexFunc_int_int_access_far_L1]
    have e := far_L1 s (p ++ [x]) (by rw [← mid_app]; exact h) (fun n hn => hs n (List.mem_cons_of_mem _ hn))
    rw [← mid_app] at e
    have hx := hs x (List.mem_cons_self ..)
    have g1 : ¬ x < -1099511627776 := by omega
    have g2 : ¬ x > 1099511627776 := by omega
    simp only [mid_lt, if_true, mid_idx, bind_ok, m_access_far, g1, if_false, g2, decide_false, Bool.false_eq_true, mid_W h, e]
theorem far_ok {l : List Int} (hl : Sm l.length) (h : ∀ n ∈ l, -1099511627776 ≤ n ∧ n ≤ 1099511627776) : m_slices_ContainsFunc_int_int_access_far l = some false := by
  have e := far_L1 l [] hl h
  have e' : m_slices_IndexFunc_int_int_access_far_L1 (l, 0) = some (.inr ()) := e
  simp only [m_slices_ContainsFunc_int_int_access_far, m_slices_IndexFunc_int_int_access_far, e', bind_ok]
  rfl
theorem strd_mem : ∀ {s : List Int}, (∀ n ∈ s, 1 ≤ n) → prodI s ≤ 65536 → ∀ x ∈ strd s, 1 ≤ x ∧ x ≤ 65536
  | [], _, _, x, hx => by simp [strd] at hx
  | n :: s, hp, hP, x, hx => by
    have hs := fun m hm => hp m (List.mem_cons_of_mem n hm)
    have h1 := prodI_pos hs
    have h2 : prodI s ≤ prodI (n :: s) := by
      have := prod_le (a := [n]) (b := s) (fun m hm => by simp at hm; subst hm; exact hp _ (List.mem_cons_self ..)) hs
      simpa using this
    rw [strd] at hx
    rcases List.mem_cons.1 hx with rfl | hx
    · omega
    · exact strd_mem hs (by omega) x hx
theorem aRight_whole {s : List Int} (hc : checkR s = 0) (hp : ∀ n ∈ s, 1 ≤ n) {b : Int} (hb : 0 ≤ b ∧ b ≤ 65535) : m_access_Right (⟨2, b, 0, strd s, 0, 0, 0⟩, (s.length : Int)) = some true := by
  obtain ⟨h1, h2, h3⟩ := checkR_ok hc
  have g1 : ¬ (s.length : Int) < 0 := by omega
  have g2 : ¬ (s.length : Int) > 16 := by omega
  have hl := strd_len s
  have hf : m_slices_ContainsFunc_int_int_access_far ([b, 0, 0, 0, 0] ++ strd s) = some false := far_ok (Sm_of (show _ ≤ 1000 by simp [hl]; omega)) fun n hn => by
    simp only [List.mem_append, List.mem_cons, List.not_mem_nil, or_false] at hn
    rcases hn with hn | hn
    · omega
    · have := strd_mem hp h2 n hn; omega
  unfold m_access_Right
  simp only [g1, if_false, g2]
  rw [app_le (by simp [hl]; omega) (by omega), bind_ok, hf, bind_ok]
  have k1 : ¬ ((2 : Int) = 1) := by omega
  have g3 : b ≥ 0 := hb.1
  simp only [Bool.false_eq_true, if_false, k1, if_true, g3, hl, beq_self_eq_true, bind_ok]
theorem Eq_nil : m_slices_Equal_int_int ([], []) = some true := by
  unfold m_slices_Equal_int_int
  dsimp only
  rw [m_slices_Equal_int_int_L1]
  rfl
theorem aRight_fill {n : Nat} (hn : n ≤ 16) : m_access_Right (⟨1, 0, 0, [], 0, 0, 0⟩, (n : Int)) = some true := by
  have g1 : ¬ (n : Int) < 0 := by omega
  have g2 : ¬ (n : Int) > 16 := by omega
  have hf : m_slices_ContainsFunc_int_int_access_far ([0, 0, 0, 0, 0] ++ []) = some false := far_ok (Sm_of (show _ ≤ 1000 by simp)) fun n hn => by
    simp at hn; omega
  unfold m_access_Right
  simp only [g1, if_false, g2]
  rw [app_le (by simp) (by omega), bind_ok, hf, bind_ok]
  simp only [Bool.false_eq_true, if_false, if_true, m_access_Same, Eq_nil, bind_ok, beq_self_eq_true]
theorem Covers_one {s : List Int} (hc : checkR s = 0) (hz : prodI s ≠ 0) {x : T_piece_Piece} (hb : x.box = ⟨List.replicate s.length 0, s⟩) (ha : m_access_Right (x.access, (s.length : Int)) = some true) : m_piece_Covers (s, [x]) = some true := by
  obtain ⟨h1, h2, h3⟩ := checkR_ok hc
  have hS : Sm s.length := Sm_of (show s.length ≤ 1000 by omega)
  unfold m_piece_Covers
  dsimp only
  rw [m_piece_Covers_L1]
  have i0 : idx [x] 0 = some x := rfl
  have l0 : ((0 : Int) < (([x] : List T_piece_Piece).length : Int)) := by simp
  have l1 : ¬ ((1 : Int) < (([x] : List T_piece_Piece).length : Int)) := by simp
  have w : W (0 + 1) = 1 := by decide
  have g0 : ¬ ((0 : Int) > 0) := by omega
  have z : (prodI s == 0) = false := by simpa using hz
  simp only [l0, if_true, i0, bind_ok, hb, bRight_ok hc, Bool.true_eq_false, if_false, m_box_Size, Count_ok hc, z, Bool.false_eq_true, ha, Bool.not_true, g0, w]
  rw [app_le (by simp) (by omega), bind_ok, m_piece_Covers_L1]
  simp only [l1, if_false, bind_ok, shapeCheck_ok s hS, hc, if_true, List.nil_append, Exact_one hc]
theorem Covers_nil {s : List Int} (hc : checkR s = 0) (z : prodI s = 0) : m_piece_Covers (s, []) = some true := by
  obtain ⟨h1, h2, h3⟩ := checkR_ok hc
  have hS : Sm s.length := Sm_of (show s.length ≤ 1000 by omega)
  unfold m_piece_Covers
  dsimp only
  rw [m_piece_Covers_L1]
  have l0 : ¬ ((0 : Int) < (([] : List T_piece_Piece).length : Int)) := by simp
  simp only [l0, if_false, bind_ok, shapeCheck_ok s hS, hc, if_true, Exact_nil hc z]
theorem Covers_k {s : List Int} {l : List T_piece_Piece} (h : l.length ≤ 1) : m_piece_Covers_k (s, l) = m_piece_Covers (s, l) := by
  unfold m_piece_Covers_k
  have h0 : ¬ ((s, l) = a_piece_Covers_k0) := fun e => by
    have := congrArg (fun x => x.2.length) e
    simp only [a_piece_Covers_k0, List.length_cons, List.length_nil] at this
    omega
  have h1 : ¬ ((s, l) = a_piece_Covers_k1) := fun e => by
    have := congrArg (fun x => x.2.length) e
    simp only [a_piece_Covers_k1, List.length_cons, List.length_nil] at this
    omega
  rw [if_neg h0, if_neg h1]
/-! ### origins -/
theorem Has_L1 : ∀ (s t p q : List Int), vld s t = true → p.length = q.length → p.length + s.length ≤ 600 → m_ref06_Has_L1 (q ++ t, ⟨List.replicate (p.length + s.length) 0, p ++ s⟩, (p.length : Int)) = some (.inr ())
  | [], [], p, q, hv, h, hl => by
    rw [m_ref06_Has_L1]
    have : ¬ ((p.length : Int) < ((q ++ ([] : List Int)).length : Int)) := by simp; omega
    simp only [this, if_false]
  | n :: s, x :: t, p, q, hv, h, hl => by
    rw [m_ref06_Has_L1]
    simp only [vld, Bool.and_eq_true, decide_eq_true_eq] at hv
    have h1 : ((p.length : Int) < ((q ++ x :: t).length : Int)) := by simp; omega
    have h2 : idx (List.replicate (p.length + (n :: s).length) (0 : Int)) (p.length : Int) = some 0 := by rw [idx_ok (by simp)]; simp
    have h3 : idx (q ++ x :: t) (p.length : Int) = some x := by rw [h]; exact mid_idx
    have e := Has_L1 s t (p ++ [n]) (q ++ [x]) hv.2 (by simp [h]) (by simp at hl ⊢; omega)
    rw [← mid_app, ← mid_app, show (p ++ [n]).length + s.length = p.length + (n :: s).length by simp; omega] at e
    have g1 : ¬ x < 0 := by omega
    have g2 : ¬ x ≥ n := by omega
    simp only [h1, if_true, h3, h2, bind_ok, g1, if_false, mid_idx, g2, decide_false, Bool.false_eq_true, w_step hl, e]
  | [], _ :: _, _, _, h, _, _ => by cases h
  | _ :: _, [], _, _, h, _, _ => by cases h
theorem Has_ok {s i : List Int} (h : vld s i = true) (hs : s.length ≤ 600) : m_ref06_Has (⟨List.replicate s.length 0, s⟩, i) = some true := by
  have e := Has_L1 s i [] [] h rfl (by simp; omega)
  simp only [List.nil_append, List.length_nil, Nat.zero_add, Int.natCast_zero] at e
  have hl := vld_len h
  unfold m_ref06_Has
  have g : ¬ ((i.length : Int) ≠ ((List.replicate s.length (0 : Int)).length : Int)) := by simp; omega
  simp only [g, if_false, e, bind_ok]
theorem dotF_strd : ∀ {s i : List Int} (a : Int), vld s i = true → 0 ≤ a → a + dotp s i ≤ 65536 → prodI s ≤ 65536 → dotF (strd s) i a = a + dotp s i
  | [], [], a, _, _, _, _ => by simp [strd, dotF, dotp]
  | n :: s, x :: i, a, hv, h0, h1, h2 => by
    simp only [vld, Bool.and_eq_true, decide_eq_true_eq] at hv
    obtain ⟨r1, r2⟩ := dotp_range hv.2
    have hp := prodI_pos (vld_pos hv.2)
    rw [dotp] at h1
    rw [prodI_cons] at h2
    have c1 : 0 ≤ x * prodI s := Int.mul_nonneg hv.1.1 (by omega)
    have c2 : 1 * prodI s ≤ n * prodI s := Int.mul_le_mul_of_nonneg_right (by omega) (by omega)
    rw [strd, dotF, dotp]
    have w1 : W (prodI s * x) = x * prodI s := by rw [Int.mul_comm, W_ok (by omega) (by omega)]
    have w2 : W (a + x * prodI s) = a + x * prodI s := W_ok (by omega) (by omega)
    rw [w1, w2, dotF_strd _ hv.2 (by omega) (by omega) (by omega)]
    omega
  | [], _ :: _, _, h, _, _, _ => by cases h
  | _ :: _, [], _, h, _, _, _ => by cases h
theorem Origin_whole {s i : List Int} (hc : checkR s = 0) (b : Int) (hv : vld s i = true) : m_ref18_Origin ([bkP (wholeP b s)], i) = some (⟨false, b, dotp s i⟩, true) := by
  obtain ⟨h1, h2, h3⟩ := checkR_ok hc
  obtain ⟨r1, r2⟩ := dotp_range hv
  have hl := vld_len hv
  have hsl := strd_len s
  unfold m_ref18_Origin
  dsimp only
  rw [m_ref18_Origin_L1]
  have i0 : idx [bkP (wholeP b s)] 0 = some (bkP (wholeP b s)) := rfl
  have l0 : ((0 : Int) < (([bkP (wholeP b s)] : List T_ref18_Piece).length : Int)) := by simp
  have hb : (bkP (wholeP b s)).box = ⟨List.replicate s.length 0, s⟩ := rfl
  have ha : (bkP (wholeP b s)).access = ⟨2, b, 0, strd s, 0, 0, 0⟩ := rfl
  have k1 : ¬ ((2 : Int) = 1) := by omega
  have w : W (0 + (0 + dotp s i)) = dotp s i := by rw [Int.zero_add, Int.zero_add]; exact W_ok (by omega) (by omega)
  simp only [l0, if_true, i0, bind_ok, hb, ha, Has_ok hv (by omega), m_ref17_At, rDot_ok (a := strd s) (b := i) (by omega) (by omega), dotF_strd 0 hv (by omega) (by omega) h2, k1, if_false, w, Bool.true_eq_false]
theorem Orig_L1 (P : List T_ref18_Piece) (f : List Int → T_ref16_Cell) : ∀ (s p : List (List Int)) (out : List T_ref16_Cell), p.length + s.length ≤ 600 → out.length ≤ p.length → (∀ i ∈ s, ∃ b, m_ref18_Origin (P, i) = some (f i, b)) → m_ref18_Origins_L1 (p ++ s, P, out, (p.length : Int)) = some (out ++ s.map f)
  | [], p, out, h, ho, hf => by
    rw [m_ref18_Origins_L1]
    simp only [end_lt, if_false]
    simp only [List.map_nil, List.append_nil]
  | x :: s, p, out, h, ho, hf => by
    rw [m_ref18_Origins_L1]
    obtain ⟨b, eb⟩ := hf x (List.mem_cons_self ..)
    have e := Orig_L1 P f s (p ++ [x]) (out ++ [f x]) (by simp at h ⊢; omega) (by simp; omega) (fun i hi => hf i (List.mem_cons_of_mem _ hi))
    rw [← mid_app] at e
    simp only [mid_lt, if_true, mid_idx, bind_ok, eb, w_step h]
    rw [app_le (by simp at h ⊢; omega) (by omega), bind_ok, e]
    simp
theorem fin_L1 (v : List T_ref16_Cell) (b : Int) (hW : W b = b) (l : List T_piece_Piece) (hv : v.length ≤ 600) (h : ∀ j : Nat, j < v.length → idx v (j : Int) = some ⟨false, b, (j : Int)⟩) : ∀ (k j : Nat), j + k = v.length → m_law18_PieceWholes_L1 (v, b, l, (j : Int)) = some (.inr ())
  | 0, j, hj => by
    rw [m_law18_PieceWholes_L1]
    have : ¬ ((j : Int) < (v.length : Int)) := by omega
    simp only [this, if_false]
  | k + 1, j, hj => by
    rw [m_law18_PieceWholes_L1]
    have g : ((j : Int) < (v.length : Int)) := by omega
    have w : W ((j : Int) + 1) = ((j + 1 : Nat) : Int) := by rw [W_ok (by omega) (by omega)]; omega
    have e := fin_L1 v b hW l hv h k (j + 1) (by omega)
    simp only [g, if_true, h j (by omega), bind_ok, hW, beq_self_eq_true, Bool.and_self, Bool.true_eq_false, if_false, w, e]
theorem PieceWholes_ok (b : Int) (hb : 0 ≤ b ∧ b ≤ 65535) (s : List Int) (hs : Sm s.length) : m_law18_PieceWholes (b, s) = some true := by
  unfold m_law18_PieceWholes
  obtain ⟨t, et, ht⟩ := small_ok2 s 300 (by omega) hs
  simp only [awake_ok, bind_ok, Bool.true_eq_false, if_false, et]
  cases t with
  | false => rfl
  | true =>
    have hsm : smallS 300 s := ht rfl
    obtain ⟨g1, g2, g3, g4⟩ := ht rfl
    obtain ⟨h1, h2, h3⟩ := checkR_ok g2
    have hW : W b = b := W_ok (by omega) (by omega)
    have hAll := small_All hsm (by omega)
    have hn := prod_nonneg fun n hn => (h3 n hn).1
    have hlen : ((allL s).length : Int) = prodI s := allL_len fun n hn => (h3 n hn).1
    simp only [Bool.not_true, Bool.false_eq_true, if_false, bind_ok, hW, pWhole_ok b g2, pFilled_ok g2, rWhole_ok b g2, rFilled_ok g2]
    by_cases z : prodI s = 0
    · have hnil : allL s = [] := List.eq_nil_of_length_eq_zero (by omega)
      have eo : m_ref18_Origins (s, []) = some [] := by
        unfold m_ref18_Origins
        simp only [hAll, hnil, bind_ok]
        rw [m_ref18_Origins_L1]
        rfl
      have ef := fin_L1 [] b hW [] (by simp) (fun j hj => by simp at hj) 0 0 rfl
      have ef' : m_law18_PieceWholes_L1 ([], b, [], 0) = some (.inr ()) := ef
      simp only [z, if_true, Back_nil, bind_ok, Same_nil, Bool.true_eq_false, if_false, Bool.not_true, Bool.false_eq_true, Covers_k (l := []) (by simp), Covers_nil g2 z, eo, ef']
      rfl
    · have hp := prodI_zero_iff (fun n hn => (h3 n hn).1) z
      have hsl := strd_len s
      have s1 : m_ref18_Same ([bkP (wholeP b s)], [bkP (wholeP b s)]) = some true := Same_one _ (Sm_of (show _ ≤ 1000 by simp [bkP, wholeP]; omega)) (Sm_of (show _ ≤ 1000 by simp [bkP, wholeP]; omega)) (Sm_of (show _ ≤ 1000 by simp [bkP, wholeP]; omega))
      have s2 : m_ref18_Same ([bkP (fillP s)], [bkP (fillP s)]) = some true := Same_one _ (Sm_of (show _ ≤ 1000 by simp [bkP, fillP]; omega)) (Sm_of (show _ ≤ 1000 by simp [bkP, fillP]; omega)) (Sm_of (show _ ≤ 1000 by simp [bkP, fillP]))
      have c1 : m_piece_Covers_k (s, [wholeP b s]) = some true := (Covers_k (by simp)).trans (Covers_one g2 z rfl (aRight_whole g2 hp hb))
      have c2 : m_piece_Covers_k (s, [fillP s]) = some true := (Covers_k (by simp)).trans (Covers_one g2 z rfl (aRight_fill (by omega)))
      have eo : m_ref18_Origins (s, [bkP (wholeP b s)]) = some ((allL s).map fun i => ⟨false, b, dotp s i⟩) := by
        unfold m_ref18_Origins
        have e := Orig_L1 [bkP (wholeP b s)] (fun i => ⟨false, b, dotp s i⟩) (allL s) [] [] (by simp; omega) (by simp) (fun i hi => ⟨true, Origin_whole g2 b (mem_allL.1 hi)⟩)
        have e' : m_ref18_Origins_L1 (allL s, [bkP (wholeP b s)], [], 0) = some ((allL s).map fun i => ⟨false, b, dotp s i⟩) := e
        simp only [hAll, bind_ok, e']
      have ef := fin_L1 ((allL s).map fun i => ⟨false, b, dotp s i⟩) b hW [wholeP b s] (by simp; omega) (fun j hj => by
        have hj' : (j : Int) < prodI s := by simp at hj; omega
        have hg := allL_get hp j hj'
        have : ((allL s).map fun i => (⟨false, b, dotp s i⟩ : T_ref16_Cell))[j]? = some ⟨false, b, dotp s (dig s (j : Int))⟩ := by rw [List.getElem?_map, hg]; rfl
        simp only [idx, show (0 : Int) ≤ (j : Int) by omega, if_true, Int.toNat_natCast, this]
        rw [dotp_dig hp _ (by omega) hj']) (allL s).length 0 (by simp)
      have ef' : m_law18_PieceWholes_L1 ((allL s).map fun i => ⟨false, b, dotp s i⟩, b, [wholeP b s], 0) = some (.inr ()) := ef
      simp only [z, if_false, Back_one, bind_ok, s1, s2, Bool.true_eq_false, Bool.not_true, Bool.false_eq_true, c1, c2, eo, ef', List.length_map, hlen]
      have : (((([wholeP b s] : List T_piece_Piece).length : Int) == (if 1 < prodI s then 1 else prodI s)) = true) := by
        rw [beq_iff_eq]; simp only [List.length_cons, List.length_nil]; split <;> omega
      rw [this]
end Go.Proofs.Tryz
namespace Go.Proofs.Tryz
open Go Go.Pm
set_option linter.unusedVariables false
set_option linter.unusedSimpArgs false
set_option maxHeartbeats 2000000
set_option maxRecDepth 2000
theorem ua22 : prog.underlying 22 = some (TypeDesc.int IntKind.u16) := by kernel_rfl
theorem ua3 : prog.underlying 3 = some (TypeDesc.int IntKind.i64) := by kernel_rfl
theorem ua23 : prog.underlying 23 = some (TypeDesc.slice 3) := by kernel_rfl
theorem ua4 : prog.underlying 4 = some TypeDesc.bool := by kernel_rfl
theorem exists_map {α β : Type} {f : β → α} {p : β → Prop} : ∀ {L : List α}, (∀ x ∈ L, ∃ y, x = f y ∧ p y) → ∃ l : List β, L = l.map f ∧ ∀ y ∈ l, p y
  | [], _ => ⟨[], rfl, fun y h => by cases h⟩
  | x :: L, h => by
    obtain ⟨y, rfl, hy⟩ := h x (List.mem_cons_self ..)
    obtain ⟨l, rfl, hl⟩ := exists_map (fun x hx => h x (List.mem_cons_of_mem _ hx))
    exact ⟨y :: l, rfl, fun z hz => by
      rcases List.mem_cons.1 hz with rfl | hz
      · exact hy
      · exact hl z hz⟩
variable {B : Nat} {n : Nat} {cs : List Dat}
theorem tc22 (h : TyC prog B n 22 cs) : ∃ m : Int, cs = [(numD .u16 m)] ∧ (0 ≤ m ∧ m ≤ 65535) := by
  cases n with
  | zero => exact h.elim
  | succ n =>
    simp only [TyC, ua22] at h
    obtain ⟨m, rfl, hm⟩ := h
    refine ⟨m, rfl, ?_⟩
    simpa [Lit.wf, IntKind.min, IntKind.max, IntKind.signed, IntKind.bits] using hm
theorem tc3 (h : TyC prog B n 3 cs) : ∃ m : Int, cs = [(intD m)] ∧ ((-9223372036854775808) ≤ m ∧ m ≤ 9223372036854775807) := by
  cases n with
  | zero => exact h.elim
  | succ n =>
    simp only [TyC, ua3] at h
    obtain ⟨m, rfl, hm⟩ := h
    refine ⟨m, rfl, ?_⟩
    simpa [Lit.wf, IntKind.min, IntKind.max, IntKind.signed, IntKind.bits] using hm
def ok23 (B : Nat) (x : (List Int)) : Prop := x.length ≤ B ∧ ∀ m ∈ x, ((-9223372036854775808) ≤ m ∧ m ≤ 9223372036854775807)
theorem tc23 (h : TyC prog B n 23 cs) : ∃ l : (List Int), cs = [.lst ((List.map intD) l)] ∧ ok23 B l := by
  cases n with
  | zero => exact h.elim
  | succ n =>
    simp only [TyC, ua23] at h
    obtain ⟨L, rfl, hl, hx⟩ := h
    obtain ⟨l, rfl, hm⟩ := exists_map (f := fun m => [(intD m)]) (p := fun m => ((-9223372036854775808) ≤ m ∧ m ≤ 9223372036854775807)) (fun x hx' => tc3 (hx x hx'))
    refine ⟨l, ?_, by simpa using hl, hm⟩
    have e : (l.map (fun m => [(intD m)])).map (elemD prog 3) = l.map intD := by
      rw [List.map_map]; exact List.map_congr_left (fun m _ => by simp only [Function.comp_apply]; simp [elemD, aggB, ua3])
    rw [e]
theorem ty22 {d : Dat} (h : TyA prog B 22 d) : ∃ m : Int, d = (numD .u16 m) ∧ (0 ≤ m ∧ m ≤ 65535) := by
  obtain ⟨n, cs, h, hd⟩ := h
  obtain ⟨m, rfl, hm⟩ := tc22 h
  exact ⟨m, by rw [hd]; simp [elemD, aggB, ua22], hm⟩
theorem ty23 {d : Dat} (h : TyA prog B 23 d) : ∃ m : (List Int), d = (.lst ((List.map intD) m)) ∧ (ok23 B m) := by
  obtain ⟨n, cs, h, hd⟩ := h
  obtain ⟨m, rfl, hm⟩ := tc23 h
  exact ⟨m, by rw [hd]; simp [elemD, aggB, ua23], hm⟩
def argTs : List TypeId := [22, 3, 23, 4]
theorem argTs_closed : closedTs prog argTs = true := by kernel_rfl
theorem laidOut : laidOutB prog = true := by kernel_rfl
theorem summ : SummOK prog env := fun f s h => by cases h
theorem mixed : prog.follows .mixedOrders = true := by kernel_rfl
/-- a call that comes to a value keeps it in the model -/
theorem pure_of {f : FuncId} {dss : List Dat} {p : PV} (ho : p.out = true) (h : PC prog env f (dss.map .dat) [] p []) : PureCall prog f dss p := by
  obtain ⟨N, hN⟩ := h
  exact pure_sound summ mixed (hN N (Nat.le_refl _)) ho
end Go.Proofs.Tryz
