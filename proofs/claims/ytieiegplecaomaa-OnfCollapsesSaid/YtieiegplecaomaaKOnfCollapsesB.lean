/-
  Models of functions, their walks, and plain laws.
-/
import Derived.Test.YtieiegplecaomaaPmLaw
import Derived.Test.YtieiegplecaomaaKOnfCollapsesA
namespace Go.Proofs.Try
open Go Go.Pm
set_option linter.unusedVariables false
set_option maxHeartbeats 2000000
set_option maxRecDepth 2000
def m_law21_OnfCollapses_L1 (x : ((List T_ref21_Event) × (List T_ref21_Event) × T_ref21_Nest × T_onf_Nest × T_ref21_Nest × Int)) : Option (Unit ⊕ Unit) :=
  match x with
  | (v13, v14, p0, v6, v7, v215) =>
  if v215 < (v13.length : Int) then
    idx v13 v215 >>= fun v615 =>
    idx v14 v215 >>= fun v616 =>
    if ((v615.write == v616.write) && ((v615.fill == v616.fill) && ((v615.buffer == v616.buffer) && ((v615.offset == v616.offset) && true)))) = false then
      some (Sum.inl ())
    else
    m_law21_OnfCollapses_L1 (v13, v14, p0, v6, v7, (W (v215 + 1)))
  else
  some (Sum.inr ())
  partial_fixpoint
def P_law21_OnfCollapses_L1 : ((List T_ref21_Event) × (List T_ref21_Event) × T_ref21_Nest × T_onf_Nest × T_ref21_Nest × Int) → (Unit ⊕ Unit) → Prop := fun x r => match x with
  | (v13, v14, p0, v6, v7, v215) => ∀ st, prune 3 ((firstRegion (codeAt [1, 1, 1, 1, 1, 1, 1, 1, 0, 1, 0, 0] (bodyOf f6))).bind (env.hint 6).keepAt) st = ⟨kp 57 [(5, (.dat (.lst ((List.map T_ref21_Event.toD) v13)))), (6, (.dat (.lst ((List.map T_ref21_Event.toD) v14)))), (7, (intPV v215))], [(.box [(.dat (.lst ((List.map intD) p0.dims))), (intPV p0.write), (.dat (.lst ((List.map intD) p0.steps))), (intPV p0.read.kind), (intPV p0.read.buffer), (intPV p0.read.base), (.dat (.lst ((List.map intD) p0.read.strides))), (intPV p0.read.start), (intPV p0.read.step), (intPV p0.read.mod)]), (.box [(.dat (.lst ((List.map intD) v6.dims))), (intPV v6.write), (.dat (.lst ((List.map intD) v6.steps))), (intPV v6.read.kind), (intPV v6.read.buffer), (intPV v6.read.base), (.dat (.lst ((List.map intD) v6.read.strides))), (intPV v6.read.start), (intPV v6.read.step), (intPV v6.read.mod)]), (.box [(.dat (.lst ((List.map intD) v7.dims))), (intPV v7.write), (.dat (.lst ((List.map intD) v7.steps))), (intPV v7.read.kind), (intPV v7.read.buffer), (intPV v7.read.base), (.dat (.lst ((List.map intD) v7.read.strides))), (intPV v7.read.start), (intPV v7.read.step), (intPV v7.read.mod)])]⟩ →
    RL prog env (env.hint 6) true (codeAt [1, 1, 1, 1, 1, 1, 1, 1, 0, 1, 0, 0] (bodyOf f6)) 3 st (fun e s => match r with | .inl _ => e = .ret ∧ ∃ d, s = ⟨sl d 57 [(2, (boolPV false))], [(.box [(.dat (.lst ((List.map intD) p0.dims))), (intPV p0.write), (.dat (.lst ((List.map intD) p0.steps))), (intPV p0.read.kind), (intPV p0.read.buffer), (intPV p0.read.base), (.dat (.lst ((List.map intD) p0.read.strides))), (intPV p0.read.start), (intPV p0.read.step), (intPV p0.read.mod)]), (.box [(.dat (.lst ((List.map intD) v6.dims))), (intPV v6.write), (.dat (.lst ((List.map intD) v6.steps))), (intPV v6.read.kind), (intPV v6.read.buffer), (intPV v6.read.base), (.dat (.lst ((List.map intD) v6.read.strides))), (intPV v6.read.start), (intPV v6.read.step), (intPV v6.read.mod)]), (.box [(.dat (.lst ((List.map intD) v7.dims))), (intPV v7.write), (.dat (.lst ((List.map intD) v7.steps))), (intPV v7.read.kind), (intPV v7.read.buffer), (intPV v7.read.base), (.dat (.lst ((List.map intD) v7.read.strides))), (intPV v7.read.start), (intPV v7.read.step), (intPV v7.read.mod)])]⟩ | .inr (_) => e = .exit 0 ∧ ∃ d, s = ⟨sl d 57 [], [(.box [(.dat (.lst ((List.map intD) p0.dims))), (intPV p0.write), (.dat (.lst ((List.map intD) p0.steps))), (intPV p0.read.kind), (intPV p0.read.buffer), (intPV p0.read.base), (.dat (.lst ((List.map intD) p0.read.strides))), (intPV p0.read.start), (intPV p0.read.step), (intPV p0.read.mod)]), (.box [(.dat (.lst ((List.map intD) v6.dims))), (intPV v6.write), (.dat (.lst ((List.map intD) v6.steps))), (intPV v6.read.kind), (intPV v6.read.buffer), (intPV v6.read.base), (.dat (.lst ((List.map intD) v6.read.strides))), (intPV v6.read.start), (intPV v6.read.step), (intPV v6.read.mod)]), (.box [(.dat (.lst ((List.map intD) v7.dims))), (intPV v7.write), (.dat (.lst ((List.map intD) v7.steps))), (intPV v7.read.kind), (intPV v7.read.buffer), (intPV v7.read.base), (.dat (.lst ((List.map intD) v7.read.strides))), (intPV v7.read.start), (intPV v7.read.step), (intPV v7.read.mod)])]⟩)
theorem w_law21_OnfCollapses_L1 : ∀ x r, m_law21_OnfCollapses_L1 x = some r → P_law21_OnfCollapses_L1 x r := by
  refine m_law21_OnfCollapses_L1.partial_correctness _ (fun m_law21_OnfCollapses_L1 w_law21_OnfCollapses_L1 x r hm => ?_)
  unfold P_law21_OnfCollapses_L1
  obtain ⟨v13, v14, p0, v6, v7, v215⟩ := x
  intro st hst
  refine RL_at hst ?_
  clear hst
  refine R_seq ?_
  refine R_seq ?_
  refine R_G ?_
  refine G_run 2 ?_
  refine I_len T_ref21_Event.toD v13 (es := (List.map T_ref21_Event.toD) v13) rfl ?_
  refine G_run 1 ?_
  refine G_end ?_
  refine R_ifp (p := v215 < (v13.length : Int)) (rfl) (fun hc => ?_) (fun hc => ?_)
  · replace hm := pos_inv hc hm
    refine R_skip ?_
    refine R_seq ?_
    refine R_block ?_
    refine R_seq ?_
    refine R_GD ?_
    refine G_run 2 ?_
    obtain ⟨v615, hx, hm⟩ := bind_inv hm
    refine I_idx 4 T_ref21_Event.toD v13 v215 v615 (es := (List.map T_ref21_Event.toD) v13) (d := (T_ref21_Event.toD v615)) rfl hx rfl rfl ?_
    refine G_run 3 ?_
    obtain ⟨v616, hx, hm⟩ := bind_inv hm
    refine I_idx 4 T_ref21_Event.toD v14 v215 v616 (es := (List.map T_ref21_Event.toD) v14) (d := (T_ref21_Event.toD v616)) rfl hx rfl rfl ?_
    refine G_run 1 ?_
    refine G_semN rfl (by kernel_rfl) (fun _ => E_neqS (t := 60) (xs := #[.int .i64 v615.write, .bool v615.fill, .int .i64 v615.buffer, .int .i64 v615.offset]) (ys := #[.int .i64 v616.write, .bool v616.fill, .int .i64 v616.buffer, .int .i64 v616.offset]) (b := ((v615.write == v616.write) && ((v615.fill == v616.fill) && ((v615.buffer == v616.buffer) && ((v615.offset == v616.offset) && true))))) rfl (by kernel_rfl) (by kernel_rfl) (SEq_of (fs := prog.fieldsOf 60) (by kernel_rfl) (by kernel_rfl) (by kernel_rfl) (by kernel_rfl))) ?_
    refine G_end ⟨by kernel_rfl, ?_⟩
    refine R_ifp (p := ((v615.write == v616.write) && ((v615.fill == v616.fill) && ((v615.buffer == v616.buffer) && ((v615.offset == v616.offset) && true)))) = false) (not_dec _) (fun hc => ?_) (fun hc => ?_)
    · replace hm := pos_inv hc hm
      refine R_seq ?_
      refine R_G ?_
      refine G_run 1 ?_
      refine G_end ?_
      refine R_ret ?_
      obtain rfl := inj1 hm
      exact ⟨rfl, cut_leaf (by kernel_rfl)⟩
    replace hm := neg_inv hc hm
    refine R_skip ?_
    refine R_G ?_
    refine G_run 3 ?_
    refine G_end ?_
    exact w_law21_OnfCollapses_L1 _ _ hm _ (by kernel_rfl)
  replace hm := neg_inv hc hm
  refine R_exit ?_
  obtain rfl := inj1 hm
  exact ⟨rfl, cut_leaf (by kernel_rfl)⟩
def m_law21_OnfCollapses (x : T_ref21_Nest) : Option Bool :=
  match x with
  | p0 =>
  (m_law21_awake () >>= fun (v2 : Bool) =>
  if v2 = false then
    some true
  else
  m_ref21_Small ((⟨p0.dims, p0.write, p0.steps, (⟨p0.read.kind, p0.read.buffer, p0.read.base, p0.read.strides, p0.read.start, p0.read.step, p0.read.mod⟩ : T_ref17_Access)⟩ : T_ref21_Nest), 200) >>= fun (v3 : Bool) =>
  some (!v3)
  ) >>= fun (v1 : Bool) =>
  if v1 = true then
    m_law21_awake () >>= fun (v4 : Bool) =>
    some v4
  else
  m_law21_Nest p0 >>= fun (v5 : T_onf_Nest) =>
  m_onf_Collapse (⟨v5.dims, v5.write, v5.steps, (⟨v5.read.kind, v5.read.buffer, v5.read.base, v5.read.strides, v5.read.start, v5.read.step, v5.read.mod⟩ : T_access_Access)⟩ : T_onf_Nest) >>= fun (v6 : T_onf_Nest) =>
  m_ref21_Collapse p0 >>= fun (v7 : T_ref21_Nest) =>
  (m_law21_Back (⟨v6.dims, v6.write, v6.steps, (⟨v6.read.kind, v6.read.buffer, v6.read.base, v6.read.strides, v6.read.start, v6.read.step, v6.read.mod⟩ : T_access_Access)⟩ : T_onf_Nest) >>= fun (v9 : T_ref21_Nest) =>
  m_ref21_Same (v9, v7) >>= fun (v10 : Bool) =>
  if v10 = false then
    some true
  else
  m_onf_Collapse (⟨v6.dims, v6.write, v6.steps, (⟨v6.read.kind, v6.read.buffer, v6.read.base, v6.read.strides, v6.read.start, v6.read.step, v6.read.mod⟩ : T_access_Access)⟩ : T_onf_Nest) >>= fun (v11 : T_onf_Nest) =>
  m_onf_Same (v11, (⟨v6.dims, v6.write, v6.steps, (⟨v6.read.kind, v6.read.buffer, v6.read.base, v6.read.strides, v6.read.start, v6.read.step, v6.read.mod⟩ : T_access_Access)⟩ : T_onf_Nest)) >>= fun (v12 : Bool) =>
  some (!v12)
  ) >>= fun (v8 : Bool) =>
  if v8 = true then
    some false
  else
  m_ref21_Events (⟨p0.dims, p0.write, p0.steps, (⟨p0.read.kind, p0.read.buffer, p0.read.base, p0.read.strides, p0.read.start, p0.read.step, p0.read.mod⟩ : T_ref17_Access)⟩ : T_ref21_Nest) >>= fun (v13 : (List T_ref21_Event)) =>
  m_ref21_Events (⟨v7.dims, v7.write, v7.steps, (⟨v7.read.kind, v7.read.buffer, v7.read.base, v7.read.strides, v7.read.start, v7.read.step, v7.read.mod⟩ : T_ref17_Access)⟩ : T_ref21_Nest) >>= fun (v14 : (List T_ref21_Event)) =>
  if (v13.length : Int) ≠ (v14.length : Int) then
    some false
  else
  (
  m_law21_OnfCollapses_L1 (v13, v14, p0, v6, v7, 0) >>= fun (out : Unit ⊕ Unit) =>
  match out with
  | .inl _ =>
    some false
  | .inr (_) =>
    some true
  )
def P_law21_OnfCollapses : T_ref21_Nest → Bool → Prop := fun x r => match x, r with
  | p0, r0 => ∀ H, PC prog env 6 ([(T_ref21_Nest.toD p0)].map .dat) H (boolPV r0) H
theorem w_law21_OnfCollapses : ∀ x r, m_law21_OnfCollapses x = some r → P_law21_OnfCollapses x r := by
  intro p0 r0 hm
  unfold m_law21_OnfCollapses at hm
  unfold P_law21_OnfCollapses
  intro H
  refine PC_sx (ds := [(T_ref21_Nest.toD p0)]) (fn := f6) (by kernel_rfl) (by kernel_rfl) rfl ?_ (by kernel_rfl)
  refine R_seq ?_
  refine R_G ?_
  refine G_run 2 ?_
  refine G_end ?_
  refine R_seq ?_
  refine R_seq ?_
  obtain ⟨v1, hs, hm⟩ := bind_inv hm
  refine R_cut (fun d => ⟨sl d 57 [(1, (.ptr 0 0)), (14, (boolPV v1))], [(.box [(.dat (.lst ((List.map intD) p0.dims))), (intPV p0.write), (.dat (.lst ((List.map intD) p0.steps))), (intPV p0.read.kind), (intPV p0.read.buffer), (intPV p0.read.base), (.dat (.lst ((List.map intD) p0.read.strides))), (intPV p0.read.start), (intPV p0.read.step), (intPV p0.read.mod)])]⟩) ?_ (fun d => ?_)
  · replace hm := hs
    clear hs
    refine R_G ?_
    obtain ⟨v2, hx, hm⟩ := bind_inv hm
    have hq := w_law21_awake _ _ hx []
    refine G_callP hq ?_
    refine G_run 2 ?_
    refine G_split (p := v2 = false) 10 (not_dec _) (fun hc => ?_) (fun hc => ?_)
    · replace hm := pos_inv hc hm
      refine G_run 4 ?_
      refine G_end ?_
      obtain rfl := inj1 hm
      exact cut_leaf (by kernel_rfl)
    replace hm := neg_inv hc hm
    refine G_run 1 ?_
    obtain ⟨v3, hx, hm⟩ := bind_inv hm
    have hq := w_ref21_Small _ _ hx []
    refine G_callP hq ?_
    refine G_run 2 ?_
    refine G_end ?_
    obtain rfl := inj1 hm
    exact cut_leaf (by kernel_rfl)
  clear hs
  refine R_ifp (p := v1 = true) (bool_dec _) (fun hc => ?_) (fun hc => ?_)
  · replace hm := pos_inv hc hm
    refine R_seq ?_
    refine R_G ?_
    obtain ⟨v4, hx, hm⟩ := bind_inv hm
    have hq := w_law21_awake _ _ hx []
    refine G_callP hq ?_
    refine G_run 1 ?_
    refine G_end ?_
    refine R_ret ?_
    obtain rfl := inj1 hm
    exact ⟨trivial, fin_pure (by kernel_rfl)⟩
  replace hm := neg_inv hc hm
  refine R_skip ?_
  refine R_seq ?_
  refine R_G ?_
  refine G_run 1 ?_
  obtain ⟨v5, hx, hm⟩ := bind_inv hm
  have hq := w_law21_Nest _ _ hx []
  refine G_callP hq ?_
  obtain ⟨v6, hx, hm⟩ := bind_inv hm
  have hq := w_onf_Collapse _ _ hx []
  refine G_callP hq ?_
  refine G_run 2 ?_
  refine G_end ?_
  refine R_seq ?_
  refine R_G ?_
  refine G_run 1 ?_
  obtain ⟨v7, hx, hm⟩ := bind_inv hm
  have hq := w_ref21_Collapse _ _ hx []
  refine G_callP hq ?_
  refine G_run 2 ?_
  refine G_end ?_
  refine R_seq ?_
  refine R_seq ?_
  obtain ⟨v8, hs, hm⟩ := bind_inv hm
  refine R_cut (fun d => ⟨sl d 57 [(1, (.ptr 0 0)), (4, (.ptr 2 0)), (32, (boolPV v8))], [(.box [(.dat (.lst ((List.map intD) p0.dims))), (intPV p0.write), (.dat (.lst ((List.map intD) p0.steps))), (intPV p0.read.kind), (intPV p0.read.buffer), (intPV p0.read.base), (.dat (.lst ((List.map intD) p0.read.strides))), (intPV p0.read.start), (intPV p0.read.step), (intPV p0.read.mod)]), (.box [(.dat (.lst ((List.map intD) v6.dims))), (intPV v6.write), (.dat (.lst ((List.map intD) v6.steps))), (intPV v6.read.kind), (intPV v6.read.buffer), (intPV v6.read.base), (.dat (.lst ((List.map intD) v6.read.strides))), (intPV v6.read.start), (intPV v6.read.step), (intPV v6.read.mod)]), (.box [(.dat (.lst ((List.map intD) v7.dims))), (intPV v7.write), (.dat (.lst ((List.map intD) v7.steps))), (intPV v7.read.kind), (intPV v7.read.buffer), (intPV v7.read.base), (.dat (.lst ((List.map intD) v7.read.strides))), (intPV v7.read.start), (intPV v7.read.step), (intPV v7.read.mod)])]⟩) ?_ (fun d => ?_)
  · replace hm := hs
    clear hs
    refine R_GD ?_
    refine G_run 1 ?_
    obtain ⟨v9, hx, hm⟩ := bind_inv hm
    have hq := w_law21_Back _ _ hx []
    refine G_callP hq ?_
    refine G_run 1 ?_
    obtain ⟨v10, hx, hm⟩ := bind_inv hm
    have hq := w_ref21_Same _ _ hx []
    refine G_callP hq ?_
    refine G_run 2 ?_
    refine G_split (p := v10 = false) 26 (not_dec _) (fun hc => ?_) (fun hc => ?_)
    · replace hm := pos_inv hc hm
      refine G_run 6 ?_
      refine G_end ⟨by kernel_rfl, ?_⟩
      obtain rfl := inj1 hm
      exact cut_leaf (by kernel_rfl)
    replace hm := neg_inv hc hm
    refine G_run 1 ?_
    obtain ⟨v11, hx, hm⟩ := bind_inv hm
    have hq := w_onf_Collapse _ _ hx []
    refine G_callP hq ?_
    refine G_run 1 ?_
    obtain ⟨v12, hx, hm⟩ := bind_inv hm
    have hq := w_onf_Same _ _ hx []
    refine G_callP hq ?_
    refine G_run 2 ?_
    refine G_end ⟨by kernel_rfl, ?_⟩
    obtain rfl := inj1 hm
    exact cut_leaf (by kernel_rfl)
  clear hs
  refine R_ifp (p := v8 = true) (bool_dec _) (fun hc => ?_) (fun hc => ?_)
  · replace hm := pos_inv hc hm
    refine R_seq ?_
    refine R_G ?_
    refine G_run 1 ?_
    refine G_end ?_
    refine R_ret ?_
    obtain rfl := inj1 hm
    exact ⟨trivial, fin_pure (by kernel_rfl)⟩
  replace hm := neg_inv hc hm
  refine R_skip ?_
  refine R_seq ?_
  refine R_G ?_
  refine G_run 1 ?_
  obtain ⟨v13, hx, hm⟩ := bind_inv hm
  have hq := w_ref21_Events _ _ hx []
  refine G_callP hq ?_
  refine G_run 1 ?_
  refine G_end ?_
  refine R_seq ?_
  refine R_G ?_
  refine G_run 1 ?_
  obtain ⟨v14, hx, hm⟩ := bind_inv hm
  have hq := w_ref21_Events _ _ hx []
  refine G_callP hq ?_
  refine G_run 1 ?_
  refine G_end ?_
  refine R_seq ?_
  refine R_seq ?_
  refine R_G ?_
  refine G_run 1 ?_
  refine I_len T_ref21_Event.toD v13 (es := (List.map T_ref21_Event.toD) v13) rfl ?_
  refine G_run 1 ?_
  refine I_len T_ref21_Event.toD v14 (es := (List.map T_ref21_Event.toD) v14) rfl ?_
  refine G_run 1 ?_
  refine G_end ?_
  refine R_ifp (p := (v13.length : Int) ≠ (v14.length : Int)) (ne_dec _ _) (fun hc => ?_) (fun hc => ?_)
  · replace hm := pos_inv hc hm
    refine R_seq ?_
    refine R_G ?_
    refine G_run 1 ?_
    refine G_end ?_
    refine R_ret ?_
    obtain rfl := inj1 hm
    exact ⟨trivial, fin_pure (by kernel_rfl)⟩
  replace hm := neg_inv hc hm
  refine R_skip ?_
  refine R_seq ?_
  refine R_seq ?_
  refine R_G ?_
  refine G_run 1 ?_
  refine G_end ?_
  refine R_block ?_
  obtain ⟨out, hs, hm⟩ := bind_inv hm
  refine R_loop ?_
  rcases out with _ | _
  · refine RL_use (w_law21_OnfCollapses_L1 _ _ hs) (by kernel_rfl) ?_
    clear hs
    intro e s hp
    obtain ⟨rfl, d, rfl⟩ := hp
    obtain rfl := inj1 hm
    exact ⟨trivial, fin_pure (by kernel_rfl)⟩
  · refine RL_use (w_law21_OnfCollapses_L1 _ _ hs) (by kernel_rfl) ?_
    clear hs
    intro e s hp
    obtain ⟨rfl, d, rfl⟩ := hp
    refine R_seq ?_
    refine R_G ?_
    refine G_run 1 ?_
    refine G_end ?_
    refine R_ret ?_
    obtain rfl := inj1 hm
    exact ⟨trivial, fin_pure (by kernel_rfl)⟩
end Go.Proofs.Try
namespace Go.Proofs.Try
open Go Go.Pm
set_option linter.unusedVariables false
set_option linter.unusedSimpArgs false
set_option maxRecDepth 2000
theorem app_le {α : Type} {b : Nat} {l es : List α} (h : l.length + es.length ≤ 100000000) (hb : b ≤ 1000) : app b l es = some (l ++ es) := app_ok (by
  have h1 : (l.length + es.length) * b ≤ 100000000 * 1000 := Nat.mul_le_mul h hb
  have h2 : 100000000 * 1000 ≤ room := by decide +kernel
  omega)
def rowI (n : Int) (a : List Int) : List (List Int) := (List.range n.toNat).map fun (k : Nat) => a ++ [(k : Int)]
def extI (out : List (List Int)) (n : Int) : List (List Int) := out.flatMap (rowI n)
/-- all indices -/
def allL : List Int → List (List Int)
  | [] => [[]]
  | n :: s => (List.range n.toNat).flatMap fun (k : Nat) => (allL s).map ((k : Int) :: ·)
theorem foldl_ext : ∀ (s : List Int) (out : List (List Int)), s.foldl extI out = out.flatMap fun a => (allL s).map (a ++ ·)
  | [], out => by
    simp only [List.foldl_nil, allL, List.map_cons, List.append_nil, List.map_nil]
    induction out with
    | nil => rfl
    | cons a o ih => rw [List.flatMap_cons, ← ih]; rfl
  | n :: s, out => by
    rw [List.foldl_cons, foldl_ext s, extI, List.flatMap_assoc]
    congr 1
    funext a
    rw [rowI, List.flatMap_map, allL, List.map_flatMap]
    congr 1
    funext k
    rw [List.map_map]
    congr 1
    funext x
    simp
theorem allI_eq (s : List Int) : s.foldl extI [[]] = allL s := by rw [foldl_ext]; simp
/-- the product of the dimensions, where none counts less than one -/
def pm : List Int → Nat
  | [] => 1
  | n :: s => max n.toNat 1 * pm s
theorem pm_pos : ∀ s : List Int, 1 ≤ pm s
  | [] => Nat.le_refl _
  | n :: s => by
    have := pm_pos s
    rw [pm]
    exact Nat.mul_le_mul (show 1 ≤ max n.toNat 1 by omega) this
theorem rowI_len (n : Int) (a : List Int) : (rowI n a).length = n.toNat := by simp [rowI]
theorem extI_len (n : Int) : ∀ out : List (List Int), (extI out n).length = out.length * n.toNat
  | [] => by simp [extI]
  | a :: o => by
    have := extI_len n o
    unfold extI at this ⊢
    rw [List.flatMap_cons, List.length_append, rowI_len, this, List.length_cons, Nat.add_mul, Nat.one_mul]; omega
theorem all_L3 (p : List Int) (i : Nat) (n : Int) (hi : idx p (i : Int) = some n) (out : List (List Int)) (k : Nat) (a : List Int) (hk : idx out (k : Int) = some a) (ha : a.length ≤ 1000) (base : List (List Int)) :
    ∀ (m j : Nat), j + m = n.toNat → base.length + n.toNat ≤ 1000000 → m_ref03_All_L3 (p, (i : Int), out, (k : Int), base ++ ((List.range j).map fun (x : Nat) => a ++ [(x : Int)]), (j : Int)) = some (base ++ rowI n a)
  | 0, j, h1, h2 => by
    rw [m_ref03_All_L3]
    have : ¬ ((j : Int) < n) := by omega
    simp only [hi, bind_ok, this, if_false]
    rw [rowI, ← h1]; rfl
  | m + 1, j, h1, h2 => by
    rw [m_ref03_All_L3]
    have ht : ((j : Int) < n) := by omega
    have ih := all_L3 p i n hi out k a hk ha base m (j + 1) (by omega) h2
    have w : W ((j : Int) + 1) = ((j + 1 : Nat) : Int) := W_succ (by omega)
    have a1 : app 8 ([] : List Int) a = some a := by rw [app_le (by simp; omega) (by omega)]; rfl
    have a2 : app 8 a [(j : Int)] = some (a ++ [(j : Int)]) := app_le (by simp; omega) (by omega)
    have a3 : app 24 (base ++ ((List.range j).map fun (x : Nat) => a ++ [(x : Int)])) [a ++ [(j : Int)]] = some (base ++ ((List.range (j + 1)).map fun (x : Nat) => a ++ [(x : Int)])) := by
      rw [app_le (by simp; omega) (by omega), List.range_succ]; simp
    simp only [hi, bind_ok, ht, if_true, hk, a1, a2, a3, w, ih]
theorem all_L2 (p : List Int) (i : Nat) (n : Int) (hi : idx p (i : Int) = some n) : ∀ (s q : List (List Int)), (∀ a ∈ s, a.length ≤ 1000) → ((q ++ s).length + 1) * (max n.toNat 1) ≤ 1000000 →
    m_ref03_All_L2 (q ++ s, p, (i : Int), extI q n, (q.length : Int)) = some (extI (q ++ s) n)
  | [], q, h1, h2 => by
    rw [m_ref03_All_L2]; simp only [List.append_nil, Int.lt_irrefl, if_false]
  | a :: s, q, h1, h2 => by
    rw [m_ref03_All_L2]
    have hm : (q ++ a :: s).length + 1 ≤ 1000000 := Nat.le_trans (Nat.le_mul_of_pos_right _ (by omega)) h2
    have hb : (extI q n).length + n.toNat ≤ 1000000 := by
      rw [extI_len]
      have e1 : q.length * n.toNat + n.toNat = (q.length + 1) * n.toNat := by rw [Nat.add_mul, Nat.one_mul]
      rw [e1]
      refine Nat.le_trans (Nat.mul_le_mul ?_ ?_) h2
      · simp
      · omega
    have e := all_L3 p i n hi (q ++ a :: s) q.length a mid_idx (h1 a (List.mem_cons_self ..)) (extI q n) n.toNat 0 (by omega) hb
    have ih := all_L2 p i n hi s (q ++ [a]) (fun x hx => h1 x (List.mem_cons_of_mem _ hx)) (by rw [← mid_app]; exact h2)
    rw [← mid_app] at ih
    simp only [List.range_zero, List.map_nil, List.append_nil, Int.natCast_zero] at e
    have ee : extI (q ++ [a]) n = extI q n ++ rowI n a := by unfold extI; rw [List.flatMap_append]; simp
    simp only [mid_lt, if_true, e, bind_ok, mid_W (Sm_of (show (q ++ a :: s).length ≤ 1000000 by omega)), ← ee, ih]
theorem mem_ext_len {out : List (List Int)} {n : Int} {m : Nat} (h : ∀ a ∈ out, a.length = m) : ∀ a ∈ extI out n, a.length = m + 1 := fun a ha => by
  unfold extI at ha
  obtain ⟨b, hb, hc⟩ := List.mem_flatMap.1 ha
  unfold rowI at hc
  obtain ⟨k, _, rfl⟩ := List.mem_map.1 hc
  simp [h b hb]
theorem all_L1 : ∀ (s p : List Int) (out : List (List Int)), (p ++ s).length ≤ 900 → (∀ a ∈ out, a.length = p.length) → (out.length + 1) * pm s ≤ 500000 → m_ref03_All_L1 (p ++ s, out, (p.length : Int)) = some (s.foldl extI out)
  | [], p, out, hs, h1, h2 => by
    rw [m_ref03_All_L1]; simp only [end_lt, if_false, List.foldl_nil]
  | n :: s, p, out, hs, h1, h2 => by
    rw [m_ref03_All_L1]
    have hp := pm_pos s
    rw [pm, ← Nat.mul_assoc] at h2
    have b1 : (out.length + 1) * max n.toNat 1 ≤ 500000 := Nat.le_trans (Nat.le_mul_of_pos_right _ hp) h2
    have e : m_ref03_All_L2 (out, p ++ n :: s, (p.length : Int), [], 0) = some (extI out n) := all_L2 (p ++ n :: s) p.length n mid_idx out [] (fun a ha => by have := h1 a ha; simp at hs; omega) (Nat.le_trans b1 (by omega))
    have ih := all_L1 s (p ++ [n]) (extI out n) (by rw [← mid_app]; exact hs) (fun a ha => by rw [mem_ext_len h1 a ha]; simp) (by
      refine Nat.le_trans (Nat.mul_le_mul_right _ ?_) h2
      rw [extI_len, Nat.add_mul, Nat.one_mul]
      have := Nat.mul_le_mul_left out.length (show n.toNat ≤ max n.toNat 1 by omega)
      omega)
    rw [← mid_app] at ih
    simp only [mid_lt, if_true, e, bind_ok, mid_W (Sm_of hs), ih, List.foldl_cons]
theorem All_ok {s : List Int} (hs : s.length ≤ 900) (h : pm s ≤ 250000) : m_ref03_All s = some (allL s) := by
  have e : m_ref03_All_L1 (s, [[]], 0) = some (s.foldl extI [[]]) := all_L1 s [] [[]] hs (by simp) (by simpa using by omega)
  simp only [m_ref03_All, e, bind_ok, allI_eq]
end Go.Proofs.Try
namespace Go.Proofs.Try
open Go Go.Pm
set_option linter.unusedVariables false
set_option linter.unusedSimpArgs false
set_option maxRecDepth 2000
theorem ite_some {c : Prop} [Decidable c] {α : Type} (a b : α) : (if c then some a else some b) = some (if c then a else b) := by split <;> rfl
/-- sums of products, as the machine adds -/
def dotF : List Int → List Int → Int → Int
  | a :: s, b :: t, x => dotF s t (W (x + W (a * b)))
  | _, _, x => x
theorem rDot_L1 : ∀ (s t p q : List Int) (x : Int), p.length = q.length → (p ++ s).length ≤ 1000 → (q ++ t).length ≤ 1000 → m_ref03_Dot_L1 (p ++ s, q ++ t, x, (p.length : Int)) = some (dotF s t x)
  | [], t, p, q, x, h, h1, h2 => by
    rw [m_ref03_Dot_L1]
    simp only [end_lt, if_false, bind_ok, Bool.false_eq_true, dotF]
  | a :: s, [], p, q, x, h, h1, h2 => by
    rw [m_ref03_Dot_L1]
    have : ¬ ((p.length : Int) < ((q ++ ([] : List Int)).length : Int)) := by simp; omega
    simp only [mid_lt, if_true, this, decide_false, bind_ok, Bool.false_eq_true, if_false, dotF]
  | a :: s, b :: t, p, q, x, h, h1, h2 => by
    rw [m_ref03_Dot_L1]
    have e1 : ((p.length : Int) < ((q ++ b :: t).length : Int)) := by simp; omega
    have e2 : idx (q ++ b :: t) (p.length : Int) = some b := by rw [h]; exact mid_idx
    have e := rDot_L1 s t (p ++ [a]) (q ++ [b]) (W (x + W (a * b))) (by simp [h]) (by simpa using h1) (by simpa using h2)
    rw [← mid_app, ← mid_app] at e
    have w : W ((p.length : Int) + 1) = ((p ++ [a]).length : Int) := mid_W (Sm_of h1)
    simp only [mid_lt, if_true, e1, decide_true, bind_ok, mid_idx, e2, w, e, dotF]
theorem rDot_ok {a b : List Int} (h1 : a.length ≤ 1000) (h2 : b.length ≤ 1000) : m_ref03_Dot (a, b) = some (dotF a b 0) := by
  have e := rDot_L1 a b [] [] 0 rfl (by simpa using h1) (by simpa using h2)
  simp only [List.nil_append, List.length_nil, Int.natCast_zero] at e
  unfold m_ref03_Dot
  simp only [e, bind_ok]
def modF (a m : Int) : Int := if a.tmod m < 0 then W (a.tmod m + m) else a.tmod m
/-- what is read at an index -/
def atF (a : T_ref17_Access) (i : List Int) : Int × Bool :=
  if a.kind = 1 then (0, false) else if a.kind = 2 then (W (a.base + dotF a.strides i 0), true)
  else (W (a.base + W (a.step * modF (W (a.start + dotF a.strides i 0)) a.mod)), true)
/-- accesses as the laws need them -/
def accF (a : T_ref17_Access) (n : Nat) : Prop := (a.kind = 1 ∧ a.strides.length = 0) ∨ (a.kind = 2 ∧ a.strides.length = n) ∨ (a.kind = 3 ∧ a.strides.length = n ∧ 0 < a.mod)
theorem rAt_ok {a : T_ref17_Access} {n : Nat} {i : List Int} (h : accF a n) (hn : n ≤ 1000) (hi : i.length ≤ 1000) : m_ref17_At (a, i) = some (atF a i) := by
  have hs : a.strides.length ≤ 1000 := by unfold accF at h; omega
  unfold m_ref17_At atF
  simp only [rDot_ok hs hi, bind_ok]
  rcases h with ⟨h, _⟩ | ⟨h, _⟩ | ⟨h, _, hm⟩
  · simp only [h, if_true]
  · simp only [h, if_true, show ¬ ((2 : Int) = 1) by omega, if_false]
  · have hm0 : a.mod ≠ 0 := by omega
    simp only [h, show ¬ ((3 : Int) = 1) by omega, show ¬ ((3 : Int) = 2) by omega, if_false, remM, hm0, bind_ok, ite_some, modF]
theorem near_tot (v m : Int) : ∃ b, m_ref17_near (v, m) = some b := by
  unfold m_ref17_near
  simp only [ite_some]
  exact ⟨_, rfl⟩
theorem bnd_L1 (m : Int) : ∀ (s p : List Int) (k b ba st se mo : Int), (p ++ s).length ≤ 9223372036854775807 → ∃ r, m_ref17_Bounded_L1 (⟨k, b, ba, p ++ s, st, se, mo⟩, m, (p.length : Int)) = some r
  | [], p, k, b, ba, st, se, mo, h => by
    rw [m_ref17_Bounded_L1]
    simp only [end_lt, if_false]
    exact ⟨_, rfl⟩
  | x :: s, p, k, b, ba, st, se, mo, h => by
    rw [m_ref17_Bounded_L1]
    obtain ⟨c, e⟩ := near_tot x m
    obtain ⟨r, e'⟩ := bnd_L1 m s (p ++ [x]) k b ba st se mo (by simpa using h)
    rw [← mid_app] at e'
    have w : W ((p.length : Int) + 1) = ((p ++ [x]).length : Int) := mid_W (Sm_of h)
    simp only [mid_lt, if_true, mid_idx, bind_ok, e, w, e']
    split <;> exact ⟨_, rfl⟩
theorem bnd_tot (a : T_ref17_Access) (m : Int) (h : a.strides.length ≤ 9223372036854775807) : ∃ b, m_ref17_Bounded (a, m) = some b := by
  obtain ⟨k, b, ba, s, st, se, mo⟩ := a
  obtain ⟨r, e⟩ := bnd_L1 m s [] k b ba st se mo (by simpa using h)
  simp only [List.nil_append, List.length_nil, Int.natCast_zero] at e
  obtain ⟨c1, e1⟩ := near_tot b m
  obtain ⟨c2, e2⟩ := near_tot ba m
  obtain ⟨c3, e3⟩ := near_tot st m
  obtain ⟨c4, e4⟩ := near_tot se m
  obtain ⟨c5, e5⟩ := near_tot mo m
  unfold m_ref17_Bounded
  simp only [e, bind_ok]
  cases r with
  | inl u => exact ⟨_, rfl⟩
  | inr u =>
    simp only [e1, e2, e3, e4, e5, bind_ok, ite_some]
    exact ⟨_, rfl⟩
theorem right_ok (a : T_ref17_Access) (n : Nat) (h : a.strides.length ≤ 9223372036854775807) : ∃ b, m_ref17_Right (a, (n : Int)) = some b ∧ (b = true → accF a n) := by
  obtain ⟨b, e⟩ := bnd_tot a 1099511627776 h
  unfold m_ref17_Right
  simp only [show ¬ ((n : Int) < 0) by omega, if_false, bind_ok, e, ite_some]
  refine ⟨_, rfl, fun hb => ?_⟩
  unfold accF
  by_cases k1 : a.kind = 1
  · simp [k1] at hb
    exact Or.inl ⟨k1, by rw [hb.2.1.1.1.2]; rfl⟩
  · by_cases k2 : a.kind = 2
    · simp [k2] at hb
      exact Or.inr (Or.inl ⟨k2, by omega⟩)
    · by_cases k3 : a.kind = 3
      · simp [k3] at hb
        exact Or.inr (Or.inr ⟨k3, by omega, by omega⟩)
      · simp [k1, k2, k3] at hb
theorem small_L1 (t : T_ref21_Nest) (hl : t.steps.length = t.dims.length) (h6 : t.dims.length ≤ 6) : ∀ (s p : List Int) (m : Nat), t.dims = p ++ s → m ≤ 200 →
    ∃ r, m_ref21_Small_L1 (t, 200, (m : Int), (p.length : Int)) = some r ∧ (r = .inr () → (∀ d ∈ s, 1 ≤ d) ∧ m * pm s ≤ 200)
  | [], p, m, hd, hm => by
    rw [m_ref21_Small_L1]
    have : ¬ ((p.length : Int) < (t.dims.length : Int)) := by rw [hd]; simp
    simp only [this, if_false]
    exact ⟨_, rfl, fun _ => ⟨fun d h => (by cases h), by rw [pm]; omega⟩⟩
  | x :: s, p, m, hd, hm => by
    rw [m_ref21_Small_L1]
    have h1 : ((p.length : Int) < (t.dims.length : Int)) := by rw [hd]; exact mid_lt
    have hpl : p.length < t.dims.length := by omega
    have e1 : idx t.dims (p.length : Int) = some x := by rw [hd]; exact mid_idx
    have e2 : idx t.steps (p.length : Int) = some (t.steps[p.length]'(by omega)) := idx_ok (by omega)
    generalize t.steps[p.length]'(by omega) = y at e2
    by_cases c1 : x < 1
    · simp only [h1, if_true, e1, bind_ok, c1]
      exact ⟨_, rfl, fun h => (by cases h)⟩
    · by_cases c2 : x > 200
      · simp only [h1, if_true, e1, bind_ok, c1, if_false, c2, decide_true]
        exact ⟨_, rfl, fun h => (by cases h)⟩
      · by_cases c3 : y < -1000000
        · simp only [h1, if_true, e1, e2, bind_ok, c1, if_false, c2, c3, decide_true, decide_false, Bool.false_eq_true]
          exact ⟨_, rfl, fun h => (by cases h)⟩
        · by_cases c4 : y > 1000000
          · simp only [h1, if_true, e1, e2, bind_ok, c1, if_false, c2, c3, c4, decide_true, decide_false, Bool.false_eq_true]
            exact ⟨_, rfl, fun h => (by cases h)⟩
          · have hx : ((x.toNat : Nat) : Int) = x := by omega
            have hle : m * x.toNat ≤ 200 * 200 := Nat.mul_le_mul hm (by omega)
            have w : W ((m : Int) * x) = ((m * x.toNat : Nat) : Int) := by
              rw [← hx, ← Int.natCast_mul, W_ok (by omega) (by omega)]; simp
            have w2 : W ((p.length : Int) + 1) = ((p ++ [x]).length : Int) := by rw [W_ok (by omega) (by omega)]; simp
            simp only [h1, if_true, e1, e2, bind_ok, c1, if_false, c2, c3, c4, decide_false, Bool.false_eq_true, w, w2]
            by_cases c5 : ((m * x.toNat : Nat) : Int) > 200
            · simp only [c5, if_true]
              exact ⟨_, rfl, fun h => (by cases h)⟩
            · obtain ⟨r, e, hr⟩ := small_L1 t hl h6 s (p ++ [x]) (m * x.toNat) (by rw [hd, mid_app]) (by omega)
              simp only [c5, if_false, e]
              refine ⟨r, rfl, fun h => ?_⟩
              obtain ⟨a, b⟩ := hr h
              refine ⟨fun d hd => ?_, ?_⟩
              · rcases List.mem_cons.1 hd with rfl | hd
                · omega
                · exact a d hd
              · rw [pm, Nat.max_eq_left (by omega), ← Nat.mul_assoc]; exact b
/-- small nests -/
structure smallF (t : T_ref21_Nest) : Prop where
  len : t.dims.length ≤ 6
  steps : t.steps.length = t.dims.length
  acc : accF t.read t.dims.length
  pos : ∀ d ∈ t.dims, 1 ≤ d
  prod : pm t.dims ≤ 200
theorem small_ok (t : T_ref21_Nest) (hd : t.dims.length ≤ 9223372036854775807) (hs : t.read.strides.length ≤ 9223372036854775807) : ∃ b, m_ref21_Small (t, 200) = some b ∧ (b = true → smallF t) := by
  obtain ⟨b1, e1, hb1⟩ := right_ok t.read t.dims.length hs
  obtain ⟨b2, e2⟩ := bnd_tot t.read 1000000 hs
  have e1' : m_ref17_Right (⟨t.read.kind, t.read.buffer, t.read.base, t.read.strides, t.read.start, t.read.step, t.read.mod⟩, (t.dims.length : Int)) = some b1 := e1
  have e2' : m_ref17_Bounded (⟨t.read.kind, t.read.buffer, t.read.base, t.read.strides, t.read.start, t.read.step, t.read.mod⟩, 1000000) = some b2 := e2
  unfold m_ref21_Small
  by_cases c1 : (t.dims.length : Int) > 6
  · simp only [c1, if_true, bind_ok]
    exact ⟨_, rfl, fun h => (by cases h)⟩
  · by_cases c2 : t.steps.length = t.dims.length
    · obtain ⟨r, e3, hr⟩ := small_L1 t c2 (by omega) t.dims [] 1 rfl (by omega)
      simp only [List.length_nil, Int.natCast_zero, Int.natCast_one] at e3
      simp only [c1, if_false, bind_ok, c2, bne_self_eq_false, Bool.false_eq_true, e1', e2', ite_some]
      cases b1 with
      | false =>
        simp only [Bool.not_false, if_true]
        exact ⟨_, rfl, fun h => (by cases h)⟩
      | true =>
        simp only [Bool.not_true, Bool.false_eq_true, if_false, e3, bind_ok]
        split
        · exact ⟨_, rfl, fun h => (by cases h)⟩
        · cases r with
          | inl u =>
            repeat' split
            all_goals first | contradiction | exact ⟨_, rfl, fun h => (by cases h)⟩
          | inr u =>
            obtain ⟨q1, q2⟩ := hr rfl
            repeat' split
            all_goals first | contradiction | exact ⟨_, rfl, fun _ => ⟨by omega, c2, hb1 rfl, q1, by omega⟩⟩
    · have hne : ((t.steps.length : Int) != (t.dims.length : Int)) = true := by simp; omega
      simp only [c1, if_false, bind_ok, hne, if_true]
      exact ⟨_, rfl, fun h => (by cases h)⟩
theorem allL_len : ∀ {s : List Int}, (∀ d ∈ s, 1 ≤ d) → (allL s).length = pm s
  | [], _ => rfl
  | n :: s, h => by
    have h1 := h n (List.mem_cons_self ..)
    have ih := allL_len (s := s) fun d hd => h d (List.mem_cons_of_mem _ hd)
    rw [allL, pm, List.length_flatMap]
    simp only [List.length_map, ih]
    rw [Nat.max_eq_left (by omega)]
    induction n.toNat with
    | zero => simp
    | succ k ihk => rw [List.range_succ, List.map_append, List.sum_append, ihk]; simp [Nat.add_mul]
theorem allL_mem : ∀ {s : List Int}, ∀ i ∈ allL s, i.length = s.length
  | [], i, h => by simp [allL] at h; rw [h]
  | n :: s, i, h => by
    rw [allL, List.mem_flatMap] at h
    obtain ⟨k, _, hk⟩ := h
    obtain ⟨j, hj, rfl⟩ := List.mem_map.1 hk
    simp [allL_mem j hj]
/-- an event -/
def evF (t : T_ref21_Nest) (i : List Int) : T_ref21_Event :=
  ⟨W (t.write + dotF t.steps i 0), !(atF t.read i).2, if (atF t.read i).2 = true then t.read.buffer else 0, if (atF t.read i).2 = true then (atF t.read i).1 else 0⟩
theorem events_L1 (t : T_ref21_Nest) (ht : smallF t) (l : List (List Int)) (hl : l.length ≤ 1000) (hi : ∀ i ∈ l, i.length ≤ 1000) : ∀ (s p : List (List Int)), l = p ++ s →
    m_ref21_Events_L1 (l, t, p.map (evF t), (p.length : Int)) = some (l.map (evF t))
  | [], p, h => by
    rw [m_ref21_Events_L1]
    rw [List.append_nil] at h
    subst h
    simp only [Int.lt_irrefl, if_false]
  | x :: s, p, h => by
    rw [m_ref21_Events_L1]
    have h1 : ((p.length : Int) < (l.length : Int)) := by rw [h]; exact mid_lt
    have e1 : idx l (p.length : Int) = some x := by rw [h]; exact mid_idx
    have hx := hi x (by rw [h]; simp)
    have e2 := rDot_ok (a := t.steps) (b := x) (by have := ht.steps; have := ht.len; omega) hx
    have e3 : m_ref17_At (⟨t.read.kind, t.read.buffer, t.read.base, t.read.strides, t.read.start, t.read.step, t.read.mod⟩, x) = some (atF t.read x) := rAt_ok ht.acc (by have := ht.len; omega) hx
    have ea : app 32 (p.map (evF t)) [evF t x] = some ((p ++ [x]).map (evF t)) := by
      rw [app_le (by rw [h] at hl; simp at hl ⊢; omega) (by omega)]; simp
    have w : W ((p.length : Int) + 1) = ((p ++ [x]).length : Int) := by rw [W_ok (by omega) (by omega)]; simp
    have e := events_L1 t ht l hl hi s (p ++ [x]) (by rw [h, mid_app])
    simp only [h1, if_true, e1, bind_ok, e2, e3]
    have hb : (if (atF t.read x).2 = true then some (t.read.buffer, (atF t.read x).1) else some (0, 0)) = some (if (atF t.read x).2 = true then t.read.buffer else 0, if (atF t.read x).2 = true then (atF t.read x).1 else 0) := by
      split <;> rfl
    simp only [hb, bind_ok]
    have ea' : app 32 (p.map (evF t)) [(⟨W (t.write + dotF t.steps x 0), !(atF t.read x).2, if (atF t.read x).2 = true then t.read.buffer else 0, if (atF t.read x).2 = true then (atF t.read x).1 else 0⟩ : T_ref21_Event)] = some ((p ++ [x]).map (evF t)) := ea
    simp only [ea', bind_ok, w, e]
theorem events_ok (t : T_ref21_Nest) (ht : smallF t) : m_ref21_Events t = some ((allL t.dims).map (evF t)) := by
  have h6 := ht.len
  have hp := ht.prod
  have e := events_L1 t ht (allL t.dims) (by rw [allL_len ht.pos]; omega) (fun i hi => by rw [allL_mem i hi]; omega) (allL t.dims) [] rfl
  simp only [List.map_nil, List.length_nil, Int.natCast_zero] at e
  unfold m_ref21_Events
  simp only [All_ok (s := t.dims) (by omega) (by omega), bind_ok, e]
theorem rEq_L1 : ∀ (s t p q : List Int), s.length = t.length → p.length = q.length → Sm (p ++ s).length → m_ref02_Equal_L1 (p ++ s, q ++ t, (p.length : Int)) = some (if s = t then .inr () else .inl ())
  | [], [], p, q, _, _, hs => by
    rw [m_ref02_Equal_L1]; simp only [end_lt, if_false, if_true]
  | x :: s, y :: t, p, q, h1, h2, hs => by
    rw [m_ref02_Equal_L1]
    have ih := rEq_L1 s t (p ++ [x]) (q ++ [y]) (by simpa using h1) (by simp [h2]) (by rw [← mid_app]; exact hs)
    rw [← mid_app, ← mid_app] at ih
    simp only [mid_lt, if_true, mid_idx, bind_ok, mid_W hs, ih]
    rw [h2, mid_idx]
    by_cases he : x = y <;> simp [he, bind_ok]
  | [], _ :: _, _, _, h, _, _ => by cases h
  | _ :: _, [], _, _, h, _, _ => by cases h
theorem rEq_ok (a b : List Int) (hs : Sm a.length) : m_ref02_Equal (a, b) = some (decide (a = b)) := by
  simp only [m_ref02_Equal]
  by_cases h : a.length = b.length
  · have e := rEq_L1 a b [] [] h rfl hs
    have e2 : ¬ ((a.length : Int) ≠ (b.length : Int)) := by omega
    simp only [e2, if_false]
    have e3 : m_ref02_Equal_L1 (a, b, 0) = _ := e
    rw [e3]
    by_cases hab : a = b
    · subst hab; simp
    · rw [if_neg hab, decide_eq_false hab]; rfl
  · have e2 : ((a.length : Int) ≠ (b.length : Int)) := by omega
    have e3 : a ≠ b := fun e => h (by rw [e])
    rw [if_pos e2, decide_eq_false e3]
theorem gEq_L1 : ∀ (s t p q : List Int), s.length = t.length → p.length = q.length → Sm (p ++ s).length → m_slices_Equal_int_int_L1 (p ++ s, q ++ t, (p.length : Int)) = some (if s = t then .inr () else .inl ())
  | [], [], p, q, _, _, hs => by
    rw [m_slices_Equal_int_int_L1]; simp only [end_lt, if_false, if_true]
  | x :: s, y :: t, p, q, h1, h2, hs => by
    rw [m_slices_Equal_int_int_L1]
    have ih := gEq_L1 s t (p ++ [x]) (q ++ [y]) (by simpa using h1) (by simp [h2]) (by rw [← mid_app]; exact hs)
    rw [← mid_app, ← mid_app] at ih
    simp only [mid_lt, if_true, mid_idx, bind_ok, mid_W hs, ih]
    rw [h2, mid_idx]
    by_cases he : x = y <;> simp [he, bind_ok]
  | [], _ :: _, _, _, h, _, _ => by cases h
  | _ :: _, [], _, _, h, _, _ => by cases h
theorem gEq_ok (a b : List Int) (hs : Sm a.length) : m_slices_Equal_int_int (a, b) = some (decide (a = b)) := by
  simp only [m_slices_Equal_int_int]
  by_cases h : a.length = b.length
  · have e := gEq_L1 a b [] [] h rfl hs
    have e2 : ¬ ((a.length : Int) ≠ (b.length : Int)) := by omega
    simp only [e2, if_false]
    have e3 : m_slices_Equal_int_int_L1 (a, b, 0) = _ := e
    rw [e3]
    by_cases hab : a = b
    · subst hab; simp
    · rw [if_neg hab, decide_eq_false hab]; rfl
  · have e2 : ((a.length : Int) ≠ (b.length : Int)) := by omega
    have e3 : a ≠ b := fun e => h (by rw [e])
    rw [if_pos e2, decide_eq_false e3]
def acc (a : T_ref17_Access) : T_access_Access := ⟨a.kind, a.buffer, a.base, a.strides, a.start, a.step, a.mod⟩
def onfN (t : T_ref21_Nest) : T_onf_Nest := ⟨t.dims, t.write, t.steps, acc t.read⟩
def sameB (a b : T_ref21_Nest) : Bool := decide (a.dims = b.dims ∧ a.write = b.write ∧ a.steps = b.steps ∧ a.read.kind = b.read.kind ∧ a.read.buffer = b.read.buffer ∧ a.read.base = b.read.base ∧ a.read.start = b.read.start ∧ a.read.step = b.read.step ∧ a.read.mod = b.read.mod ∧ a.read.strides = b.read.strides)
theorem rSame_ok (a b : T_ref21_Nest) (h1 : a.dims.length ≤ 1000) (h2 : a.steps.length ≤ 1000) (h3 : a.read.strides.length ≤ 1000) : m_ref21_Same (a, b) = some (sameB a b) := by
  obtain ⟨d, w, s, ⟨k, bu, ba, st, sa, se, mo⟩⟩ := a
  obtain ⟨d', w', s', ⟨k', bu', ba', st', sa', se', mo'⟩⟩ := b
  simp only at h1 h2 h3
  unfold m_ref21_Same m_ref17_Same sameB
  simp only [rEq_ok d d' (Sm_of h1), rEq_ok s s' (Sm_of h2), rEq_ok st st' (Sm_of h3), bind_ok, ite_some, T_ref21_Nest.mk.injEq, T_ref17_Access.mk.injEq]
  congr 1
  by_cases c1 : d = d' <;> by_cases c2 : w = w' <;> by_cases c3 : s = s' <;> simp [c1, c2, c3]
  by_cases c4 : k = k' <;> by_cases c5 : bu = bu' <;> by_cases c6 : ba = ba' <;> by_cases c7 : sa = sa' <;> by_cases c8 : se = se' <;> by_cases c9 : mo = mo' <;> simp [c4, c5, c6, c7, c8, c9]
theorem gSame_ok (a b : T_ref21_Nest) (h1 : a.dims.length ≤ 1000) (h2 : a.steps.length ≤ 1000) (h3 : a.read.strides.length ≤ 1000) : m_onf_Same (onfN a, onfN b) = some (sameB a b) := by
  obtain ⟨d, w, s, ⟨k, bu, ba, st, sa, se, mo⟩⟩ := a
  obtain ⟨d', w', s', ⟨k', bu', ba', st', sa', se', mo'⟩⟩ := b
  simp only at h1 h2 h3
  unfold m_onf_Same m_access_Same sameB onfN acc
  simp only [gEq_ok d d' (Sm_of h1), gEq_ok s s' (Sm_of h2), gEq_ok st st' (Sm_of h3), bind_ok, ite_some, T_ref21_Nest.mk.injEq, T_ref17_Access.mk.injEq]
  congr 1
  by_cases c1 : d = d' <;> by_cases c2 : w = w' <;> by_cases c3 : s = s' <;> simp [c1, c2, c3]
  by_cases c4 : k = k' <;> by_cases c5 : bu = bu' <;> by_cases c6 : ba = ba' <;> by_cases c7 : sa = sa' <;> by_cases c8 : se = se' <;> by_cases c9 : mo = mo' <;> by_cases c0 : st = st' <;> simp [c4, c5, c6, c7, c8, c9, c0]
/-- what is selected: as many of each list -/
def selL : List Int → List Int → List Int
  | x :: l, d :: ds => if d ≠ 1 then x :: selL l ds else selL l ds
  | _, _ => []
theorem selL_len : ∀ (l m ds : List Int), l.length = ds.length → m.length = ds.length → (selL l ds).length = (selL m ds).length
  | [], [], [], _, _ => rfl
  | [], _ :: _, [], _, h => by cases h
  | [], _, _ :: _, h, _ => by cases h
  | _ :: _, _, [], h, _ => by cases h
  | _ :: _, [], _ :: _, _, h => by cases h
  | x :: l, y :: m, d :: ds, h1, h2 => by
    have := selL_len l m ds (by simpa using h1) (by simpa using h2)
    rw [selL, selL]
    split <;> simp [this]
theorem selL_le : ∀ (l ds : List Int), (selL l ds).length ≤ l.length
  | [], _ => by simp [selL]
  | x :: l, [] => by simp [selL]
  | x :: l, d :: ds => by
    have := selL_le l ds
    rw [selL]
    split <;> simp <;> omega
theorem app8 {l es : List Int} (h : l.length + es.length ≤ 100000) : app 8 l es = some (l ++ es) := app_ok (by
  have h1 : (l.length + es.length) * 8 ≤ 100000 * 8 := Nat.mul_le_mul_right _ h
  have h2 : 100000 * 8 ≤ room := by decide +kernel
  omega)
theorem sel_L1 : ∀ (s t p q o : List Int) (g : Nat), s.length ≤ t.length → p.length = q.length → (p ++ s).length ≤ 1000 → o.length ≤ p.length → ∃ g', m_onf_selected_int_b769e_L1 (p ++ s, q ++ t, g, o, (p.length : Int)) = some (g', o ++ selL s t)
  | [], t, p, q, o, g, h1, h2, h3, h4 => by
    rw [m_onf_selected_int_b769e_L1]
    simp only [List.append_nil, Int.lt_irrefl, if_false, selL]
    exact ⟨_, rfl⟩
  | x :: s, d :: t, p, q, o, g, h1, h2, h3, h4 => by
    rw [m_onf_selected_int_b769e_L1]
    have e2 : idx (q ++ d :: t) (p.length : Int) = some d := by rw [h2]; exact mid_idx
    have w : W ((p.length : Int) + 1) = ((p ++ [x]).length : Int) := mid_W (Sm_of h3)
    simp only [mid_lt, if_true, mid_idx, bind_ok, e2, w, selL]
    by_cases hd : d ≠ 1
    · obtain ⟨g', e⟩ := sel_L1 s t (p ++ [x]) (q ++ [d]) (o ++ [x]) (gb g ([x] : List Int).isEmpty) (by simpa using h1) (by simp [h2]) (by simpa using h3) (by simp; omega)
      rw [← mid_app, ← mid_app] at e
      have ha : app 8 o [x] = some (o ++ [x]) := app8 (by simp at h3 ⊢; omega)
      simp only [hd, if_true, not_false_eq_true, ne_eq, ha, bind_ok, e]
      exact ⟨g', by simp⟩
    · obtain ⟨g', e⟩ := sel_L1 s t (p ++ [x]) (q ++ [d]) o g (by simpa using h1) (by simp [h2]) (by simpa using h3) (by simp; omega)
      rw [← mid_app, ← mid_app] at e
      simp only [hd, if_false, e]
      exact ⟨g', rfl⟩
theorem sel_ok {l ds : List Int} (h : l.length ≤ ds.length) (hl : l.length ≤ 1000) : ∃ g, m_onf_selected_int_b769e (l, ds) = some (g, selL l ds) := by
  obtain ⟨g, e⟩ := sel_L1 l ds [] [] [] 0 h rfl (by simpa using hl) (by simp)
  simp only [List.nil_append, List.length_nil, Int.natCast_zero] at e
  unfold m_onf_selected_int_b769e
  simp only [e, bind_ok]
  exact ⟨g, rfl⟩
theorem selD_L1 : ∀ (s p o : List Int) (g : Nat), (p ++ s).length ≤ 1000 → o.length ≤ p.length → ∃ g', m_onf_selected_int_b8645_L1 (p ++ s, g, o, (p.length : Int)) = some (g', o ++ selL s s)
  | [], p, o, g, h3, h4 => by
    rw [m_onf_selected_int_b8645_L1]
    simp only [List.append_nil, Int.lt_irrefl, if_false, selL]
    exact ⟨_, rfl⟩
  | x :: s, p, o, g, h3, h4 => by
    rw [m_onf_selected_int_b8645_L1]
    have w : W ((p.length : Int) + 1) = ((p ++ [x]).length : Int) := mid_W (Sm_of h3)
    simp only [mid_lt, if_true, mid_idx, bind_ok, w, selL]
    by_cases hd : x ≠ 1
    · obtain ⟨g', e⟩ := selD_L1 s (p ++ [x]) (o ++ [x]) (gb g ([x] : List Int).isEmpty) (by simpa using h3) (by simp; omega)
      rw [← mid_app] at e
      have ha : app 8 o [x] = some (o ++ [x]) := app8 (by simp at h3 ⊢; omega)
      simp only [hd, if_true, not_false_eq_true, ne_eq, ha, bind_ok, e]
      exact ⟨g', by simp⟩
    · obtain ⟨g', e⟩ := selD_L1 s (p ++ [x]) o g (by simpa using h3) (by simp; omega)
      rw [← mid_app] at e
      simp only [hd, if_false, e]
      exact ⟨g', rfl⟩
theorem selD_ok {l : List Int} (hl : l.length ≤ 1000) : ∃ g, m_onf_selected_int_b8645 l = some (g, selL l l) := by
  obtain ⟨g, e⟩ := selD_L1 l [] [] 0 (by simpa using hl) (by simp)
  simp only [List.nil_append, List.length_nil, Int.natCast_zero] at e
  unfold m_onf_selected_int_b8645
  simp only [e, bind_ok]
  exact ⟨g, rfl⟩
theorem idx_at {l : List Int} {k : Nat} {i : Int} (hi : i = (k : Int)) (h : k < l.length) : ∃ v, idx l i = some v := by subst hi; exact ⟨_, idx_ok h⟩
theorem del_ok {l : List Int} {cap k : Nat} {i j : Int} (hi : i = (k : Int)) (hj : j = ((k + 1 : Nat) : Int)) (h : k + 1 < l.length) (hl : l.length ≤ 1000) (hc : l.length ≤ cap) : ∃ r, delM l cap i j = some r ∧ r.length + 1 = l.length := by
  subst hi hj
  refine ⟨l.eraseIdx k, ?_, by rw [List.length_eraseIdx, if_pos (by omega)]; omega⟩
  unfold delM
  rw [if_pos ⟨by omega, by omega, by omega, by omega, hc⟩]
  rfl
theorem set_ok {l : List Int} {k : Nat} {i y : Int} (hi : i = (k : Int)) (h : k < l.length) : ∃ r, setM l i y = some r ∧ r.length = l.length := by
  subst hi
  exact ⟨l.set k y, by unfold setM; rw [if_pos ⟨by omega, by omega⟩]; rfl, by simp⟩
end Go.Proofs.Try
namespace Go.Proofs.Try
open Go Go.Pm
set_option linter.unusedVariables false
set_option linter.unusedSimpArgs false
set_option maxRecDepth 2000
theorem W_shift (a q : Int) : W (a + 18446744073709551616 * q) = W a := by
  simp only [W, IntKind.wrap, IntKind.bits, IntKind.signed]
  simp
theorem W_ex (a : Int) : ∃ q, W a = a + 18446744073709551616 * q := by
  simp only [W, IntKind.wrap, IntKind.bits, IntKind.signed]
  simp
  split
  · exact ⟨-(a / 18446744073709551616) - 1, by omega⟩
  · exact ⟨-(a / 18446744073709551616), by omega⟩
theorem W_add_l (a b : Int) : W (W a + b) = W (a + b) := by
  obtain ⟨q, e⟩ := W_ex a
  rw [e, show a + 18446744073709551616 * q + b = (a + b) + 18446744073709551616 * q by omega, W_shift]
theorem W_add_r (a b : Int) : W (a + W b) = W (a + b) := by rw [Int.add_comm, W_add_l, Int.add_comm]
theorem W_W (a : Int) : W (W a) = W a := by have := W_add_l a 0; simpa using this
theorem W_mul_l (a b : Int) : W (W a * b) = W (a * b) := by
  obtain ⟨q, e⟩ := W_ex a
  rw [e, show (a + 18446744073709551616 * q) * b = a * b + 18446744073709551616 * (q * b) by rw [Int.add_mul, Int.mul_assoc], W_shift]
theorem W_zero : W 0 = 0 := by decide
/-- a loop: its rounds, its step, its stride -/
structure Rw where
  d : Int
  s : Int
  t : Int
/-- the sums, round by round -/
def evW : List Rw → List (Int × Int)
  | [] => [(0, 0)]
  | r :: l => (List.range r.d.toNat).flatMap fun (k : Nat) => (evW l).map fun p => (W (r.s * (k : Int) + p.1), W (r.t * (k : Int) + p.2))
theorem evW_norm : ∀ (l : List Rw), ∀ p ∈ evW l, W p.1 = p.1 ∧ W p.2 = p.2
  | [], p, h => by
    rw [evW, List.mem_singleton] at h
    subst h
    exact ⟨W_zero, W_zero⟩
  | r :: l, p, h => by
    rw [evW, List.mem_flatMap] at h
    obtain ⟨k, _, hk⟩ := h
    obtain ⟨q, _, rfl⟩ := List.mem_map.1 hk
    exact ⟨W_W _, W_W _⟩
theorem evW_one {r : Rw} (l : List Rw) (h : r.d = 1) : evW (r :: l) = evW l := by
  rw [evW, h]
  show (List.range 1).flatMap _ = _
  rw [show List.range 1 = [0] by decide]
  simp only [List.flatMap_cons, List.flatMap_nil, List.append_nil]
  rw [List.map_congr_left (g := id)]
  · simp
  · intro p hp
    obtain ⟨h1, h2⟩ := evW_norm l p hp
    simp [h1, h2]
theorem evW_cons {r : Rw} {l l' : List Rw} (h : evW l = evW l') : evW (r :: l) = evW (r :: l') := by rw [evW, evW, h]
def keepR (l : List Rw) : List Rw := l.filter fun r => decide (r.d ≠ 1)
theorem evW_keep : ∀ l : List Rw, evW (keepR l) = evW l
  | [] => rfl
  | r :: l => by
    unfold keepR
    rw [List.filter_cons]
    by_cases h : r.d = 1
    · simp only [h, ne_eq, not_true_eq_false, decide_false, Bool.false_eq_true, if_false]
      rw [evW_one l h]
      exact evW_keep l
    · simp only [h, ne_eq, not_false_eq_true, decide_true, if_true]
      exact evW_cons (evW_keep l)
def fitR (x y : Rw) : Prop := x.s = W (y.d * y.s) ∧ x.t = W (y.d * y.t)
instance (x y : Rw) : Decidable (fitR x y) := by unfold fitR; infer_instance
def stepR (x : Rw) : List Rw → List Rw
  | [] => [x]
  | y :: q => if fitR x y then ⟨x.d * y.d, y.s, y.t⟩ :: q else x :: y :: q
theorem stepR_cons (x y : Rw) (q : List Rw) : stepR x (y :: q) = if fitR x y then ⟨x.d * y.d, y.s, y.t⟩ :: q else x :: y :: q := rfl
def colR (l : List Rw) : List Rw := l.foldr stepR []
theorem range_mul {α : Type} (f : Nat → List α) (m : Nat) : ∀ n : Nat, (List.range (n * m)).flatMap f = (List.range n).flatMap fun i => (List.range m).flatMap fun j => f (i * m + j)
  | 0 => by simp
  | n + 1 => by
    rw [Nat.succ_mul, List.range_add, List.flatMap_append, range_mul f m n, List.range_succ, List.flatMap_append, List.flatMap_map]
    simp
theorem evW_join {x y : Rw} (q : List Rw) (h : fitR x y) (hx : 0 ≤ x.d) (hy : 0 ≤ y.d) : evW (⟨x.d * y.d, y.s, y.t⟩ :: q) = evW (x :: y :: q) := by
  obtain ⟨h1, h2⟩ := h
  rw [evW, evW, evW]
  have hd : (x.d * y.d).toNat = x.d.toNat * y.d.toNat := by
    obtain ⟨a, ha⟩ := Int.eq_ofNat_of_zero_le hx
    obtain ⟨b, hb⟩ := Int.eq_ofNat_of_zero_le hy
    rw [ha, hb, ← Int.natCast_mul]; rfl
  simp only [hd]
  rw [range_mul]
  congr 1
  funext i
  rw [List.map_flatMap]
  congr 1
  funext j
  rw [List.map_map]
  congr 1
  funext p
  have e : ∀ s : Int, s * (((i * y.d.toNat + j : Nat)) : Int) = y.d * s * (i : Int) + s * (j : Int) := fun s => by
    have : ((y.d.toNat : Nat) : Int) = y.d := by omega
    rw [Int.natCast_add, Int.natCast_mul, this, Int.mul_add]
    congr 1
    rw [Int.mul_comm (i : Int), ← Int.mul_assoc, Int.mul_comm s]
  simp only [Function.comp_apply, e]
  rw [W_add_r, W_add_r, h1, h2]
  refine Prod.ext ?_ ?_
  · show W _ = W _
    rw [← W_add_l (W (y.d * y.s) * (i : Int)), W_mul_l, W_add_l]
    congr 1; omega
  · show W _ = W _
    rw [← W_add_l (W (y.d * y.t) * (i : Int)), W_mul_l, W_add_l]
    congr 1; omega
def posR (l : List Rw) : Prop := ∀ r ∈ l, 1 ≤ r.d
theorem mul_pos1 {a b : Int} (h1 : 1 ≤ a) (h2 : 1 ≤ b) : 1 ≤ a * b := Int.mul_pos (a := a) (b := b) (by omega) (by omega)
theorem pos_step {x : Rw} {q : List Rw} (h : posR (x :: q)) : posR (stepR x q) := by
  have h1 := h x (List.mem_cons_self ..)
  cases q with
  | nil => exact h
  | cons y q =>
    have h2 := h y (by simp)
    rw [stepR_cons]
    split
    · intro r hr
      rcases List.mem_cons.1 hr with rfl | hr
      · exact mul_pos1 h1 h2
      · exact h r (by simp [hr])
    · exact h
theorem pos_tail {x : Rw} {l : List Rw} (h : posR (x :: l)) : posR l := fun r hr => h r (List.mem_cons_of_mem _ hr)
theorem pos_cons {x : Rw} {l : List Rw} (h1 : 1 ≤ x.d) (h : posR l) : posR (x :: l) := fun r hr => by
  rcases List.mem_cons.1 hr with rfl | hr
  · exact h1
  · exact h r hr
theorem pos_col : ∀ l : List Rw, posR l → posR (colR l)
  | [], _ => fun r h => by cases h
  | x :: l, h => pos_step (pos_cons (h x (List.mem_cons_self ..)) (pos_col l (pos_tail h)))
theorem evW_step {x : Rw} {q : List Rw} (h : posR (x :: q)) : evW (stepR x q) = evW (x :: q) := by
  have h1 := h x (List.mem_cons_self ..)
  cases q with
  | nil => rfl
  | cons y q =>
    have h2 := h y (by simp)
    rw [stepR_cons]
    split
    · exact evW_join q (by assumption) (by omega) (by omega)
    · rfl
theorem evW_col : ∀ l : List Rw, posR l → evW (colR l) = evW l
  | [], _ => rfl
  | x :: l, h => by
    have hc := pos_cons (h x (List.mem_cons_self ..)) (pos_col l (pos_tail h))
    show evW (stepR x (colR l)) = _
    rw [evW_step hc]
    exact evW_cons (evW_col l (pos_tail h))
/-- the product of the rounds -/
def prR : List Rw → Int
  | [] => 1
  | x :: l => x.d * prR l
theorem prR_pos : ∀ {l : List Rw}, posR l → 1 ≤ prR l
  | [], _ => by rw [prR]; omega
  | x :: l, h => by rw [prR]; exact mul_pos1 (h x (List.mem_cons_self ..)) (prR_pos (pos_tail h))
theorem pr_step (x : Rw) (q : List Rw) : prR (stepR x q) = prR (x :: q) := by
  cases q with
  | nil => rfl
  | cons y q =>
    rw [stepR_cons]
    split
    · rw [prR, prR, prR, Int.mul_assoc]
    · rfl
theorem pr_col : ∀ l : List Rw, prR (colR l) = prR l
  | [] => rfl
  | x :: l => by
    show prR (stepR x (colR l)) = _
    rw [pr_step, prR, prR, pr_col l]
theorem pr_keep : ∀ l : List Rw, prR (keepR l) = prR l
  | [] => rfl
  | x :: l => by
    unfold keepR
    rw [List.filter_cons]
    by_cases h : x.d = 1
    · simp only [h, ne_eq, not_true_eq_false, decide_false, Bool.false_eq_true, if_false]
      rw [prR, h, Int.one_mul]
      exact pr_keep l
    · simp only [h, ne_eq, not_false_eq_true, decide_true, if_true]
      rw [prR, prR]
      have := pr_keep l
      unfold keepR at this
      rw [this]
theorem pr_app : ∀ a b : List Rw, prR (a ++ b) = prR a * prR b
  | [], b => by simp [prR]
  | x :: a, b => by rw [List.cons_append, prR, prR, pr_app a b, Int.mul_assoc]
/-- nothing more to join, no loop of one round -/
def redR : List Rw → Prop
  | x :: y :: l => ¬ fitR x y ∧ redR (y :: l)
  | _ => True
theorem red_step {x : Rw} : ∀ {q : List Rw}, redR q → redR (stepR x q)
  | [], _ => trivial
  | [y], _ => by
    rw [stepR_cons]
    split
    · trivial
    · exact ⟨by assumption, trivial⟩
  | y :: z :: q, h => by
    rw [stepR_cons]
    split
    · exact ⟨h.1, h.2⟩
    · exact ⟨by assumption, h⟩
theorem red_col : ∀ l : List Rw, redR (colR l)
  | [] => trivial
  | x :: l => red_step (red_col l)
theorem red_tail {x : Rw} : ∀ {l : List Rw}, redR (x :: l) → redR l
  | [], _ => trivial
  | y :: l, h => h.2
theorem col_red : ∀ l : List Rw, redR l → colR l = l
  | [], _ => rfl
  | [x], _ => rfl
  | x :: y :: l, h => by
    show stepR x (colR (y :: l)) = _
    rw [col_red (y :: l) h.2, stepR, if_neg h.1]
def no1 (l : List Rw) : Prop := ∀ r ∈ l, 2 ≤ r.d
theorem no1_keep {l : List Rw} (h : posR l) : no1 (keepR l) := fun r hr => by
  unfold keepR at hr
  obtain ⟨h1, h2⟩ := List.mem_filter.1 hr
  have := h r h1
  have : r.d ≠ 1 := of_decide_eq_true h2
  omega
theorem no1_step {x : Rw} {q : List Rw} (h : no1 (x :: q)) : no1 (stepR x q) := by
  have h1 := h x (List.mem_cons_self ..)
  cases q with
  | nil => exact h
  | cons y q =>
    have h2 := h y (by simp)
    rw [stepR_cons]
    split
    · intro r hr
      rcases List.mem_cons.1 hr with rfl | hr
      · show 2 ≤ x.d * y.d
        have : 2 * 1 ≤ x.d * y.d := Int.mul_le_mul h1 (by omega) (by omega) (by omega)
        omega
      · exact h r (by simp [hr])
    · exact h
theorem no1_col : ∀ l : List Rw, no1 l → no1 (colR l)
  | [], _ => fun r h => by cases h
  | x :: l, h => no1_step (fun r hr => by
      rcases List.mem_cons.1 hr with rfl | hr
      · exact h _ (List.mem_cons_self ..)
      · exact no1_col l (fun r hr => h r (List.mem_cons_of_mem _ hr)) r hr)
theorem keep_no1 {l : List Rw} (h : no1 l) : keepR l = l := by
  unfold keepR
  exact List.filter_eq_self.2 fun r hr => by have := h r hr; simp; omega
theorem pos_keep {l : List Rw} (h : posR l) : posR (keepR l) := fun r hr => h r (List.mem_filter.1 hr).1
theorem len_step (x : Rw) (q : List Rw) : (stepR x q).length ≤ (x :: q).length := by
  cases q with
  | nil => exact Nat.le_refl _
  | cons y q =>
    rw [stepR_cons]
    split <;> simp
theorem len_col : ∀ l : List Rw, (colR l).length ≤ l.length
  | [] => Nat.le_refl _
  | x :: l => by
    have h1 := len_step x (colR l)
    have h2 := len_col l
    have h3 : (colR (x :: l)).length = (stepR x (colR l)).length := rfl
    simp only [List.length_cons] at h1 ⊢
    omega
theorem len_keep (l : List Rw) : (keepR l).length ≤ l.length := List.length_filter_le _ _
/-- what is collapsed is collapsed for good -/
theorem col_again {l : List Rw} (h : posR l) : colR (keepR (colR (keepR l))) = colR (keepR l) := by
  rw [keep_no1 (no1_col _ (no1_keep h)), col_red _ (red_col _)]
end Go.Proofs.Try
namespace Go.Proofs.Try
open Go Go.Pm
set_option linter.unusedVariables false
set_option linter.unusedSimpArgs false
set_option maxRecDepth 2000
theorem dotF_nil (i : List Int) (x : Int) : dotF [] i x = x := by
  rw [dotF]
  intro _ _ _ _ h
  cases h
theorem dotF_W : ∀ (S i : List Int) (y : Int), dotF S i (W y) = W (y + dotF S i 0)
  | [], i, y => by rw [dotF_nil, dotF_nil, Int.add_zero]
  | a :: S, [], y => by rw [dotF, dotF, Int.add_zero] <;> (intro _ _ _ _ _ h; cases h)
  | a :: S, b :: i, y => by
    rw [dotF, dotF, dotF_W S i, dotF_W S i (0 + W (a * b))]
    rw [W_add_r, Int.zero_add, Int.add_assoc, W_add_l]
theorem dotF_cons (a b : Int) (S i : List Int) : dotF (a :: S) (b :: i) 0 = W (a * b + dotF S i 0) := by
  rw [dotF, dotF_W, Int.zero_add, W_add_l]
theorem evW_dot : ∀ l : List Rw, (allL (l.map Rw.d)).map (fun i => (dotF (l.map Rw.s) i 0, dotF (l.map Rw.t) i 0)) = evW l
  | [] => by simp [allL, evW, dotF_nil]
  | r :: l => by
    simp only [List.map_cons, allL, List.map_flatMap]
    rw [evW]
    congr 1
    funext k
    rw [List.map_map, ← evW_dot l, List.map_map]
    congr 1
    funext i
    simp only [Function.comp_apply, List.map_cons, dotF_cons]
def atG (a : T_ref17_Access) (x : Int) : Int × Bool :=
  if a.kind = 1 then (0, false) else if a.kind = 2 then (W (a.base + x), true)
  else (W (a.base + W (a.step * modF (W (a.start + x)) a.mod)), true)
def evG (t : T_ref21_Nest) (p : Int × Int) : T_ref21_Event :=
  ⟨W (t.write + p.1), !(atG t.read p.2).2, if (atG t.read p.2).2 = true then t.read.buffer else 0, if (atG t.read p.2).2 = true then (atG t.read p.2).1 else 0⟩
theorem evF_G (t : T_ref21_Nest) (i : List Int) : evF t i = evG t (dotF t.steps i 0, dotF t.read.strides i 0) := rfl
theorem evG_fill {t : T_ref21_Nest} (h : t.read.kind = 1) (x y z : Int) : evG t (x, y) = evG t (x, z) := by
  simp only [evG, atG, h, if_true]
/-- the loops of a nest -/
def mkR : List Int → List Int → List Int → List Rw
  | d :: D, s :: S, T => ⟨d, s, T.headD 0⟩ :: mkR D S T.tail
  | _, _, _ => []
theorem mkR_d : ∀ (D S T : List Int), D.length = S.length → (mkR D S T).map Rw.d = D ∧ (mkR D S T).map Rw.s = S
  | [], [], _, _ => ⟨rfl, rfl⟩
  | d :: D, s :: S, T, h => by
    obtain ⟨h1, h2⟩ := mkR_d D S T.tail (by simpa using h)
    rw [mkR]
    exact ⟨by rw [List.map_cons, h1], by rw [List.map_cons, h2]⟩
  | [], _ :: _, _, h => by cases h
  | _ :: _, [], _, h => by cases h
theorem mkR_t : ∀ (D S T : List Int), D.length = S.length → T.length = D.length → (mkR D S T).map Rw.t = T
  | [], [], [], _, _ => rfl
  | d :: D, s :: S, t :: T, h, h2 => by
    have := mkR_t D S T (by simpa using h) (by simpa using h2)
    rw [mkR, List.map_cons]
    simp [this]
  | [], _ :: _, _, h, _ => by cases h
  | _ :: _, [], _, h, _ => by cases h
  | [], _, _ :: _, _, h => by cases h
  | _ :: _, _, [], _, h => by cases h
theorem mkR_z : ∀ (D S : List Int), ∀ r ∈ mkR D S [], r.t = 0
  | d :: D, s :: S, r, h => by
    rw [mkR] at h
    rcases List.mem_cons.1 h with rfl | h
    · rfl
    · exact mkR_z D S r h
  | [], _, r, h => by rw [mkR] at h <;> first | cases h | (intro _ _ _ _ e; cases e)
  | _ :: _, [], r, h => by rw [mkR] at h <;> first | cases h | (intro _ _ _ _ _ e; cases e)
def ctR (b : Bool) (l : List Rw) : List Int := if b = true then l.map Rw.t else []
def bK (t : T_ref21_Nest) : Bool := decide (t.read.kind ≠ 1)
/-- a nest with other loops -/
def setN (t : T_ref21_Nest) (l : List Rw) : T_ref21_Nest := ⟨l.map Rw.d, t.write, l.map Rw.s, ⟨t.read.kind, t.read.buffer, t.read.base, ctR (bK t) l, t.read.start, t.read.step, t.read.mod⟩⟩
theorem setN_evG (t : T_ref21_Nest) (l : List Rw) : evG (setN t l) = evG t := rfl
theorem events_set (t : T_ref21_Nest) (l : List Rw) : (allL (setN t l).dims).map (evF (setN t l)) = (evW l).map (evG t) := by
  rw [← evW_dot l, List.map_map]
  refine List.map_congr_left fun i _ => ?_
  rw [evF_G, setN_evG, Function.comp_apply]
  by_cases hk : t.read.kind = 1
  · exact evG_fill hk _ _ _
  · have hb : bK t = true := decide_eq_true hk
    show evG t (dotF (l.map Rw.s) i 0, dotF (ctR (bK t) l) i 0) = _
    rw [hb]
    rfl
def rowsN (t : T_ref21_Nest) : List Rw := mkR t.dims t.steps t.read.strides
theorem setN_rows {t : T_ref21_Nest} (h : smallF t) : setN t (rowsN t) = t := by
  obtain ⟨h1, h2⟩ := mkR_d t.dims t.steps t.read.strides h.steps.symm
  have ha := h.acc
  unfold accF at ha
  have h3 : ctR (bK t) (rowsN t) = t.read.strides := by
    by_cases hk : t.read.kind = 1
    · have hb : bK t = false := by unfold bK; rw [hk]; rfl
      rw [hb]
      show ([] : List Int) = _
      exact (List.length_eq_zero_iff.1 (by omega)).symm
    · have hb : bK t = true := decide_eq_true hk
      rw [hb]
      exact mkR_t _ _ _ h.steps.symm (by omega)
  unfold setN
  rw [h3]
  show (⟨(rowsN t).map Rw.d, t.write, (rowsN t).map Rw.s, t.read⟩ : T_ref21_Nest) = t
  unfold rowsN
  rw [h1, h2]
theorem pm_pr : ∀ {l : List Rw}, posR l → ((pm (l.map Rw.d) : Nat) : Int) = prR l
  | [], _ => rfl
  | x :: l, h => by
    have h1 := h x (List.mem_cons_self ..)
    have := pm_pr (pos_tail h)
    rw [List.map_cons, pm, prR, Nat.max_eq_left (by omega), Int.natCast_mul, this]
    congr 1; omega
theorem small_set {t : T_ref21_Nest} (h : smallF t) {l : List Rw} (hl : l.length ≤ 6) (hp : posR l) (hpr : prR l ≤ 200) : smallF (setN t l) := by
  refine ⟨by simpa [setN] using hl, by simp [setN], ?_, fun d hd => ?_, ?_⟩
  · have ha := h.acc
    unfold accF at ha ⊢
    show (t.read.kind = 1 ∧ (ctR (bK t) l).length = 0) ∨ (t.read.kind = 2 ∧ (ctR (bK t) l).length = (l.map Rw.d).length) ∨ (t.read.kind = 3 ∧ (ctR (bK t) l).length = (l.map Rw.d).length ∧ 0 < t.read.mod)
    by_cases hk : t.read.kind = 1
    · exact Or.inl ⟨hk, by unfold bK ctR; simp [hk]⟩
    · have hb : bK t = true := decide_eq_true hk
      rw [hb]
      simp only [ctR, if_true, List.length_map, true_and, and_true]
      omega
  · obtain ⟨r, hr, rfl⟩ := List.mem_map.1 hd
    exact hp r hr
  · have := pm_pr hp
    show pm (l.map Rw.d) ≤ 200
    omega
theorem pos_rows {t : T_ref21_Nest} (h : smallF t) : posR (rowsN t) := fun r hr => h.pos r.d (by
  have := (mkR_d t.dims t.steps t.read.strides h.steps.symm).1
  rw [← this]
  exact List.mem_map_of_mem hr)
theorem len_rows {t : T_ref21_Nest} (h : smallF t) : (rowsN t).length = t.dims.length := by
  have := congrArg List.length (mkR_d t.dims t.steps t.read.strides h.steps.symm).1
  rw [List.length_map] at this
  exact this
theorem pr_rows {t : T_ref21_Nest} (h : smallF t) : prR (rowsN t) ≤ 200 := by
  have h1 := pm_pr (pos_rows h)
  have h2 := (mkR_d t.dims t.steps t.read.strides h.steps.symm).1
  unfold rowsN at h1 ⊢
  rw [h2] at h1
  have := h.prod
  omega
theorem zero_rows {t : T_ref21_Nest} (h : smallF t) (hb : bK t = false) : ∀ r ∈ rowsN t, r.t = 0 := by
  have hk : t.read.kind = 1 := by unfold bK at hb; simpa using hb
  have ha := h.acc
  unfold accF at ha
  have : t.read.strides = [] := List.length_eq_zero_iff.1 (by omega)
  unfold rowsN
  rw [this]
  exact mkR_z _ _
end Go.Proofs.Try
namespace Go.Proofs.Try
open Go Go.Pm
set_option linter.unusedVariables false
set_option linter.unusedSimpArgs false
set_option maxRecDepth 2000
theorem at0 {α : Type} (f : Rw → α) (A : List Rw) (x : Rw) (B : List Rw) : idx ((A ++ x :: B).map f) (A.length : Int) = some (f x) := by simp [idx]
theorem at1 {α : Type} (f : Rw → α) (A : List Rw) (x y : Rw) (B : List Rw) : idx ((A ++ x :: y :: B).map f) ((A.length + 1 : Nat) : Int) = some (f y) := by
  have := at0 f (A ++ [x]) y B
  simpa using this
theorem set1 (A : List Int) (x y v : Int) (B : List Int) {k : Nat} (hk : k = A.length) : setM (A ++ x :: y :: B) ((k + 1 : Nat) : Int) v = some (A ++ x :: v :: B) := by
  subst hk
  unfold setM
  rw [if_pos ⟨by omega, by simp⟩]
  congr 1
  rw [Int.toNat_natCast, List.set_append_right _ _ (by omega)]
  simp
theorem set0 (A : List Int) (y v : Int) (B : List Int) {k : Nat} (hk : k = A.length) : setM (A ++ y :: B) (k : Int) v = some (A ++ v :: B) := by
  subst hk
  unfold setM
  rw [if_pos ⟨by omega, by simp⟩]
  congr 1
  rw [Int.toNat_natCast, List.set_append_right _ _ (by omega)]
  simp
theorem del0 (A : List Int) (x y : Int) (B : List Int) {k cap : Nat} (hk : k = A.length) (hl : (A ++ x :: y :: B).length ≤ 1000) (hc : (A ++ x :: y :: B).length ≤ cap) : delM (A ++ x :: y :: B) cap (k : Int) ((k + 1 : Nat) : Int) = some (A ++ y :: B) := by
  subst hk
  unfold delM
  rw [if_pos ⟨by omega, by omega, by simp; omega, by omega, hc⟩]
  congr 1
  rw [Int.toNat_natCast, List.eraseIdx_append_of_length_le (by omega)]
  simp
def colL : List Rw → List Rw → List Rw
  | [], q => q
  | x :: rp, q => colL rp (stepR x q)
theorem colL_col : ∀ (rp q : List Rw), colL rp (colR q) = colR (rp.reverse ++ q)
  | [], q => rfl
  | x :: rp, q => by
    rw [colL, List.reverse_cons, List.append_assoc]
    exact colL_col rp (x :: q)
theorem selL_keep (f : Rw → Int) : ∀ l : List Rw, selL (l.map f) (l.map Rw.d) = (keepR l).map f
  | [] => by simp [selL, keepR]
  | x :: l => by
    rw [List.map_cons, List.map_cons, selL, selL_keep f l]
    unfold keepR
    rw [List.filter_cons]
    by_cases h : x.d = 1
    · simp [h]
    · simp [h]
theorem selL_nil (ds : List Int) : selL [] ds = [] := by
  cases ds <;> rfl
theorem fits1 (q1 : Nat) (q3 : List Int) (q4 : Int) (q5 : List Int) (q6 q7 q8 : Int) (q9 : List Int) (q10 q11 q12 : Int) (q14 : Nat) (q15 : List Int) (q16 : Nat) (f : Rw → Int) (A : List Rw) (x y : Rw) (B : List Rw) (hA : A.length ≤ 100) :
    m_onf_Collapse_1_b5b98 ((A ++ x :: y :: B).map f, q1, (A.length : Int), q3, q4, q5, q6, q7, q8, q9, q10, q11, q12, (A ++ x :: y :: B).map Rw.d, q14, q15, q16) = some (f x == W (y.d * f y)) ∧
    m_onf_Collapse_1_bad34 ((A ++ x :: y :: B).map f, q1, (A.length : Int), q3, q4, q5, q6, q7, q8, q9, q10, q11, q12, (A ++ x :: y :: B).map Rw.d, q14, q15, q16) = some (f x == W (y.d * f y)) := by
  have w : W ((A.length : Int) + 1) = ((A.length + 1 : Nat) : Int) := W_succ (by omega)
  have hn : ¬ ((((A ++ x :: y :: B).map f).length : Int) = 0) := by simp; omega
  unfold m_onf_Collapse_1_b5b98 m_onf_Collapse_1_bad34
  simp only [hn, if_false, w, at0, at1, bind_ok, and_self]
theorem fits0 (q1 : Nat) (q2 : Int) (q3 : List Int) (q4 : Int) (q5 : List Int) (q6 q7 q8 : Int) (q9 : List Int) (q10 q11 q12 : Int) (q13 : List Int) (q14 : Nat) (q15 : List Int) (q16 : Nat) :
    m_onf_Collapse_1_bad34 ([], q1, q2, q3, q4, q5, q6, q7, q8, q9, q10, q11, q12, q13, q14, q15, q16) = some true := rfl
theorem dec_fit (x y : Rw) : ((x.s == W (y.d * y.s)) && (x.t == W (y.d * y.t))) = decide (fitR x y) := by
  have : fitR x y ↔ (x.s = W (y.d * y.s) ∧ x.t = W (y.d * y.t)) := Iff.rfl
  by_cases h1 : x.s = W (y.d * y.s) <;> by_cases h2 : x.t = W (y.d * y.t) <;> simp [this, h1, h2]
theorem prW {A : List Rw} {x y : Rw} {B : List Rw} (hp : posR (A ++ x :: y :: B)) (h : prR (A ++ x :: y :: B) ≤ 200) : W (y.d * x.d) = x.d * y.d ∧ W (x.d * y.d) = x.d * y.d := by
  have hx := hp x (by simp)
  have hy := hp y (by simp)
  have h1 := mul_pos1 hx hy
  have hA : 1 ≤ prR A := prR_pos fun r hr => hp r (by simp [hr])
  have hB : 1 ≤ prR B := prR_pos fun r hr => hp r (by simp [hr])
  rw [pr_app, prR, prR, ← Int.mul_assoc x.d] at h
  have h2 : x.d * y.d * 1 ≤ x.d * y.d * prR B := Int.mul_le_mul_of_nonneg_left hB (by omega)
  have h3 : 1 * (x.d * y.d * prR B) ≤ prR A * (x.d * y.d * prR B) := Int.mul_le_mul_of_nonneg_right hA (by omega)
  have h4 : x.d * y.d ≤ 200 := by omega
  rw [Int.mul_comm y.d]
  exact ⟨W_ok (by omega) (by omega), W_ok (by omega) (by omega)⟩
theorem ct_nil (l : List Rw) : ctR false l = [] := rfl
theorem ct_map (l : List Rw) : ctR true l = l.map Rw.t := rfl
theorem join_ok (b : Bool) (q1 : Nat) (q2 : Int) (q4 : Nat) (q5 q6 q7 : Int) (q9 : Nat) (q10 q11 q12 : Int) (q14 q15 q16 : List Int) (A : List Rw) (x y : Rw) (B : List Rw) (hl : (A ++ x :: y :: B).length ≤ 100) (hp : posR (A ++ x :: y :: B)) (hpr : prR (A ++ x :: y :: B) ≤ 200)
    (c1 : (A ++ x :: y :: B).length ≤ q1) (c4 : (A ++ x :: y :: B).length ≤ q4) (c9 : b = true → (A ++ x :: y :: B).length ≤ q9) :
    m_onf_joined_b6e98 ((A ++ x :: y :: B).map Rw.d, q1, q2, (A ++ x :: y :: B).map Rw.s, q4, q5, q6, q7, ctR b (A ++ x :: y :: B), q9, q10, q11, q12, (A.length : Int), q14, q15, q16) =
      some ((A ++ ⟨x.d * y.d, y.s, y.t⟩ :: B).map Rw.d, (A ++ ⟨x.d * y.d, y.s, y.t⟩ :: B).map Rw.s, ctR b (A ++ ⟨x.d * y.d, y.s, y.t⟩ :: B)) := by
  have w : W ((A.length : Int) + 1) = ((A.length + 1 : Nat) : Int) := W_succ (by simp at hl; omega)
  have hw := (prW hp hpr).1
  have es : setM ((A ++ x :: y :: B).map Rw.d) ((A.length + 1 : Nat) : Int) (x.d * y.d) = some (A.map Rw.d ++ x.d :: (x.d * y.d) :: B.map Rw.d) := by
    rw [List.map_append, List.map_cons, List.map_cons]; exact set1 _ _ _ _ _ (by simp)
  have hg : guardM ((A.map Rw.d ++ x.d :: (x.d * y.d) :: B.map Rw.d).length = ((A ++ x :: y :: B).map Rw.d).length) = some () := if_pos (by simp)
  have d1 : delM (A.map Rw.d ++ x.d :: (x.d * y.d) :: B.map Rw.d) q1 (A.length : Int) ((A.length + 1 : Nat) : Int) = some (A.map Rw.d ++ (x.d * y.d) :: B.map Rw.d) := del0 _ _ _ _ (by simp) (by simp at hl ⊢; omega) (by simp at c1 ⊢; omega)
  have d2 : delM ((A ++ x :: y :: B).map Rw.s) q4 (A.length : Int) ((A.length + 1 : Nat) : Int) = some (A.map Rw.s ++ y.s :: B.map Rw.s) := by
    rw [List.map_append, List.map_cons, List.map_cons]; exact del0 _ _ _ _ (by simp) (by simp at hl ⊢; omega) (by simp at c4 ⊢; omega)
  unfold m_onf_joined_b6e98
  simp only [w, at0, at1, bind_ok, hw, es, hg, d1, d2]
  cases b with
  | false =>
    simp only [ct_nil, List.length_nil]
    simp
  | true =>
    have c9 := c9 rfl
    have d3 : delM ((A ++ x :: y :: B).map Rw.t) q9 (A.length : Int) ((A.length + 1 : Nat) : Int) = some (A.map Rw.t ++ y.t :: B.map Rw.t) := by
      rw [List.map_append, List.map_cons, List.map_cons]; exact del0 _ _ _ _ (by simp) (by simp at hl ⊢; omega) (by simp at c9 ⊢; omega)
    have h0 : (((A ++ x :: y :: B).map Rw.t).length : Int) > 0 := by simp; omega
    simp only [ct_map, h0, if_true, d3, bind_ok]
    simp
theorem coll_ok (b : Bool) (p0 : T_onf_Nest) (v2 v4 v6 : List Int) : ∀ (rp q : List Rw), (rp = [] ∨ q ≠ []) → (rp.reverse ++ q).length ≤ 100 → posR (rp.reverse ++ q) → prR (rp.reverse ++ q) ≤ 200 → (b = false → ∀ r ∈ rp.reverse ++ q, r.t = 0) →
    (rp.reverse ++ q).length ≤ v2.length → (rp.reverse ++ q).length ≤ v4.length → (b = true → (rp.reverse ++ q).length ≤ v6.length) →
    m_onf_Collapse_L1 (v4, p0, v2, v6, (rp.reverse ++ q).map Rw.d, (rp.reverse ++ q).map Rw.s, ctR b (rp.reverse ++ q), (rp.length : Int) - 1) = some ((colL rp q).map Rw.d, (colL rp q).map Rw.s, ctR b (colL rp q))
  | [], q, _, _, _, _, _, _, _, _ => by
    rw [m_onf_Collapse_L1]
    have : ¬ (((([] : List Rw).length : Int)) - 1 ≥ 0) := by simp
    simp only [this, if_false]
    rfl
  | x :: rp, [], h, _, _, _, _, _, _, _ => by rcases h with h | h <;> simp at h
  | x :: rp, y :: q, _, hl, hp, hpr, hz, c1, c2, c3 => by
    have e : (x :: rp).reverse ++ y :: q = rp.reverse ++ x :: y :: q := by simp
    rw [e] at hl hp hpr hz c1 c2 c3 ⊢
    have hrl : rp.reverse.length = rp.length := List.length_reverse
    have hk : (((x :: rp).length : Nat) : Int) - 1 = (rp.reverse.length : Int) := by simp
    have hrp : rp.reverse.length ≤ 100 := by simp at hl ⊢; omega
    have f1 := (fits1 v4.length p0.dims p0.write p0.steps p0.read.kind p0.read.buffer p0.read.base p0.read.strides p0.read.start p0.read.step p0.read.mod v2.length (ctR b (rp.reverse ++ x :: y :: q)) v6.length Rw.s rp.reverse x y q hrp).1
    have f2 : m_onf_Collapse_1_bad34 (ctR b (rp.reverse ++ x :: y :: q), v6.length, (rp.reverse.length : Int), p0.dims, p0.write, p0.steps, p0.read.kind, p0.read.buffer, p0.read.base, p0.read.strides, p0.read.start, p0.read.step, p0.read.mod, (rp.reverse ++ x :: y :: q).map Rw.d, v2.length, (rp.reverse ++ x :: y :: q).map Rw.s, v4.length) = some (x.t == W (y.d * y.t)) := by
      cases b with
      | false =>
        rw [ct_nil, fits0]
        have z1 := hz rfl x (by simp)
        have z2 := hz rfl y (by simp)
        rw [z1, z2, Int.mul_zero, W_zero]; rfl
      | true => exact (fits1 v6.length p0.dims p0.write p0.steps p0.read.kind p0.read.buffer p0.read.base p0.read.strides p0.read.start p0.read.step p0.read.mod v2.length ((rp.reverse ++ x :: y :: q).map Rw.s) v4.length Rw.t rp.reverse x y q hrp).2
    have w : W ((rp.reverse.length : Int) - 1) = (rp.length : Int) - 1 := by rw [W_ok (by omega) (by omega), hrl]
    have hge : (rp.reverse.length : Int) ≥ 0 := by omega
    rw [m_onf_Collapse_L1, hk]
    simp only [hge, if_true, f1, f2, bind_ok]
    have hb : (if (x.s == W (y.d * y.s)) = true then some (x.t == W (y.d * y.t)) else some false) = some (decide (fitR x y)) := by
      rw [← dec_fit]
      cases (x.s == W (y.d * y.s)) <;> rfl
    rw [hb, bind_ok, colL, stepR_cons]
    by_cases hf : fitR x y
    · have ej := join_ok b v2.length p0.write v4.length p0.read.kind p0.read.buffer p0.read.base v6.length p0.read.start p0.read.step p0.read.mod p0.dims p0.steps p0.read.strides rp.reverse x y q hl hp hpr c1 c2 c3
      have h1 : (rp.reverse ++ ⟨x.d * y.d, y.s, y.t⟩ :: q).length + 1 = (rp.reverse ++ x :: y :: q).length := by simp; omega
      have ih := coll_ok b p0 v2 v4 v6 rp (⟨x.d * y.d, y.s, y.t⟩ :: q) (Or.inr (by simp)) (by omega) (fun r hr => by
        rcases List.mem_append.1 hr with h | h
        · exact hp r (by simp only [List.mem_append]; exact Or.inl h)
        · rcases List.mem_cons.1 h with rfl | h
          · exact mul_pos1 (hp x (by simp)) (hp y (by simp))
          · exact hp r (by simp [h])) (by
          rw [pr_app, prR]; rw [pr_app, prR, prR, ← Int.mul_assoc x.d] at hpr; exact hpr) (fun hb r hr => by
        rcases List.mem_append.1 hr with h | h
        · exact hz hb r (by simp only [List.mem_append]; exact Or.inl h)
        · rcases List.mem_cons.1 h with rfl | h
          · exact hz hb y (by simp)
          · exact hz hb r (by simp [h])) (by omega) (by omega) (fun hb => by have := c3 hb; omega)
      rw [decide_eq_true hf, if_pos hf]
      simp only [if_true, ej, bind_ok, w, ih]
    · have ih := coll_ok b p0 v2 v4 v6 rp (x :: y :: q) (Or.inr (by simp)) hl hp hpr hz c1 c2 c3
      rw [decide_eq_false hf, if_neg hf]
      simp only [Bool.false_eq_true, if_false, w, ih]
end Go.Proofs.Try
namespace Go.Proofs.Try
open Go Go.Pm
set_option linter.unusedVariables false
set_option linter.unusedSimpArgs false
set_option maxRecDepth 2000
/-- a list without its element j -/
def er : List Int → Int → List Int
  | [], _ => []
  | x :: s, j => if j = 0 then er s (j - 1) else x :: er s (j - 1)
theorem er_neg : ∀ (s : List Int) (j : Int), j < 0 → er s j = s
  | [], _, _ => rfl
  | x :: s, j, h => by rw [er, if_neg (by omega), er_neg s (j - 1) (by omega)]
theorem er_at : ∀ (A : List Int) (x : Int) (B : List Int), er (A ++ x :: B) (A.length : Int) = A ++ B
  | [], x, B => by
    show er (x :: B) 0 = B
    rw [er, if_pos rfl, er_neg B _ (by omega)]
  | a :: A, x, B => by
    rw [List.cons_append, er, if_neg (by simp; omega)]
    have : (((a :: A).length : Nat) : Int) - 1 = (A.length : Int) := by simp
    rw [this, er_at A x B]; rfl
theorem drop_L1 (j : Int) : ∀ (s p o : List Int) (g : Nat), (p ++ s).length ≤ 1000 → o.length ≤ p.length → ∃ g', m_ref21_drop_b714d_L1 (p ++ s, j, g, o, (p.length : Int)) = some (g', o ++ er s (j - (p.length : Int)))
  | [], p, o, g, h1, h2 => by
    rw [m_ref21_drop_b714d_L1]
    simp only [List.append_nil, Int.lt_irrefl, if_false, er]
    exact ⟨_, rfl⟩
  | x :: s, p, o, g, h1, h2 => by
    rw [m_ref21_drop_b714d_L1]
    have w : W ((p.length : Int) + 1) = ((p ++ [x]).length : Int) := mid_W (Sm_of h1)
    have hj : j - ((p ++ [x]).length : Int) = j - (p.length : Int) - 1 := by simp; omega
    by_cases hd : (p.length : Int) ≠ j
    · obtain ⟨g', e⟩ := drop_L1 j s (p ++ [x]) (o ++ [x]) (gb g ([x] : List Int).isEmpty) (by simpa using h1) (by simp; omega)
      rw [← mid_app, hj] at e
      have ha : app 8 o [x] = some (o ++ [x]) := app8 (by simp at h1 ⊢; omega)
      simp only [mid_lt, if_true, mid_idx, bind_ok, w, hd, not_false_eq_true, ne_eq, ha, e]
      refine ⟨g', ?_⟩
      rw [er, if_neg (by omega)]; simp
    · obtain ⟨g', e⟩ := drop_L1 j s (p ++ [x]) o g (by simpa using h1) (by simp; omega)
      rw [← mid_app, hj] at e
      simp only [mid_lt, if_true, w, hd, if_false, e]
      refine ⟨g', ?_⟩
      rw [er, if_pos (by omega)]
theorem drop_ok (l : List Int) (j : Int) (h : l.length ≤ 1000) : ∃ g, m_ref21_drop_b714d (l, j) = some (g, er l j) := by
  obtain ⟨g, e⟩ := drop_L1 j l [] [] 0 (by simpa using h) (by simp)
  simp only [List.nil_append, List.length_nil, Int.natCast_zero, Int.sub_zero] at e
  unfold m_ref21_drop_b714d
  simp only [e, bind_ok]
  exact ⟨g, rfl⟩
theorem drop_map (f : Rw → Int) (A : List Rw) (x : Rw) (B : List Rw) (h : (A ++ x :: B).length ≤ 1000) : ∃ g, m_ref21_drop_b714d ((A ++ x :: B).map f, (A.length : Int)) = some (g, (A ++ B).map f) := by
  obtain ⟨g, e⟩ := drop_ok ((A ++ x :: B).map f) (A.length : Int) (by simpa using h)
  have := er_at (A.map f) (f x) (B.map f)
  rw [List.length_map] at this
  rw [List.map_append, List.map_cons, this] at e
  refine ⟨g, ?_⟩
  rw [List.map_append, List.map_cons, e, List.map_append]
theorem drop_ct (b : Bool) (A : List Rw) (x : Rw) (B : List Rw) (h : (A ++ x :: B).length ≤ 1000) : ∃ g, m_ref21_drop_b714d (ctR b (A ++ x :: B), (A.length : Int)) = some (g, ctR b (A ++ B)) := by
  cases b with
  | false => exact drop_ok [] _ (by simp)
  | true => exact drop_map Rw.t A x B h
theorem without_ok (b : Bool) (q1 q3 q4 q5 q7 q8 q9 : Int) (A : List Rw) (x : Rw) (B : List Rw) (h : (A ++ x :: B).length ≤ 1000) :
    m_ref21_without_b7c21 ((A ++ x :: B).map Rw.d, q1, (A ++ x :: B).map Rw.s, q3, q4, q5, ctR b (A ++ x :: B), q7, q8, q9, (A.length : Int)) = some ((A ++ B).map Rw.d, (A ++ B).map Rw.s, ctR b (A ++ B)) := by
  obtain ⟨g1, e1⟩ := drop_map Rw.d A x B h
  obtain ⟨g2, e2⟩ := drop_map Rw.s A x B h
  obtain ⟨g3, e3⟩ := drop_ct b A x B h
  unfold m_ref21_without_b7c21
  simp only [e1, e2, e3, bind_ok]
theorem keepR_app (a b : List Rw) : keepR (a ++ b) = keepR a ++ keepR b := List.filter_append _ _
theorem rfil_ok (b : Bool) (t : T_ref21_Nest) : ∀ (rp q : List Rw), (rp.reverse ++ q).length ≤ 100 →
    m_ref21_Collapse_L1 (t, (rp.reverse ++ q).map Rw.d, (rp.reverse ++ q).map Rw.s, ctR b (rp.reverse ++ q), (rp.length : Int) - 1) = some ((keepR rp.reverse ++ q).map Rw.d, (keepR rp.reverse ++ q).map Rw.s, ctR b (keepR rp.reverse ++ q))
  | [], q, _ => by
    rw [m_ref21_Collapse_L1]
    have : ¬ (((([] : List Rw).length : Int)) - 1 ≥ 0) := by simp
    simp only [this, if_false]
    rfl
  | x :: rp, q, hl => by
    have e : (x :: rp).reverse ++ q = rp.reverse ++ x :: q := by simp
    have ek : keepR (x :: rp).reverse ++ q = keepR rp.reverse ++ (keepR [x] ++ q) := by rw [List.reverse_cons, keepR_app, List.append_assoc]
    rw [e] at hl ⊢
    rw [ek]
    have hrl : rp.reverse.length = rp.length := List.length_reverse
    have hk : (((x :: rp).length : Nat) : Int) - 1 = (rp.reverse.length : Int) := by simp
    have hrp : rp.reverse.length ≤ 100 := by simp at hl ⊢; omega
    have w : W ((rp.reverse.length : Int) - 1) = (rp.length : Int) - 1 := by rw [W_ok (by omega) (by omega), hrl]
    have hge : (rp.reverse.length : Int) ≥ 0 := by omega
    have hw := without_ok b t.write t.read.kind t.read.buffer t.read.base t.read.start t.read.step t.read.mod rp.reverse x q (by omega)
    rw [m_ref21_Collapse_L1, hk]
    simp only [hge, if_true, at0, bind_ok]
    by_cases h1 : x.d = 1
    · have ih := rfil_ok b t rp q (by simp at hl ⊢; omega)
      have hx : keepR [x] = [] := by unfold keepR; simp [h1]
      rw [hx, List.nil_append]
      simp only [h1, if_true, hw, bind_ok, w, ih]
    · have ih := rfil_ok b t rp (x :: q) hl
      have hx : keepR [x] = [x] := by unfold keepR; simp [h1]
      rw [hx]
      simp only [h1, if_false, w, ih]
      rfl
theorem rcol_ok (t : T_ref21_Nest) : ∀ (rp q : List Rw), (rp = [] ∨ q ≠ []) → (rp.reverse ++ q).length ≤ 100 → posR (rp.reverse ++ q) → prR (rp.reverse ++ q) ≤ 200 → (bK t = false → ∀ r ∈ rp.reverse ++ q, r.t = 0) →
    m_ref21_Collapse_L2 (t, (rp.reverse ++ q).map Rw.d, (rp.reverse ++ q).map Rw.s, ctR (bK t) (rp.reverse ++ q), (rp.length : Int) - 1) = some ((colL rp q).map Rw.d, (colL rp q).map Rw.s, ctR (bK t) (colL rp q))
  | [], q, _, _, _, _, _ => by
    rw [m_ref21_Collapse_L2]
    have : ¬ (((([] : List Rw).length : Int)) - 1 ≥ 0) := by simp
    simp only [this, if_false]
    rfl
  | x :: rp, [], h, _, _, _, _ => by rcases h with h | h <;> simp at h
  | x :: rp, y :: q, _, hl, hp, hpr, hz => by
    have e : (x :: rp).reverse ++ y :: q = rp.reverse ++ x :: y :: q := by simp
    rw [e] at hl hp hpr hz ⊢
    have hrl : rp.reverse.length = rp.length := List.length_reverse
    have hk : (((x :: rp).length : Nat) : Int) - 1 = (rp.reverse.length : Int) := by simp
    have hrp : rp.reverse.length ≤ 100 := by simp at hl ⊢; omega
    have w : W ((rp.reverse.length : Int) - 1) = (rp.length : Int) - 1 := by rw [W_ok (by omega) (by omega), hrl]
    have w1 : W ((rp.reverse.length : Int) + 1) = ((rp.reverse.length + 1 : Nat) : Int) := W_succ (by omega)
    have hge : (rp.reverse.length : Int) ≥ 0 := by omega
    have hxy := (prW hp hpr).2
    have hw := without_ok (bK t) t.write t.read.kind t.read.buffer t.read.base t.read.start t.read.step t.read.mod rp.reverse x (y :: q) (by omega)
    rw [m_ref21_Collapse_L2, hk]
    have hb : (if x.s ≠ W (y.d * y.s) then some true else if t.read.kind ≠ 1 then idx (ctR (bK t) (rp.reverse ++ x :: y :: q)) (rp.reverse.length : Int) >>= fun v1215 => idx (ctR (bK t) (rp.reverse ++ x :: y :: q)) ((rp.reverse.length + 1 : Nat) : Int) >>= fun v1216 => some (v1215 != W (y.d * v1216)) else some false) = some (!(decide (fitR x y))) := by
      rw [← dec_fit]
      by_cases h1 : x.s = W (y.d * y.s)
      · by_cases hkd : t.read.kind = 1
        · have hbf : bK t = false := by unfold bK; rw [hkd]; rfl
          have z1 := hz hbf x (by simp)
          have z2 := hz hbf y (by simp)
          have ht : (x.t == W (y.d * y.t)) = true := by rw [z1, z2, Int.mul_zero, W_zero]; rfl
          rw [ht]
          simp [h1, hkd]
        · have hbt : bK t = true := decide_eq_true hkd
          rw [hbt, ct_map, at0, at1]
          simp only [bind_ok, h1, hkd, ne_eq, not_true_eq_false, not_false_eq_true, if_false, if_true, beq_self_eq_true, Bool.true_and]
          rfl
      · have : (x.s == W (y.d * y.s)) = false := beq_eq_false_iff_ne.2 h1
        rw [this]
        simp [h1]
    simp only [hge, if_true, w1, at0, at1, bind_ok]
    rw [hb, bind_ok, colL, stepR_cons]
    by_cases hf : fitR x y
    · have es : setM ((rp.reverse ++ y :: q).map Rw.d) (rp.reverse.length : Int) (x.d * y.d) = some ((rp.reverse ++ ⟨x.d * y.d, y.s, y.t⟩ :: q).map Rw.d) := by
        rw [List.map_append, List.map_cons, List.map_append, List.map_cons]; exact set0 _ _ _ _ (by simp)
      have hg : guardM (((rp.reverse ++ ⟨x.d * y.d, y.s, y.t⟩ :: q).map Rw.d).length = ((rp.reverse ++ y :: q).map Rw.d).length) = some () := if_pos (by simp)
      have e1 : (rp.reverse ++ y :: q).map Rw.s = (rp.reverse ++ (⟨x.d * y.d, y.s, y.t⟩ : Rw) :: q).map Rw.s := by simp
      have e2 : ctR (bK t) (rp.reverse ++ y :: q) = ctR (bK t) (rp.reverse ++ (⟨x.d * y.d, y.s, y.t⟩ : Rw) :: q) := by unfold ctR; simp
      have h1 : (rp.reverse ++ (⟨x.d * y.d, y.s, y.t⟩ : Rw) :: q).length + 1 = (rp.reverse ++ x :: y :: q).length := by simp; omega
      have ih := rcol_ok t rp (⟨x.d * y.d, y.s, y.t⟩ :: q) (Or.inr (by simp)) (by omega) (fun r hr => by
        rcases List.mem_append.1 hr with h | h
        · exact hp r (by simp only [List.mem_append]; exact Or.inl h)
        · rcases List.mem_cons.1 h with rfl | h
          · exact mul_pos1 (hp x (by simp)) (hp y (by simp))
          · exact hp r (by simp [h])) (by
          rw [pr_app, prR]; rw [pr_app, prR, prR, ← Int.mul_assoc x.d] at hpr; exact hpr) (fun hb r hr => by
        rcases List.mem_append.1 hr with h | h
        · exact hz hb r (by simp only [List.mem_append]; exact Or.inl h)
        · rcases List.mem_cons.1 h with rfl | h
          · exact hz hb y (by simp)
          · exact hz hb r (by simp [h]))
      rw [decide_eq_true hf, if_pos hf]
      rw [e1, e2] at hw
      simp only [Bool.not_true, Bool.false_eq_true, if_false, hw, bind_ok, at0, hxy, es, hg, w, ih]
    · have ih := rcol_ok t rp (x :: y :: q) (Or.inr (by simp)) hl hp hpr hz
      rw [decide_eq_false hf, if_neg hf]
      simp only [Bool.not_false, if_true, w, ih]
end Go.Proofs.Try
namespace Go.Proofs.Try
open Go Go.Pm
set_option linter.unusedVariables false
set_option linter.unusedSimpArgs false
set_option maxRecDepth 2000
theorem snoc_of (K : List Rw) (h : K ≠ []) : ∃ rp y, K = rp.reverse ++ [y] ∧ rp.length + 1 = K.length ∧ colL rp [y] = colR K := by
  have e := List.dropLast_concat_getLast h
  refine ⟨K.dropLast.reverse, K.getLast h, by rw [List.reverse_reverse, e], ?_, ?_⟩
  · have := congrArg List.length e
    simp at this ⊢
    omega
  · have := colL_col K.dropLast.reverse [K.getLast h]
    rw [List.reverse_reverse, e] at this
    exact this
theorem sel_ct (b : Bool) (l : List Rw) : selL (ctR b l) (l.map Rw.d) = ctR b (keepR l) := by
  cases b with
  | false => exact selL_nil _
  | true => exact selL_keep Rw.t l
theorem ct_len (b : Bool) (l : List Rw) : (ctR b l).length ≤ l.length := by cases b <;> simp [ctR]
theorem zero_keep {l : List Rw} (h : ∀ r ∈ l, r.t = 0) : ∀ r ∈ keepR l, r.t = 0 := fun r hr => h r (List.mem_filter.1 hr).1
theorem prog_coll (t : T_ref21_Nest) (l : List Rw) (hl : l.length ≤ 6) (hp : posR l) (hpr : prR l ≤ 200) (hz : bK t = false → ∀ r ∈ l, r.t = 0) : m_onf_Collapse (onfN (setN t l)) = some (onfN (setN t (colR (keepR l)))) := by
  have hk := len_keep l
  obtain ⟨g1, e1⟩ := selD_ok (l := l.map Rw.d) (by simp; omega)
  obtain ⟨g2, e2⟩ := sel_ok (l := l.map Rw.s) (ds := l.map Rw.d) (by simp) (by simp; omega)
  obtain ⟨g3, e3⟩ := sel_ok (l := ctR (bK t) l) (ds := l.map Rw.d) (by have := ct_len (bK t) l; simpa using this) (by have := ct_len (bK t) l; omega)
  rw [selL_keep] at e1 e2
  rw [sel_ct] at e3
  have key : m_onf_Collapse_L1 ((keepR l).map Rw.s, onfN (setN t l), (keepR l).map Rw.d, ctR (bK t) (keepR l), (keepR l).map Rw.d, (keepR l).map Rw.s, ctR (bK t) (keepR l), W ((((keepR l).map Rw.d).length : Int) - 2)) =
      some ((colR (keepR l)).map Rw.d, (colR (keepR l)).map Rw.s, ctR (bK t) (colR (keepR l))) := by
    rw [List.length_map, W_ok (by omega) (by omega)]
    by_cases h0 : keepR l = []
    · rw [h0, m_onf_Collapse_L1]
      simp
      exact ⟨rfl, rfl⟩
    · obtain ⟨rp, y, ek, el, ec⟩ := snoc_of (keepR l) h0
      have := coll_ok (bK t) (onfN (setN t l)) ((keepR l).map Rw.d) ((keepR l).map Rw.s) (ctR (bK t) (keepR l)) rp [y] (Or.inr (by simp)) (by rw [← ek]; omega) (by rw [← ek]; exact pos_keep hp) (by rw [← ek, pr_keep]; exact hpr) (fun hb => by rw [← ek]; exact zero_keep (hz hb))
        (by rw [← ek]; simp) (by rw [← ek]; simp) (fun hb => by rw [← ek, hb]; simp [ctR])
      rw [← ek, ec, show (rp.length : Int) - 1 = ((keepR l).length : Int) - 2 by omega] at this
      exact this
  unfold m_onf_Collapse
  have d1 : (onfN (setN t l)).dims = l.map Rw.d := rfl
  have d2 : (onfN (setN t l)).steps = l.map Rw.s := rfl
  have d3 : (onfN (setN t l)).read.strides = ctR (bK t) l := rfl
  simp only [d1, d2, d3]
  simp only [e1, e2, e3, bind_ok, key]
  rfl
theorem ref_coll (t : T_ref21_Nest) (l : List Rw) (hl : l.length ≤ 6) (hp : posR l) (hpr : prR l ≤ 200) (hz : bK t = false → ∀ r ∈ l, r.t = 0) : m_ref21_Collapse (setN t l) = some (setN t (colR (keepR l))) := by
  have hk := len_keep l
  have k1 : m_ref21_Collapse_L1 (setN t l, l.map Rw.d, l.map Rw.s, ctR (bK t) l, W (((l.map Rw.d).length : Int) - 1)) = some ((keepR l).map Rw.d, (keepR l).map Rw.s, ctR (bK t) (keepR l)) := by
    rw [List.length_map, W_ok (by omega) (by omega)]
    have := rfil_ok (bK t) (setN t l) l.reverse [] (by simp; omega)
    simp only [List.reverse_reverse, List.append_nil, List.length_reverse] at this
    exact this
  have k2 : m_ref21_Collapse_L2 (setN t l, (keepR l).map Rw.d, (keepR l).map Rw.s, ctR (bK t) (keepR l), W ((((keepR l).map Rw.d).length : Int) - 2)) = some ((colR (keepR l)).map Rw.d, (colR (keepR l)).map Rw.s, ctR (bK t) (colR (keepR l))) := by
    rw [List.length_map, W_ok (by omega) (by omega)]
    by_cases h0 : keepR l = []
    · rw [h0, m_ref21_Collapse_L2]
      simp
      exact ⟨rfl, rfl⟩
    · obtain ⟨rp, y, ek, el, ec⟩ := snoc_of (keepR l) h0
      have := rcol_ok (setN t l) rp [y] (Or.inr (by simp)) (by rw [← ek]; omega) (by rw [← ek]; exact pos_keep hp) (by rw [← ek, pr_keep]; exact hpr) (fun hb => by rw [← ek]; exact zero_keep (hz hb))
      rw [← ek, ec, show (rp.length : Int) - 1 = ((keepR l).length : Int) - 2 by omega] at this
      exact this
  unfold m_ref21_Collapse
  have d1 : (setN t l).dims = l.map Rw.d := rfl
  have d2 : (setN t l).steps = l.map Rw.s := rfl
  have d3 : (setN t l).read.strides = ctR (bK t) l := rfl
  simp only [d1, d2, d3]
  simp only [k1, bind_ok, k2]
  rfl
theorem same_L1 (p0 : T_ref21_Nest) (v6 : T_onf_Nest) (v7 : T_ref21_Nest) (l : List T_ref21_Event) (hl : l.length ≤ 1000) : ∀ (s p : List T_ref21_Event), l = p ++ s → m_law21_OnfCollapses_L1 (l, l, p0, v6, v7, (p.length : Int)) = some (.inr ())
  | [], p, h => by
    rw [m_law21_OnfCollapses_L1]
    rw [List.append_nil] at h
    subst h
    simp only [Int.lt_irrefl, if_false]
  | x :: s, p, h => by
    rw [m_law21_OnfCollapses_L1]
    have h1 : ((p.length : Int) < (l.length : Int)) := by rw [h]; exact mid_lt
    have e1 : idx l (p.length : Int) = some x := by rw [h]; exact mid_idx
    have w : W ((p.length : Int) + 1) = ((p ++ [x]).length : Int) := by rw [W_ok (by omega) (by omega)]; simp
    have e := same_L1 p0 v6 v7 l hl s (p ++ [x]) (by rw [h, mid_app])
    simp only [h1, if_true, e1, bind_ok, beq_self_eq_true, Bool.and_self, Bool.true_eq_false, if_false, w, e]
def onfN' (t : T_ref21_Nest) : T_onf_Nest := onfN t
theorem OnfCollapses_ok (t : T_ref21_Nest) (hd : t.dims.length ≤ 9223372036854775807) (hs : t.read.strides.length ≤ 9223372036854775807) : m_law21_OnfCollapses t = some true := by
  obtain ⟨b, e, hb⟩ := small_ok t hd hs
  have e' : m_ref21_Small ((⟨t.dims, t.write, t.steps, (⟨t.read.kind, t.read.buffer, t.read.base, t.read.strides, t.read.start, t.read.step, t.read.mod⟩ : T_ref17_Access)⟩ : T_ref21_Nest), 200) = some b := e
  have ea : m_law21_awake () = some true := rfl
  unfold m_law21_OnfCollapses
  simp only [ea, bind_ok, Bool.true_eq_false, if_false, e']
  cases b with
  | false => rfl
  | true =>
    have ht := hb rfl
    have hrow := setN_rows ht
    have l6 : (rowsN t).length ≤ 6 := by rw [len_rows ht]; exact ht.len
    have hp := pos_rows ht
    have hpr := pr_rows ht
    have hz := fun h => zero_rows ht h
    have c1 := prog_coll t (rowsN t) l6 hp hpr hz
    have c2 := ref_coll t (rowsN t) l6 hp hpr hz
    rw [hrow] at c1 c2
    have hrp : posR (colR (keepR (rowsN t))) := pos_col _ (pos_keep hp)
    have hrr : prR (colR (keepR (rowsN t))) ≤ 200 := by rw [pr_col, pr_keep]; exact hpr
    have hrl : (colR (keepR (rowsN t))).length ≤ 6 := by have := len_col (keepR (rowsN t)); have := len_keep (rowsN t); omega
    have hev : (allL (setN t (colR (keepR (rowsN t)))).dims).map (evF (setN t (colR (keepR (rowsN t))))) = (allL t.dims).map (evF t) := by
      have h1 := events_set t (rowsN t)
      have h2 := events_set t (colR (keepR (rowsN t)))
      rw [hrow] at h1
      rw [h2, h1, evW_col _ (pos_keep hp), evW_keep]
    have hsm := small_set ht hrl hrp hrr
    have c3 : m_onf_Collapse (onfN (setN t (colR (keepR (rowsN t))))) = some (onfN (setN t (colR (keepR (rowsN t))))) := by
      have h0 : bK t = false → ∀ r ∈ colR (keepR (rowsN t)), r.t = 0 := fun hb r hr => by
        have hk : (setN t (colR (keepR (rowsN t)))).read.kind = 1 := by unfold bK at hb; simpa [setN] using hb
        have zc : ∀ (l : List Rw), (∀ r ∈ l, r.t = 0) → ∀ r ∈ colR l, r.t = 0 := by
          intro l
          induction l with
          | nil => intro _ r h; cases h
          | cons x l ih =>
            intro h r hr
            have ihl := ih fun r hr => h r (List.mem_cons_of_mem _ hr)
            have hx := h x (List.mem_cons_self ..)
            have hr' : r ∈ stepR x (colR l) := hr
            cases ec : colR l with
            | nil =>
              rw [ec] at hr'
              rw [List.mem_singleton.1 hr']; exact hx
            | cons y q =>
              rw [ec] at hr' ihl
              rw [stepR_cons] at hr'
              split at hr'
              · rcases List.mem_cons.1 hr' with rfl | hr'
                · exact ihl y (List.mem_cons_self ..)
                · exact ihl r (List.mem_cons_of_mem _ hr')
              · rcases List.mem_cons.1 hr' with rfl | hr'
                · exact hx
                · exact ihl r hr'
        exact zc _ (zero_keep (hz hb)) r hr
      have := prog_coll t (colR (keepR (rowsN t))) hrl hrp hrr h0
      rw [col_again hp] at this
      exact this
    generalize setN t (colR (keepR (rowsN t))) = C at c1 c2 c3 hev hsm
    have lc := hsm.len
    have lc2 := hsm.steps
    have lc3 : C.read.strides.length ≤ 1000 := by have := hsm.acc; unfold accF at this; omega
    have hsb : sameB C C = true := by simp [sameB]
    have s1 : m_ref21_Same (C, C) = some true := by rw [rSame_ok C C (by omega) (by omega) lc3, hsb]
    have s2 : m_onf_Same (onfN C, onfN C) = some true := by rw [gSame_ok C C (by omega) (by omega) lc3, hsb]
    have v1 : m_ref21_Events t = some ((allL t.dims).map (evF t)) := events_ok t ht
    have v2 : m_ref21_Events C = some ((allL t.dims).map (evF t)) := by rw [events_ok C hsm, hev]
    have hal : (allL t.dims).length ≤ 1000 := by rw [allL_len ht.pos]; have := ht.prod; omega
    have lp := same_L1 t (onfN C) C ((allL t.dims).map (evF t)) (by simpa using hal) ((allL t.dims).map (evF t)) [] rfl
    simp only [List.length_nil, Int.natCast_zero] at lp
    have n1 : m_law21_Nest t = some (onfN t) := rfl
    have b1 : m_law21_Back (onfN C) = some C := rfl
    have eta : ∀ n : T_onf_Nest, (⟨n.dims, n.write, n.steps, (⟨n.read.kind, n.read.buffer, n.read.base, n.read.strides, n.read.start, n.read.step, n.read.mod⟩ : T_access_Access)⟩ : T_onf_Nest) = n := fun _ => rfl
    have eta2 : ∀ n : T_ref21_Nest, (⟨n.dims, n.write, n.steps, (⟨n.read.kind, n.read.buffer, n.read.base, n.read.strides, n.read.start, n.read.step, n.read.mod⟩ : T_ref17_Access)⟩ : T_ref21_Nest) = n := fun _ => rfl
    simp only [Bool.not_true, Bool.false_eq_true, Bool.true_eq_false, if_false, n1, bind_ok, eta, eta2, c1, c2, b1, s1, c3, s2, v1, v2, ne_eq, not_true_eq_false, lp]
end Go.Proofs.Try
namespace Go.Proofs.Try
open Go Go.Pm
set_option linter.unusedVariables false
set_option linter.unusedSimpArgs false
set_option maxHeartbeats 2000000
set_option maxRecDepth 2000
theorem ua3 : prog.underlying 3 = some (TypeDesc.int IntKind.i64) := by kernel_rfl
theorem ua22 : prog.underlying 22 = some (TypeDesc.slice 3) := by kernel_rfl
theorem ua44 : prog.underlying 44 = some (TypeDesc.struct { toList := [{ name := "Kind", type := 3, offset := 0, embedded := false, tag := "", pkgPath := "", byteOffset := 0 }, { name := "Buffer", type := 3, offset := 1, embedded := false, tag := "", pkgPath := "", byteOffset := 8 }, { name := "Base", type := 3, offset := 2, embedded := false, tag := "", pkgPath := "", byteOffset := 16 }, { name := "Strides", type := 22, offset := 3, embedded := false, tag := "", pkgPath := "", byteOffset := 24 }, { name := "Start", type := 3, offset := 4, embedded := false, tag := "", pkgPath := "", byteOffset := 48 }, { name := "Step", type := 3, offset := 5, embedded := false, tag := "", pkgPath := "", byteOffset := 56 }, { name := "Mod", type := 3, offset := 6, embedded := false, tag := "", pkgPath := "", byteOffset := 64 }] }) := by kernel_rfl
theorem ua46 : prog.underlying 46 = some (TypeDesc.struct { toList := [{ name := "Dims", type := 22, offset := 0, embedded := false, tag := "", pkgPath := "", byteOffset := 0 }, { name := "Write", type := 3, offset := 1, embedded := false, tag := "", pkgPath := "", byteOffset := 24 }, { name := "Steps", type := 22, offset := 2, embedded := false, tag := "", pkgPath := "", byteOffset := 32 }, { name := "Read", type := 44, offset := 3, embedded := false, tag := "", pkgPath := "", byteOffset := 56 }] }) := by kernel_rfl
theorem ua4 : prog.underlying 4 = some TypeDesc.bool := by kernel_rfl
theorem exists_map {α β : Type} {f : β → α} {p : β → Prop} : ∀ {L : List α}, (∀ x ∈ L, ∃ y, x = f y ∧ p y) → ∃ l : List β, L = l.map f ∧ ∀ y ∈ l, p y
  | [], _ => ⟨[], rfl, fun y h => by cases h⟩
  | x :: L, h => by
    obtain ⟨y, rfl, hy⟩ := h x (List.mem_cons_self ..)
    obtain ⟨l, rfl, hl⟩ := exists_map (fun x hx => h x (List.mem_cons_of_mem _ hx))
    exact ⟨y :: l, rfl, fun z hz => by
      rcases List.mem_cons.1 hz with rfl | hz
      · exact hy
      · exact hl z hz⟩
variable {B : Nat} {n : Nat} {cs : List Dat}
theorem tc3 (h : TyC prog B n 3 cs) : ∃ m : Int, cs = [(intD m)] ∧ ((-9223372036854775808) ≤ m ∧ m ≤ 9223372036854775807) := by
  cases n with
  | zero => exact h.elim
  | succ n =>
    simp only [TyC, ua3] at h
    obtain ⟨m, rfl, hm⟩ := h
    refine ⟨m, rfl, ?_⟩
    simpa [Lit.wf, IntKind.min, IntKind.max, IntKind.signed, IntKind.bits] using hm
def ok22 (B : Nat) (x : (List Int)) : Prop := x.length ≤ B ∧ ∀ m ∈ x, ((-9223372036854775808) ≤ m ∧ m ≤ 9223372036854775807)
theorem tc22 (h : TyC prog B n 22 cs) : ∃ l : (List Int), cs = [.lst ((List.map intD) l)] ∧ ok22 B l := by
  cases n with
  | zero => exact h.elim
  | succ n =>
    simp only [TyC, ua22] at h
    obtain ⟨L, rfl, hl, hx⟩ := h
    obtain ⟨l, rfl, hm⟩ := exists_map (f := fun m => [(intD m)]) (p := fun m => ((-9223372036854775808) ≤ m ∧ m ≤ 9223372036854775807)) (fun x hx' => tc3 (hx x hx'))
    refine ⟨l, ?_, by simpa using hl, hm⟩
    have e : (l.map (fun m => [(intD m)])).map (elemD prog 3) = l.map intD := by
      rw [List.map_map]; exact List.map_congr_left (fun m _ => by simp only [Function.comp_apply]; simp [elemD, aggB, ua3])
    rw [e]
structure ok44 (B : Nat) (x : T_ref17_Access) : Prop where
  kind : ((-9223372036854775808) ≤ x.kind ∧ x.kind ≤ 9223372036854775807)
  buffer : ((-9223372036854775808) ≤ x.buffer ∧ x.buffer ≤ 9223372036854775807)
  base : ((-9223372036854775808) ≤ x.base ∧ x.base ≤ 9223372036854775807)
  strides : (ok22 B x.strides)
  start : ((-9223372036854775808) ≤ x.start ∧ x.start ≤ 9223372036854775807)
  step : ((-9223372036854775808) ≤ x.step ∧ x.step ≤ 9223372036854775807)
  mod : ((-9223372036854775808) ≤ x.mod ∧ x.mod ≤ 9223372036854775807)
theorem tc44 (h : TyC prog B n 44 cs) : ∃ x : T_ref17_Access, cs = [(intD x.kind), (intD x.buffer), (intD x.base), (.lst ((List.map intD) x.strides)), (intD x.start), (intD x.step), (intD x.mod)] ∧ ok44 B x := by
  cases n with
  | zero => exact h.elim
  | succ n =>
    simp only [TyC, ua44, List.foldr] at h
    obtain ⟨_, _, rfl, h0, _, _, rfl, h1, _, _, rfl, h2, _, _, rfl, h3, _, _, rfl, h4, _, _, rfl, h5, _, _, rfl, h6, rfl⟩ := h
    obtain ⟨m0, rfl, i0⟩ := tc3 h0
    obtain ⟨m1, rfl, i1⟩ := tc3 h1
    obtain ⟨m2, rfl, i2⟩ := tc3 h2
    obtain ⟨m3, rfl, i3⟩ := tc22 h3
    obtain ⟨m4, rfl, i4⟩ := tc3 h4
    obtain ⟨m5, rfl, i5⟩ := tc3 h5
    obtain ⟨m6, rfl, i6⟩ := tc3 h6
    exact ⟨⟨m0, m1, m2, m3, m4, m5, m6⟩, rfl, i0, i1, i2, i3, i4, i5, i6⟩
structure ok46 (B : Nat) (x : T_ref21_Nest) : Prop where
  dims : (ok22 B x.dims)
  write : ((-9223372036854775808) ≤ x.write ∧ x.write ≤ 9223372036854775807)
  steps : (ok22 B x.steps)
  read : (ok44 B x.read)
theorem tc46 (h : TyC prog B n 46 cs) : ∃ x : T_ref21_Nest, cs = [(.lst ((List.map intD) x.dims)), (intD x.write), (.lst ((List.map intD) x.steps)), (intD x.read.kind), (intD x.read.buffer), (intD x.read.base), (.lst ((List.map intD) x.read.strides)), (intD x.read.start), (intD x.read.step), (intD x.read.mod)] ∧ ok46 B x := by
  cases n with
  | zero => exact h.elim
  | succ n =>
    simp only [TyC, ua46, List.foldr] at h
    obtain ⟨_, _, rfl, h0, _, _, rfl, h1, _, _, rfl, h2, _, _, rfl, h3, rfl⟩ := h
    obtain ⟨m0, rfl, i0⟩ := tc22 h0
    obtain ⟨m1, rfl, i1⟩ := tc3 h1
    obtain ⟨m2, rfl, i2⟩ := tc22 h2
    obtain ⟨m3, rfl, i3⟩ := tc44 h3
    exact ⟨⟨m0, m1, m2, m3⟩, rfl, i0, i1, i2, i3⟩
theorem ty46 {d : Dat} (h : TyA prog B 46 d) : ∃ m : T_ref21_Nest, d = (T_ref21_Nest.toD m) ∧ (ok46 B m) := by
  obtain ⟨n, cs, h, hd⟩ := h
  obtain ⟨m, rfl, hm⟩ := tc46 h
  exact ⟨m, by rw [hd]; simp [elemD, aggB, ua46]; rfl, hm⟩
def argTs : List TypeId := [3, 22, 44, 46, 4]
theorem argTs_closed : closedTs prog argTs = true := by kernel_rfl
theorem laidOut : laidOutB prog = true := by kernel_rfl
theorem summ : SummOK prog env := fun f s h => by cases h
theorem mixed : prog.follows .mixedOrders = true := by kernel_rfl
/-- a call that comes to a value keeps it in the model -/
theorem pure_of {f : FuncId} {dss : List Dat} {p : PV} (ho : p.out = true) (h : PC prog env f (dss.map .dat) [] p []) : PureCall prog f dss p := by
  obtain ⟨N, hN⟩ := h
  exact pure_sound summ mixed (hN N (Nat.le_refl _)) ho
end Go.Proofs.Try
