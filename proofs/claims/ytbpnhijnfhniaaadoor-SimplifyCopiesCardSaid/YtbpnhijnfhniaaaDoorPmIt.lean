/-
  The pure machine: what an iterator's code comes to, whatever the fuel, if it is enough.
-/
import Derived.Test.YtbpnhijnfhniaaaDoorPmOp
namespace Go.Pm
open Go
set_option linter.unusedVariables false

section
variable {σ : Type} (P : Program) (E : Env) (Y : Nat → Nat → List Dat → σ → Option (Bool × σ))

/-- a yield comes to (b, s') -/
def YE (ds : List Dat) (s : σ) (b : Bool) (s' : σ) : Prop := ∃ N, ∀ k n, N ≤ k → N ≤ n → Y k n ds s = some (b, s')
def IR (hn : Hint) (c : Code) (is : ISt σ) (Q : Ex → ISt σ → Prop) : Prop :=
  ∃ e is', (∃ N, ∀ k n n', N ≤ k → N ≤ n → N ≤ n' → icode P (pfun P E k) hn (Y k n) n' c is = some (e, is')) ∧ Q e is'
def IRL (hn : Hint) (b : Code) (h0 : Nat) (is : ISt σ) (Q : Ex → ISt σ → Prop) : Prop :=
  ∃ e is', (∃ N, ∀ k n n', N ≤ k → N ≤ n → N ≤ n' → icode.iloop P (pfun P E k) hn (Y k n) b h0 n' is = some (e, is')) ∧ Q e is'
def IOps (hn : Hint) (r : Nat) (ops : Array Oper) (i : Nat) (os : List Oper) (is : ISt σ) (Q : ISt σ → Prop) : Prop :=
  ∃ is', (∃ N, ∀ k n, N ≤ k → N ≤ n → iopsFrom P (pfun P E k) hn (Y k n) r ops i os is = some is') ∧ Q is'
end

section
variable {σ : Type} {P : Program} {E : Env} {Y : Nat → Nat → List Dat → σ → Option (Bool × σ)} {hn : Hint} {c a b : Code} {is : ISt σ} {Q Q' : Ex → ISt σ → Prop}

theorem IR.mono (h : IR P E Y hn c is Q) (hq : ∀ e s, Q e s → Q' e s) : IR P E Y hn c is Q' := let ⟨e, s, h1, h2⟩ := h; ⟨e, s, h1, hq e s h2⟩
theorem IR_eq {is' : ISt σ} (h : is = is') (k : IR P E Y hn c is' Q) : IR P E Y hn c is Q := h ▸ k
theorem IR_skip (h : Q .normal is) : IR P E Y hn .skip is Q := ⟨_, _, ⟨1, fun k n n' _ _ hn => by cases n' with | zero => omega | succ n' => rfl⟩, h⟩
theorem IR_exit {id : Nat} (h : Q (.exit id) is) : IR P E Y hn (.exit id) is Q := ⟨_, _, ⟨1, fun k n n' _ _ hn => by cases n' with | zero => omega | succ n' => rfl⟩, h⟩
theorem IR_ret (h : Q .ret is) : IR P E Y hn .ret is Q := ⟨_, _, ⟨1, fun k n n' _ _ hn => by cases n' with | zero => omega | succ n' => rfl⟩, h⟩
theorem IR_seq (h : IR P E Y hn a is fun e s => match e with | .normal => IR P E Y hn b s Q | e => Q e s) : IR P E Y hn (.seq a b) is Q := by
  obtain ⟨e, s, ⟨N, h1⟩, h2⟩ := h
  cases e with
  | normal =>
    obtain ⟨e', s', ⟨N', h3⟩, h4⟩ := h2
    refine ⟨e', s', ⟨max N N' + 1, fun k n n' hk hn hn' => ?_⟩, h4⟩
    cases n' with
    | zero => omega
    | succ n' => simp only [icode]; rw [h1 k n n' (by omega) (by omega) (by omega)]; exact h3 k n n' (by omega) (by omega) (by omega)
  | exit id =>
    refine ⟨_, s, ⟨N + 1, fun k n n' hk hn hn' => ?_⟩, h2⟩
    cases n' with
    | zero => omega
    | succ n' => simp only [icode]; rw [h1 k n n' (by omega) (by omega) (by omega)]
  | ret =>
    refine ⟨_, s, ⟨N + 1, fun k n n' hk hn hn' => ?_⟩, h2⟩
    cases n' with
    | zero => omega
    | succ n' => simp only [icode]; rw [h1 k n n' (by omega) (by omega) (by omega)]
theorem IR_cond {x : Operand} {t : Bool} (hx : ev is.st.slots x = boolPV t) (h1 : t = true → IR P E Y hn a is Q) (h2 : t = false → IR P E Y hn b is Q) : IR P E Y hn (.cond x a b) is Q := by
  cases t with
  | true =>
    obtain ⟨e, s, ⟨N, h1⟩, h2⟩ := h1 rfl
    refine ⟨e, s, ⟨N + 1, fun k n n' hk hn hn' => ?_⟩, h2⟩
    cases n' with
    | zero => omega
    | succ n' => simp only [icode, hx, boolPV, boolOf]; exact h1 k n n' (by omega) (by omega) (by omega)
  | false =>
    obtain ⟨e, s, ⟨N, h1⟩, h2⟩ := h2 rfl
    refine ⟨e, s, ⟨N + 1, fun k n n' hk hn hn' => ?_⟩, h2⟩
    cases n' with
    | zero => omega
    | succ n' => simp only [icode, hx, boolPV, boolOf]; exact h1 k n n' (by omega) (by omega) (by omega)
theorem IR_true {x : Operand} (hx : ev is.st.slots x = boolPV true) (h : IR P E Y hn a is Q) : IR P E Y hn (.cond x a b) is Q := IR_cond hx (fun _ => h) (fun h => by cases h)
theorem IR_false {x : Operand} (hx : ev is.st.slots x = boolPV false) (h : IR P E Y hn b is Q) : IR P E Y hn (.cond x a b) is Q := IR_cond hx (fun h => by cases h) (fun _ => h)
theorem IR_if {x : Operand} {p : Prop} [Decidable p] (hx : ev is.st.slots x = boolPV (decide p)) (h1 : p → IR P E Y hn a is Q) (h2 : ¬ p → IR P E Y hn b is Q) : IR P E Y hn (.cond x a b) is Q :=
  IR_cond hx (fun h => h1 (of_decide_eq_true h)) (fun h => h2 (of_decide_eq_false h))
theorem IR_block {id : Nat} (h : IR P E Y hn b is fun e s => match e with | .exit id' => if id' = id then Q .normal s else Q (.exit id') s | e => Q e s) : IR P E Y hn (.block id b) is Q := by
  obtain ⟨e, s, ⟨N, h1⟩, h2⟩ := h
  cases e with
  | exit id' =>
    by_cases hid : id' = id
    · simp only [hid, if_true] at h2
      refine ⟨_, s, ⟨N + 1, fun k n n' hk hn hn' => ?_⟩, h2⟩
      cases n' with
      | zero => omega
      | succ n' => simp only [icode]; rw [h1 k n n' (by omega) (by omega) (by omega)]; simp [hid]
    · simp only [hid, if_false] at h2
      refine ⟨_, s, ⟨N + 1, fun k n n' hk hn hn' => ?_⟩, h2⟩
      cases n' with
      | zero => omega
      | succ n' => simp only [icode]; rw [h1 k n n' (by omega) (by omega) (by omega)]; simp [hid]
  | normal =>
    refine ⟨_, s, ⟨N + 1, fun k n n' hk hn hn' => ?_⟩, h2⟩
    cases n' with
    | zero => omega
    | succ n' => simp only [icode]; rw [h1 k n n' (by omega) (by omega) (by omega)]
  | ret =>
    refine ⟨_, s, ⟨N + 1, fun k n n' hk hn hn' => ?_⟩, h2⟩
    cases n' with
    | zero => omega
    | succ n' => simp only [icode]; rw [h1 k n n' (by omega) (by omega) (by omega)]
theorem IR_loop (h : IRL P E Y hn b is.st.heap.length is Q) : IR P E Y hn (.loop b) is Q := by
  obtain ⟨e, s, ⟨N, h1⟩, h2⟩ := h
  refine ⟨e, s, ⟨N + 1, fun k n n' hk hn hn' => ?_⟩, h2⟩
  cases n' with
  | zero => omega
  | succ n' => simp only [icode]; exact h1 k n n' (by omega) (by omega) (by omega)
theorem IRL_step {h0 : Nat} (h : IR P E Y hn b ⟨prune h0 ((firstRegion b).bind hn.keepAt) is.st, keptY ((firstRegion b).bind hn.keepAt) is.ys, is.out⟩ fun e s => match e with | .normal => IRL P E Y hn b h0 s Q | e => Q e s) : IRL P E Y hn b h0 is Q := by
  obtain ⟨e, s, ⟨N, h1⟩, h2⟩ := h
  cases e with
  | normal =>
    obtain ⟨e', s', ⟨N', h3⟩, h4⟩ := h2
    refine ⟨e', s', ⟨max N N' + 1, fun k n n' hk hn hn' => ?_⟩, h4⟩
    cases n' with
    | zero => omega
    | succ n' => simp only [icode.iloop]; rw [h1 k n n' (by omega) (by omega) (by omega)]; exact h3 k n n' (by omega) (by omega) (by omega)
  | exit id =>
    refine ⟨_, s, ⟨N + 1, fun k n n' hk hn hn' => ?_⟩, h2⟩
    cases n' with
    | zero => omega
    | succ n' => simp only [icode.iloop]; rw [h1 k n n' (by omega) (by omega) (by omega)]
  | ret =>
    refine ⟨_, s, ⟨N + 1, fun k n n' hk hn hn' => ?_⟩, h2⟩
    cases n' with
    | zero => omega
    | succ n' => simp only [icode.iloop]; rw [h1 k n n' (by omega) (by omega) (by omega)]
theorem IR_region {r : Nat} {ops : Array Oper} (h : IOps P E Y hn r ops 0 ops.toList is fun s => Q .normal s) : IR P E Y hn (.region r ops false) is Q := by
  obtain ⟨s, ⟨N, h1⟩, h2⟩ := h
  refine ⟨_, s, ⟨N + 1, fun k n n' hk hn hn' => ?_⟩, h2⟩
  cases n' with
  | zero => omega
  | succ n' => simp only [icode, h1 k n (by omega) (by omega), Option.map_some]
theorem IOps_nil {r i : Nat} {ops : Array Oper} {Q : ISt σ → Prop} (h : Q is) : IOps P E Y hn r ops i [] is Q := ⟨is, ⟨0, fun k n _ _ => rfl⟩, h⟩
theorem IOps_do {r i : Nat} {ops : Array Oper} {o : Oper} {os : List Oper} {Q : ISt σ → Prop}
    (hg : ∀ (call : CallF) (Y : List Dat → σ → Option (Bool × σ)), iopStep P call hn Y r ops i o is = (opStep P call hn r ops i o is.st).map fun st => ⟨st, offY is.ys o.dst, is.out⟩) (hw : wantedA ops is.st.slots o = some true)
    (h : SemE P E (hn.ownAt r i) o (ev is.st.slots) is.st.heap fun v H => IOps P E Y hn r ops (i + 1) os ⟨⟨putS is.st.slots o.dst v, H⟩, offY is.ys o.dst, is.out⟩ Q) : IOps P E Y hn r ops i (o :: os) is Q := by
  obtain ⟨v, H, ⟨N, h1⟩, s, ⟨N', h2⟩, h3⟩ := h
  refine ⟨s, ⟨max N N', fun k n hk hn => ?_⟩, h3⟩
  simp only [iopsFrom, hg, opStep, hw, h1 k (by omega), Option.map_some]
  exact h2 k n (by omega) (by omega)
theorem IOps_mv {r i : Nat} {ops : Array Oper} {o : Oper} {os : List Oper} {Q : ISt σ → Prop} {t d : Tmp} (ho : o.op = .move (.tmp t)) (hgd : o.guard = none) (hc : is.ys.contains t = true) (hd : o.dst = some d) (hl : d < is.st.slots.length)
    (h : IOps P E Y hn r ops (i + 1) os ⟨⟨is.st.slots.set d .undef, is.st.heap⟩, d :: is.ys, is.out⟩ Q) : IOps P E Y hn r ops i (o :: os) is Q := by
  obtain ⟨s, ⟨N', h2⟩, h3⟩ := h
  refine ⟨s, ⟨N', fun k n hk hn => ?_⟩, h3⟩
  simp only [iopsFrom, iopStep, ho, hgd, hc, hd, hl, if_true]
  exact h2 k n (by omega) (by omega)
theorem IOps_yield {r i : Nat} {ops : Array Oper} {o : Oper} {os : List Oper} {Q : ISt σ → Prop} {t : Tmp} {args : Array Operand} {ts : Array TypeId} {ds : List Dat} {b : Bool} {out : σ} (ho : o.op = .call { callee := .value (.tmp t), args, argTypes := ts })
    (hgd : o.guard = none) (hc : is.ys.contains t = true) (hp : pures is.st.heap (args.toList.map (ev is.st.slots)) = some ds) (hnl : (args.toList.map (ev is.st.slots)).any PV.lends = false) (hy : YE Y ds is.out b out)
    (h : IOps P E Y hn r ops (i + 1) os ⟨⟨putS is.st.slots o.dst (boolPV b), is.st.heap⟩, offY is.ys o.dst, out⟩ Q) : IOps P E Y hn r ops i (o :: os) is Q := by
  obtain ⟨s, ⟨N', h2⟩, h3⟩ := h
  obtain ⟨N, hy⟩ := hy
  refine ⟨s, ⟨max N N', fun k n hk hn => ?_⟩, h3⟩
  simp only [iopsFrom, iopStep, ho, hgd, hc, hp, hnl, hy k n (by omega) (by omega), if_true, Bool.false_eq_true, if_false]
  exact h2 k n (by omega) (by omega)
theorem IOps_eq {r i : Nat} {ops : Array Oper} {os : List Oper} {Q : ISt σ → Prop} {is' : ISt σ} (h : is = is') (k : IOps P E Y hn r ops i os is' Q) : IOps P E Y hn r ops i os is Q := h ▸ k

/-- an iterator's code, by its function -/
theorem IR_code {fn : Func} (h : fn.body = some c) (k : IR P E Y hn c is Q) : ∀ c', fn.body = some c' → IR P E Y hn c' is Q := fun c' h' => by
  rw [h] at h'; cases h'; exact k

/-- One who yields all of a list, or until it is told to stop, ends at fin. -/
inductive Fed (Y : Nat → Nat → List Dat → σ → Option (Bool × σ)) (fin : σ) : List Dat → σ → Prop
  | done : Fed Y fin [] fin
  | go {d : Dat} {ds : List Dat} {s s' : σ} : YE Y [d] s true s' → Fed Y fin ds s' → Fed Y fin (d :: ds) s
  | stop {d : Dat} {ds : List Dat} {s : σ} : YE Y [d] s false fin → Fed Y fin (d :: ds) s

theorem Fed_from {α : Type} (f : α → Dat) (outs : Nat → σ) : ∀ (l : List α) (i : Nat), (∀ j (hj : j < l.length), YE Y [f l[j]] (outs (i + j)) true (outs (i + j + 1))) → Fed Y (outs (i + l.length)) (l.map f) (outs i)
  | [], i, _ => .done
  | x :: l, i, h => .go (h 0 (Nat.zero_lt_succ _)) (by
      have := Fed_from f outs l (i + 1) (fun j hj => by have := h (j + 1) (Nat.succ_lt_succ hj); rwa [show i + (j + 1) = i + 1 + j by omega] at this)
      rwa [show i + 1 + l.length = i + (x :: l).length by simp; omega] at this)
theorem Fed_all {α : Type} (f : α → Dat) (outs : Nat → σ) (l : List α) (h : ∀ j (hj : j < l.length), YE Y [f l[j]] (outs j) true (outs (j + 1))) : Fed Y (outs l.length) (l.map f) (outs 0) := by
  have := Fed_from f outs l 0 (fun j hj => by rw [Nat.zero_add]; exact h j hj)
  rwa [Nat.zero_add] at this
theorem Fed_until {α : Type} (f : α → Dat) (fin : σ) : ∀ (M : Nat) (outs : Nat → σ) (l : List α) (hM : M < l.length), (∀ j (hj : j < M), YE Y [f l[j]] (outs j) true (outs (j + 1))) → YE Y [f l[M]] (outs M) false fin → Fed Y fin (l.map f) (outs 0)
  | 0, outs, x :: l, _, _, h => .stop h
  | M + 1, outs, x :: l, hM, hg, h => .go (hg 0 (Nat.zero_lt_succ _)) (Fed_until f fin M (fun j => outs (j + 1)) l (Nat.lt_of_succ_lt_succ hM) (fun j hj => hg (j + 1) (Nat.succ_lt_succ hj)) h)

/-- A loop, by what lies at its head. -/
theorem IRL_ind {α : Type} {h0 : Nat} (C : α → ISt σ) (I : α → Prop) (μ : α → Nat)
    (hs : ∀ x, I x → IR P E Y hn b (C x) fun e s => match e with | .normal => ∃ y, (⟨prune h0 ((firstRegion b).bind hn.keepAt) s.st, keptY ((firstRegion b).bind hn.keepAt) s.ys, s.out⟩ : ISt σ) = C y ∧ μ y < μ x ∧ I y | e => Q e s) :
    ∀ (n : Nat) (x : α) (is : ISt σ), μ x < n → I x → (⟨prune h0 ((firstRegion b).bind hn.keepAt) is.st, keptY ((firstRegion b).bind hn.keepAt) is.ys, is.out⟩ : ISt σ) = C x → IRL P E Y hn b h0 is Q
  | 0, x, is, hn, hI, hp => by omega
  | n + 1, x, is, hlt, hI, hp => by
    refine IRL_step ?_
    rw [hp]
    refine (hs x hI).mono fun e s hq => ?_
    cases e with
    | normal =>
      obtain ⟨y, h1, h2, h3⟩ := hq
      exact IRL_ind C I μ hs n y s (by omega) h3 h1
    | exit id => exact hq
    | ret => exact hq

/-- A range over an iterator: what its code comes to. -/
theorem R_range {hint : Hint} {f : Operand} {ps : Array Tmp} {assign body : Code} {st : St} {K : Ex → St → Prop} {gf : FuncId} {caps : List PV} {fn : Func} {c : Code} (hx : ev st.slots f = .fn gf caps) (hf : P.funcs[gf]? = some fn)
    (hnm : (fn.name == "runtime.NumGoroutine") = false) (hb : fn.body = some c) (hst : (caps.all PV.still && fn.results.isEmpty) = true)
    (hI : IR P E (fun k n => roundOf (pcode P (pfun P E k) E.pf E.hint hint false n assign) (pcode P (pfun P E k) E.pf E.hint hint false n body) st.heap.length st.slots ps.toList) (E.hint gf) c
      ⟨⟨.undef :: caps ++ List.replicate (fn.ntmps - (caps.length + 1)) (.tup []), []⟩, [0], ⟨st.heap, none⟩⟩ fun e is => (match e with | .exit _ => False | _ => True) ∧ K (is.out.pend.getD .normal) ⟨st.slots, is.out.heap⟩) :
    R P E hint true (.rangeFunc f ps assign body) st K := by
  obtain ⟨e, is, ⟨N, h1⟩, h2, h3⟩ := hI
  refine ⟨_, _, ⟨N + 1, fun k n hk hn => ?_⟩, h3⟩
  cases n with
  | zero => omega
  | succ n =>
    simp only [pcode, if_true, hx, rangeOf, hf, hnm, irun, hb, hst, Bool.false_eq_true, if_false, h1 k n n (by omega) (by omega) (by omega)]
    cases e with
    | exit id => exact h2.elim
    | normal => rfl
    | ret => rfl

/-- likewise, where the body may leave the loop -/
theorem R_range_block {hint : Hint} {id : Nat} {f : Operand} {ps : Array Tmp} {assign body : Code} {st : St} {K : Ex → St → Prop} {gf : FuncId} {caps : List PV} {fn : Func} {c : Code} (hx : ev st.slots f = .fn gf caps) (hf : P.funcs[gf]? = some fn)
    (hnm : (fn.name == "runtime.NumGoroutine") = false) (hb : fn.body = some c) (hst : (caps.all PV.still && fn.results.isEmpty) = true)
    (hI : IR P E (fun k n => roundOf (pcode P (pfun P E k) E.pf E.hint hint false n assign) (pcode P (pfun P E k) E.pf E.hint hint false n body) st.heap.length st.slots ps.toList) (E.hint gf) c
      ⟨⟨.undef :: caps ++ List.replicate (fn.ntmps - (caps.length + 1)) (.tup []), []⟩, [0], ⟨st.heap, none⟩⟩ fun e is => (match e with | .exit _ => False | _ => True) ∧ (is.out.pend = none ∨ is.out.pend = some (.exit id)) ∧ K .normal ⟨st.slots, is.out.heap⟩) :
    R P E hint true (.block id (.rangeFunc f ps assign body)) st K := by
  refine R_block (R_range hx hf hnm hb hst (hI.mono fun e is h => ⟨h.1, ?_⟩))
  obtain ⟨_, h1 | h1, h2⟩ := h
  · rw [h1]; exact h2
  · rw [h1]; simp only [Option.getD_some, if_true]; exact h2

/-- One round, by the walks of its two parts. -/
theorem YE_round {hint : Hint} {assign body : Code} {h0 : Nat} {slots sl : List PV} {ps : List Tmp} {ds : List Dat} {H : List Blk} {b : Bool} {x : Rnd} (hs : setPs slots ps ds = some sl)
    (h : R P E hint false assign ⟨sl, H⟩ fun e s => e = .normal ∧ R P E hint false body s fun e s2 => match e with
      | .normal => b = true ∧ x = ⟨(prune h0 (some []) s2).heap, none⟩
      | e => b = false ∧ x = ⟨(prune h0 (some []) s2).heap, some e⟩) :
    YE (fun k n => roundOf (pcode P (pfun P E k) E.pf E.hint hint false n assign) (pcode P (pfun P E k) E.pf E.hint hint false n body) h0 slots ps) ds ⟨H, none⟩ b x := by
  obtain ⟨e, s, ⟨N, h1⟩, rfl, e2, s2, ⟨N2, h2⟩, h3⟩ := h
  refine ⟨max N N2, fun k n hk hn => ?_⟩
  simp only [roundOf, hs, h1 k n (by omega) (by omega), h2 k n (by omega) (by omega)]
  cases e2 with
  | normal => obtain ⟨rfl, rfl⟩ := h3; rfl
  | exit id => obtain ⟨rfl, rfl⟩ := h3; rfl
  | ret => obtain ⟨rfl, rfl⟩ := h3; rfl

theorem Fed_stops {α : Type} (f : α → Dat) (outs outs' : Nat → σ) (stop : Nat → Bool) : ∀ (l : List α) (i : Nat), (∀ j (hj : j < l.length), YE Y [f l[j]] (outs (i + j)) (!stop (i + j)) (if stop (i + j) then outs' (i + j + 1) else outs (i + j + 1))) →
    ∃ k, k ≤ l.length ∧ (∀ j, j + 1 < k → stop (i + j) = false) ∧ ((k = l.length ∧ Fed Y (outs (i + k)) (l.map f) (outs i)) ∨ (∃ m, k = m + 1 ∧ stop (i + m) = true ∧ Fed Y (outs' (i + k)) (l.map f) (outs i))) ∧ (k < l.length → ∃ m, k = m + 1 ∧ stop (i + m) = true)
  | [], i, _ => ⟨0, Nat.le_refl _, fun j h => by omega, Or.inl ⟨rfl, .done⟩, fun h => absurd h (Nat.lt_irrefl _)⟩
  | x :: l, i, h => by
    have h0 := h 0 (Nat.zero_lt_succ _)
    rw [Nat.add_zero] at h0
    cases hs : stop i with
    | true =>
      rw [hs] at h0
      exact ⟨1, by simp, fun j h => by omega, Or.inr ⟨0, rfl, hs, .stop h0⟩, fun _ => ⟨0, rfl, hs⟩⟩
    | false =>
      rw [hs] at h0
      obtain ⟨k, h1, h2, h3, h4⟩ := Fed_stops f outs outs' stop l (i + 1) (fun j hj => by have := h (j + 1) (Nat.succ_lt_succ hj); rwa [show i + (j + 1) = i + 1 + j by omega] at this)
      refine ⟨k + 1, by simp; omega, fun j hj => ?_, ?_, fun hk => ?_⟩
      · cases j with
        | zero => exact hs
        | succ j => rw [show i + (j + 1) = i + 1 + j by omega]; exact h2 j (by omega)
      · rw [show i + (k + 1) = i + 1 + k by omega]
        rcases h3 with ⟨h5, h6⟩ | ⟨m, h5, h6, h7⟩
        · exact Or.inl ⟨by simp [h5], .go h0 h6⟩
        · exact Or.inr ⟨m + 1, by omega, by rw [show i + (m + 1) = i + 1 + m by omega]; exact h6, .go h0 h7⟩
      · obtain ⟨m, h5, h6⟩ := h4 (by simp at hk; omega)
        exact ⟨m + 1, by omega, by rw [show i + (m + 1) = i + 1 + m by omega]; exact h6⟩

/-- A range that may be left: its rounds, and what stands behind it. -/
theorem R_break {hint : Hint} {id : Nat} {f : Operand} {ps : Array Tmp} {assign body : Code} {st : St} {K : Ex → St → Prop} {gf : FuncId} {caps : List PV} {fn : Func} {c : Code} {α : Type} (g : α → Dat) (l : List α) (Hk : Nat → List Blk) (stop : Nat → Bool)
    (hx : ev st.slots f = .fn gf caps) (hf : P.funcs[gf]? = some fn)
    (hnm : (fn.name == "runtime.NumGoroutine") = false) (hb : fn.body = some c) (hst : (caps.all PV.still && fn.results.isEmpty) = true) (h0 : st.heap = Hk 0)
    (hIt : ∀ (Y : Nat → Nat → List Dat → Rnd → Option (Bool × Rnd)) (fin s : Rnd), Fed Y fin (l.map g) s → IR P E Y (E.hint gf) c ⟨⟨.undef :: caps ++ List.replicate (fn.ntmps - (caps.length + 1)) (.tup []), []⟩, [0], s⟩ fun e is => (match e with | .exit _ => False | _ => True) ∧ is.out = fin)
    (hround : ∀ j (hj : j < l.length), YE (fun k n => roundOf (pcode P (pfun P E k) E.pf E.hint hint false n assign) (pcode P (pfun P E k) E.pf E.hint hint false n body) (Hk 0).length st.slots ps.toList) [g l[j]] ⟨Hk j, none⟩ (!stop j) ⟨Hk (j + 1), if stop j then some (.exit id) else none⟩)
    (hQ : ∀ k, k ≤ l.length → (∀ j, j + 1 < k → stop j = false) → (k < l.length → ∃ m, k = m + 1 ∧ stop m = true) → K .normal ⟨st.slots, Hk k⟩) :
    R P E hint true (.block id (.rangeFunc f ps assign body)) st K := by
  obtain ⟨k, h1, h2, h3, h4⟩ := Fed_stops g (fun j => (⟨Hk j, none⟩ : Rnd)) (fun j => ⟨Hk j, some (.exit id)⟩) stop l 0 (fun j hj => by
    have := hround j hj
    rw [Nat.zero_add]
    cases hs : stop j <;> (rw [hs] at this; exact this))
  simp only [Nat.zero_add] at h2 h3 h4
  refine R_range_block hx hf hnm hb hst ?_
  rw [h0]
  rcases h3 with ⟨h5, h6⟩ | ⟨m, h5, h6, h7⟩
  · exact (hIt _ _ _ h6).mono fun e is h => ⟨h.1, by rw [h.2]; exact Or.inl rfl, by rw [h.2]; exact hQ k h1 h2 h4⟩
  · exact (hIt _ _ _ h7).mono fun e is h => ⟨h.1, by rw [h.2]; exact Or.inr rfl, by rw [h.2]; exact hQ k h1 h2 h4⟩
end
end Go.Pm
