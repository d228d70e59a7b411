/-
  The pure machine: a range whose body may return.
-/
import Derived.Test.YtbpnhijnfhniaaaDoorPmIt
namespace Go.Pm
open Go
set_option linter.unusedVariables false

section
variable {σ : Type} {P : Program} {E : Env} {Y : Nat → Nat → List Dat → σ → Option (Bool × σ)}
theorem Fed_first {α : Type} (f : α → Dat) (outs outs' : Nat → σ) (stop : Nat → Bool) : ∀ (l : List α) (i : Nat), (∀ j (hj : j < l.length), YE Y [f l[j]] (outs (i + j)) (!stop (i + j)) (if stop (i + j) then outs' (i + j + 1) else outs (i + j + 1))) →
    ((∀ j, j < l.length → stop (i + j) = false) ∧ Fed Y (outs (i + l.length)) (l.map f) (outs i)) ∨ (∃ m, m < l.length ∧ (∀ j, j < m → stop (i + j) = false) ∧ stop (i + m) = true ∧ Fed Y (outs' (i + m + 1)) (l.map f) (outs i))
  | [], i, h => Or.inl ⟨fun j hj => by simp at hj, .done⟩
  | x :: l, i, h => by
    have h0 := h 0 (Nat.zero_lt_succ _)
    rw [Nat.add_zero] at h0
    cases hs : stop i with
    | true =>
      rw [hs] at h0
      exact Or.inr ⟨0, by simp, fun j h => by omega, hs, .stop h0⟩
    | false =>
      rw [hs] at h0
      rcases Fed_first f outs outs' stop l (i + 1) (fun j hj => by have := h (j + 1) (Nat.succ_lt_succ hj); rwa [show i + (j + 1) = i + 1 + j by omega] at this) with ⟨h1, h2⟩ | ⟨m, h1, h2, h3, h4⟩
      · refine Or.inl ⟨fun j hj => ?_, ?_⟩
        · cases j with
          | zero => exact hs
          | succ j => rw [show i + (j + 1) = i + 1 + j by omega]; exact h1 j (by simpa using hj)
        · rw [show i + (x :: l).length = i + 1 + l.length by simp; omega]
          exact .go h0 h2
      · refine Or.inr ⟨m + 1, by simpa using h1, fun j hj => ?_, by rw [show i + (m + 1) = i + 1 + m by omega]; exact h3, ?_⟩
        · cases j with
          | zero => exact hs
          | succ j => rw [show i + (j + 1) = i + 1 + j by omega]; exact h2 j (by omega)
        · rw [show i + (m + 1) + 1 = i + 1 + m + 1 by omega]
          exact .go h0 h4

/-- A range whose body may return: its rounds, what stands behind it, what is returned. -/
theorem R_return {hint : Hint} {id : Nat} {f : Operand} {ps : Array Tmp} {assign body : Code} {st : St} {K : Ex → St → Prop} {gf : FuncId} {caps : List PV} {fn : Func} {c : Code} {α : Type} (g : α → Dat) (l : List α) (Hk Hs : Nat → List Blk) (stop : Nat → Bool)
    (hx : ev st.slots f = .fn gf caps) (hf : P.funcs[gf]? = some fn)
    (hnm : (fn.name == "runtime.NumGoroutine") = false) (hb : fn.body = some c) (hst : (caps.all PV.still && fn.results.isEmpty) = true) (h0 : st.heap = Hk 0)
    (hIt : ∀ (Y : Nat → Nat → List Dat → Rnd → Option (Bool × Rnd)) (fin s : Rnd), Fed Y fin (l.map g) s → IR P E Y (E.hint gf) c ⟨⟨.undef :: caps ++ List.replicate (fn.ntmps - (caps.length + 1)) (.tup []), []⟩, [0], s⟩ fun e is => (match e with | .exit _ => False | _ => True) ∧ is.out = fin)
    (hround : ∀ j (hj : j < l.length), YE (fun k n => roundOf (pcode P (pfun P E k) E.pf E.hint hint false n assign) (pcode P (pfun P E k) E.pf E.hint hint false n body) (Hk 0).length st.slots ps.toList) [g l[j]] ⟨Hk j, none⟩ (!stop j) (if stop j then ⟨Hs (j + 1), some .ret⟩ else ⟨Hk (j + 1), none⟩))
    (hN : (∀ j, j < l.length → stop j = false) → K .normal ⟨st.slots, Hk l.length⟩)
    (hR : ∀ m, m < l.length → stop m = true → (∀ j, j < m → stop j = false) → K .ret ⟨st.slots, Hs (m + 1)⟩) :
    R P E hint true (.block id (.rangeFunc f ps assign body)) st K := by
  have key := Fed_first g (fun j => (⟨Hk j, none⟩ : Rnd)) (fun j => ⟨Hs j, some .ret⟩) stop l 0 (fun j hj => by
    have := hround j hj
    rw [Nat.zero_add]
    exact this)
  simp only [Nat.zero_add] at key
  refine R_block (R_range hx hf hnm hb hst ?_)
  rw [h0]
  rcases key with ⟨h1, h2⟩ | ⟨m, h1, h2, h3, h4⟩
  · exact (hIt _ _ _ h2).mono fun e is h => ⟨h.1, by rw [h.2]; exact hN h1⟩
  · exact (hIt _ _ _ h4).mono fun e is h => ⟨h.1, by rw [h.2]; exact hR m h1 h3 h2⟩
end
end Go.Pm
