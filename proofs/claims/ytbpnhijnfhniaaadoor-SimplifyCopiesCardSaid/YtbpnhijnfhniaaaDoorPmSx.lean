/-
  The pure machine, walked by program: runs of plain operations by the kernel, one law for each operation that asks for something, joins, loops by what their model says.
-/
import Derived.Test.YtbpnhijnfhniaaaDoorPmMs
import Derived.Test.YtbpnhijnfhniaaaDoorPmMono
import Derived.KernelRfl
namespace Go.Pm
open Go
set_option linter.unusedVariables false

/-! ### words of the models -/
def intD (n : Int) : Dat := .raw (.int .i64 n)
def numD (k : IntKind) (n : Int) : Dat := .raw (.int k n)
def boolD (b : Bool) : Dat := .raw (.bool b)
def strD (b : ByteArray) : Dat := .raw (.string b)
abbrev W (n : Int) : Int := IntKind.i64.wrap n
abbrev Ea : PV := .dat (.lst ((List.map intD) []))
abbrev Eb : Dat := .lst ((List.map intD) [])
abbrev La (l : List Int) : PV := .dat (.lst ((List.map intD) l))
abbrev Lb (l : List Int) : Dat := .lst ((List.map intD) l)
def idx {α : Type} (l : List α) (i : Int) : Option α := if 0 ≤ i then l[i.toNat]? else none
def quoM (a b : Int) : Option Int := if b = 0 then none else some (W (a.tdiv b))
def remM (a b : Int) : Option Int := if b = 0 then none else some (a.tmod b)
/-- a list with more at its end -/
def app {α : Type} (bytes : Nat) (l es : List α) : Option (List α) := if (l.length + es.length) * bytes ≤ room then some (l ++ es) else none
def sub {α : Type} (l : List α) (lo hi : Int) : Option (List α) := if 0 ≤ lo ∧ lo ≤ hi ∧ hi ≤ (l.length : Int) then some ((l.take hi.toNat).drop lo.toNat) else none
theorem bind_inv {α β : Type} {x : Option α} {f : α → Option β} {r : β} (h : (x >>= f) = some r) : ∃ a, x = some a ∧ f a = some r := by
  cases x with
  | none => cases h
  | some a => exact ⟨a, rfl, h⟩
theorem pos_inv {p : Prop} [Decidable p] {α : Type} {a b : Option α} {r : α} (hp : p) (h : (if p then a else b) = some r) : a = some r := (if_pos hp).symm.trans h
theorem neg_inv {p : Prop} [Decidable p] {α : Type} {a b : Option α} {r : α} (hp : ¬ p) (h : (if p then a else b) = some r) : b = some r := (if_neg hp).symm.trans h
theorem none_inv {α : Type} {r : α} (h : (none : Option α) = some r) : False := by cases h
def guardM (p : Prop) [Decidable p] : Option Unit := if p then some () else none
theorem guard_inv {p : Prop} [Decidable p] {u : Unit} (h : guardM p = some u) : p := by
  unfold guardM at h
  split at h
  · assumption
  · cases h
theorem bool_dec (b : Bool) : b = decide (b = true) := by cases b <;> rfl
theorem not_dec (b : Bool) : (!b) = decide (b = false) := by cases b <;> rfl
theorem notp_dec {b : Bool} {p : Prop} [Decidable p] (h : b = decide p) : (!b) = decide (¬ p) := by subst h; simp
theorem eq_dec {α : Type} [DecidableEq α] (a b : α) : (a == b) = decide (a = b) := rfl
theorem ne_dec {α : Type} [DecidableEq α] (a b : α) : (a != b) = decide (a ≠ b) := by
  show (!(decide (a = b))) = _
  by_cases h : a = b <;> simp [h]

theorem inj1 {α : Type} {a b : α} (h : some a = some b) : a = b := Option.some.inj h
theorem inj2 {α0 α1 : Type} {a0 b0 : α0} {a1 b1 : α1} (h : some (a0, a1) = some (b0, b1)) : a0 = b0 ∧ a1 = b1 := by
  have h := Option.some.inj h
  simpa only [Prod.mk.injEq] using h
theorem inj3 {α0 α1 α2 : Type} {a0 b0 : α0} {a1 b1 : α1} {a2 b2 : α2} (h : some (a0, a1, a2) = some (b0, b1, b2)) : a0 = b0 ∧ a1 = b1 ∧ a2 = b2 := by
  have h := Option.some.inj h
  simpa only [Prod.mk.injEq] using h
theorem inj4 {α0 α1 α2 α3 : Type} {a0 b0 : α0} {a1 b1 : α1} {a2 b2 : α2} {a3 b3 : α3} (h : some (a0, a1, a2, a3) = some (b0, b1, b2, b3)) : a0 = b0 ∧ a1 = b1 ∧ a2 = b2 ∧ a3 = b3 := by
  have h := Option.some.inj h
  simpa only [Prod.mk.injEq] using h
theorem inj5 {α0 α1 α2 α3 α4 : Type} {a0 b0 : α0} {a1 b1 : α1} {a2 b2 : α2} {a3 b3 : α3} {a4 b4 : α4} (h : some (a0, a1, a2, a3, a4) = some (b0, b1, b2, b3, b4)) : a0 = b0 ∧ a1 = b1 ∧ a2 = b2 ∧ a3 = b3 ∧ a4 = b4 := by
  have h := Option.some.inj h
  simpa only [Prod.mk.injEq] using h
theorem inj6 {α0 α1 α2 α3 α4 α5 : Type} {a0 b0 : α0} {a1 b1 : α1} {a2 b2 : α2} {a3 b3 : α3} {a4 b4 : α4} {a5 b5 : α5} (h : some (a0, a1, a2, a3, a4, a5) = some (b0, b1, b2, b3, b4, b5)) : a0 = b0 ∧ a1 = b1 ∧ a2 = b2 ∧ a3 = b3 ∧ a4 = b4 ∧ a5 = b5 := by
  have h := Option.some.inj h
  simpa only [Prod.mk.injEq] using h
theorem inj7 {α0 α1 α2 α3 α4 α5 α6 : Type} {a0 b0 : α0} {a1 b1 : α1} {a2 b2 : α2} {a3 b3 : α3} {a4 b4 : α4} {a5 b5 : α5} {a6 b6 : α6} (h : some (a0, a1, a2, a3, a4, a5, a6) = some (b0, b1, b2, b3, b4, b5, b6)) : a0 = b0 ∧ a1 = b1 ∧ a2 = b2 ∧ a3 = b3 ∧ a4 = b4 ∧ a5 = b5 ∧ a6 = b6 := by
  have h := Option.some.inj h
  simpa only [Prod.mk.injEq] using h
theorem inj8 {α0 α1 α2 α3 α4 α5 α6 α7 : Type} {a0 b0 : α0} {a1 b1 : α1} {a2 b2 : α2} {a3 b3 : α3} {a4 b4 : α4} {a5 b5 : α5} {a6 b6 : α6} {a7 b7 : α7} (h : some (a0, a1, a2, a3, a4, a5, a6, a7) = some (b0, b1, b2, b3, b4, b5, b6, b7)) : a0 = b0 ∧ a1 = b1 ∧ a2 = b2 ∧ a3 = b3 ∧ a4 = b4 ∧ a5 = b5 ∧ a6 = b6 ∧ a7 = b7 := by
  have h := Option.some.inj h
  simpa only [Prod.mk.injEq] using h
theorem inj9 {α0 α1 α2 α3 α4 α5 α6 α7 α8 : Type} {a0 b0 : α0} {a1 b1 : α1} {a2 b2 : α2} {a3 b3 : α3} {a4 b4 : α4} {a5 b5 : α5} {a6 b6 : α6} {a7 b7 : α7} {a8 b8 : α8} (h : some (a0, a1, a2, a3, a4, a5, a6, a7, a8) = some (b0, b1, b2, b3, b4, b5, b6, b7, b8)) : a0 = b0 ∧ a1 = b1 ∧ a2 = b2 ∧ a3 = b3 ∧ a4 = b4 ∧ a5 = b5 ∧ a6 = b6 ∧ a7 = b7 ∧ a8 = b8 := by
  have h := Option.some.inj h
  simpa only [Prod.mk.injEq] using h
theorem inj10 {α0 α1 α2 α3 α4 α5 α6 α7 α8 α9 : Type} {a0 b0 : α0} {a1 b1 : α1} {a2 b2 : α2} {a3 b3 : α3} {a4 b4 : α4} {a5 b5 : α5} {a6 b6 : α6} {a7 b7 : α7} {a8 b8 : α8} {a9 b9 : α9} (h : some (a0, a1, a2, a3, a4, a5, a6, a7, a8, a9) = some (b0, b1, b2, b3, b4, b5, b6, b7, b8, b9)) : a0 = b0 ∧ a1 = b1 ∧ a2 = b2 ∧ a3 = b3 ∧ a4 = b4 ∧ a5 = b5 ∧ a6 = b6 ∧ a7 = b7 ∧ a8 = b8 ∧ a9 = b9 := by
  have h := Option.some.inj h
  simpa only [Prod.mk.injEq] using h
theorem inj11 {α0 α1 α2 α3 α4 α5 α6 α7 α8 α9 α10 : Type} {a0 b0 : α0} {a1 b1 : α1} {a2 b2 : α2} {a3 b3 : α3} {a4 b4 : α4} {a5 b5 : α5} {a6 b6 : α6} {a7 b7 : α7} {a8 b8 : α8} {a9 b9 : α9} {a10 b10 : α10} (h : some (a0, a1, a2, a3, a4, a5, a6, a7, a8, a9, a10) = some (b0, b1, b2, b3, b4, b5, b6, b7, b8, b9, b10)) : a0 = b0 ∧ a1 = b1 ∧ a2 = b2 ∧ a3 = b3 ∧ a4 = b4 ∧ a5 = b5 ∧ a6 = b6 ∧ a7 = b7 ∧ a8 = b8 ∧ a9 = b9 ∧ a10 = b10 := by
  have h := Option.some.inj h
  simpa only [Prod.mk.injEq] using h
theorem inj12 {α0 α1 α2 α3 α4 α5 α6 α7 α8 α9 α10 α11 : Type} {a0 b0 : α0} {a1 b1 : α1} {a2 b2 : α2} {a3 b3 : α3} {a4 b4 : α4} {a5 b5 : α5} {a6 b6 : α6} {a7 b7 : α7} {a8 b8 : α8} {a9 b9 : α9} {a10 b10 : α10} {a11 b11 : α11} (h : some (a0, a1, a2, a3, a4, a5, a6, a7, a8, a9, a10, a11) = some (b0, b1, b2, b3, b4, b5, b6, b7, b8, b9, b10, b11)) : a0 = b0 ∧ a1 = b1 ∧ a2 = b2 ∧ a3 = b3 ∧ a4 = b4 ∧ a5 = b5 ∧ a6 = b6 ∧ a7 = b7 ∧ a8 = b8 ∧ a9 = b9 ∧ a10 = b10 ∧ a11 = b11 := by
  have h := Option.some.inj h
  simpa only [Prod.mk.injEq] using h
theorem inj13 {α0 α1 α2 α3 α4 α5 α6 α7 α8 α9 α10 α11 α12 : Type} {a0 b0 : α0} {a1 b1 : α1} {a2 b2 : α2} {a3 b3 : α3} {a4 b4 : α4} {a5 b5 : α5} {a6 b6 : α6} {a7 b7 : α7} {a8 b8 : α8} {a9 b9 : α9} {a10 b10 : α10} {a11 b11 : α11} {a12 b12 : α12} (h : some (a0, a1, a2, a3, a4, a5, a6, a7, a8, a9, a10, a11, a12) = some (b0, b1, b2, b3, b4, b5, b6, b7, b8, b9, b10, b11, b12)) : a0 = b0 ∧ a1 = b1 ∧ a2 = b2 ∧ a3 = b3 ∧ a4 = b4 ∧ a5 = b5 ∧ a6 = b6 ∧ a7 = b7 ∧ a8 = b8 ∧ a9 = b9 ∧ a10 = b10 ∧ a11 = b11 ∧ a12 = b12 := by
  have h := Option.some.inj h
  simpa only [Prod.mk.injEq] using h
theorem inj14 {α0 α1 α2 α3 α4 α5 α6 α7 α8 α9 α10 α11 α12 α13 : Type} {a0 b0 : α0} {a1 b1 : α1} {a2 b2 : α2} {a3 b3 : α3} {a4 b4 : α4} {a5 b5 : α5} {a6 b6 : α6} {a7 b7 : α7} {a8 b8 : α8} {a9 b9 : α9} {a10 b10 : α10} {a11 b11 : α11} {a12 b12 : α12} {a13 b13 : α13} (h : some (a0, a1, a2, a3, a4, a5, a6, a7, a8, a9, a10, a11, a12, a13) = some (b0, b1, b2, b3, b4, b5, b6, b7, b8, b9, b10, b11, b12, b13)) : a0 = b0 ∧ a1 = b1 ∧ a2 = b2 ∧ a3 = b3 ∧ a4 = b4 ∧ a5 = b5 ∧ a6 = b6 ∧ a7 = b7 ∧ a8 = b8 ∧ a9 = b9 ∧ a10 = b10 ∧ a11 = b11 ∧ a12 = b12 ∧ a13 = b13 := by
  have h := Option.some.inj h
  simpa only [Prod.mk.injEq] using h

/-- slots: those of d, but for some -/
def sl (d : List PV) (n : Nat) (l : List (Nat × PV)) : List PV := (List.range n).map fun i => match l.find? fun x => x.1 == i with | some x => x.2 | none => d.getD i (.tup [])
def kp (n : Nat) (l : List (Nat × PV)) : List PV := (List.range n).map fun i => match l.find? fun x => x.1 == i with | some x => x.2 | none => .undef
/-- slots of an entry -/
def en (n : Nat) (l : List PV) : List PV := l ++ List.replicate (n - l.length) (.tup [])

def noC : CallF := fun _ _ _ => none
theorem noC_le (call : CallF) : ∀ f args H, Leq (noC f args H) (call f args H) := fun _ _ _ _ h => by cases h

section
variable {P : Program} {E : Env} {hn : Hint} {rg : Bool} {r i : Nat} {ops : Array Oper}

/-- a state within a region, and its flags -/
abbrev Cf := St × List Nat
variable {c : Cf} {Q : Cf → Prop}

/-- a region from its operation i on -/
def G (P : Program) (E : Env) (hn : Hint) (r : Nat) (ops : Array Oper) (i : Nat) (c : Cf) (Q : Cf → Prop) : Prop := DrawE P E hn r ops i (ops.toList.drop i) c.1 c.2 (fun fl s => Q (s, fl))

theorem drawRun_append (call : CallF) (pf : FuncId → Bool) (h : Hint) (r : Nat) (ops : Array Oper) : ∀ (a b : List Oper) (i : Nat) (st st1 : St) (fl1 : List Nat), drawRun P call pf h r ops i a st = some (st1, fl1) →
    drawRun P call pf h r ops i (a ++ b) st = (drawRun P call pf h r ops (i + a.length) b st1).map fun x => (x.1, fl1 ++ x.2)
  | [], b, i, st, st1, fl1, h1 => by
    simp only [drawRun, Option.some.injEq, Prod.mk.injEq] at h1
    obtain ⟨rfl, rfl⟩ := h1
    simp only [List.nil_append, List.length_nil, Nat.add_zero]
    cases drawRun P call pf h r ops i b st <;> rfl
  | o :: a, b, i, st, st1, fl1, h1 => by
    simp only [drawRun] at h1
    simp only [List.cons_append, drawRun]
    cases ho : opStep P call h r ops i o st with
    | none => rw [ho] at h1; cases h1
    | some st2 =>
      rw [ho] at h1
      simp only at h1 ⊢
      cases hd : drawRun P call pf h r ops (i + 1) a st2 with
      | none => rw [hd] at h1; cases h1
      | some x =>
        obtain ⟨st3, fl3⟩ := x
        rw [hd] at h1
        simp only [Option.some.injEq, Prod.mk.injEq] at h1
        obtain ⟨rfl, rfl⟩ := h1
        rw [drawRun_append call pf h r ops a b (i + 1) st2 st3 fl3 hd, show i + 1 + a.length = i + (o :: a).length by simp; omega]
        cases drawRun P call pf h r ops (i + (o :: a).length) b st3 <;> rfl

noncomputable def runS (P : Program) (E : Env) (hn : Hint) (r : Nat) (ops : Array Oper) (i k : Nat) (st : St) : Option (St × List Nat) := drawRun P noC E.pf hn r ops i ((ops.toList.drop i).take k) st
noncomputable def runC (P : Program) (E : Env) (hn : Hint) (r : Nat) (ops : Array Oper) (i k : Nat) (c : Cf) : Cf := match runS P E hn r ops i k c.1 with | some x => (x.1, c.2 ++ x.2) | none => (⟨[], []⟩, [])

/-- plain operations, by the kernel -/
theorem G_run (k : Nat) (hk : G P E hn r ops (i + k) (runC P E hn r ops i k c) Q) (h : (runS P E hn r ops i k c.1).isSome = true := by kernel_rfl) (hl : decide (i + k ≤ ops.size) = true := by kernel_rfl) : G P E hn r ops i c Q := by
  have hl := of_decide_eq_true hl
  cases hr : runS P E hn r ops i k c.1 with
  | none => rw [hr] at h; cases h
  | some x =>
    obtain ⟨st1, fl1⟩ := x
    simp only [runC, hr] at hk
    obtain ⟨st2, fl2, ⟨N, h1⟩, h2⟩ := hk
    refine ⟨st2, fl1 ++ fl2, ⟨N, fun n hn' => ?_⟩, by rw [← List.append_assoc]; exact h2⟩
    have e1 : ops.toList.drop i = (ops.toList.drop i).take k ++ ops.toList.drop (i + k) := by rw [← List.drop_drop, List.take_append_drop]
    have e2 := drawRun_mono (noC_le (pfun P E n)) r ops ((ops.toList.drop i).take k) i c.1 _ hr
    have e3 : ((ops.toList.drop i).take k).length = k := by simp; omega
    have h3 := h1 n hn'
    simp only at h3
    rw [e1, drawRun_append _ _ _ _ _ _ _ _ _ _ _ e2, e3, h3]
    rfl

/-- an operation, asked alone -/
noncomputable def semAt (P : Program) (hn : Hint) (r : Nat) (ops : Array Oper) (i : Nat) (st : St) : Option (PV × List Blk) :=
  match ops[i]? with
  | some o => if wantedA ops st.slots o = some true then sem P noC (hn.ownAt r i) o (ev st.slots) st.heap else none
  | none => none
def sensAt (E : Env) (hn : Hint) (r : Nat) (ops : Array Oper) (i : Nat) (st : St) : Nat := match ops[i]? with | some o => sensT E.pf hn r i o (ev st.slots) | none => 0
/-- the value of operation i is put, the heap turned -/
def putF (E : Env) (hn : Hint) (r : Nat) (ops : Array Oper) (i : Nat) (c : Cf) (v : PV) (g : List Blk → List Blk) : Cf := (⟨putS c.1.slots ((ops[i]?).bind (·.dst)) v, g c.1.heap⟩, c.2 ++ [sensAt E hn r ops i c.1])

theorem drop_get {o : Oper} (h : ops[i]? = some o) : ops.toList.drop i = o :: ops.toList.drop (i + 1) := by
  have h' : ops.toList[i]? = some o := by simpa using h
  obtain ⟨hi, he⟩ := List.getElem?_eq_some_iff.1 h'
  rw [List.drop_eq_getElem_cons hi, he]
theorem G_op {v : PV} {g : List Blk → List Blk} (h : semAt P hn r ops i c.1 = some (v, g c.1.heap)) (hk : G P E hn r ops (i + 1) (putF E hn r ops i c v g) Q) : G P E hn r ops i c Q := by
  simp only [semAt] at h
  cases ho : ops[i]? with
  | none => rw [ho] at h; cases h
  | some o =>
    rw [ho] at h
    simp only at h
    by_cases hw : wantedA ops c.1.slots o = some true
    · rw [if_pos hw] at h
      unfold G
      rw [drop_get ho]
      refine DrawE_do hw ⟨v, _, ⟨0, fun k _ => sem_mono (noC_le (pfun P E k)) _ _ _ _ _ h⟩, ?_⟩
      simp only [G, putF, sensAt, ho, Option.bind_some] at hk
      exact hk
    · rw [if_neg hw] at h; cases h
/-- an operation, by a law of its own -/
theorem G_sem {o : Oper} (ho : ops[i]? = some o) (hw : wantedA ops c.1.slots o = some true) (h : SemE P E (hn.ownAt r i) o (ev c.1.slots) c.1.heap fun v H => G P E hn r ops (i + 1) (putF E hn r ops i c v fun _ => H) Q) : G P E hn r ops i c Q := by
  unfold G
  rw [drop_get ho]
  refine DrawE_do hw ?_
  simp only [G, putF, sensAt, ho, Option.bind_some] at h
  exact h
/-- likewise, where the heap stays -/
theorem G_semN {o : Oper} {v : PV} (ho : ops[i]? = some o) (h : ∀ K : PV → List Blk → Prop, K v c.1.heap → SemE P E (hn.ownAt r i) o (ev c.1.slots) c.1.heap K) (hk : G P E hn r ops (i + 1) (putF E hn r ops i c v id) Q) (hw : wantedA ops c.1.slots o = some true := by kernel_rfl) : G P E hn r ops i c Q :=
  G_sem ho hw (h _ hk)

theorem G_semH {o : Oper} {v : PV} (g : List Blk → List Blk) (ho : ops[i]? = some o) (hw : wantedA ops c.1.slots o = some true) (h : ∀ K : PV → List Blk → Prop, K v (g c.1.heap) → SemE P E (hn.ownAt r i) o (ev c.1.slots) c.1.heap K) (hk : G P E hn r ops (i + 1) (putF E hn r ops i c v g) Q) : G P E hn r ops i c Q :=
  G_sem ho hw (h _ hk)

/-- what an operation calls -/
def callAt (hn : Hint) (r : Nat) (ops : Array Oper) (i : Nat) (st : St) : Option (FuncId × List PV) :=
  match ops[i]? with
  | some o => if wantedA ops st.slots o = some true then
      (match o.op with
       | .call c => match c.callee, hn.ownAt r i with
         | .value x, [] => match ev st.slots x with
           | .dat (.raw (.func (.func f) _ _)) => some (f, c.args.toList.map (ev st.slots))
           | .fn f cap => some (f, c.args.toList.map (ev st.slots) ++ cap)
           | _ => none
         | _, _ => none
       | _ => none) else none
  | none => none
theorem G_call {f : FuncId} {args : List PV} {p : PV} {g : List Blk → List Blk} (hc : PC P E f args c.1.heap p (g c.1.heap)) (h : callAt hn r ops i c.1 = some (f, args)) (hk : G P E hn r ops (i + 1) (putF E hn r ops i c p g) Q) : G P E hn r ops i c Q := by
  obtain ⟨N, hN⟩ := hc
  simp only [callAt] at h
  cases ho : ops[i]? with
  | none => rw [ho] at h; cases h
  | some o =>
    rw [ho] at h
    simp only at h
    by_cases hw : wantedA ops c.1.slots o = some true
    · rw [if_pos hw] at h
      unfold G
      rw [drop_get ho]
      simp only [G, putF, sensAt, ho, Option.bind_some] at hk
      refine DrawE_do hw ⟨p, _, ⟨N, fun k hk' => ?_⟩, hk⟩
      split at h
      · rename_i c' hop
        split at h
        · rename_i x hcal how
          split at h
          · rename_i g a b hx
            cases h
            rw [sem]; simp only [hop, hcal, how, hx]; exact hN k hk'
          · rename_i g cap hx
            cases h
            rw [sem]; simp only [hop, hcal, how, hx]; exact hN k hk'
          · cases h
        · cases h
      · cases h
    · rw [if_neg hw] at h; cases h
/-- a call in the caller's heap -/
theorem G_callB {f : FuncId} {args : List PV} {p : PV} {H H' : List Blk} (hc : PC P E f args H p H') (hk : G P E hn r ops (i + 1) (putF E hn r ops i c p fun _ => H') Q) (hh : c.1.heap = H := by kernel_rfl) (h : callAt hn r ops i c.1 = some (f, args) := by kernel_rfl) : G P E hn r ops i c Q := by
  subst hh
  exact G_call (g := fun _ => H') hc h hk

/-- a closure called that leaves the heap as it is -/
theorem G_calm {o : Oper} {f : FuncId} {x : Operand} {args : Array Operand} {ts : Array TypeId} {caps A : List PV} {j e : Nat} {ow' : List (Nat × TypeId)} {p : PV} {H : List Blk} (hc : PC P E f A H p H) (hk : G P E hn r ops (i + 1) (putF E hn r ops i c p id) Q)
    (ho : ops[i]? = some o) (hop : o.op = .call { callee := .value x, args, argTypes := ts }) (hw : wantedA ops c.1.slots o = some true) (hx : ev c.1.slots x = .fn f caps) (ha : args.toList.map (ev c.1.slots) ++ caps = A) (hh : c.1.heap = H) (how : hn.ownAt r i = (j, e) :: ow') (hj : (decide (6000 ≤ j) && !decide (j = 7000) && !decide (12000 ≤ j)) = true := by decide) : G P E hn r ops i c Q :=
  G_semN (v := p) ho (fun K hK => E_callCalm hop hx how (by rw [ha, hh]; exact hc) hK hj) hk hw
/-- a call that sees the first blocks alone -/
def PCX (P : Program) (E : Env) (f : FuncId) (args : List PV) (H : List Blk) (p : PV) (Hn : List Blk) : Prop := ∃ X, PC P E f args H p (Hn ++ X)
def frameAt (hn : Hint) (r : Nat) (ops : Array Oper) (i : Nat) (st : St) : Option (FuncId × List PV × Nat × Bool) :=
  match ops[i]? with
  | some o => if wantedA ops st.slots o = some true then
      (match o.op with
       | .call c => match c.callee, hn.ownAt r i with
         | .value x, (j, e) :: _ => if 12000 ≤ j then (match ev st.slots x with
           | .dat (.raw (.func (.func f) _ _)) => some (f, c.args.toList.map (ev st.slots), tops (c.args.toList.map (ev st.slots)) + e, decide (13000 ≤ j))
           | _ => none) else none
         | _, _ => none
       | _ => none) else none
  | none => none
theorem G_callF {f : FuncId} {A : List PV} {p : PV} {Hn H0 : List Blk} {n : Nat} (hc : PCX P E f A H0 p Hn) (hk : G P E hn r ops (i + 1) (putF E hn r ops i c p fun H => Hn ++ H.drop n) Q) (h : frameAt hn r ops i c.1 = some (f, A, n, false) := by kernel_rfl)
    (hh : c.1.heap.take n = H0 := by kernel_rfl) (hi : (decide (n ≤ c.1.heap.length) && (unders n A && H0.all (Blk.under n))) = true := by kernel_rfl) (hq : (p.under n && Hn.all (Blk.under n)) = true := by kernel_rfl) (hl : Hn.length = n := by kernel_rfl) : G P E hn r ops i c Q := by
  obtain ⟨X, hc⟩ := hc
  subst hh
  simp only [frameAt] at h
  split at h
  case h_2 => cases h
  rename_i o ho
  by_cases hw : wantedA ops c.1.slots o = some true
  case neg => rw [if_neg hw] at h; cases h
  rw [if_pos hw] at h
  split at h
  case h_2 => cases h
  rename_i cc hop
  obtain ⟨callee, args, ts⟩ := cc
  cases callee with
  | builtin b => cases h
  | invoke x m => cases h
  | value x =>
    cases how : hn.ownAt r i with
    | nil => simp only [how] at h; cases h
    | cons je ow' =>
      obtain ⟨j, e⟩ := je
      simp only [how] at h
      by_cases hj : 12000 ≤ j
      case neg => rw [if_neg hj] at h; cases h
      rw [if_pos hj] at h
      split at h
      case h_2 => cases h
      rename_i fi first cap hx
      simp only [Option.some.injEq, Prod.mk.injEq] at h
      obtain ⟨rfl, rfl, hn', h13⟩ := h
      have h13 : ¬ 13000 ≤ j := by simpa using h13
      have ht : (Hn ++ X).take n = Hn := by rw [← hl]; exact List.take_left
      refine G_semH (fun H => Hn ++ H.drop n) ho hw (fun K hK => ?_) hk
      exact E_callFrame (first := first) (cap := cap) hop hx how hn' hc hi (by rw [ht]; exact hq) (by rw [ht]; exact hK) ⟨hj, h13⟩
/-- likewise, and they stay as they are -/
theorem G_callR {f : FuncId} {A : List PV} {p : PV} {Hn H0 : List Blk} {n : Nat} (hc : PCX P E f A H0 p Hn) (hk : G P E hn r ops (i + 1) (putF E hn r ops i c p id) Q) (h : frameAt hn r ops i c.1 = some (f, A, n, true) := by kernel_rfl)
    (hh : c.1.heap.take n = H0 := by kernel_rfl) (hi : (decide (n ≤ c.1.heap.length) && (unders n A && H0.all (Blk.under n))) = true := by kernel_rfl) (hq : p.under n = true := by kernel_rfl) (hl : Hn.length = n := by kernel_rfl) (hs : Hn = H0 := by kernel_rfl) : G P E hn r ops i c Q := by
  obtain ⟨X, hc⟩ := hc
  subst hh
  simp only [frameAt] at h
  split at h
  case h_2 => cases h
  rename_i o ho
  by_cases hw : wantedA ops c.1.slots o = some true
  case neg => rw [if_neg hw] at h; cases h
  rw [if_pos hw] at h
  split at h
  case h_2 => cases h
  rename_i cc hop
  obtain ⟨callee, args, ts⟩ := cc
  cases callee with
  | builtin b => cases h
  | invoke x m => cases h
  | value x =>
    cases how : hn.ownAt r i with
    | nil => simp only [how] at h; cases h
    | cons je ow' =>
      obtain ⟨j, e⟩ := je
      simp only [how] at h
      by_cases hj : 12000 ≤ j
      case neg => rw [if_neg hj] at h; cases h
      rw [if_pos hj] at h
      split at h
      case h_2 => cases h
      rename_i fi first cap hx
      simp only [Option.some.injEq, Prod.mk.injEq] at h
      obtain ⟨rfl, rfl, hn', h13⟩ := h
      have h13 : 13000 ≤ j := by simpa using h13
      have htk : (Hn ++ X).take n = c.1.heap.take n := by rw [← hs, ← hl]; exact List.take_left
      refine G_semN ho (fun K hK => ?_) hk hw
      exact E_callRead (first := first) (cap := cap) hop hx how hn' hc hi hq htk hK h13
/-- a call of a pure function on what reads as data -/
def lentOk (args : List PV) (p : PV) : Bool := !args.any PV.lends || scalarOut p
def callPAt (hn : Hint) (r : Nat) (ops : Array Oper) (i : Nat) (st : St) (p : PV) : Option (FuncId × List Dat) := match callAt hn r ops i st with | some (f, args) => if lentOk args p then (pures st.heap args).map fun ds => (f, ds) else none | none => none
theorem G_callP {f : FuncId} {ds : List Dat} {p : PV} {H0 H0' : List Blk} (hc : PC P E f (ds.map .dat) H0 p H0') (hk : G P E hn r ops (i + 1) (putF E hn r ops i c p id) Q)
    (hp : (E.pure f && (E.summ f).isNone) = true := by kernel_rfl) (h : callPAt hn r ops i c.1 p = some (f, ds) := by kernel_rfl) : G P E hn r ops i c Q := by
  simp only [Bool.and_eq_true, Option.isNone_iff_eq_none] at hp
  simp only [callPAt] at h
  cases hc' : callAt hn r ops i c.1 with
  | none => rw [hc'] at h; cases h
  | some fa =>
    obtain ⟨g, args⟩ := fa
    rw [hc'] at h
    simp only at h
    by_cases hl : lentOk args p = true
    · rw [if_pos hl] at h
      cases hds : pures c.1.heap args with
      | none => rw [hds] at h; cases h
      | some ds' =>
        rw [hds] at h
        cases h
        refine G_call (g := id) (PC_lend hp.2 hp.1 hc hds (fun ha => ?_)) hc' hk
        simp only [lentOk, ha, Bool.not_true, Bool.false_or] at hl
        exact hl
    · rw [if_neg hl] at h; cases h

/-- a guard's value is looked at -/
def setC (c : Cf) (j : Nat) (b : Bool) : Cf := (⟨c.1.slots.set j (boolPV b), c.1.heap⟩, c.2)
theorem G_split {b : Bool} {p : Prop} [Decidable p] (j : Nat) (hp : b = decide p) (h1 : p → G P E hn r ops i (setC c j true) Q) (h2 : ¬ p → G P E hn r ops i (setC c j false) Q) (hb : c.1.slots[j]? = some (boolPV b) := by kernel_rfl) : G P E hn r ops i c Q := by
  obtain ⟨hj, he⟩ := List.getElem?_eq_some_iff.1 hb
  have e : ∀ t, c.1.slots[j] = boolPV t → setC c j t = c := fun t ht => by
    have : c.1.slots.set j (boolPV t) = c.1.slots := by rw [← ht, List.set_getElem_self]
    simp only [setC, this]
  subst hp
  by_cases hq : p
  · have := h1 hq
    rw [e true (by rw [he, decide_eq_true hq])] at this
    exact this
  · have := h2 hq
    rw [e false (by rw [he, decide_eq_false hq])] at this
    exact this
theorem G_splitm {b : Bool} {p : Prop} [Decidable p] {α : Type} {ma mb : Option α} {rr : α} (j : Nat) (hm : (if p then ma else mb) = some rr) (hp : b = decide p) (h1 : ma = some rr → G P E hn r ops i (setC c j true) Q) (h2 : mb = some rr → G P E hn r ops i (setC c j false) Q) (hb : c.1.slots[j]? = some (boolPV b) := by kernel_rfl) : G P E hn r ops i c Q :=
  G_split j hp (fun hc => h1 (pos_inv hc hm)) (fun hc => h2 (neg_inv hc hm)) hb
theorem G_end (hk : Q c) (h : decide (i = ops.size) = true := by kernel_rfl) : G P E hn r ops i c Q := by
  have := of_decide_eq_true h
  subst this
  exact ⟨c.1, [], ⟨0, fun k _ => by rw [show ops.toList.drop ops.size = [] by simp]; rfl⟩, by rw [List.append_nil]; exact hk⟩

theorem drawRun_ops (call : CallF) (pf : FuncId → Bool) (h : Hint) (r : Nat) (ops : Array Oper) : ∀ (os : List Oper) (i : Nat) (st st1 : St) (fl : List Nat), drawRun P call pf h r ops i os st = some (st1, fl) → opsFrom P call h r ops i os st = some st1
  | [], i, st, st1, fl, h1 => by
    simp only [drawRun, Option.some.injEq, Prod.mk.injEq] at h1
    obtain ⟨rfl, rfl⟩ := h1
    rfl
  | o :: os, i, st, st1, fl, h1 => by
    simp only [drawRun] at h1
    simp only [opsFrom]
    cases ho : opStep P call h r ops i o st with
    | none => rw [ho] at h1; cases h1
    | some st2 =>
      rw [ho] at h1
      simp only at h1 ⊢
      cases hd : drawRun P call pf h r ops (i + 1) os st2 with
      | none => rw [hd] at h1; cases h1
      | some x =>
        obtain ⟨st3, fl3⟩ := x
        rw [hd] at h1
        simp only [Option.some.injEq, Prod.mk.injEq] at h1
        obtain ⟨rfl, rfl⟩ := h1
        exact drawRun_ops call pf h r ops os (i + 1) st2 st3 fl3 hd
theorem R_G {st : St} {QQ : Ex → St → Prop} (h : G P E hn r ops 0 (st, []) (fun c => QQ .normal c.1)) (hfl : hn.flatAt r = none := by kernel_rfl) : R P E hn rg (.region r ops false) st QQ := by
  obtain ⟨s, fl, ⟨N, h1⟩, h2⟩ := h
  exact R_region ⟨s, ⟨N, fun k hk => drawRun_ops _ _ _ _ _ _ _ _ _ _ (h1 k hk)⟩, h2⟩ hfl
/-- a region with operations on lists that are written within, run as it stands -/
theorem R_flat {fl : List (Nat × List Nat)} {st st' : St} {QQ : Ex → St → Prop} (hfl : hn.flatAt r = some fl) (h : ∀ call, opsFlat P call hn r ops fl 0 ops.toList st = some st') (hq : QQ .normal st') : R P E hn rg (.region r ops false) st QQ := by
  refine ⟨_, st', ⟨1, fun k n hk hn => ?_⟩, hq⟩
  cases n with
  | zero => omega
  | succ n => simp only [pcode, hfl, h, Option.map_some]
theorem R_GD {st : St} {QQ : Ex → St → Prop} (h : G P E hn r ops 0 (st, []) (fun c => orderOk st.heap.length ops c.2 = true ∧ QQ .normal c.1)) : R P E hn rg (.region r ops true) st QQ := by
  refine R_draw ?_
  exact h
/-! joins within a region: flags no greater than the greatest that may come up -/
def flLeB : List Nat → List Nat → Bool
  | [], _ => true
  | a :: fl, b :: w => decide (a ≤ b) && flLeB fl w
  | _ :: _, [] => false
theorem flLe_get : ∀ {fl w : List Nat}, flLeB fl w = true → ∀ i, fl.getD i 0 ≤ w.getD i 0
  | [], _, _, i => by simp
  | a :: fl, b :: w, h, i => by
    simp only [flLeB, Bool.and_eq_true, decide_eq_true_eq] at h
    cases i with
    | zero => simpa using h.1
    | succ i => simpa using flLe_get h.2 i
theorem flLe_app : ∀ {a b w : List Nat}, flLeB a w = true → flLeB b (w.drop a.length) = true → flLeB (a ++ b) w = true
  | [], _, _, _, h => by simpa using h
  | x :: a, b, y :: w, h, h2 => by
    simp only [flLeB, Bool.and_eq_true, List.cons_append] at h ⊢
    exact ⟨h.1, flLe_app h.2 (by simpa using h2)⟩
theorem free_fin : ∀ a b a' b' : Fin 4, freeT a.val b.val = true → a' ≤ a → b' ≤ b → freeT a'.val b'.val = true := by decide
theorem free_mono {a b a' b' : Nat} (h : freeT a b = true) (ha : a' ≤ a) (hb : b' ≤ b) (h1 : a ≤ 3) (h2 : b ≤ 3) : freeT a' b' = true :=
  free_fin ⟨a, by omega⟩ ⟨b, by omega⟩ ⟨a', by omega⟩ ⟨b', by omega⟩ h ha hb
theorem pair_mono {fl w A : List Nat} (h : flLeB fl w = true) (hw : w.all (fun a => decide (a ≤ 3)) = true) {x y : Nat} (hp : pairOk ops w A x y = true) : pairOk ops fl A x y = true := by
  have h3 : ∀ z, w.getD z 0 ≤ 3 := fun z => by
    rw [List.getD_eq_getElem?_getD]
    cases e : w[z]? with
    | none => simp
    | some v => simpa using List.all_eq_true.1 hw v (List.mem_of_getElem? e)
  unfold pairOk at hp ⊢
  split at hp
  · simp only [Bool.and_eq_true, Bool.or_eq_true] at hp ⊢
    refine ⟨hp.1, ?_⟩
    rcases hp.2 with h4 | h4
    · exact Or.inl h4
    · exact Or.inr (free_mono h4 (flLe_get h x) (flLe_get h y) (h3 x) (h3 y))
  · rfl
theorem order_mono {h0 : Nat} {fl w : List Nat} (h : flLeB fl w = true) (hw : (orderOk 0 ops w && w.all (fun a => decide (a ≤ 3))) = true) : orderOk h0 ops fl = true := by
  simp only [Bool.and_eq_true] at hw
  obtain ⟨h1, h2⟩ := hw
  unfold orderOk at h1 ⊢
  simp only [Bool.and_eq_true] at h1 ⊢
  have h5 : ∀ j, fl.getD j 0 ≤ 3 := fun j => by
    have h3 := flLe_get h j
    have h4 : w.getD j 0 ≤ 3 := by
      rw [List.getD_eq_getElem?_getD]
      cases e : w[j]? with
      | none => simp
      | some v => simpa using List.all_eq_true.1 h2 v (List.mem_of_getElem? e)
    omega
  refine ⟨⟨List.all_eq_true.2 fun j _ => ?_, List.all_eq_true.2 fun a ha => ?_⟩, h1.2.1, List.all_eq_true.2 fun x hx => List.all_eq_true.2 fun y hy => ?_⟩
  · have := h5 j
    rw [decide_eq_true (by omega : fl.getD j 0 < 16)]; rfl
  · obtain ⟨j, hj, rfl⟩ := List.getElem_of_mem ha
    have := h5 j
    rw [List.getD_eq_getElem?_getD, List.getElem?_eq_getElem hj] at this
    simp only [Option.getD_some] at this
    rw [decide_eq_true (by omega : fl[j] % 16 ≠ 9)]; rfl
  · exact pair_mono h h2 (List.all_eq_true.1 (List.all_eq_true.1 h1.2.2 x hx) y hy)
/-- the greatest flags that a region's operations may have -/
def worst (E : Env) (hn : Hint) (r : Nat) (ops : Array Oper) : List Nat := (List.range ops.size).map fun i => match ops[i]? with
  | some o => sensT E.pf hn r i o fun | .func f => .dat (.raw (.func (.func f) #[] #[])) | _ => .undef
  | none => 0
@[reducible] def QW (w : List Nat) (i : Nat) (K : St → Prop) : Cf → Prop := fun c => flLeB c.2 (w.drop i) = true ∧ K c.1
theorem R_GW {st : St} {QQ : Ex → St → Prop} (h : G P E hn r ops 0 (st, []) (QW (worst E hn r ops) 0 (QQ .normal)))
    (hw : (orderOk 0 ops (worst E hn r ops) && (worst E hn r ops).all (fun a => decide (a ≤ 3))) = true := by kernel_rfl) : R P E hn rg (.region r ops true) st QQ :=
  R_GD (by
    obtain ⟨s, fl, h1, h2, h3⟩ := h
    exact ⟨s, fl, h1, order_mono h2 hw, h3⟩)
theorem R_GN {st : St} {QQ : Ex → St → Prop} (h : G P E hn r ops 0 (st, []) (QW (List.replicate ops.size 99) 0 (QQ .normal))) (hfl : hn.flatAt r = none := by kernel_rfl) : R P E hn rg (.region r ops false) st QQ :=
  R_G (by
    obtain ⟨s, fl, h1, h2, h3⟩ := h
    exact ⟨s, fl, h1, h3⟩) hfl
/-- a join within a region: hk goes on from it, h comes to it -/
theorem G_cut {w : List Nat} {i j i' : Nat} {K : St → Prop} (C : List PV → St) (hk : ∀ d, G P E hn r ops j (C d, []) (QW w j K))
    (h : (∀ b c', (_ : c'.1 = C c'.1.slots := by kernel_rfl) → (_ : (flLeB c'.2 (w.drop b) && decide (c'.2.length + b = j)) = true := by kernel_rfl) → G P E hn r ops j c' (QW w b K)) → G P E hn r ops i' c (QW w i K)) : G P E hn r ops i' c (QW w i K) :=
  h fun b c' hs hf => by
    simp only [Bool.and_eq_true, decide_eq_true_eq] at hf
    obtain ⟨st2, fl2, h1, h2, h3⟩ := hk c'.1.slots
    rw [← hs] at h1
    refine ⟨st2, fl2, h1, flLe_app hf.1 ?_, h3⟩
    rw [List.drop_drop, show b + c'.2.length = j by omega]
    simpa using h2
end

section
variable {P : Program} {E : Env} {hn : Hint} {rg : Bool} {c a b : Code} {st : St} {Q Q' : Ex → St → Prop}
theorem R_ifp {x : Operand} {t : Bool} {p : Prop} [Decidable p] (hp : t = decide p) (h1 : p → R P E hn rg a st Q) (h2 : ¬ p → R P E hn rg b st Q) (hx : ev st.slots x = boolPV t := by kernel_rfl) : R P E hn rg (.cond x a b) st Q := by
  subst hp; exact R_if hx h1 h2
theorem R_ifm {x : Operand} {t : Bool} {p : Prop} [Decidable p] {α : Type} {ma mb : Option α} {rr : α} (hm : (if p then ma else mb) = some rr) (hp : t = decide p) (h1 : ma = some rr → R P E hn rg a st Q) (h2 : mb = some rr → R P E hn rg b st Q) (hx : ev st.slots x = boolPV t := by kernel_rfl) : R P E hn rg (.cond x a b) st Q :=
  R_ifp hp (fun hc => h1 (pos_inv hc hm)) (fun hc => h2 (neg_inv hc hm)) hx
/-- a join -/
theorem R_cut (C : List PV → St) (h1 : R P E hn rg a st fun e s => match e with | .normal => ∃ d, s = C d | e => Q e s) (h2 : ∀ d, Q .normal (C d)) : R P E hn rg a st Q :=
  h1.mono fun e s h => by
    cases e with
    | normal => obtain ⟨d, rfl⟩ := h; exact h2 d
    | exit id => exact h
    | ret => exact h
theorem cut_leaf {C : List PV → St} (h : st = C st.slots := by kernel_rfl) : ∃ d, st = C d := ⟨_, h⟩
/-- a loop, by what its model says -/
theorem RL_cut {α ρ : Type} {h0 : Nat} (C : α → St) (post : ρ → Ex → St → Prop) (L : α → Option ρ) (x : α) (o : ρ) (ho : L x = some o) (hst : prune h0 ((firstRegion b).bind hn.keepAt) st = C x)
    (corr : ∀ x r, L x = some r → ∀ st, prune h0 ((firstRegion b).bind hn.keepAt) st = C x → RL P E hn rg b h0 st (post r)) (after : ∀ e s, post o e s → Q e s) : RL P E hn rg b h0 st Q :=
  (corr x o ho st hst).mono after
/-- code within code -/
def codeAt : List Nat → Code → Code
  | [], c => c
  | 0 :: p, .seq a _ => codeAt p a
  | _ :: p, .seq _ b => codeAt p b
  | 0 :: p, .cond _ a _ => codeAt p a
  | _ :: p, .cond _ _ b => codeAt p b
  | _ :: p, .block _ b => codeAt p b
  | _ :: p, .loop b => codeAt p b
  | _ :: p, .scope b => codeAt p b
  | _, c => c
def bodyOf (f : Func) : Code := f.body.getD .skip
theorem RL_use {b b' : Code} {h0 h0' : Nat} {C : St} {post : Ex → St → Prop} (hR : ∀ st, prune h0' ((firstRegion b').bind hn.keepAt) st = C → RL P E hn rg b' h0' st post) (hst : prune h0' ((firstRegion b').bind hn.keepAt) st = C) (after : ∀ e s, post e s → Q e s)
    (hb : b = b' := by kernel_rfl) (hh : h0 = h0' := by kernel_rfl) : RL P E hn rg b h0 st Q := by
  subst hb; subst hh
  exact (hR st hst).mono after
theorem RL_at {h0 : Nat} {st' : St} (h : prune h0 ((firstRegion b).bind hn.keepAt) st = st') (k : R P E hn rg b st' fun e s => match e with | .normal => RL P E hn rg b h0 s Q | e => Q e s) : RL P E hn rg b h0 st Q := by
  subst h; exact RL_step k
theorem prune_of {h0 : Nat} {keep : Option (List Nat)} {ks : List Nat} {H' : List Blk} {sl' : List PV} (hk : keep = some ks) (hH : (st.heap.take h0).map (purgeB (fgt ks) st.heap h0) = H') (hs : keepS (fgt ks) st.heap h0 ks 0 st.slots = sl') : prune h0 keep st = ⟨sl', H'⟩ := by
  rw [prune_some hk, hH, hs]
/-- the end of a pure function -/
theorem fin_pure {H : List Blk} {slots : List PV} {rs : List ResultVar} {p : PV} (h : ((ressOf P slots H rs).bind fun vs => pureOut H (tupOf vs)) = some p := by kernel_rfl) : ∃ vs, ressOf P slots H rs = some vs ∧ pureOut H (tupOf vs) = some p := by
  cases hr : ressOf P slots H rs with
  | none => rw [hr] at h; cases h
  | some vs => rw [hr] at h; exact ⟨vs, rfl, h⟩
theorem PC_sx {f : FuncId} {fn : Func} {ds : List Dat} {H : List Blk} {p : PV} (hb : fn.body = some c)
    (hR : R P E (E.hint f) true c ⟨en fn.ntmps (ds.map .dat), []⟩ fun e s => (match e with | .exit _ => False | _ => True) ∧ ∃ vs, ressOf P s.slots s.heap fn.results.toList = some vs ∧ pureOut s.heap (tupOf vs) = some p) (hq : (enters P f && ((E.summ f).isNone && E.pure f && !(E.split f && (isEmp (ds.map .dat) && true)))) = true := by kernel_rfl) (hf : P.funcs[f]? = some fn := by kernel_rfl) (hl : lentOk (ds.map .dat) p = true := by kernel_rfl) : PC P E f (ds.map .dat) H p H := by
  simp only [Bool.and_eq_true, Option.isNone_iff_eq_none] at hq
  refine PC_pure hq.1 hq.2.1.1 hq.2.1.2 hf hb (pures_self _ _) hR (fun ha => ?_) (by cases hs : E.split f <;> cases hi : isEmp (ds.map PV.dat) <;> simp_all)
  simp only [lentOk, ha, Bool.not_true, Bool.false_or] at hl
  exact hl
theorem PC_sxB {f : FuncId} {fn : Func} {args : List PV} {H H' : List Blk} {p : PV} (hb : fn.body = some c)
    (hR : R P E (E.hint f) true c ⟨en fn.ntmps args, H⟩ fun e s => (match e with | .exit _ => False | _ => True) ∧ ∃ vs, ressOf P s.slots s.heap fn.results.toList = some vs ∧ p = tupOf vs ∧ H' = s.heap) (hq : (enters P f && ((E.summ f).isNone && !E.pure f && !(E.split f && (isEmp args && H.isEmpty)))) = true := by kernel_rfl) (hf : P.funcs[f]? = some fn := by kernel_rfl) : PC P E f args H p H' := by
  simp only [Bool.and_eq_true, Option.isNone_iff_eq_none, Bool.not_eq_true', Bool.and_eq_false_iff] at hq
  refine PC_body hq.1 hq.2.1.1 hq.2.1.2 hf hb hR ?_
  have := hq.2.2
  cases hs : E.split f <;> cases hi : isEmp args <;> cases hh : H.isEmpty <;> simp_all
theorem PCX_sxB {f : FuncId} {fn : Func} {args : List PV} {H Hn : List Blk} {p : PV} (hb : fn.body = some c)
    (hR : R P E (E.hint f) true c ⟨en fn.ntmps args, H⟩ fun e s => (match e with | .exit _ => False | _ => True) ∧ ∃ X, ∃ vs, ressOf P s.slots s.heap fn.results.toList = some vs ∧ p = tupOf vs ∧ Hn ++ X = s.heap) (hq : (enters P f && ((E.summ f).isNone && !E.pure f && !(E.split f && (isEmp args && H.isEmpty)))) = true := by kernel_rfl) (hf : P.funcs[f]? = some fn := by kernel_rfl) : PCX P E f args H p Hn := by
  obtain ⟨e, s, hN, h2, X, h3⟩ := hR
  exact ⟨X, PC_sxB hb ⟨e, s, hN, h2, h3⟩ hq hf⟩
theorem fin_bodyX (n : Nat) {slots : List PV} {H Hn : List Blk} {rs : List ResultVar} {p : PV} (h : (ressOf P slots H rs).map tupOf = some p) (hH : Hn ++ H.drop n = H) : ∃ X, ∃ vs, ressOf P slots H rs = some vs ∧ p = tupOf vs ∧ Hn ++ X = H := by
  cases hr : ressOf P slots H rs with
  | none => rw [hr] at h; cases h
  | some vs => rw [hr] at h; exact ⟨_, vs, rfl, (Option.some.inj h).symm, hH⟩
theorem fin_body {slots : List PV} {H H' : List Blk} {rs : List ResultVar} {p : PV} (h : (ressOf P slots H rs).map tupOf = some p) (hH : H' = H) : ∃ vs, ressOf P slots H rs = some vs ∧ p = tupOf vs ∧ H' = H := by
  cases hr : ressOf P slots H rs with
  | none => rw [hr] at h; cases h
  | some vs => rw [hr] at h; exact ⟨vs, rfl, (Option.some.inj h).symm, hH⟩
end

/-! ### operations that ask for something -/
section
variable {P : Program} {E : Env} {hn : Hint} {r i : Nat} {ops : Array Oper} {c : Cf} {Q : Cf → Prop}

/-- a builtin, asked alone -/
def bltAt (P : Program) (hn : Hint) (r : Nat) (ops : Array Oper) (i : Nat) (st : St) : Option (PV × List Blk) :=
  match ops[i]? with
  | some o => if wantedA ops st.slots o = some true then
      (match o.op with
       | .call c => match c.callee with
         | .builtin b => builtinSem P b c.argTypes (c.args.toList.map (ev st.slots)) st.heap
         | _ => none
       | _ => none) else none
  | none => none
theorem blt_sem {x : PV × List Blk} (h : bltAt P hn r ops i c.1 = some x) : semAt P hn r ops i c.1 = some x := by
  simp only [bltAt] at h
  simp only [semAt]
  cases ho : ops[i]? with
  | none => rw [ho] at h; cases h
  | some o =>
    rw [ho] at h
    simp only at h ⊢
    by_cases hw : wantedA ops c.1.slots o = some true
    · rw [if_pos hw] at h ⊢
      split at h
      · rename_i c hop
        split at h
        · rename_i b hb
          rw [sem]; simp only [hop, hb, h]
        · cases h
      · cases h
    · rw [if_neg hw] at h; cases h
def lenK (n : Nat) (H : List Blk) : Option (PV × List Blk) := some (intPV (n : Int), H)
theorem I_len {α : Type} (f : α → Dat) (l : List α) {es : List Dat} (he : es = l.map f) (hk : G P E hn r ops (i + 1) (putF E hn r ops i c (intPV (l.length : Int)) id) Q) (h : bltAt P hn r ops i c.1 = lenK es.length c.1.heap := by kernel_rfl) : G P E hn r ops i c Q := by
  subst he
  rw [List.length_map] at h
  exact G_op (g := id) (blt_sem h) hk

def idxK (size : Nat) (es : List Dat) (n : Int) (H : List Blk) : Option (PV × List Blk) := if 0 ≤ n then (match es[n.toNat]? with | some d => if d.num = size then some (.iptr d.cells, H) else none | none => none) else none
theorem idx_some {α : Type} {l : List α} {n : Int} {x : α} (h : idx l n = some x) : 0 ≤ n ∧ l[n.toNat]? = some x := by
  unfold idx at h
  split at h
  · exact ⟨by assumption, h⟩
  · cases h
theorem I_idx {α : Type} (size : Nat) (f : α → Dat) (l : List α) (n : Int) (x : α) {es : List Dat} {d : Dat} (he : es = l.map f) (hx : idx l n = some x) (hd : f x = d) (hs : d.num = size) 
    (hk : G P E hn r ops (i + 1) (putF E hn r ops i c (.iptr d.cells) id) Q) (h : semAt P hn r ops i c.1 = idxK size es n c.1.heap := by kernel_rfl) : G P E hn r ops i c Q := by
  subst he; subst hd
  obtain ⟨h0, h1⟩ := idx_some hx
  refine G_op (g := id) (h.trans ?_) hk
  simp only [idxK, h0, if_true, List.getElem?_map, h1, Option.map_some, hs, id]

theorem I_idxf {α β : Type} {l : List α} {n : Int} {k : α → Option β} {rr : β} (size : Nat) (f : α → Dat) {es : List Dat} (hm : (idx l n >>= k) = some rr) (he : es = l.map f) (hs : ∀ x, (f x).num = size)
    (hk : ∀ x, k x = some rr → G P E hn r ops (i + 1) (putF E hn r ops i c (.iptr (f x).cells) id) Q) (h : semAt P hn r ops i c.1 = idxK size es n c.1.heap := by kernel_rfl) : G P E hn r ops i c Q := by
  obtain ⟨x, hx, hm'⟩ := bind_inv hm
  exact I_idx size f l n x he hx rfl (hs x) (hk x hm') h

def appK (H : List Blk) (e size bytes t n : Nat) (xs es : List Dat) : Option (PV × List Blk) :=
  if es.all (Dat.fits size) then (if xs.all (Dat.fits size) ∧ e = e ∧ n = xs.length ∧ (xs.length + es.length) * bytes ≤ room then some (.vec t (xs ++ es), H.set t (.tok e (xs.length + es.length))) else none) else none
theorem all_fits {α : Type} {f : α → Dat} {k : Nat} (h : ∀ a, Dat.fits k (f a) = true) (l : List α) : (l.map f).all (Dat.fits k) = true := by
  simp only [List.all_map, List.all_eq_true]; intro x _; exact h x
theorem app_some {α : Type} {bytes : Nat} {l es r : List α} (h : app bytes l es = some r) : (l.length + es.length) * bytes ≤ room ∧ r = l ++ es := by
  unfold app at h
  split at h
  · exact ⟨by assumption, (Option.some.inj h).symm⟩
  · cases h
theorem I_app {α : Type} (e size bytes t : Nat) (f : α → Dat) (l ys r' : List α) {xs es : List Dat} {L : List α → List Dat} (hL : ∀ l, L l = l.map f) (hx : xs = L l) (hy : es = L ys) (hf : ∀ a, Dat.fits size (f a) = true) (hr : app bytes l ys = some r') 
    (hk : G P E hn r ops (i + 1) (putF E hn r ops i c (.vec t (L r')) fun H => H.set t (.tok e r'.length)) Q) (h : bltAt P hn r ops i c.1 = appK c.1.heap e size bytes t l.length xs es := by kernel_rfl) : G P E hn r ops i c Q := by
  subst hx; subst hy
  obtain ⟨h1, rfl⟩ := app_some hr
  refine G_op (g := fun H => H.set t (.tok e (l ++ ys).length)) (blt_sem (h.trans ?_)) hk
  simp only [appK, hL, all_fits hf, if_true, List.length_map, true_and, h1, List.map_append, List.length_append]


def sliceK (size : Nat) (es : List Dat) (l h : Option Nat) (H : List Blk) : Option (PV × List Blk) :=
  match l, h with
  | some l, some h => if l ≤ h ∧ h ≤ es.length ∧ (l == 0 || es.all fun d => d.num == size) then some (.dat (.lst ((es.take h).drop l)), H) else none
  | _, _ => none
def natI (n : Int) : Option Nat := if 0 ≤ n then some n.toNat else none
theorem sub_some {α : Type} {l r : List α} {lo hi : Int} (h : sub l lo hi = some r) : (0 ≤ lo ∧ lo ≤ hi ∧ hi ≤ (l.length : Int)) ∧ r = (l.take hi.toNat).drop lo.toNat := by
  unfold sub at h
  split at h
  · exact ⟨by assumption, (Option.some.inj h).symm⟩
  · cases h
theorem I_sub {α : Type} (size : Nat) (f : α → Dat) (l r' : List α) (lo hi : Int) {es : List Dat} {L : List α → List Dat} {a b : Option Nat} (hL : ∀ l, L l = l.map f) (he : es = L l) (hf : ∀ a, (f a).num = size) (hr : sub l lo hi = some r') (ha : a = natI lo) (hb : b = natI hi ∨ (b = some es.length ∧ hi = (l.length : Int))) 
    (hk : G P E hn r ops (i + 1) (putF E hn r ops i c (.dat (.lst (L r'))) id) Q) (h : semAt P hn r ops i c.1 = sliceK size es a b c.1.heap := by kernel_rfl) : G P E hn r ops i c Q := by
  subst he
  obtain ⟨⟨h1, h2, h3⟩, rfl⟩ := sub_some hr
  refine G_op (g := id) (h.trans ?_) hk
  have e1 : a = some lo.toNat := by rw [ha, natI, if_pos h1]
  have e2 : b = some hi.toNat := by
    rcases hb with hb | ⟨hb, hq⟩
    · rw [hb, natI, if_pos (by omega)]
    · rw [hb, hL, List.length_map]; congr 1; omega
  have e3 : ((l.map f).all fun d => d.num == size) = true := by simp only [List.all_map, List.all_eq_true]; intro x _; simp [hf x]
  subst e1; subst e2
  simp only [sliceK, hL, List.length_map, e3, Bool.or_true, and_true]
  rw [if_pos ⟨by omega, by omega⟩, List.map_drop, List.map_take]; rfl
end
section
variable {P : Program} {E : Env} {ow : List (Nat × TypeId)} {o : Oper} {ρ : Operand → PV} {H : List Blk} {K : PV → List Blk → Prop}
theorem quo_some {a b q : Int} (h : quoM a b = some q) : b ≠ 0 ∧ q = W (a.tdiv b) := by
  unfold quoM at h
  split at h
  · cases h
  · exact ⟨by assumption, (Option.some.inj h).symm⟩
theorem rem_some {a b q : Int} (h : remM a b = some q) : b ≠ 0 ∧ q = a.tmod b := by
  unfold remM at h
  split at h
  · cases h
  · exact ⟨by assumption, (Option.some.inj h).symm⟩
theorem E_quo {t yt : TypeId} {x y : Operand} {a b q : Int} (hq : quoM a b = some q) (ho : o.op = .binOp .quo t x y yt) (hx : ρ x = intPV a) (hy : ρ y = intPV b) (hk : K (intPV q) H) : SemE P E ow o ρ H K := by
  obtain ⟨h0, rfl⟩ := quo_some hq
  exact E_int ho hx hy (if_neg h0) hk
theorem E_rem {t yt : TypeId} {x y : Operand} {a b q : Int} (hq : remM a b = some q) (ho : o.op = .binOp .rem t x y yt) (hx : ρ x = intPV a) (hy : ρ y = intPV b) (hk : K (intPV q) H) : SemE P E ow o ρ H K := by
  obtain ⟨h0, rfl⟩ := rem_some hq
  exact E_int ho hx hy (if_neg h0) hk
theorem num_of_fit {k : Nat} {d : Dat} (h : Dat.fits k d = true) : d.num = k := by
  simp only [Dat.fits, Bool.and_eq_true, beq_iff_eq] at h; exact h.1
end

/-! ### lists that are written -/
def setM {α : Type} (l : List α) (n : Int) (y : α) : Option (List α) := if 0 ≤ n ∧ n.toNat < l.length then some (l.set n.toNat y) else none
def makeM {α : Type} (bytes : Nat) (n : Int) (z : α) : Option (List α) := if 0 ≤ n ∧ n * (bytes : Int) ≤ (room : Int) ∧ n ≤ 9223372036854775807 then some (List.replicate n.toNat z) else none
theorem idx_nat {α : Type} {l : List α} {n : Int} {x : α} (h : idx l n = some x) : n = ((n.toNat : Nat) : Int) := by have := (idx_some h).1; omega
theorem idx_lt {α : Type} {l : List α} {n : Int} {x : α} (h : idx l n = some x) : n.toNat < l.length := (List.getElem?_eq_some_iff.1 (idx_some h).2).1
theorem set_some {α : Type} {l l2 : List α} {n : Int} {y : α} (h : setM l n y = some l2) : n.toNat < l.length ∧ l2 = l.set n.toNat y := by
  unfold setM at h
  split at h
  · rename_i h1; exact ⟨h1.2, (Option.some.inj h).symm⟩
  · cases h
theorem cells_idx {α : Type} (f : α → Dat) {l : List α} {n : Int} {x : α} (h : idx l n = some x) : (cellsOf f l)[0 + n.toNat]? = some (.dat (f x)) := by
  simp only [cellsOf, Nat.zero_add, List.getElem?_map, (idx_some h).2, Option.map_some]
section
variable {P : Program} {E : Env} {ow : List (Nat × TypeId)} {o : Oper} {ρ : Operand → PV} {H : List Blk} {K : PV → List Blk → Prop}
theorem dat_cell {α : Type} {f : α → Dat} (hf : ∀ a, (f a).isCell = true) (y : α) : (PV.dat (f y)).cell = true := by
  have := hf y
  cases h : f y with
  | agg cs => rw [h] at this; cases this
  | _ => rfl
theorem E_stMs {α : Type} (f : α → Dat) {l l2 : List α} {n : Int} {y : α} {t e : TypeId} {x z : Operand} {tt g : Nat} (hs : setM l n y = some l2) (hf : ∀ a, (f a).isCell = true) (hn : szOf P t = some 1) (ho : o.op = .store t x z) (hx : ρ x = .mp tt g (0 + n.toNat)) (hb : H[tt]? = some (.mt e g (cellsOf f l))) (hy : ρ z = .dat (f y)) (hw : ow = [])
    (hk : K (.tup []) (H.set tt (.mt e g (cellsOf f l2)))) : SemE P E ow o ρ H K := by
  obtain ⟨h1, rfl⟩ := set_some hs
  rw [Nat.zero_add] at hx
  refine E_storeMs hn ho hx (mtOf_at hb) hy (dat_cell hf y) (by rw [cellsOf_len]; exact h1) hw ?_ (cellsOf_flat f hf l)
  rw [cellsOf_set]; exact hk
def gb (g : Nat) (b : Bool) : Nat := if b then g else g + 1
theorem E_apMs {α : Type} (f : α → Dat) {l es l2 : List α} {ts e : TypeId} {x s : Operand} {bytes tt g m : Nat} (hr : app bytes l es = some l2) (hf : ∀ a, (f a).isCell = true) (he : elemOfSlice P ts = some e) (hs : szOf P e = some 1) (hb : bytesOf P e = some bytes) (hz : (zeroOf P e).map Dat.num = some 1) (h0 : decide (0 < bytes) = true)
    (ho : o.op = .call { callee := .builtin .append, args := #[s, x], argTypes := #[ts, ts] }) (hsv : ρ s = .ms tt g 0 m m) (hl : l.length = m) (hm : H[tt]? = some (.mt e g (cellsOf f l))) (hx : sourceOf H (ρ x) = some (cellsOf f es))
    (hk : K (.ms tt (gb g es.isEmpty) 0 l2.length l2.length) (H.set tt (.mt e (gb g es.isEmpty) (cellsOf f l2)))) : SemE P E ow o ρ H K := by
  subst hl
  obtain ⟨h1, rfl⟩ := app_some hr
  cases es with
  | nil =>
    refine E_appendMs he hs hb hz (of_decide_eq_true h0) ho hsv hx (v := .ms tt g 0 l.length l.length) (H' := H) (by simp [appendMs, cellsOf]) ?_
    have e1 : H.set tt (.mt e g (cellsOf f l)) = H := by
      obtain ⟨h2, h3⟩ := List.getElem?_eq_some_iff.1 hm
      rw [← h3, List.set_getElem_self]
    simpa [gb, e1] using hk
  | cons a es =>
    refine E_appendMs he hs hb hz (of_decide_eq_true h0) ho hsv hx (ms_append_grow hf (mtOf_at hm) (Nat.succ_pos _) rfl h1) ?_
    simpa [gb] using hk
theorem E_apMu {α : Type} (f : α → Dat) {l es l2 : List α} {ts e : TypeId} {x s : Operand} {bytes tt g m size : Nat} (hr : app bytes l es = some l2) (hf : ∀ a, (f a).fits size = true) (hne : es.isEmpty = false) (he : elemOfSlice P ts = some e) (hs : szOf P e = some size) (h1 : decide (1 < size) = true) (hb : bytesOf P e = some bytes) (hz : (zeroOf P e).map Dat.num = some size) (h0 : decide (0 < bytes) = true)
    (ho : o.op = .call { callee := .builtin .append, args := #[s, x], argTypes := #[ts, ts] }) (hsv : ρ s = .ms tt g 0 m m) (hl : l.length = m) (hm : H[tt]? = some (.mt e g (cellsOf f l))) (hx : ρ x = .dat (.lst (es.map f)))
    (hk : K (.ms tt (g + 1) 0 l2.length l2.length) (H.set tt (.mt e (g + 1) (cellsOf f l2)))) : SemE P E ow o ρ H K := by
  subst hl
  obtain ⟨hroom, rfl⟩ := app_some hr
  replace h1 := of_decide_eq_true h1
  cases es with
  | nil => cases hne
  | cons a es =>
    have ha : (f a).isCell = false := by
      have hn := fits_num (hf a)
      rw [agg_of_num hn h1]; rfl
    have hall : ((a :: es).map f).all (Dat.fits size) = true := by simp only [List.all_map, List.all_eq_true]; intro x _; exact hf x
    have hsrc : sourceOf H (.dat (.lst ((a :: es).map f))) = none := by simp [sourceOf, appended, ha]
    have hap : appendMul H e size bytes tt g 0 l.length (.dat (.lst ((a :: es).map f))) = some (.ms tt (g + 1) 0 (l.length + (a :: es).length) (l.length + (a :: es).length), H.set tt (.mt e (g + 1) (cellsOf f (l ++ a :: es)))) := by
      simp only [appendMul, appended, mtOf_at hm]
      rw [if_pos ⟨h1, hall, trivial, trivial, trivial, by rw [cellsOf_len], by simp, by simpa using hroom, by
        simp only [cellsOf, List.all_map, List.all_eq_true]
        intro x _
        have h2 := fits_num (hf x)
        show (!PV.flat (.dat (f x))) = true
        cases hx : f x with
        | agg cs => rfl
        | raw v => rw [hx] at h2; simp [Dat.num] at h2; omega
        | lst es => rw [hx] at h2; simp [Dat.num] at h2; omega⟩]
      simp [cellsOf]
      rfl
    refine SemE_of (fun call => ?_) hk
    have : builtinSem P .append #[ts, ts] [ρ s, ρ x] H = some (.ms tt (g + 1) 0 (l ++ a :: es).length (l ++ a :: es).length, H.set tt (.mt e (g + 1) (cellsOf f (l ++ a :: es)))) := by
      rw [hsv, hx]
      simp only [builtinSem, he, hb, hsrc, hs, hz, of_decide_eq_true h0, and_self, if_true, hap, List.length_append]
    simp only [sem, ho, List.map_cons, List.map_nil, this]
theorem E_ixBox {t e : TypeId} {x ix : Operand} {α : Type} {l : List α} {n : Int} {v : α} {i cap m : Nat} (hx' : idx l n = some v) (hl : l.length = m) (he : elemOfSlice P t = some e) (hs : szOf P e = some 1) (ho : o.op = .indexAddr t x ix) (hi : ρ ix = intPV n) (hx : ρ x = .arr i 0 m cap)
    (hk : K (.ptr i n.toNat) H) : SemE P E ow o ρ H K := by
  subst hl
  have h1 := idx_lt hx'
  have h0 := (idx_some hx').1
  have hi' : ρ ix = .dat (.raw (.int .i64 n)) := hi
  refine SemE_of (fun call => ?_) hk
  simp only [sem, ho, hi', he, hs, h0, if_true, hx, h1, Nat.mul_one, Nat.zero_add]
theorem E_ldBox {α : Type} (f : α → Dat) {l : List α} {n : Int} {v : α} {t : TypeId} {x : Operand} {i : Nat} (hx' : idx l n = some v) (hg : aggT P t = some false) (hn : szOf P t = some 1) (ho : o.op = .load t x) (hx : ρ x = .ptr i n.toNat) (hb : H[i]? = some (.box (cellsOf f l))) (hk : K (.dat (f v)) H) (hw : ow = [] := by kernel_rfl) : SemE P E ow o ρ H K := by
  have h1 : (cellsOf f l)[n.toNat]? = some (.dat (f v)) := by have := cells_idx f hx'; rwa [Nat.zero_add] at this
  refine SemE_of (fun call => ?_) hk
  simp [sem, loadSem, hw, ho, hg, hn, hx, hb, cut_one h1, ofCells]
theorem E_stBox {α : Type} (f : α → Dat) {l l2 : List α} {n : Int} {y : α} {t : TypeId} {x z : Operand} {i : Nat} (hs : setM l n y = some l2) (hf : ∀ a, (f a).isCell = true) (hn : szOf P t = some 1) (ho : o.op = .store t x z) (hx : ρ x = .ptr i n.toNat) (hb : H[i]? = some (.box (cellsOf f l))) (hy : ρ z = .dat (f y)) (hw : ow = [])
    (hk : K (.tup []) (H.set i (.box (cellsOf f l2)))) : SemE P E ow o ρ H K := by
  obtain ⟨h1, rfl⟩ := set_some hs
  refine SemE_of (fun call => ?_) hk
  have h2 : (PV.dat (f y)).cells = [.dat (f y)] := by
    have := hf y
    cases h : f y with
    | agg cs => rw [h] at this; cases this
    | _ => rfl
  have h3 : paste (cellsOf f l) n.toNat [.dat (f y)] = some (cellsOf f (l.set n.toNat y)) := by
    rw [← cellsOf_set, paste, if_pos (by rw [cellsOf_len]; simp; omega)]
    simp [List.set_eq_take_append_cons_drop, cellsOf_len, h1]
  simp only [sem, storeSem, hw, ho, hn, hx, hb, hy, h2, List.length_cons, List.length_nil, List.all_cons, List.all_nil, dat_cell hf y, Bool.and_true, and_self, if_true, h3, Option.map_some]
theorem E_mkBox {α : Type} (f : α → Dat) {z : α} {l : List α} {n : Int} {t e : TypeId} {xl xc : Operand} {bytes : Nat} (hr : makeM bytes n z = some l) (he : elemOfSlice P t = some e) (hz : zeroOf P e = some (f z)) (hs : szOf P e = some 1) (hb : bytesOf P e = some bytes) (hc' : (f z).isCell = true) (ho : o.op = .makeSlice t xl xc) (hl : ρ xl = intPV n) (hc : ρ xc = intPV n)
    (hk : K (.arr H.length 0 l.length l.length) (H ++ [.box (cellsOf f l)])) (hw : ow = [] := by kernel_rfl) : SemE P E ow o ρ H K := by
  unfold makeM at hr
  split at hr
  · rename_i h1
    cases hr
    have hl' : ρ xl = .dat (.raw (.int .i64 n)) := hl
    have hc'' : ρ xc = .dat (.raw (.int .i64 n)) := hc
    refine SemE_of (fun call => ?_) hk
    have h2 : cellsOf f (List.replicate n.toNat z) = List.replicate n.toNat (.dat (f z)) := by simp [cellsOf]
    simp only [sem, ho, hw, he, hz, hs, hb, hl', hc'', h2, List.length_replicate]
    rw [if_pos ⟨h1.1, Int.le_refl _, h1.2.1, h1.2.2, hc'⟩]
  · cases hr
/-- a list copied over another one's beginning -/
def cpM {α : Type} (d l : List α) : List α := l.take d.length ++ d.drop l.length
theorem E_cpBox {α : Type} (f : α → Dat) {d l : List α} {t t' e : TypeId} {x y : Operand} {i m cap : Nat} (hf : ∀ a, (f a).isCell = true) (hl : d.length = m) (he : elemOfSlice P t = some e) (hs : szOf P e = some 1) (ho : o.op = .call { callee := .builtin .copy, args := #[x, y], argTypes := #[t, t'] }) (hx : ρ x = .arr i 0 m cap) (hb : H[i]? = some (.box (cellsOf f d)))
    (hy : ρ y = .dat (.lst (l.map f))) (hk : K (intPV ((min l.length m : Nat) : Int)) (H.set i (.box (cellsOf f (cpM d l))))) : SemE P E ow o ρ H K := by
  subst hl
  have h1 : (l.map f).all Dat.isCell = true := by simp only [List.all_map, List.all_eq_true]; intro x _; exact hf x
  have h2 : copied H (ρ y) = some (cellsOf f l) := by rw [hy]; simp only [copied, h1, if_true, List.map_map]; rfl
  have e3 : l.take (min l.length d.length) = l.take d.length := by
    rcases Nat.le_total l.length d.length with h | h
    · rw [Nat.min_eq_left h, List.take_length, List.take_of_length_le h]
    · rw [Nat.min_eq_right h]
  have e4 : d.drop (min d.length l.length) = d.drop l.length := by
    rcases Nat.le_total l.length d.length with h | h
    · rw [Nat.min_eq_right h]
    · rw [Nat.min_eq_left h, List.drop_length, List.drop_of_length_le h]
  have h3 : (cellsOf f l).take (min (cellsOf f l).length d.length) = cellsOf f (l.take d.length) := by
    rw [cellsOf_len, cellsOf_take, e3]
  have h4 : paste (cellsOf f d) 0 (cellsOf f (l.take d.length)) = some (cellsOf f (cpM d l)) := by
    have h5 : (cellsOf f (l.take d.length)).length = min d.length l.length := by rw [cellsOf_len, List.length_take]
    rw [paste, if_pos (by rw [h5, cellsOf_len]; omega), h5]
    simp only [List.take_zero, List.nil_append, Nat.zero_add, cpM]
    rw [cellsOf_drop, cellsOf_append, e4]
  refine E_copy he hs ho hx hb h2 (cellsOf_all hf l) (by rw [h3]; exact h4) ?_
  rw [cellsOf_len]; exact hk
def mg {α : Type} (l : List α) : Nat := if l.isEmpty then 0 else 1
theorem E_mkMsN (N : Nat) {α : Type} (f : α → Dat) {z : α} {l : List α} {n : Int} {t e : TypeId} {os : List (Nat × TypeId)} {xl xc : Operand} {bytes : Nat} (hr : makeM bytes n z = some l) (he : elemOfSlice P t = some e) (hz : zeroOf P e = some (f z)) (hs : szOf P e = some 1) (hb : bytesOf P e = some bytes) (hc' : (f z).isCell = true) (h0 : decide (0 < bytes) = true) (ho : o.op = .makeSlice t xl xc) (hl : ρ xl = intPV n) (hc : ρ xc = intPV n)
    (hw : ow = (1000, e) :: os) (hk : K (.ms N (mg l) 0 l.length l.length) (H ++ [.mt e (mg l) (cellsOf f l)])) (hN : H.length = N := by kernel_rfl) : SemE P E ow o ρ H K := by
  subst hN
  unfold makeM at hr
  split at hr
  · rename_i h1
    cases hr
    have hl' : ρ xl = .dat (.raw (.int .i64 n)) := hl
    have hc'' : ρ xc = .dat (.raw (.int .i64 n)) := hc
    refine SemE_of (fun call => ?_) hk
    simp only [sem, ho, hw, show ¬ 8000 ≤ 1000 by omega, if_false, if_true, he, hz, hs, hb, hl', hc'', and_self, ownMake]
    rw [if_pos ⟨h1.1, h1.2.1, h1.2.2, of_decide_eq_true h0, .inl ⟨trivial, hc'⟩⟩]
    by_cases hn : n = 0
    · subst hn; simp [mg, cellsOf]
    · have : n.toNat ≠ 0 := by omega
      have e1 : mg (List.replicate n.toNat z) = 1 := by simp [mg, this]
      have e2 : cellsOf f (List.replicate n.toNat z) = List.replicate n.toNat (.dat (f z)) := by simp [cellsOf]
      rw [if_neg hn, e1, e2, List.length_replicate]
  · cases hr
theorem E_mkLst {α : Type} (f : α → Dat) {z : α} {l : List α} {n : Int} {t e j e' : TypeId} {os : List (Nat × TypeId)} {xl xc : Operand} {bytes : Nat} (hr : makeM bytes n z = some l) (he : elemOfSlice P t = some e) (hz : zeroOf P e = some (f z)) (hs : szOf P e = some 1) (hb : bytesOf P e = some bytes) (hc' : (f z).isCell = true) (ho : o.op = .makeSlice t xl xc) (hl : ρ xl = intPV n) (hc : ρ xc = intPV n)
    (hw : ow = (j, e') :: os) (hk : K (.dat (.lst (l.map f))) H) (hj : 8000 ≤ j := by decide) : SemE P E ow o ρ H K := by
  unfold makeM at hr
  split at hr
  · rename_i h1
    cases hr
    have hl' : ρ xl = .dat (.raw (.int .i64 n)) := hl
    have hc'' : ρ xc = .dat (.raw (.int .i64 n)) := hc
    refine SemE_of (fun call => ?_) hk
    simp only [sem, ho, hw, if_pos hj, he, hz, hs, hb, hl', hc'', List.map_replicate]
    rw [if_pos ⟨h1.1, trivial, h1.2.1, h1.2.2, hc'⟩]
  · cases hr
end

section
variable {P : Program} {E : Env} {ow : List (Nat × TypeId)} {o : Oper} {ρ : Operand → PV} {H : List Blk} {K : PV → List Blk → Prop}
theorem E_callOwnN (N : Nat) {α : Type} {f0 : α → Dat} {l : List α} {f : FuncId} {x : Operand} {args : Array Operand} {ts : Array TypeId} {first cap : Array Value} {ow' : List (Nat × TypeId)} {j : Nat × TypeId} {ds : List Dat} {t g cp e : Nat} {H1 : List Blk}
    (ho : o.op = .call { callee := .value x, args, argTypes := ts }) (hx : ρ x = .dat (.raw (.func (.func f) first cap))) (hw : ow = j :: ow') (hl : (!((args.toList.map ρ).any PV.lends) || (cellsOf f0 l).all PV.plainCell) = true) (hd : pures H (args.toList.map ρ) = some ds)
    (hc : PC P E f (ds.map .dat) [] (.ms t g 0 l.length cp) H1) (hm : mtOf H1 t = some (e, g, cellsOf f0 l)) (hk : K (.ms N 1 0 l.length l.length) (H ++ [.mt e 1 (cellsOf f0 l)])) (hN : H.length = N := by kernel_rfl) (hj : ¬ 2000 ≤ j.1 := by decide) : SemE P E ow o ρ H K := by
  subst hN; exact E_callMt ho hx hw hl hd hc hm hk hj
theorem E_mkBoxN (N : Nat) {α : Type} (f : α → Dat) {z : α} {l : List α} {n : Int} {t e : TypeId} {xl xc : Operand} {bytes : Nat} (hr : makeM bytes n z = some l) (he : elemOfSlice P t = some e) (hz : zeroOf P e = some (f z)) (hs : szOf P e = some 1) (hb : bytesOf P e = some bytes) (hc' : (f z).isCell = true) (ho : o.op = .makeSlice t xl xc) (hl : ρ xl = intPV n) (hc : ρ xc = intPV n)
    (hk : K (.arr N 0 l.length l.length) (H ++ [.box (cellsOf f l)])) (hN : H.length = N := by kernel_rfl) (hw : ow = [] := by kernel_rfl) : SemE P E ow o ρ H K := by
  subst hN; exact E_mkBox f hr he hz hs hb hc' ho hl hc hk hw
theorem E_mkOwnN (N : Nat) {n : Int} {t e j : TypeId} {os : List (Nat × TypeId)} {xl xc : Operand} {bytes : Nat} {z : Dat} (hn : 0 ≤ n ∧ n * (bytes : Int) ≤ (room : Int) ∧ n ≤ 9223372036854775807) (hw : ow = (j, e) :: os) (he : elemOfSlice P t = some e) (hz : zeroOf P e = some z) (hs : szOf P e = some 1) (hb : bytesOf P e = some bytes) (h0 : decide (0 < bytes) = true) (ho : o.op = .makeSlice t xl xc) (hl : ρ xl = intPV 0) (hc : ρ xc = intPV n)
    (hk : K (.vec N []) (H ++ [.tok e 0])) (hN : H.length = N := by kernel_rfl) (hj8 : ¬ 8000 ≤ j := by decide) (hj10 : ¬ j = 1000 := by decide) : SemE P E ow o ρ H K := by
  subst hN
  have hl' : ρ xl = .dat (.raw (.int .i64 0)) := hl
  have hc' : ρ xc = .dat (.raw (.int .i64 n)) := hc
  refine SemE_of (fun call => ?_) hk
  simp only [sem, ho, hw, if_neg hj8, if_neg hj10, he, hz, hs, hb, hl', hc']
  exact if_pos ⟨trivial, trivial, hn.1, hn.2.1, hn.2.2, of_decide_eq_true h0⟩
end

/-! ### reading as data, piece by piece -/
theorem po_tup {H : List Blk} {vs : List PV} {ds : List Dat} (h : pures H vs = some ds) : pureOut H (.tup vs) = some (.tup (ds.map .dat)) := by simp only [pureOut, h, Option.map_some]
theorem po_agg {H : List Blk} {cs : List PV} {ds : List Dat} (h : pureCs H cs = some ds) : pureOut H (.agg cs) = some (.dat (.agg ds)) := by simp only [pureOut, pure1, h, Option.map_some]
theorem po_arr {H : List Blk} {i o len cap : Nat} {d : Dat} (h : pureC H (.arr i o len cap) = some d) : pureOut H (.arr i o len cap) = some (.dat d) := by simp only [pureOut, pure1, h, Option.map_some]
theorem po_ms {H : List Blk} {t g lo len cap : Nat} {d : Dat} (h : pureC H (.ms t g lo len cap) = some d) : pureOut H (.ms t g lo len cap) = some (.dat d) := by simp only [pureOut, pure1, h, Option.map_some]
theorem ps_nil {H : List Blk} : pures H [] = some [] := rfl
theorem ps_cons {H : List Blk} {v : PV} {vs : List PV} {d : Dat} {ds : List Dat} (h1 : pure1 H v = some d) (h2 : pures H vs = some ds) : pures H (v :: vs) = some (d :: ds) := by simp only [pures, h1, h2]
theorem p1_agg {H : List Blk} {cs : List PV} {ds : List Dat} (h : pureCs H cs = some ds) : pure1 H (.agg cs) = some (.agg ds) := by simp only [pure1, h, Option.map_some]
theorem p1_arr {H : List Blk} {i o len cap : Nat} {d : Dat} (h : pureC H (.arr i o len cap) = some d) : pure1 H (.arr i o len cap) = some d := h
theorem p1_ms {H : List Blk} {t g lo len cap : Nat} {d : Dat} (h : pureC H (.ms t g lo len cap) = some d) : pure1 H (.ms t g lo len cap) = some d := h
theorem pc_nil {H : List Blk} : pureCs H [] = some [] := rfl
theorem pc_cons {H : List Blk} {v : PV} {vs : List PV} {d : Dat} {ds : List Dat} (h1 : pureC H v = some d) (h2 : pureCs H vs = some ds) : pureCs H (v :: vs) = some (d :: ds) := by simp only [pureCs, h1, h2]
theorem pc_arr {H : List Blk} {α : Type} (f : α → Dat) (l : List α) {i cap m : Nat} (hl : l.length = m) (hf : ∀ a, (f a).isCell = true) (hb : H[i]? = some (.box (cellsOf f l))) : pureC H (.arr i 0 m cap) = some (.lst (l.map f)) := by
  subst hl
  exact pure_map (cap := cap) f hf hb
theorem pc_mu {H : List Blk} {α : Type} (f : α → Dat) (l : List α) {t g e cap m : Nat} (hl : l.length = m) (hf : ∀ a, (f a).isCell = false) (hb : H[t]? = some (.mt e g (cellsOf f l))) : pureC H (.ms t g 0 m cap) = some (.lst (l.map f)) := by
  subst hl
  have e1 : cut (cellsOf f l) 0 l.length = some (cellsOf f l) := by
    rw [cut, if_pos (by rw [cellsOf_len]; omega), List.drop_zero, show l.length = (cellsOf f l).length by rw [cellsOf_len], List.take_length]
  have e2 : ((l.map f).all fun d => !d.isCell) = true := by simp only [List.all_map, List.all_eq_true]; intro x _; simp [hf x]
  simp only [pureC, mtOf_at hb, if_true, e1, Option.bind_some, cellsOf_allDat, evenD, e2, beq_self_eq_true, Bool.true_and, Bool.or_true]
theorem pc_ms {H : List Blk} {α : Type} (f : α → Dat) (l : List α) {t g e cap m : Nat} (hl : l.length = m) (hf : ∀ a, (f a).isCell = true) (hb : H[t]? = some (.mt e g (cellsOf f l))) : pureC H (.ms t g 0 m cap) = some (.lst (l.map f)) := by
  subst hl
  have := pure_ms (g := g) (t := t) (cap := cap) (f := f) hf (mtOf_at hb) (Nat.le_refl _)
  rwa [List.take_length] at this
section
variable {P : Program} {E : Env} {hn : Hint} {rg : Bool} {r i : Nat} {ops : Array Oper} {c : Cf} {Q : Cf → Prop}
theorem fin_pureX {H : List Blk} {slots : List PV} {rs : List ResultVar} {p : PV} (vs : List PV) (h : ressOf P slots H rs = some vs) (h2 : pureOut H (tupOf vs) = some p) : ∃ vs, ressOf P slots H rs = some vs ∧ pureOut H (tupOf vs) = some p := ⟨vs, h, h2⟩
/-- likewise, where the result's lists are new -/
theorem fin_fresh {H : List Blk} {slots : List PV} {rs : List ResultVar} {p : PV} (h : ((ressOf P slots H rs).bind fun vs => if freshOut H (tupOf vs) = true then pureOut H (tupOf vs) else none) = some p := by kernel_rfl) : ∃ vs, ressOf P slots H rs = some vs ∧ pureOut H (tupOf vs) = some p ∧ freshOut H (tupOf vs) = true := by
  cases hr : ressOf P slots H rs with
  | none => rw [hr] at h; cases h
  | some vs =>
    rw [hr, Option.bind_some] at h
    split at h
    · exact ⟨vs, rfl, h, by assumption⟩
    · cases h
theorem fin_freshX {H : List Blk} {slots : List PV} {rs : List ResultVar} {p : PV} (vs : List PV) (h : ressOf P slots H rs = some vs) (h2 : pureOut H (tupOf vs) = some p) (h3 : freshOut H (tupOf vs) = true) : ∃ vs, ressOf P slots H rs = some vs ∧ pureOut H (tupOf vs) = some p ∧ freshOut H (tupOf vs) = true := ⟨vs, h, h2, h3⟩
theorem fo_agg {H : List Blk} {cs : List PV} (h : cs.all (freshC H) = true) : freshOut H (.agg cs) = true := h
theorem fc_nil {H : List Blk} : ([] : List PV).all (freshC H) = true := rfl
theorem fc_cons {H : List Blk} {v : PV} {vs : List PV} (h1 : freshC H v = true) (h2 : vs.all (freshC H) = true) : (v :: vs).all (freshC H) = true := by rw [List.all_cons, h1, h2]; rfl
theorem fc_arr {H : List Blk} {α : Type} (f : α → Dat) (l : List α) {i cap m : Nat} (hl : l.length = m) (hf : ∀ a, (f a).isCell = true) (hb : H[i]? = some (.box (cellsOf f l))) (hr : ∀ a, (f a).isRaw = true := by intro _; rfl) : freshC H (.arr i 0 m cap) = true := by
  simp only [freshC, pc_arr f l (cap := cap) hl hf hb, rawLst, List.all_map, List.all_eq_true]
  intro a _
  exact hr a
def FF (P : Program) (E : Env) (f : FuncId) (ds : List Dat) (p : PV) : Prop := ∀ args H, pures H args = some ds → PC P E f args H p H
theorem fpF {f : FuncId} {fn : Func} {ds : List Dat} {p : PV} {c : Code} (hb : fn.body = some c)
    (hR : R P E (E.hint f) true c ⟨en fn.ntmps (ds.map .dat), []⟩ fun e s => (match e with | .exit _ => False | _ => True) ∧ ∃ vs, ressOf P s.slots s.heap fn.results.toList = some vs ∧ pureOut s.heap (tupOf vs) = some p ∧ freshOut s.heap (tupOf vs) = true) (hq : (enters P f && ((E.summ f).isNone && E.pure f && !(E.split f && (isEmp (ds.map .dat) && true)))) = true := by kernel_rfl) (hf : P.funcs[f]? = some fn := by kernel_rfl) : FF P E f ds p := by
  intro args H hds
  simp only [Bool.and_eq_true, Option.isNone_iff_eq_none] at hq
  obtain ⟨e, s, ⟨N, h1⟩, h2, vs, h3, h4, h5⟩ := hR
  refine ⟨N + 1, fun k hk => ?_⟩
  cases k with
  | zero => omega
  | succ k =>
    have hsp : (E.split f && (isEmp (ds.map PV.dat) && ([] : List Blk).isEmpty)) = false := by cases hs : E.split f <;> cases hi : isEmp (ds.map PV.dat) <;> simp_all
    have hb' : pbodyS P E (pfun P E k) k f (ds.map .dat) [] = some (tupOf vs, s.heap) := by
      unfold pbodyS
      rw [hsp]
      simp only [Bool.false_eq_true, if_false]
      have h6 := h1 k k (by omega) (by omega)
      unfold en at h6
      unfold pbody
      simp only [hf, hb, h6]
      cases e with
      | exit id => exact h2.elim
      | normal => simp [h3]
      | ret => simp [h3]
    unfold pfun
    simp only [hq.1, hq.2.1.1, hq.2.1.2, Bool.not_true, Bool.false_eq_true, if_false, if_true, hds, hb', h4, h5, Bool.or_true, Bool.and_false]
theorem fpo {f : FuncId} {ds : List Dat} {p : PV} (h : FF P E f ds p) (H : List Blk) : PC P E f (ds.map .dat) H p H := h _ H (pures_self _ _)
theorem G_callNew {f : FuncId} {ds : List Dat} {args : List PV} {p : PV} (hc : FF P E f ds p) (hds : pures c.1.heap args = some ds) (hk : G P E hn r ops (i + 1) (putF E hn r ops i c p id) Q)
    (h : callAt hn r ops i c.1 = some (f, args) := by kernel_rfl) : G P E hn r ops i c Q := G_call (g := id) (hc _ _ hds) h hk
/-- a call of a pure function on values that lend -/
theorem G_callL {f : FuncId} {ds : List Dat} {args : List PV} {p : PV} {H0 H0' : List Blk} (hc : PC P E f (ds.map .dat) H0 p H0') (hds : pures c.1.heap args = some ds) (hk : G P E hn r ops (i + 1) (putF E hn r ops i c p id) Q)
    (hp : (E.pure f && (E.summ f).isNone) = true := by kernel_rfl) (h : callAt hn r ops i c.1 = some (f, args) := by kernel_rfl) (hl : lentOk args p = true := by kernel_rfl) : G P E hn r ops i c Q := by
  simp only [Bool.and_eq_true, Option.isNone_iff_eq_none] at hp
  refine G_call (g := id) (PC_lend hp.2 hp.1 hc hds (fun ha => ?_)) h hk
  simp only [lentOk, ha, Bool.not_true, Bool.false_or] at hl
  exact hl
theorem purge_box {fl : Bool} {α : Type} (f : α → Dat) (H : List Blk) (h0 : Nat) (l : List α) : purgeB fl H h0 (.box (cellsOf f l)) = .box (cellsOf f l) := purge_map f H h0 l
theorem pg_nil {fl : Bool} {H : List Blk} {h0 : Nat} : ([] : List Blk).map (purgeB fl H h0) = [] := rfl
theorem pg_cons {fl : Bool} {H : List Blk} {h0 : Nat} {b b' : Blk} {bs bs' : List Blk} (h1 : purgeB fl H h0 b = b') (h2 : bs.map (purgeB fl H h0) = bs') : (b :: bs).map (purgeB fl H h0) = b' :: bs' := by rw [List.map_cons, h1, h2]
theorem prune_of2 {st : St} {h0 : Nat} {keep : Option (List Nat)} {ks : List Nat} {H' : List Blk} {sl' : List PV} (bs : List Blk) (hb : ∀ H, bs.map (purgeB (fgt ks) H h0) = H') (hk : keep = some ks) (hH : st.heap.take h0 = bs := by kernel_rfl) (hs : keepS (fgt ks) st.heap h0 ks 0 st.slots = sl' := by kernel_rfl) : prune h0 keep st = ⟨sl', H'⟩ := by
  rw [prune_some hk, hH, hb, hs]
theorem plain_or {a b : Bool} (h : b = true) : (a || b) = true := by rw [h, Bool.or_true]
theorem ps_one {H : List Blk} {v : PV} {vs : List PV} {d : Dat} (h : vs = [v]) (h1 : pure1 H v = some d) : pures H vs = some [d] := by subst h; exact ps_cons h1 rfl
theorem clone_room {α : Type} {bytes : Nat} {l : List α} (h : (0 + l.length) * bytes ≤ room) : app bytes [] l = some l := by simp [app] at *; exact h
end

/-! ### package variables: arrays -/
def gloadK (cs : List Dat) (n size off : Nat) (H : List Blk) : Option (PV × List Blk) := ((cut ((cs.drop (n * size)).drop off) 0 1).bind (ofCellsD false)).map fun d => (.dat d, H)
def garrK (len size : Nat) (cs : List Dat) (n : Int) (H : List Blk) : Option (PV × List Blk) := if 0 ≤ n ∧ n < (len : Int) then some (.iptr (cs.drop (n.toNat * size)), H) else none
section
variable {P : Program} {E : Env} {hn : Hint} {r i : Nat} {ops : Array Oper} {c : Cf} {Q : Cf → Prop}
theorem I_garr (len size : Nat) (cs : List Dat) (n : Int) (hx : 0 ≤ n ∧ n < (len : Int)) (hk : G P E hn r ops (i + 1) (putF E hn r ops i c (.iptr (cs.drop (n.toNat * size))) id) Q) (h : semAt P hn r ops i c.1 = garrK len size cs n c.1.heap := by kernel_rfl) : G P E hn r ops i c Q :=
  G_op (g := id) (h.trans (if_pos hx)) hk
/-- a number out of a table -/
theorem I_gint (len size off : Nat) (cs : List Dat) (n : Int) (col : List Int) (v : Int) (hx : idx col n = some v) (hk : G P E hn r ops (i + 1) (putF E hn r ops i c (intPV v) id) Q) (hcol : (List.range len).map (fun j => (gloadK cs j size off []).map (·.1)) = (col.map fun m => some (intPV m)) := by kernel_rfl)
    (h : semAt P hn r ops i c.1 = gloadK cs n.toNat size off c.1.heap := by kernel_rfl) : G P E hn r ops i c Q := by
  refine G_op (g := id) (h.trans ?_) hk
  obtain ⟨h0, h1⟩ := idx_some hx
  have h2 := congrArg (fun l => l[n.toNat]?) hcol
  simp only [List.getElem?_map, h1, Option.map_some] at h2
  cases hr : (List.range len)[n.toNat]? with
  | none => rw [hr] at h2; cases h2
  | some j =>
    rw [hr] at h2
    have hj : j = n.toNat := by
      obtain ⟨h3, h4⟩ := List.getElem?_eq_some_iff.1 hr
      simpa using h4.symm
    subst hj
    simp only [Option.map_some, Option.some.injEq] at h2
    unfold gloadK at h2 ⊢
    cases hc : (cut ((cs.drop (n.toNat * size)).drop off) 0 1).bind (ofCellsD false) with
    | none => rw [hc] at h2; cases h2
    | some d =>
      rw [hc] at h2
      simp only [Option.map_some, Option.some.injEq] at h2
      simp only [Option.map_some, h2, id]
/-- a function out of a table, at a place -/
theorem I_gfun (j size off : Nat) (cs : List Dat) (n : Int) (d : Dat) (hn' : n = (j : Int)) (hk : G P E hn r ops (i + 1) (putF E hn r ops i c (.dat d) id) Q) (hv : gloadK cs j size off [] = some (.dat d, []) := by kernel_rfl) (h : semAt P hn r ops i c.1 = gloadK cs n.toNat size off c.1.heap := by kernel_rfl) : G P E hn r ops i c Q := by
  subst hn'
  refine G_op (g := id) (h.trans ?_) hk
  rw [Int.toNat_natCast]
  unfold gloadK at hv ⊢
  cases hc : (cut ((cs.drop (j * size)).drop off) 0 1).bind (ofCellsD false) with
  | none => rw [hc] at hv; cases hv
  | some d' => rw [hc] at hv; cases hv; rfl
end
/-! ### sets of numbers: maps whose values are all the same -/
def setE (k : IntKind) (v : Dat) (l : List Int) : List (Value × PV) := l.map fun n => (.int k n, .dat v)
def insK (l : List Int) (n : Int) : List Int := if n ∈ l then l else l ++ [n]
theorem findK_setE (k ik : IntKind) (v : Dat) (n : Int) : ∀ (l : List Int) (i : Nat), (n ∉ l → findK (.int ik) (.int k n) (setE k v l) i = some none) ∧ (n ∈ l → ∃ j, findK (.int ik) (.int k n) (setE k v l) i = some (some (i + j, .dat v)) ∧ (setE k v l)[j]? = some (.int k n, .dat v))
  | [], i => ⟨fun _ => rfl, fun h => by cases h⟩
  | m :: l, i => by
    obtain ⟨h1, h2⟩ := findK_setE k ik v n l (i + 1)
    have hs : sameK (.int ik) (.int k n) (.int k m) = some (n == m) := by simp [sameK]
    constructor
    · intro h
      rw [List.mem_cons, not_or] at h
      have hb : (n == m) = false := by simpa using h.1
      show (match sameK (.int ik) (.int k n) (.int k m) with | some true => _ | some false => _ | none => none) = _
      rw [hs, hb]
      exact h1 h.2
    · intro h
      by_cases e : n = m
      · subst e
        refine ⟨0, ?_, rfl⟩
        show (match sameK (.int ik) (.int k n) (.int k n) with | some true => _ | some false => _ | none => none) = _
        rw [hs, beq_self_eq_true]; rfl
      · have hb : (n == m) = false := by simpa using e
        obtain ⟨j, e1, e2⟩ := h2 ((List.mem_cons.1 h).resolve_left e)
        refine ⟨j + 1, ?_, by simpa [setE] using e2⟩
        show (match sameK (.int ik) (.int k n) (.int k m) with | some true => _ | some false => _ | none => none) = _
        rw [hs, hb]
        show findK (.int ik) (.int k n) (setE k v l) (i + 1) = _
        rw [e1]
        simp only [Option.some.injEq, Prod.mk.injEq, and_true]
        omega
theorem set_same' {α : Type} {l : List α} {j : Nat} {a : α} (h : l[j]? = some a) : l.set j a = l := by
  obtain ⟨hj, e⟩ := List.getElem?_eq_some_iff.1 h
  rw [← e]; exact List.set_getElem_self hj
section
variable {P : Program} {E : Env} {ow : List (Nat × TypeId)} {o : Oper} {ρ : Operand → PV} {H : List Blk} {K : PV → List Blk → Prop}
theorem E_setAdd {t kt e : TypeId} {m k x : Operand} {i : Nat} {l : List Int} {kk ik : IntKind} {n : Int} {v : Dat} (ht : P.underlying t = some (.map kt e)) (hk' : P.underlying kt = some (.int ik)) (ho : o.op = .mapUpdate t m k x) (hm : ρ m = .mapv i) (hb : H[i]? = some (.map (setE kk v l)))
    (hn : ρ k = .dat (.raw (.int kk n))) (hx : ρ x = .dat v) (hk : K (.tup []) (H.set i (.map (setE kk v (insK l n))))) : SemE P E ow o ρ H K := by
  have hb' : mapOf H i = some (setE kk v l) := by rw [mapOf, hb]; exact if_pos (List.all_eq_true.2 fun e he => by obtain ⟨n, _, rfl⟩ := List.mem_map.1 he; rfl)
  obtain ⟨h1, h2⟩ := findK_setE kk ik v n l 0
  by_cases hin : n ∈ l
  · obtain ⟨j, e1, e2⟩ := h2 hin
    have hf : findIn P ρ k t (setE kk v l) = some (.int kk n, e, some (0 + j, .dat v)) := by simp [findIn, ht, hk', hn, PV.toVal, plainKey, e1]
    refine E_mapSet ho hm hb' hf ?_
    rw [hx, Nat.zero_add, set_same' e2]
    rw [insK, if_pos hin] at hk
    exact hk
  · have hf : findIn P ρ k t (setE kk v l) = some (.int kk n, e, none) := by simp [findIn, ht, hk', hn, PV.toVal, plainKey, h1 hin]
    refine E_mapAdd ho hm hb' hf ?_
    rw [hx]
    rw [insK, if_neg hin, setE, List.map_append] at hk
    exact hk
theorem E_setLen {t kt e : TypeId} {x : Operand} {i : Nat} {l : List Int} {kk : IntKind} {v : Dat} (ht : P.underlying t = some (.map kt e)) (ho : o.op = .call { callee := .builtin .len, args := #[x], argTypes := #[t] }) (hx : ρ x = .mapv i) (hb : H[i]? = some (.map (setE kk v l))) (hk : K (intPV l.length) H) : SemE P E ow o ρ H K := by
  have hb' : mapOf H i = some (setE kk v l) := by rw [mapOf, hb]; exact if_pos (List.all_eq_true.2 fun e he => by obtain ⟨n, _, rfl⟩ := List.mem_map.1 he; rfl)
  exact E_lenMap ht ho hx hb' (by rw [setE, List.length_map]; exact hk)
theorem purge_set {fl : Bool} (k : IntKind) (v : Dat) (H : List Blk) (h0 : Nat) (l : List Int) : purgeB fl H h0 (.map (setE k v l)) = .map (setE k v l) := by
  simp only [purgeB, setE, List.map_map]; rfl
theorem E_stTrim {α : Type} {f : α → Dat} {l q : List α} {t : TypeId} {e tt gg cap i off n : Nat} {x : Operand} {j : Nat × TypeId} {ow' : List (Nat × TypeId)} {cs ds : List PV} (ho : o.op = .store t x (.tmp n)) (hn : szOf P t = some 1) (hw : ow = j :: ow') (hx : ρ x = .ptr i off)
    (hy : ρ (.tmp n) = .ms tt gg 0 l.length cap) (hb : H[tt]? = some (.mt e gg (cellsOf f (l ++ q)))) (hbx : (H.set tt (.mt e gg (cellsOf f l)))[i]? = some (.box cs)) (hp : paste cs off [.ms tt gg 0 l.length cap] = some ds)
    (hk : K (.tup []) ((H.set tt (.mt e gg (cellsOf f l))).set i (.box ds))) : SemE P E ow o ρ H K := by
  refine SemE_of (fun call => ?_) hk
  obtain ⟨j1, j2⟩ := j
  have hm : mtOf H tt = some (e, gg, cellsOf f (l ++ q)) := by simp [mtOf, hb, Blk.mtOf]
  have ht : (cellsOf f (l ++ q)).take l.length = cellsOf f l := by rw [cellsOf_take]; simp
  simp only [sem, ho, hw, hy, hm, if_true, ht, storeSem, hn, hx, hbx, PV.cells, List.length_cons, List.length_nil, List.all_cons, List.all_nil, PV.cell, Bool.and_true, and_self, hp, Option.map_some]
/-! owned lists that are given away -/
theorem cl_nil {H : List Blk} : consumeL H [] = some ([], H) := rfl
theorem cl_dat {H H' : List Blk} {d : Dat} {cs : List PV} {ds : List Dat} (h : consumeL H cs = some (ds, H')) : consumeL H (.dat d :: cs) = some (d :: ds, H') := by
  simp only [consumeL, consume1, h]
theorem cl_ms {α : Type} (f : α → Dat) {l : List α} {H H' : List Blk} {t e g n cap : Nat} {cs : List PV} {ds : List Dat} (hf : ∀ a, (f a).isCell = true) (hb : H[t]? = some (.mt e g (cellsOf f l))) (hl : l.length = n) (h : consumeL (H.set t (.mt e (g + 1) [])) cs = some (ds, H')) :
    consumeL H (.ms t g 0 n cap :: cs) = some (.lst (l.map f) :: ds, H') := by
  subst hl
  have hm : mtOf H t = some (e, g, cellsOf f l) := by simp [mtOf, hb, Blk.mtOf]
  have hp : pureC H (.ms t g 0 l.length cap) = some (.lst (l.map f)) := by
    simp only [pureC, hm, if_true]
    have h1 : cut (cellsOf f l) 0 l.length = some (cellsOf f l) := by
      have hl2 : (cellsOf f l).length = l.length := by simp [cellsOf]
      simp only [cut, hl2, Nat.zero_add, Nat.le_refl, if_true, List.drop_zero]
      rw [List.take_of_length_le (by rw [hl2]; exact Nat.le_refl _)]
    have h2 : allDat (cellsOf f l) = some (l.map f) := by
      unfold cellsOf
      clear h1 hm hb h
      induction l with
      | nil => rfl
      | cons a l ih => simp only [List.map_cons, allDat, ih, Option.map_some]
    have h3 : evenD 0 (l.map f) = true := by
      simp only [evenD, Bool.or_eq_true]
      left
      rw [List.all_map, List.all_eq_true]
      exact fun a _ => hf a
    simp only [h1, h2, Option.bind_some, h3, if_true]
  simp only [consumeL, consume1, hp, hm, h]
theorem cl_vec {H H' : List Blk} {t : Nat} {es : List Dat} {cs : List PV} {ds : List Dat} (h : consumeL H cs = some (ds, H')) : consumeL H (.vec t es :: cs) = some (.lst es :: ds, H') := by
  simp only [consumeL, consume1, h]
theorem E_ldGive {t : TypeId} {x : Operand} {n i off : Nat} {j : Nat × TypeId} {ow' : List (Nat × TypeId)} {bs cs : List PV} {ds : List Dat} {H' : List Blk} (ho : o.op = .load t x) (hw : ow = j :: ow') (hg : aggT P t = some true) (hn : szOf P t = some n) (hx : ρ x = .ptr i off)
    (hb : H[i]? = some (.box bs)) (hc : cut bs off n = some cs) (hm : mkAgg cs = .agg cs) (hcl : consumeL H cs = some (ds, H')) (hk : K (.dat (.agg ds)) H') : SemE P E ow o ρ H K := by
  refine SemE_of (fun call => ?_) hk
  have h1 : loadSem P t (ρ x) H = some (.agg cs, H) := by simp only [loadSem, hg, hn, hx, hb, hc, Option.bind_some, ofCells, if_true, hm, Option.map_some]
  obtain ⟨j1, j2⟩ := j
  simp only [sem, ho, hw, h1, hcl, Option.map_some]
/-! lists that are given up at a loop's head -/
theorem prune_of4 {st : St} {h0 : Nat} {keep : Option (List Nat)} {ks : List Nat} {HH H' : List Blk} {sl' : List PV} (hk : keep = some ks) (hb : (HH.take h0).map (purgeB (fgt ks) HH h0) = H') (hH : st.heap = HH := by kernel_rfl) (hs : keepS (fgt ks) HH h0 ks 0 st.slots = sl' := by kernel_rfl) : prune h0 keep st = ⟨sl', H'⟩ := by
  subst hH
  rw [prune_some hk, hb, hs]
theorem pgb_box {fl : Bool} {H : List Blk} {h0 : Nat} {cs cs' : List PV} (h : cs.map (purgeC fl H h0) = cs') : purgeB fl H h0 (.box cs) = .box cs' := by simp only [purgeB, h]
theorem pgc_nil {fl : Bool} {H : List Blk} {h0 : Nat} : ([] : List PV).map (purgeC fl H h0) = [] := rfl
theorem pgc_cons {fl : Bool} {H : List Blk} {h0 : Nat} {c c' : PV} {cs cs' : List PV} (h1 : purgeC fl H h0 c = c') (h2 : cs.map (purgeC fl H h0) = cs') : (c :: cs).map (purgeC fl H h0) = c' :: cs' := by rw [List.map_cons, h1, h2]
theorem pgc_ms {fl : Bool} {H : List Blk} {h0 t g lo len cap : Nat} {d : Dat} (ht : decide (t < h0) = false) (h : pureC H (.ms t g lo len cap) = some d) : purgeC fl H h0 (.ms t g lo len cap) = .dat d := by
  have ht' : ¬ t < h0 := by simpa using ht
  simp only [purgeC, ht', if_false, h]
end
end Go.Pm
