/-
  Seat a: the arguments' types.
-/
import Derived.Test.YtbknblppjhfkmaaA14
import Derived.Test.YtbknblppjhfkmaaPmLaw
namespace Go.Proofs.Try
open Go Go.Pm
set_option linter.unusedVariables false
set_option linter.unusedSimpArgs false

theorem exists_map {α β : Type} {f : β → α} {p : β → Prop} : ∀ {L : List α}, (∀ x ∈ L, ∃ y, x = f y ∧ p y) → ∃ l : List β, L = l.map f ∧ ∀ y ∈ l, p y
  | [], _ => ⟨[], rfl, fun y h => by cases h⟩
  | x :: L, h => by
    obtain ⟨y, rfl, hy⟩ := h x (List.mem_cons_self ..)
    obtain ⟨l, rfl, hl⟩ := exists_map (fun x hx => h x (List.mem_cons_of_mem _ hx))
    exact ⟨y :: l, rfl, fun z hz => by
      rcases List.mem_cons.1 hz with rfl | hz
      · exact hy
      · exact hl z hz⟩

/-- an integer of 64 bits -/
def In64 (m : Int) : Prop := -9223372036854775808 ≤ m ∧ m ≤ 9223372036854775807
theorem wf64 {m : Int} (h : (Lit.int .i64 m).wf = true) : In64 m := by
  simp [Lit.wf, IntKind.min, IntKind.max, IntKind.signed, IntKind.bits] at h; exact h

variable {B : Nat} {n : Nat} {cs : List Dat}
theorem ty_int (h : TyC prog B n 3 cs) : ∃ m, cs = [intD m] ∧ In64 m := by
  cases n with
  | zero => exact h.elim
  | succ n =>
    simp only [TyC, un3] at h
    obtain ⟨m, rfl, hm⟩ := h
    exact ⟨m, rfl, wf64 hm⟩
theorem ty_num (h : TyC prog B n 2 cs) : ∃ m, cs = [intD m] ∧ In64 m := by
  cases n with
  | zero => exact h.elim
  | succ n =>
    simp only [TyC, un2] at h
    obtain ⟨m, rfl, hm⟩ := h
    exact ⟨m, rfl, wf64 hm⟩
theorem elem3 (x : List Dat) : elemD prog 3 x = x.headD (.agg []) := by simp [elemD, aggB, un3]
theorem elem2 (x : List Dat) : elemD prog 2 x = x.headD (.agg []) := by simp [elemD, aggB, un2]
theorem elem44 (x : List Dat) : elemD prog 44 x = x.headD (.agg []) := by simp [elemD, aggB, un44]
theorem elem49 (x : List Dat) : elemD prog 49 x = x.headD (.agg []) := by simp [elemD, aggB, un49]
theorem elem59 (x : List Dat) : elemD prog 59 x = .agg x := by simp [elemD, aggB, un59]
theorem ty_ints (h : TyC prog B n 49 cs) : ∃ l : List Int, cs = [intsD l] ∧ l.length ≤ B ∧ ∀ m ∈ l, In64 m := by
  cases n with
  | zero => exact h.elim
  | succ n =>
    simp only [TyC, un49] at h
    obtain ⟨L, rfl, hl, hx⟩ := h
    obtain ⟨l, rfl, hm⟩ := exists_map (f := fun m => [intD m]) (p := In64) (fun x hx' => ty_int (hx x hx'))
    refine ⟨l, ?_, by simpa using hl, hm⟩
    have e : (l.map (fun m => [intD m])).map (elemD prog 3) = l.map intD := by rw [List.map_map]; exact List.map_congr_left (fun m _ => by simp only [Function.comp_apply, elem3, List.headD_cons])
    rw [e]; rfl
theorem ty_nums (h : TyC prog B n 44 cs) : ∃ l : List Int, cs = [intsD l] ∧ l.length ≤ B ∧ ∀ m ∈ l, In64 m := by
  cases n with
  | zero => exact h.elim
  | succ n =>
    simp only [TyC, un44] at h
    obtain ⟨L, rfl, hl, hx⟩ := h
    obtain ⟨l, rfl, hm⟩ := exists_map (f := fun m => [intD m]) (p := In64) (fun x hx' => ty_num (hx x hx'))
    refine ⟨l, ?_, by simpa using hl, hm⟩
    have e : (l.map (fun m => [intD m])).map (elemD prog 2) = l.map intD := by rw [List.map_map]; exact List.map_congr_left (fun m _ => by simp only [Function.comp_apply, elem2, List.headD_cons])
    rw [e]; rfl
/-- an access of 64 bits, with lists no longer than B -/
structure Acc.In (B : Nat) (a : Acc) : Prop where
  kind : In64 a.kind
  buffer : In64 a.buffer
  base : In64 a.base
  strides : a.strides.length ≤ B ∧ ∀ m ∈ a.strides, In64 m
  start : In64 a.start
  step : In64 a.step
  mod : In64 a.mod
structure Nst.In (B : Nat) (n : Nst) : Prop where
  dims : n.dims.length ≤ B ∧ ∀ m ∈ n.dims, In64 m
  write : In64 n.write
  steps : n.steps.length ≤ B ∧ ∀ m ∈ n.steps, In64 m
  read : n.read.In B
theorem ty_acc (h : TyC prog B n 57 cs) : ∃ a : Acc, cs = a.cells ∧ a.In B := by
  cases n with
  | zero => exact h.elim
  | succ n =>
    simp only [TyC, un57, List.foldr] at h
    obtain ⟨_, _, rfl, h1, _, _, rfl, h2, _, _, rfl, h3, _, _, rfl, h4, _, _, rfl, h5, _, _, rfl, h6, _, _, rfl, h7, rfl⟩ := h
    obtain ⟨m1, rfl, i1⟩ := ty_int h1
    obtain ⟨m2, rfl, i2⟩ := ty_int h2
    obtain ⟨m3, rfl, i3⟩ := ty_int h3
    obtain ⟨m4, rfl, i4⟩ := ty_ints h4
    obtain ⟨m5, rfl, i5⟩ := ty_int h5
    obtain ⟨m6, rfl, i6⟩ := ty_int h6
    obtain ⟨m7, rfl, i7⟩ := ty_int h7
    exact ⟨⟨m1, m2, m3, m4, m5, m6, m7⟩, rfl, i1, i2, i3, i4, i5, i6, i7⟩
theorem ty_nst (h : TyC prog B n 59 cs) : ∃ a : Nst, cs = a.toD.cells ∧ a.In B := by
  cases n with
  | zero => exact h.elim
  | succ n =>
    simp only [TyC, un59, List.foldr] at h
    obtain ⟨_, _, rfl, h1, _, _, rfl, h2, _, _, rfl, h3, _, _, rfl, h4, rfl⟩ := h
    obtain ⟨m1, rfl, i1⟩ := ty_ints h1
    obtain ⟨m2, rfl, i2⟩ := ty_int h2
    obtain ⟨m3, rfl, i3⟩ := ty_ints h3
    obtain ⟨m4, rfl, i4⟩ := ty_acc h4
    exact ⟨⟨m1, m2, m3, m4⟩, rfl, i1, i2, i3, i4⟩
theorem ty_nests {d : Dat} (h : TyA prog B 22 d) : ∃ l : List Nst, d = nestsD l ∧ l.length ≤ B ∧ ∀ a ∈ l, a.In B := by
  obtain ⟨n, cs, h, hd⟩ := h
  cases n with
  | zero => exact h.elim
  | succ n =>
    simp only [TyC, un22] at h
    obtain ⟨L, rfl, hl, hx⟩ := h
    obtain ⟨l, rfl, hm⟩ := exists_map (f := fun a => a.toD.cells) (p := Nst.In B) (fun x hx' => ty_nst (hx x hx'))
    refine ⟨l, ?_, by simpa using hl, hm⟩
    have e22 : ∀ x, elemD prog 22 x = x.headD (.agg []) := fun x => by simp [elemD, aggB, un22]
    have e : (l.map (fun a => a.toD.cells)).map (elemD prog 59) = l.map Nst.toD := by rw [List.map_map]; exact List.map_congr_left (fun m _ => by simp only [Function.comp_apply, elem59]; rfl)
    rw [hd, e22, e]; rfl
theorem ty_list {d : Dat} (h : TyA prog B 49 d) : ∃ l : List Int, d = intsD l ∧ l.length ≤ B ∧ ∀ m ∈ l, In64 m := by
  obtain ⟨n, cs, h, hd⟩ := h
  obtain ⟨l, rfl, hl⟩ := ty_ints h
  exact ⟨l, by rw [hd, elem49]; rfl, hl⟩
/-- buffers -/
def bufsD (l : List (List Int)) : Dat := .lst (l.map intsD)
theorem ty_bufs {d : Dat} (h : TyA prog B 41 d) : ∃ l : List (List Int), d = bufsD l ∧ l.length ≤ B ∧ ∀ b ∈ l, b.length ≤ B ∧ ∀ m ∈ b, In64 m := by
  obtain ⟨n, cs, h, hd⟩ := h
  cases n with
  | zero => exact h.elim
  | succ n =>
    simp only [TyC, un41] at h
    obtain ⟨L, rfl, hl, hx⟩ := h
    obtain ⟨l, rfl, hm⟩ := exists_map (f := fun b => [intsD b]) (p := fun b => b.length ≤ B ∧ ∀ m ∈ b, In64 m) (fun x hx' => ty_nums (hx x hx'))
    refine ⟨l, ?_, by simpa using hl, hm⟩
    have e41 : ∀ x, elemD prog 41 x = x.headD (.agg []) := fun x => by simp [elemD, aggB, un41]
    have e : (l.map (fun b => [intsD b])).map (elemD prog 44) = l.map intsD := by rw [List.map_map]; exact List.map_congr_left (fun m _ => by simp only [Function.comp_apply, elem44, List.headD_cons])
    rw [hd, e41, e]; rfl
theorem ty_u8 {d : Dat} (h : TyA prog B 5 d) : ∃ m : Int, d = .raw (.int .u8 m) ∧ 0 ≤ m ∧ m ≤ 255 := by
  obtain ⟨n, cs, h, hd⟩ := h
  cases n with
  | zero => exact h.elim
  | succ n =>
    simp only [TyC, un5] at h
    obtain ⟨m, rfl, hm⟩ := h
    refine ⟨m, by rw [hd]; simp [elemD, aggB, un5], ?_⟩
    simpa [Lit.wf, IntKind.min, IntKind.max, IntKind.signed, IntKind.bits] using hm
theorem ty_u16 {d : Dat} (h : TyA prog B 42 d) : ∃ m : Int, d = .raw (.int .u16 m) ∧ 0 ≤ m ∧ m ≤ 65535 := by
  obtain ⟨n, cs, h, hd⟩ := h
  cases n with
  | zero => exact h.elim
  | succ n =>
    simp only [TyC, un42] at h
    obtain ⟨m, rfl, hm⟩ := h
    refine ⟨m, by rw [hd]; simp [elemD, aggB, un42], ?_⟩
    simpa [Lit.wf, IntKind.min, IntKind.max, IntKind.signed, IntKind.bits] using hm
theorem ty_i {d : Dat} (h : TyA prog B 3 d) : ∃ m : Int, d = intD m ∧ In64 m := by
  obtain ⟨n, cs, h, hd⟩ := h
  obtain ⟨m, rfl, hm⟩ := ty_int h
  exact ⟨m, by rw [hd, elem3]; rfl, hm⟩
theorem lensOk_of {l : List Nst} (h1 : l.length ≤ 9223372036854775807) (h2 : ∀ a ∈ l, a.In 9223372036854775807) : lensOk l :=
  ⟨h1, fun n hn => ⟨(h2 n hn).dims.1, (h2 n hn).steps.1, (h2 n hn).read.strides.1⟩⟩

/-- the types of this seat's arguments -/
def argTs : List TypeId := [22, 59, 5, 3, 2, 4, 57, 41, 44, 42, 49]
theorem argTs_closed : closedTs prog argTs = true := by kernel_rfl
theorem laidOut : laidOutB prog = true := by kernel_rfl
theorem summ : SummOK prog env := fun f s h => by cases h
theorem mixed : prog.follows .mixedOrders = true := by kernel_rfl
/-- a call that comes to a value keeps it in the model -/
theorem pure_of {f : FuncId} {dss : List Dat} {p : PV} (ho : p.out = true) (h : PC prog env f (dss.map .dat) [] p []) : PureCall prog f dss p := by
  obtain ⟨N, hN⟩ := h
  exact pure_sound summ mixed (hN N (Nat.le_refl _)) ho
end Go.Proofs.Try
