/-
  Models of functions, their walks, and plain laws.
-/
import Derived.Test.YtpgkpgoebpgacaaPmLaw
import Derived.Test.YtpgkpgoebpgacaaKRuleCatenatesA
namespace Go.Proofs.Try
open Go Go.Pm
set_option linter.unusedVariables false
set_option linter.unusedSimpArgs false
set_option maxRecDepth 2000
theorem ua3 : prog.underlying 3 = some (TypeDesc.int IntKind.i64) := by kernel_rfl
theorem ua22 : prog.underlying 22 = some (TypeDesc.slice 3) := by kernel_rfl
theorem ua2 : prog.underlying 2 = some (TypeDesc.int IntKind.i64) := by kernel_rfl
theorem ua36 : prog.underlying 36 = some (TypeDesc.slice 2) := by kernel_rfl
theorem ua44 : prog.underlying 44 = some (TypeDesc.int IntKind.i8) := by kernel_rfl
theorem ua43 : prog.underlying 43 = some (TypeDesc.slice 44) := by kernel_rfl
theorem ua4 : prog.underlying 4 = some TypeDesc.bool := by kernel_rfl
theorem exists_map {α β : Type} {f : β → α} {p : β → Prop} : ∀ {L : List α}, (∀ x ∈ L, ∃ y, x = f y ∧ p y) → ∃ l : List β, L = l.map f ∧ ∀ y ∈ l, p y
  | [], _ => ⟨[], rfl, fun y h => by cases h⟩
  | x :: L, h => by
    obtain ⟨y, rfl, hy⟩ := h x (List.mem_cons_self ..)
    obtain ⟨l, rfl, hl⟩ := exists_map (fun x hx => h x (List.mem_cons_of_mem _ hx))
    exact ⟨y :: l, rfl, fun z hz => by
      rcases List.mem_cons.1 hz with rfl | hz
      · exact hy
      · exact hl z hz⟩
variable {B : Nat} {n : Nat} {cs : List Dat}
theorem tc3 (h : TyC prog B n 3 cs) : ∃ m : Int, cs = [(intD m)] ∧ ((-9223372036854775808) ≤ m ∧ m ≤ 9223372036854775807) := by
  cases n with
  | zero => exact h.elim
  | succ n =>
    simp only [TyC, ua3] at h
    obtain ⟨m, rfl, hm⟩ := h
    refine ⟨m, rfl, ?_⟩
    simpa [Lit.wf, IntKind.min, IntKind.max, IntKind.signed, IntKind.bits] using hm
def ok22 (B : Nat) (x : (List Int)) : Prop := x.length ≤ B ∧ ∀ m ∈ x, ((-9223372036854775808) ≤ m ∧ m ≤ 9223372036854775807)
theorem tc22 (h : TyC prog B n 22 cs) : ∃ l : (List Int), cs = [.lst ((List.map intD) l)] ∧ ok22 B l := by
  cases n with
  | zero => exact h.elim
  | succ n =>
    simp only [TyC, ua22] at h
    obtain ⟨L, rfl, hl, hx⟩ := h
    obtain ⟨l, rfl, hm⟩ := exists_map (f := fun m => [(intD m)]) (p := fun m => ((-9223372036854775808) ≤ m ∧ m ≤ 9223372036854775807)) (fun x hx' => tc3 (hx x hx'))
    refine ⟨l, ?_, by simpa using hl, hm⟩
    have e : (l.map (fun m => [(intD m)])).map (elemD prog 3) = l.map intD := by
      rw [List.map_map]; exact List.map_congr_left (fun m _ => by simp only [Function.comp_apply]; simp [elemD, aggB, ua3])
    rw [e]
theorem tc2 (h : TyC prog B n 2 cs) : ∃ m : Int, cs = [(intD m)] ∧ ((-9223372036854775808) ≤ m ∧ m ≤ 9223372036854775807) := by
  cases n with
  | zero => exact h.elim
  | succ n =>
    simp only [TyC, ua2] at h
    obtain ⟨m, rfl, hm⟩ := h
    refine ⟨m, rfl, ?_⟩
    simpa [Lit.wf, IntKind.min, IntKind.max, IntKind.signed, IntKind.bits] using hm
def ok36 (B : Nat) (x : (List Int)) : Prop := x.length ≤ B ∧ ∀ m ∈ x, ((-9223372036854775808) ≤ m ∧ m ≤ 9223372036854775807)
theorem tc36 (h : TyC prog B n 36 cs) : ∃ l : (List Int), cs = [.lst ((List.map intD) l)] ∧ ok36 B l := by
  cases n with
  | zero => exact h.elim
  | succ n =>
    simp only [TyC, ua36] at h
    obtain ⟨L, rfl, hl, hx⟩ := h
    obtain ⟨l, rfl, hm⟩ := exists_map (f := fun m => [(intD m)]) (p := fun m => ((-9223372036854775808) ≤ m ∧ m ≤ 9223372036854775807)) (fun x hx' => tc2 (hx x hx'))
    refine ⟨l, ?_, by simpa using hl, hm⟩
    have e : (l.map (fun m => [(intD m)])).map (elemD prog 2) = l.map intD := by
      rw [List.map_map]; exact List.map_congr_left (fun m _ => by simp only [Function.comp_apply]; simp [elemD, aggB, ua2])
    rw [e]
theorem tc44 (h : TyC prog B n 44 cs) : ∃ m : Int, cs = [(numD .i8 m)] ∧ ((-128) ≤ m ∧ m ≤ 127) := by
  cases n with
  | zero => exact h.elim
  | succ n =>
    simp only [TyC, ua44] at h
    obtain ⟨m, rfl, hm⟩ := h
    refine ⟨m, rfl, ?_⟩
    simpa [Lit.wf, IntKind.min, IntKind.max, IntKind.signed, IntKind.bits] using hm
def ok43 (B : Nat) (x : (List Int)) : Prop := x.length ≤ B ∧ ∀ m ∈ x, ((-128) ≤ m ∧ m ≤ 127)
theorem tc43 (h : TyC prog B n 43 cs) : ∃ l : (List Int), cs = [.lst ((List.map (numD .i8)) l)] ∧ ok43 B l := by
  cases n with
  | zero => exact h.elim
  | succ n =>
    simp only [TyC, ua43] at h
    obtain ⟨L, rfl, hl, hx⟩ := h
    obtain ⟨l, rfl, hm⟩ := exists_map (f := fun m => [(numD .i8 m)]) (p := fun m => ((-128) ≤ m ∧ m ≤ 127)) (fun x hx' => tc44 (hx x hx'))
    refine ⟨l, ?_, by simpa using hl, hm⟩
    have e : (l.map (fun m => [(numD .i8 m)])).map (elemD prog 44) = l.map (numD .i8) := by
      rw [List.map_map]; exact List.map_congr_left (fun m _ => by simp only [Function.comp_apply]; simp [elemD, aggB, ua44])
    rw [e]
theorem ty3 {d : Dat} (h : TyA prog B 3 d) : ∃ m : Int, d = (intD m) ∧ ((-9223372036854775808) ≤ m ∧ m ≤ 9223372036854775807) := by
  obtain ⟨n, cs, h, hd⟩ := h
  obtain ⟨m, rfl, hm⟩ := tc3 h
  exact ⟨m, by rw [hd]; simp [elemD, aggB, ua3], hm⟩
theorem ty22 {d : Dat} (h : TyA prog B 22 d) : ∃ m : (List Int), d = (.lst ((List.map intD) m)) ∧ (ok22 B m) := by
  obtain ⟨n, cs, h, hd⟩ := h
  obtain ⟨m, rfl, hm⟩ := tc22 h
  exact ⟨m, by rw [hd]; simp [elemD, aggB, ua22], hm⟩
theorem ty36 {d : Dat} (h : TyA prog B 36 d) : ∃ m : (List Int), d = (.lst ((List.map intD) m)) ∧ (ok36 B m) := by
  obtain ⟨n, cs, h, hd⟩ := h
  obtain ⟨m, rfl, hm⟩ := tc36 h
  exact ⟨m, by rw [hd]; simp [elemD, aggB, ua36], hm⟩
theorem ty43 {d : Dat} (h : TyA prog B 43 d) : ∃ m : (List Int), d = (.lst ((List.map (numD .i8)) m)) ∧ (ok43 B m) := by
  obtain ⟨n, cs, h, hd⟩ := h
  obtain ⟨m, rfl, hm⟩ := tc43 h
  exact ⟨m, by rw [hd]; simp [elemD, aggB, ua43], hm⟩
def argTs : List TypeId := [3, 22, 2, 36, 44, 43, 4]
theorem argTs_closed : closedTs prog argTs = true := by kernel_rfl
theorem laidOut : laidOutB prog = true := by kernel_rfl
theorem summ : SummOK prog env := fun f s h => by cases h
theorem mixed : prog.follows .mixedOrders = true := by kernel_rfl
/-- a call that comes to a value keeps it in the model -/
theorem pure_of {f : FuncId} {dss : List Dat} {p : PV} (ho : p.out = true) (h : PC prog env f (dss.map .dat) [] p []) : PureCall prog f dss p := by
  obtain ⟨N, hN⟩ := h
  exact pure_sound summ mixed (hN N (Nat.le_refl _)) ho
end Go.Proofs.Try
