/-
  Models of functions, their walks, and plain laws.
-/
import Derived.Test.YtckoalmibacemaaGreatDoorPmLaw
import Derived.Test.YtckoalmibacemaaGreatDoorKPsiOriginsB
namespace Go.Proofs.Tryz
open Go Go.Pm
set_option linter.unusedVariables false
set_option linter.unusedSimpArgs false
set_option maxRecDepth 2000
theorem ua3 : prog.underlying 3 = some (TypeDesc.int IntKind.i64) := by kernel_rfl
theorem ua27 : prog.underlying 27 = some (TypeDesc.slice 3) := by kernel_rfl
theorem ua30 : prog.underlying 30 = some (TypeDesc.struct { toList := [{ name := "Kind", type := 3, offset := 0, embedded := false, tag := "", pkgPath := "", byteOffset := 0 }, { name := "Shape", type := 27, offset := 1, embedded := false, tag := "", pkgPath := "", byteOffset := 8 }, { name := "Buffer", type := 3, offset := 2, embedded := false, tag := "", pkgPath := "", byteOffset := 32 }, { name := "Starts", type := 27, offset := 3, embedded := false, tag := "", pkgPath := "", byteOffset := 40 }, { name := "Axis", type := 3, offset := 4, embedded := false, tag := "", pkgPath := "", byteOffset := 64 }, { name := "Amount", type := 3, offset := 5, embedded := false, tag := "", pkgPath := "", byteOffset := 72 }, { name := "Perm", type := 27, offset := 6, embedded := false, tag := "", pkgPath := "", byteOffset := 80 }, { name := "Kids", type := 28, offset := 7, embedded := false, tag := "", pkgPath := "", byteOffset := 104 }] }) := by kernel_rfl
theorem ua28 : prog.underlying 28 = some (TypeDesc.slice 30) := by kernel_rfl
theorem ua54 : prog.underlying 54 = some (TypeDesc.slice 27) := by kernel_rfl
theorem ua4 : prog.underlying 4 = some TypeDesc.bool := by kernel_rfl
theorem exists_map {α β : Type} {f : β → α} {p : β → Prop} : ∀ {L : List α}, (∀ x ∈ L, ∃ y, x = f y ∧ p y) → ∃ l : List β, L = l.map f ∧ ∀ y ∈ l, p y
  | [], _ => ⟨[], rfl, fun y h => by cases h⟩
  | x :: L, h => by
    obtain ⟨y, rfl, hy⟩ := h x (List.mem_cons_self ..)
    obtain ⟨l, rfl, hl⟩ := exists_map (fun x hx => h x (List.mem_cons_of_mem _ hx))
    exact ⟨y :: l, rfl, fun z hz => by
      rcases List.mem_cons.1 hz with rfl | hz
      · exact hy
      · exact hl z hz⟩
variable {B : Nat} {n : Nat} {cs : List Dat}
theorem tc3 (h : TyC prog B n 3 cs) : ∃ m : Int, cs = [(intD m)] ∧ ((-9223372036854775808) ≤ m ∧ m ≤ 9223372036854775807) := by
  cases n with
  | zero => exact h.elim
  | succ n =>
    simp only [TyC, ua3] at h
    obtain ⟨m, rfl, hm⟩ := h
    refine ⟨m, rfl, ?_⟩
    simpa [Lit.wf, IntKind.min, IntKind.max, IntKind.signed, IntKind.bits] using hm
def ok27 (B : Nat) (x : (List Int)) : Prop := x.length ≤ B ∧ ∀ m ∈ x, ((-9223372036854775808) ≤ m ∧ m ≤ 9223372036854775807)
theorem tc27 (h : TyC prog B n 27 cs) : ∃ l : (List Int), cs = [.lst ((List.map intD) l)] ∧ ok27 B l := by
  cases n with
  | zero => exact h.elim
  | succ n =>
    simp only [TyC, ua27] at h
    obtain ⟨L, rfl, hl, hx⟩ := h
    obtain ⟨l, rfl, hm⟩ := exists_map (f := fun m => [(intD m)]) (p := fun m => ((-9223372036854775808) ≤ m ∧ m ≤ 9223372036854775807)) (fun x hx' => tc3 (hx x hx'))
    refine ⟨l, ?_, by simpa using hl, hm⟩
    have e : (l.map (fun m => [(intD m)])).map (elemD prog 3) = l.map intD := by
      rw [List.map_map]; exact List.map_congr_left (fun m _ => by simp only [Function.comp_apply]; simp [elemD, aggB, ua3])
    rw [e]
def ok30 (B : Nat) (x : T_ref14_Core) : Prop := True
theorem ts30 (ih : ∀ cs, TyC prog B n 28 cs → ∃ l : List T_ref14_Core, cs = [.lst (T_ref14_Core.toDs l)]) (h : TyC prog B (n + 1) 30 cs) : ∃ x : T_ref14_Core, cs = [(intD x.kind), (.lst ((List.map intD) x.shape)), (intD x.buffer), (.lst ((List.map intD) x.starts)), (intD x.axis), (intD x.amount), (.lst ((List.map intD) x.perm)), (.lst (T_ref14_Core.toDs x.kids))] := by
  simp only [TyC, ua30, List.foldr] at h
  obtain ⟨_, _, rfl, h0, _, _, rfl, h1, _, _, rfl, h2, _, _, rfl, h3, _, _, rfl, h4, _, _, rfl, h5, _, _, rfl, h6, _, _, rfl, h7, rfl⟩ := h
  obtain ⟨m0, rfl, _⟩ := tc3 h0
  obtain ⟨m1, rfl, _⟩ := tc27 h1
  obtain ⟨m2, rfl, _⟩ := tc3 h2
  obtain ⟨m3, rfl, _⟩ := tc27 h3
  obtain ⟨m4, rfl, _⟩ := tc3 h4
  obtain ⟨m5, rfl, _⟩ := tc3 h5
  obtain ⟨m6, rfl, _⟩ := tc27 h6
  obtain ⟨m7, rfl⟩ := ih _ h7
  exact ⟨⟨m0, m1, m2, m3, m4, m5, m6, m7⟩, rfl⟩
theorem tl30 (ih : ∀ cs, TyC prog B n 30 cs → ∃ x : T_ref14_Core, cs = [(intD x.kind), (.lst ((List.map intD) x.shape)), (intD x.buffer), (.lst ((List.map intD) x.starts)), (intD x.axis), (intD x.amount), (.lst ((List.map intD) x.perm)), (.lst (T_ref14_Core.toDs x.kids))]) (h : TyC prog B (n + 1) 28 cs) : ∃ l : List T_ref14_Core, cs = [.lst (T_ref14_Core.toDs l)] := by
  simp only [TyC, ua28] at h
  obtain ⟨L, rfl, hl, hx⟩ := h
  obtain ⟨l, rfl, _⟩ := exists_map (f := fun (x : T_ref14_Core) => [(intD x.kind), (.lst ((List.map intD) x.shape)), (intD x.buffer), (.lst ((List.map intD) x.starts)), (intD x.axis), (intD x.amount), (.lst ((List.map intD) x.perm)), (.lst (T_ref14_Core.toDs x.kids))]) (p := fun _ => True) (fun c hc => by obtain ⟨x, e⟩ := ih c (hx c hc); exact ⟨x, e, trivial⟩)
  refine ⟨l, ?_⟩
  have e : (l.map (fun (x : T_ref14_Core) => [(intD x.kind), (.lst ((List.map intD) x.shape)), (intD x.buffer), (.lst ((List.map intD) x.starts)), (intD x.axis), (intD x.amount), (.lst ((List.map intD) x.perm)), (.lst (T_ref14_Core.toDs x.kids))])).map (elemD prog 30) = T_ref14_Core.toDs l := by
    rw [T_ref14_Core.toDs_eq, List.map_map]; exact List.map_congr_left (fun m _ => by rw [T_ref14_Core.toD_eq]; simp only [Function.comp_apply]; simp [elemD, aggB, ua30]; rfl)
  rw [e]
theorem tr30 : ∀ n, (∀ cs, TyC prog B n 30 cs → ∃ x : T_ref14_Core, cs = [(intD x.kind), (.lst ((List.map intD) x.shape)), (intD x.buffer), (.lst ((List.map intD) x.starts)), (intD x.axis), (intD x.amount), (.lst ((List.map intD) x.perm)), (.lst (T_ref14_Core.toDs x.kids))]) ∧ (∀ cs, TyC prog B n 28 cs → ∃ l : List T_ref14_Core, cs = [.lst (T_ref14_Core.toDs l)])
  | 0 => ⟨fun _ h => h.elim, fun _ h => h.elim⟩
  | n + 1 => ⟨fun _ h => ts30 (tr30 n).2 h, fun _ h => tl30 (tr30 n).1 h⟩
theorem tc30 (h : TyC prog B n 30 cs) : ∃ x : T_ref14_Core, cs = [(intD x.kind), (.lst ((List.map intD) x.shape)), (intD x.buffer), (.lst ((List.map intD) x.starts)), (intD x.axis), (intD x.amount), (.lst ((List.map intD) x.perm)), (.lst (T_ref14_Core.toDs x.kids))] ∧ ok30 B x := by
  obtain ⟨x, e⟩ := (tr30 n).1 cs h
  exact ⟨x, e, trivial⟩
def ok54 (B : Nat) (x : (List (List Int))) : Prop := x.length ≤ B ∧ ∀ m ∈ x, (ok27 B m)
theorem tc54 (h : TyC prog B n 54 cs) : ∃ l : (List (List Int)), cs = [.lst ((List.map (fun l => Dat.lst ((List.map intD) l))) l)] ∧ ok54 B l := by
  cases n with
  | zero => exact h.elim
  | succ n =>
    simp only [TyC, ua54] at h
    obtain ⟨L, rfl, hl, hx⟩ := h
    obtain ⟨l, rfl, hm⟩ := exists_map (f := fun m => [(.lst ((List.map intD) m))]) (p := fun m => (ok27 B m)) (fun x hx' => tc27 (hx x hx'))
    refine ⟨l, ?_, by simpa using hl, hm⟩
    have e : (l.map (fun m => [(.lst ((List.map intD) m))])).map (elemD prog 27) = l.map (fun l => Dat.lst ((List.map intD) l)) := by
      rw [List.map_map]; exact List.map_congr_left (fun m _ => by simp only [Function.comp_apply]; simp [elemD, aggB, ua27])
    rw [e]
theorem ty30 {d : Dat} (h : TyA prog B 30 d) : ∃ m : T_ref14_Core, d = (T_ref14_Core.ex m) ∧ (ok30 B m) := by
  obtain ⟨n, cs, h, hd⟩ := h
  obtain ⟨m, rfl, hm⟩ := tc30 h
  exact ⟨m, by rw [hd]; simp [elemD, aggB, ua30]; rfl, hm⟩
theorem ty54 {d : Dat} (h : TyA prog B 54 d) : ∃ m : (List (List Int)), d = (.lst ((List.map (fun l => Dat.lst ((List.map intD) l))) m)) ∧ (ok54 B m) := by
  obtain ⟨n, cs, h, hd⟩ := h
  obtain ⟨m, rfl, hm⟩ := tc54 h
  exact ⟨m, by rw [hd]; simp [elemD, aggB, ua54], hm⟩
theorem ty27 {d : Dat} (h : TyA prog B 27 d) : ∃ m : (List Int), d = (.lst ((List.map intD) m)) ∧ (ok27 B m) := by
  obtain ⟨n, cs, h, hd⟩ := h
  obtain ⟨m, rfl, hm⟩ := tc27 h
  exact ⟨m, by rw [hd]; simp [elemD, aggB, ua27], hm⟩
def argTs : List TypeId := [3, 27, 30, 28, 54, 4]
theorem argTs_closed : closedTs prog argTs = true := by kernel_rfl
theorem laidOut : laidOutB prog = true := by kernel_rfl
theorem summ : SummOK prog env := fun f s h => by cases h
theorem mixed : prog.follows .mixedOrders = true := by kernel_rfl
/-- a call that comes to a value keeps it in the model -/
theorem pure_of {f : FuncId} {dss : List Dat} {p : PV} (ho : p.out = true) (h : PC prog env f (dss.map .dat) [] p []) : PureCall prog f dss p := by
  obtain ⟨N, hN⟩ := h
  exact pure_sound summ mixed (hN N (Nat.le_refl _)) ho
end Go.Proofs.Tryz
