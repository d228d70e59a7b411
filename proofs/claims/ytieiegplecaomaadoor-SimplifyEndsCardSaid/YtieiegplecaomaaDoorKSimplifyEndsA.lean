/-
  Models of functions, their walks, and plain laws.
-/
import Derived.Test.YtieiegplecaomaaDoorPmSx
import Derived.Test.YtieiegplecaomaaDoorProg
import Derived.Test.YtieiegplecaomaaDoorPmStr
import Derived.Test.YtieiegplecaomaaDoorPmLaw
namespace Go.Proofs.Tryd
open Go Go.Pm
set_option linter.unusedVariables false
set_option linter.unusedSimpArgs false
set_option maxRecDepth 2000
/-- lists that a machine can hold -/
def Sm (n : Nat) : Prop := n ≤ 9223372036854775807
theorem Sm_of {n m : Nat} (h : n ≤ m) (hm : m ≤ 9223372036854775807 := by decide) : Sm n := Nat.le_trans h hm
theorem idx_ok {α : Type} {l : List α} {j : Nat} (h : j < l.length) : idx l (j : Int) = some l[j] := by simp [idx, h]
theorem app_ok {α : Type} {b : Nat} {l es : List α} (h : (l.length + es.length) * b ≤ room) : app b l es = some (l ++ es) := if_pos h
theorem W_ok {n : Int} (h1 : -9223372036854775808 ≤ n) (h2 : n < 9223372036854775808) : W n = n := by
  simp only [W, IntKind.wrap, IntKind.bits, IntKind.signed]; simp; split <;> omega
theorem W_succ {j : Nat} (h : j < 9223372036854775807) : W ((j : Int) + 1) = ((j + 1 : Nat) : Int) := by rw [W_ok (by omega) (by omega)]; omega
/-! a loop over a list: what lies behind, what lies ahead -/
section
variable {α : Type} {p s : List α} {x : α}
theorem mid_lt : ((p.length : Int) < ((p ++ x :: s).length : Int)) := by simp; omega
theorem end_lt : ¬ ((p.length : Int) < ((p ++ ([] : List α)).length : Int)) := by simp
theorem mid_idx : idx (p ++ x :: s) (p.length : Int) = some x := by simp [idx]
theorem mid_app : p ++ x :: s = (p ++ [x]) ++ s := by simp
theorem mid_W (hs : Sm (p ++ x :: s).length) : W ((p.length : Int) + 1) = ((p ++ [x]).length : Int) := by
  unfold Sm at hs
  rw [W_ok (by omega) (by simp at hs; omega)]; simp
end
theorem bind_ok {α β : Type} (a : α) (f : α → Option β) : (some a >>= f) = f a := rfl
end Go.Proofs.Tryd
namespace Go.Proofs.Tryd
open Go Go.Pm
set_option linter.unusedVariables false
set_option maxHeartbeats 2000000
set_option maxRecDepth 2000
def hintOf : FuncId → Hint
  | 11 => { own := [((1, 1), [(5, 25)]), ((2, 1), [(0, 25)]), ((10, 5), [(5, 25)])], keep := [(5, [1, 2, 4, 5, 6]), (11, [2, 4, 5, 9, 10, 100000])] }
  | 12 => { own := [], keep := [(4, [2, 3, 5]), (9, [2, 3, 6])] }
  | 17 => { own := [], keep := [(3, [1, 3, 4])] }
  | 18 => { own := [((1, 1), [(5, 25)]), ((2, 0), [(0, 2)])], keep := [(5, [1, 2, 3, 4])] }
  | 19 => { own := [], keep := [(2, [1, 2]), (6, [1, 3])] }
  | 21 => { own := [], keep := [(12, [1, 4, 5])] }
  | 22 => { own := [], keep := [(2, [1, 2, 8, 9])] }
  | 23 => { own := [((1, 2), [(0, 2)]), ((2, 0), [(0, 25)])], keep := [(4, [1, 2, 3, 11, 12, 13])] }
  | 25 => { own := [((2, 0), [(0, 25)]), ((10, 2), [(0, 25)])], keep := [(4, [1, 2, 4, 5, 13, 14, 15]), (11, [1, 2, 4])] }
  | 26 => { own := [], keep := [(3, [1, 2, 5])] }
  | 27 => { own := [], keep := [(3, [1, 3, 4])] }
  | 28 => { own := [], keep := [(3, [1, 3, 4])] }
  | 29 => { own := [], keep := [(4, [1, 3])] }
  | 30 => { own := [((3, 0), [(0, 53)])], keep := [(5, [0, 4, 5]), (26, [0, 4, 5, 12, 13, 14])] }
  | 34 => { own := [((2, 0), [(1000, 2)]), ((3, 0), [(1000, 2)])], keep := [] }
  | 37 => { own := [], keep := [(1, [0, 1])] }
  | 39 => { own := [], keep := [(5, [0, 1, 6, 7])] }
  | 41 => { own := [], keep := [(2, [0, 2, 4, 5, 6])] }
  | 45 => { own := [((10, 5), [(0, 2)])], keep := [(9, [0, 1, 4, 7])] }
  | 48 => { own := [], keep := [(3, [0, 5, 6])] }
  | 49 => { own := [], keep := [(3, [1, 3, 4])] }
  | 74 => { own := [], keep := [(4, [3, 6, 34, 35, 36])] }
  | _ => {}
def env : Env where
  summ := fun _ => none
  hint := hintOf
  pure := fun f => f != 34
  split := fun f => f == 34

end Go.Proofs.Tryd
namespace Go.Proofs.Tryd
open Go Go.Pm
set_option linter.unusedVariables false
set_option maxHeartbeats 2000000
set_option maxRecDepth 2000
structure T_api_Tree where
  kind : Int
  fn : Int
  axis : Int
  name : ByteArray
  nums : (List Int)
  kids : (List T_api_Tree)
mutual
def T_api_Tree.toD : T_api_Tree → Dat
  | ⟨kind, fn, axis, name, nums, kids⟩ => .agg [(intD kind), (intD fn), (intD axis), (strD name), (.lst ((List.map intD) nums)), (.lst (T_api_Tree.toDs kids))]
def T_api_Tree.toDs : List T_api_Tree → List Dat
  | [] => []
  | k :: ks => T_api_Tree.toD k :: T_api_Tree.toDs ks
end
theorem T_api_Tree.toDs_eq : ∀ l : List T_api_Tree, T_api_Tree.toDs l = l.map T_api_Tree.toD
  | [] => rfl
  | k :: ks => by rw [T_api_Tree.toDs, T_api_Tree.toDs_eq ks]; rfl
def T_api_Tree.ex (x : T_api_Tree) : Dat := .agg [(intD x.kind), (intD x.fn), (intD x.axis), (strD x.name), (.lst ((List.map intD) x.nums)), (.lst (T_api_Tree.toDs x.kids))]
theorem T_api_Tree.toD_eq (x : T_api_Tree) : x.toD = x.ex := by cases x; rfl
theorem T_api_Tree.fit (x : T_api_Tree) : Dat.fits 6 x.toD = true := by cases x; rfl
end Go.Proofs.Tryd
namespace Go.Proofs.Tryd
open Go Go.Pm
set_option linter.unusedVariables false
set_option linter.unusedSimpArgs false
set_option maxHeartbeats 2000000
set_option maxRecDepth 2000
theorem ua3 : prog.underlying 3 = some (TypeDesc.int IntKind.i64) := by kernel_rfl
theorem ua9 : prog.underlying 9 = some TypeDesc.string := by kernel_rfl
theorem ua2 : prog.underlying 2 = some (TypeDesc.int IntKind.i64) := by kernel_rfl
theorem ua22 : prog.underlying 22 = some (TypeDesc.slice 2) := by kernel_rfl
theorem ua25 : prog.underlying 25 = some (TypeDesc.struct { toList := [{ name := "Kind", type := 3, offset := 0, embedded := false, tag := "", pkgPath := "", byteOffset := 0 }, { name := "Fn", type := 3, offset := 1, embedded := false, tag := "", pkgPath := "", byteOffset := 8 }, { name := "Axis", type := 3, offset := 2, embedded := false, tag := "", pkgPath := "", byteOffset := 16 }, { name := "Name", type := 9, offset := 3, embedded := false, tag := "", pkgPath := "", byteOffset := 24 }, { name := "Nums", type := 22, offset := 4, embedded := false, tag := "", pkgPath := "", byteOffset := 40 }, { name := "Kids", type := 23, offset := 5, embedded := false, tag := "", pkgPath := "", byteOffset := 64 }] }) := by kernel_rfl
theorem ua23 : prog.underlying 23 = some (TypeDesc.slice 25) := by kernel_rfl
theorem ua4 : prog.underlying 4 = some TypeDesc.bool := by kernel_rfl
theorem exists_map {α β : Type} {f : β → α} {p : β → Prop} : ∀ {L : List α}, (∀ x ∈ L, ∃ y, x = f y ∧ p y) → ∃ l : List β, L = l.map f ∧ ∀ y ∈ l, p y
  | [], _ => ⟨[], rfl, fun y h => by cases h⟩
  | x :: L, h => by
    obtain ⟨y, rfl, hy⟩ := h x (List.mem_cons_self ..)
    obtain ⟨l, rfl, hl⟩ := exists_map (fun x hx => h x (List.mem_cons_of_mem _ hx))
    exact ⟨y :: l, rfl, fun z hz => by
      rcases List.mem_cons.1 hz with rfl | hz
      · exact hy
      · exact hl z hz⟩
variable {B : Nat} {n : Nat} {cs : List Dat}
theorem tc3 (h : TyC prog B n 3 cs) : ∃ m : Int, cs = [(intD m)] ∧ ((-9223372036854775808) ≤ m ∧ m ≤ 9223372036854775807) := by
  cases n with
  | zero => exact h.elim
  | succ n =>
    simp only [TyC, ua3] at h
    obtain ⟨m, rfl, hm⟩ := h
    refine ⟨m, rfl, ?_⟩
    simpa [Lit.wf, IntKind.min, IntKind.max, IntKind.signed, IntKind.bits] using hm
theorem tc9 (h : TyC prog B n 9 cs) : ∃ m : ByteArray, cs = [strD m] ∧ m.size ≤ B := by
  cases n with
  | zero => exact h.elim
  | succ n =>
    simp only [TyC, ua9] at h
    obtain ⟨m, rfl, hm⟩ := h
    exact ⟨m, rfl, hm⟩
theorem tc2 (h : TyC prog B n 2 cs) : ∃ m : Int, cs = [(intD m)] ∧ ((-9223372036854775808) ≤ m ∧ m ≤ 9223372036854775807) := by
  cases n with
  | zero => exact h.elim
  | succ n =>
    simp only [TyC, ua2] at h
    obtain ⟨m, rfl, hm⟩ := h
    refine ⟨m, rfl, ?_⟩
    simpa [Lit.wf, IntKind.min, IntKind.max, IntKind.signed, IntKind.bits] using hm
def ok22 (B : Nat) (x : (List Int)) : Prop := x.length ≤ B ∧ ∀ m ∈ x, ((-9223372036854775808) ≤ m ∧ m ≤ 9223372036854775807)
theorem tc22 (h : TyC prog B n 22 cs) : ∃ l : (List Int), cs = [.lst ((List.map intD) l)] ∧ ok22 B l := by
  cases n with
  | zero => exact h.elim
  | succ n =>
    simp only [TyC, ua22] at h
    obtain ⟨L, rfl, hl, hx⟩ := h
    obtain ⟨l, rfl, hm⟩ := exists_map (f := fun m => [(intD m)]) (p := fun m => ((-9223372036854775808) ≤ m ∧ m ≤ 9223372036854775807)) (fun x hx' => tc2 (hx x hx'))
    refine ⟨l, ?_, by simpa using hl, hm⟩
    have e : (l.map (fun m => [(intD m)])).map (elemD prog 2) = l.map intD := by
      rw [List.map_map]; exact List.map_congr_left (fun m _ => by simp only [Function.comp_apply]; simp [elemD, aggB, ua2])
    rw [e]
mutual
def ok25 (B : Nat) : T_api_Tree → Prop
  | ⟨kind, fn, axis, name, nums, kids⟩ => (((-9223372036854775808) ≤ kind ∧ kind ≤ 9223372036854775807)) ∧ (((-9223372036854775808) ≤ fn ∧ fn ≤ 9223372036854775807)) ∧ (((-9223372036854775808) ≤ axis ∧ axis ≤ 9223372036854775807)) ∧ ((name.size ≤ B)) ∧ ((ok22 B nums)) ∧ (kids.length ≤ B ∧ okl25 B kids)
def okl25 (B : Nat) : List T_api_Tree → Prop
  | [] => True
  | k :: ks => ok25 B k ∧ okl25 B ks
end
theorem okl25_of : ∀ {l : List T_api_Tree}, (∀ y ∈ l, ok25 B y) → okl25 B l
  | [], _ => by rw [okl25]; trivial
  | y :: l, h => by rw [okl25]; exact ⟨h y (List.mem_cons_self ..), okl25_of fun z hz => h z (List.mem_cons_of_mem _ hz)⟩
theorem ts25 (ih : ∀ cs, TyC prog B n 23 cs → ∃ l : List T_api_Tree, cs = [.lst (T_api_Tree.toDs l)] ∧ l.length ≤ B ∧ okl25 B l) (h : TyC prog B (n + 1) 25 cs) : ∃ x : T_api_Tree, cs = [(intD x.kind), (intD x.fn), (intD x.axis), (strD x.name), (.lst ((List.map intD) x.nums)), (.lst (T_api_Tree.toDs x.kids))] ∧ ok25 B x := by
  simp only [TyC, ua25, List.foldr] at h
  obtain ⟨_, _, rfl, h0, _, _, rfl, h1, _, _, rfl, h2, _, _, rfl, h3, _, _, rfl, h4, _, _, rfl, h5, rfl⟩ := h
  obtain ⟨m0, rfl, i0⟩ := tc3 h0
  obtain ⟨m1, rfl, i1⟩ := tc3 h1
  obtain ⟨m2, rfl, i2⟩ := tc3 h2
  obtain ⟨m3, rfl, i3⟩ := tc9 h3
  obtain ⟨m4, rfl, i4⟩ := tc22 h4
  obtain ⟨m5, rfl, i5⟩ := ih _ h5
  exact ⟨⟨m0, m1, m2, m3, m4, m5⟩, rfl, by rw [ok25]; exact ⟨i0, i1, i2, i3, i4, i5⟩⟩
theorem tl25 (ih : ∀ cs, TyC prog B n 25 cs → ∃ x : T_api_Tree, cs = [(intD x.kind), (intD x.fn), (intD x.axis), (strD x.name), (.lst ((List.map intD) x.nums)), (.lst (T_api_Tree.toDs x.kids))] ∧ ok25 B x) (h : TyC prog B (n + 1) 23 cs) : ∃ l : List T_api_Tree, cs = [.lst (T_api_Tree.toDs l)] ∧ l.length ≤ B ∧ okl25 B l := by
  simp only [TyC, ua23] at h
  obtain ⟨L, rfl, hl, hx⟩ := h
  obtain ⟨l, rfl, hm⟩ := exists_map (f := fun (x : T_api_Tree) => [(intD x.kind), (intD x.fn), (intD x.axis), (strD x.name), (.lst ((List.map intD) x.nums)), (.lst (T_api_Tree.toDs x.kids))]) (p := fun x => ok25 B x) (fun c hc => ih c (hx c hc))
  refine ⟨l, ?_, by simpa using hl, okl25_of hm⟩
  have e : (l.map (fun (x : T_api_Tree) => [(intD x.kind), (intD x.fn), (intD x.axis), (strD x.name), (.lst ((List.map intD) x.nums)), (.lst (T_api_Tree.toDs x.kids))])).map (elemD prog 25) = T_api_Tree.toDs l := by
    rw [T_api_Tree.toDs_eq, List.map_map]; exact List.map_congr_left (fun m _ => by rw [T_api_Tree.toD_eq]; simp only [Function.comp_apply]; simp [elemD, aggB, ua25]; rfl)
  rw [e]
theorem tr25 : ∀ n, (∀ cs, TyC prog B n 25 cs → ∃ x : T_api_Tree, cs = [(intD x.kind), (intD x.fn), (intD x.axis), (strD x.name), (.lst ((List.map intD) x.nums)), (.lst (T_api_Tree.toDs x.kids))] ∧ ok25 B x) ∧ (∀ cs, TyC prog B n 23 cs → ∃ l : List T_api_Tree, cs = [.lst (T_api_Tree.toDs l)] ∧ l.length ≤ B ∧ okl25 B l)
  | 0 => ⟨fun _ h => h.elim, fun _ h => h.elim⟩
  | n + 1 => ⟨fun _ h => ts25 (tr25 n).2 h, fun _ h => tl25 (tr25 n).1 h⟩
theorem tc25 (h : TyC prog B n 25 cs) : ∃ x : T_api_Tree, cs = [(intD x.kind), (intD x.fn), (intD x.axis), (strD x.name), (.lst ((List.map intD) x.nums)), (.lst (T_api_Tree.toDs x.kids))] ∧ ok25 B x := (tr25 n).1 cs h
theorem ty25 {d : Dat} (h : TyA prog B 25 d) : ∃ m : T_api_Tree, d = (T_api_Tree.ex m) ∧ (ok25 B m) := by
  obtain ⟨n, cs, h, hd⟩ := h
  obtain ⟨m, rfl, hm⟩ := tc25 h
  exact ⟨m, by rw [hd]; simp [elemD, aggB, ua25]; rfl, hm⟩
def argTs : List TypeId := [3, 9, 2, 22, 25, 23, 4]
theorem argTs_closed : closedTs prog argTs = true := by kernel_rfl
theorem laidOut : laidOutB prog = true := by kernel_rfl
theorem summ : SummOK prog env := fun f s h => by cases h
theorem mixed : prog.follows .mixedOrders = true := by kernel_rfl
/-- a call that comes to a value keeps it in the model -/
theorem pure_of {f : FuncId} {dss : List Dat} {p : PV} (ho : p.out = true) (h : PC prog env f (dss.map .dat) [] p []) : PureCall prog f dss p := by
  obtain ⟨N, hN⟩ := h
  exact pure_sound summ mixed (hN N (Nat.le_refl _)) ho
end Go.Proofs.Tryd
namespace Go.Proofs.Tryd
open Go Go.Pm
set_option linter.unusedVariables false
set_option maxHeartbeats 2000000
set_option maxRecDepth 2000
def a_ref09_Text0 : ByteArray := (⟨#[226, 140, 189, 226, 140, 189, 50, 32, 51, 226, 141, 180, 44, 120]⟩ : ByteArray)
def a_ref09_Text1 : ByteArray := (⟨#[50, 32, 51, 226, 141, 180, 120]⟩ : ByteArray)
def r_ref09_Text0 : (T_api_Tree × Int) := ((⟨3, 3, -1, ByteArray.empty, [], [(⟨3, 3, -1, ByteArray.empty, [], [(⟨4, 5, -1, ByteArray.empty, [], [(⟨1, 0, -1, ByteArray.empty, [2, 3], []⟩ : T_api_Tree), (⟨3, 6, -1, ByteArray.empty, [], [(⟨2, 0, -1, (⟨#[120]⟩ : ByteArray), [], []⟩ : T_api_Tree)]⟩ : T_api_Tree)]⟩ : T_api_Tree)]⟩ : T_api_Tree)]⟩ : T_api_Tree), 0)
def r_ref09_Text1 : (T_api_Tree × Int) := ((⟨4, 5, -1, ByteArray.empty, [], [(⟨1, 0, -1, ByteArray.empty, [2, 3], []⟩ : T_api_Tree), (⟨2, 0, -1, (⟨#[120]⟩ : ByteArray), [], []⟩ : T_api_Tree)]⟩ : T_api_Tree), 0)
def P_ref09_Text : ByteArray → (T_api_Tree × Int) → Prop := fun x r => match x, r with
  | p0, (r0, r1) => ∀ H, PC prog env 20 ([(strD p0)].map .dat) H (.tup [(.dat (T_api_Tree.ex r0)), (intPV r1)]) H
theorem k_ref09_Text0 : P_ref09_Text a_ref09_Text0 r_ref09_Text0 := fun H => PC_of (n := 200) (by kernel_rfl)
theorem k_ref09_Text1 : P_ref09_Text a_ref09_Text1 r_ref09_Text1 := fun H => PC_of (n := 200) (by kernel_rfl)
def m_ref09_Text (x : ByteArray) : Option (T_api_Tree × Int) :=
  if x = a_ref09_Text0 then some r_ref09_Text0 else
  if x = a_ref09_Text1 then some r_ref09_Text1 else
  none
theorem w_ref09_Text : ∀ x r, m_ref09_Text x = some r → P_ref09_Text x r := by
  intro x r hm
  unfold m_ref09_Text at hm
  split at hm
  · rename_i h; subst h; cases hm; exact k_ref09_Text0
  split at hm
  · rename_i h; subst h; cases hm; exact k_ref09_Text1
  cases hm
end Go.Proofs.Tryd
namespace Go.Proofs.Tryd
open Go Go.Pm
set_option linter.unusedVariables false
set_option maxHeartbeats 2000000
set_option maxRecDepth 2000
def m_simplify_is (x : (T_api_Tree × Int × Int)) : Option Bool :=
  match x with
  | (p0, p1, p2) =>
  if p0.kind = p1 then
    some (p0.fn == p2)
  else
  some false
def P_simplify_is : (T_api_Tree × Int × Int) → Bool → Prop := fun x r => match x, r with
  | (p0, p1, p2), r0 => ∀ H, PC prog env 73 ([(T_api_Tree.ex p0), (intD p1), (intD p2)].map .dat) H (boolPV r0) H
theorem w_simplify_is : ∀ x r, m_simplify_is x = some r → P_simplify_is x r := by
  intro x r0 hm
  unfold m_simplify_is at hm
  unfold P_simplify_is
  obtain ⟨p0, p1, p2⟩ := x
  intro H
  refine PC_sx (ds := [(T_api_Tree.ex p0), (intD p1), (intD p2)]) (fn := f73) (by kernel_rfl) (by kernel_rfl) rfl ?_ (by kernel_rfl)
  refine R_seq ?_
  refine R_G ?_
  refine G_run 2 ?_
  refine G_end ?_
  refine R_seq ?_
  refine R_G ?_
  refine G_run 5 ?_
  refine G_split (p := p0.kind = p1) 11 (eq_dec _ _) (fun hc => ?_) (fun hc => ?_)
  · replace hm := pos_inv hc hm
    refine G_run 6 ?_
    refine G_end ?_
    refine R_ret ?_
    obtain rfl := inj1 hm
    exact ⟨trivial, fin_pure (by kernel_rfl)⟩
  replace hm := neg_inv hc hm
  refine G_run 6 ?_
  refine G_end ?_
  refine R_ret ?_
  obtain rfl := inj1 hm
  exact ⟨trivial, fin_pure (by kernel_rfl)⟩
end Go.Proofs.Tryd
namespace Go.Proofs.Tryd
open Go Go.Pm
set_option linter.unusedVariables false
set_option maxHeartbeats 2000000
set_option maxRecDepth 2000
def m_simplify_twice (x : (T_api_Tree × Int)) : Option (T_api_Tree × Bool) :=
  match x with
  | (p0, p1) =>
  (m_simplify_is (p0, 3, p1) >>= fun (v2 : Bool) =>
  (if v2 = false then
    some true
  else
  idx p0.kids 0 >>= fun v4 =>
  m_simplify_is (v4, 3, p1) >>= fun (v5 : Bool) =>
  some (!v5)
  ) >>= fun (v3 : Bool) =>
  if v3 = true then
    some true
  else
  idx p0.kids 0 >>= fun v6 =>
  some (p0.axis != v6.axis)
  ) >>= fun (v1 : Bool) =>
  if v1 = true then
    some (p0, false)
  else
  idx p0.kids 0 >>= fun v7 =>
  idx v7.kids 0 >>= fun v8 =>
  some (v8, true)
def P_simplify_twice : (T_api_Tree × Int) → (T_api_Tree × Bool) → Prop := fun x r => match x, r with
  | (p0, p1), (r0, r1) => ∀ H, PC prog env 72 ([(T_api_Tree.ex p0), (intD p1)].map .dat) H (.tup [(.dat (T_api_Tree.ex r0)), (boolPV r1)]) H
theorem w_simplify_twice : ∀ x r, m_simplify_twice x = some r → P_simplify_twice x r := by
  intro x r hm
  unfold m_simplify_twice at hm
  unfold P_simplify_twice
  obtain ⟨p0, p1⟩ := x
  obtain ⟨r0, r1⟩ := r
  intro H
  refine PC_sx (ds := [(T_api_Tree.ex p0), (intD p1)]) (fn := f72) (by kernel_rfl) (by kernel_rfl) rfl ?_ (by kernel_rfl)
  refine R_seq ?_
  refine R_G ?_
  refine G_run 3 ?_
  refine G_end ?_
  refine R_seq ?_
  refine R_seq ?_
  obtain ⟨v1, hs, hm⟩ := bind_inv hm
  refine R_cut (fun d => ⟨sl d 37 [(2, (.ptr 0 0)), (4, (.ptr 1 0)), (28, (boolPV v1))], [(.box [(intPV p0.kind), (intPV p0.fn), (intPV p0.axis), (.dat (strD p0.name)), (.dat (.lst ((List.map intD) p0.nums))), (.dat (.lst (T_api_Tree.toDs p0.kids)))]), (.box [(intPV 0), (intPV 0), (intPV 0), (.dat (strD ByteArray.empty)), (.dat (.lst ((List.map intD) []))), (.dat (.lst (T_api_Tree.toDs [])))])]⟩) ?_ (fun d => ?_)
  · replace hm := hs
    clear hs
    refine R_GW ?_
    refine G_run 2 ?_
    obtain ⟨v2, hx, hm⟩ := bind_inv hm
    have hq := w_simplify_is _ _ hx []
    refine G_callP hq ?_
    refine G_run 2 ?_
    obtain ⟨v3, hs, hm⟩ := bind_inv hm
    refine G_cut (j := 13) (fun d => ⟨sl d 37 [(0, (.dat (.agg [(intD p0.kind), (intD p0.fn), (intD p0.axis), (strD p0.name), (.lst ((List.map intD) p0.nums)), (.lst (T_api_Tree.toDs p0.kids))]))), (1, (intPV p1)), (2, (.ptr 0 0)), (4, (.ptr 1 0)), (5, (boolPV false)), (6, (.dat (.agg [(intD p0.kind), (intD p0.fn), (intD p0.axis), (strD p0.name), (.lst ((List.map intD) p0.nums)), (.lst (T_api_Tree.toDs p0.kids))]))), (7, (intPV p1)), (8, (boolPV v2)), (9, (boolPV (!v2))), (18, (boolPV v3))], [(.box [(intPV p0.kind), (intPV p0.fn), (intPV p0.axis), (.dat (strD p0.name)), (.dat (.lst ((List.map intD) p0.nums))), (.dat (.lst (T_api_Tree.toDs p0.kids)))]), (.box [(intPV 0), (intPV 0), (intPV 0), (.dat (strD ByteArray.empty)), (.dat (.lst ((List.map intD) []))), (.dat (.lst (T_api_Tree.toDs [])))])]⟩) (fun d => ?_) (fun hJ => ?_)
    · clear hs
      refine G_run 1 ?_
      refine G_split (p := v3 = true) 19 (bool_dec _) (fun hc => ?_) (fun hc => ?_)
      · replace hm := pos_inv hc hm
        refine G_run 9 ?_
        refine G_end ⟨by kernel_rfl, ?_⟩
        obtain rfl := inj1 hm
        exact cut_leaf (by kernel_rfl)
      replace hm := neg_inv hc hm
      refine G_run 4 ?_
      obtain ⟨v6, hx, hm⟩ := bind_inv hm
      refine I_idx 6 T_api_Tree.toD p0.kids 0 v6 (es := T_api_Tree.toDs p0.kids) (d := (T_api_Tree.ex v6)) (T_api_Tree.toDs_eq _) hx (T_api_Tree.toD_eq v6) rfl ?_
      refine G_run 4 ?_
      refine G_end ⟨by kernel_rfl, ?_⟩
      obtain rfl := inj1 hm
      exact cut_leaf (by kernel_rfl)
    replace hm := hs
    clear hs
    refine G_split (p := v2 = false) 10 (not_dec _) (fun hc => ?_) (fun hc => ?_)
    · replace hm := pos_inv hc hm
      refine G_run 8 ?_
      obtain rfl := inj1 hm
      exact hJ _ _ (by kernel_rfl) (by kernel_rfl)
    replace hm := neg_inv hc hm
    refine G_run 2 ?_
    obtain ⟨v4, hx, hm⟩ := bind_inv hm
    refine I_idx 6 T_api_Tree.toD p0.kids 0 v4 (es := T_api_Tree.toDs p0.kids) (d := (T_api_Tree.ex v4)) (T_api_Tree.toDs_eq _) hx (T_api_Tree.toD_eq v4) rfl ?_
    refine G_run 2 ?_
    obtain ⟨v5, hx, hm⟩ := bind_inv hm
    have hq := w_simplify_is _ _ hx []
    refine G_callP hq ?_
    refine G_run 2 ?_
    obtain rfl := inj1 hm
    exact hJ _ _ (by kernel_rfl) (by kernel_rfl)
  clear hs
  refine R_ifp (p := v1 = true) (bool_dec _) (fun hc => ?_) (fun hc => ?_)
  · replace hm := pos_inv hc hm
    refine R_seq ?_
    refine R_G ?_
    refine G_run 3 ?_
    refine G_end ?_
    refine R_ret ?_
    obtain ⟨rfl, rfl⟩ := inj2 hm
    exact ⟨trivial, fin_pure (by kernel_rfl)⟩
  replace hm := neg_inv hc hm
  refine R_skip ?_
  refine R_seq ?_
  refine R_G ?_
  refine G_run 2 ?_
  obtain ⟨v7, hx, hm⟩ := bind_inv hm
  refine I_idx 6 T_api_Tree.toD p0.kids 0 v7 (es := T_api_Tree.toDs p0.kids) (d := (T_api_Tree.ex v7)) (T_api_Tree.toDs_eq _) hx (T_api_Tree.toD_eq v7) rfl ?_
  refine G_run 2 ?_
  obtain ⟨v8, hx, hm⟩ := bind_inv hm
  refine I_idx 6 T_api_Tree.toD v7.kids 0 v8 (es := T_api_Tree.toDs v7.kids) (d := (T_api_Tree.ex v8)) (T_api_Tree.toDs_eq _) hx (T_api_Tree.toD_eq v8) rfl ?_
  refine G_run 3 ?_
  refine G_end ?_
  refine R_ret ?_
  obtain ⟨rfl, rfl⟩ := inj2 hm
  exact ⟨trivial, fin_pure (by kernel_rfl)⟩
end Go.Proofs.Tryd
namespace Go.Proofs.Tryd
open Go Go.Pm
set_option linter.unusedVariables false
set_option maxHeartbeats 2000000
set_option maxRecDepth 2000
def m_simplify_reversed (x : T_api_Tree) : Option (T_api_Tree × Bool) :=
  match x with
  | p0 =>
  m_simplify_twice (p0, 3) >>= fun ((v1, v2) : (T_api_Tree × Bool)) =>
  some (v1, v2)
def P_simplify_reversed : T_api_Tree → (T_api_Tree × Bool) → Prop := fun x r => match x, r with
  | p0, (r0, r1) => ∀ H, PC prog env 66 ([(T_api_Tree.ex p0)].map .dat) H (.tup [(.dat (T_api_Tree.ex r0)), (boolPV r1)]) H
theorem w_simplify_reversed : ∀ x r, m_simplify_reversed x = some r → P_simplify_reversed x r := by
  intro p0 r hm
  unfold m_simplify_reversed at hm
  unfold P_simplify_reversed
  obtain ⟨r0, r1⟩ := r
  intro H
  refine PC_sx (ds := [(T_api_Tree.ex p0)]) (fn := f66) (by kernel_rfl) (by kernel_rfl) rfl ?_ (by kernel_rfl)
  refine R_seq ?_
  refine R_G ?_
  refine G_run 3 ?_
  refine G_end ?_
  refine R_seq ?_
  refine R_G ?_
  refine G_run 1 ?_
  obtain ⟨⟨v1, v2⟩, hx, hm⟩ := bind_inv hm
  have hq := w_simplify_twice _ _ hx []
  refine G_callP hq ?_
  refine G_run 4 ?_
  refine G_end ?_
  refine R_ret ?_
  obtain ⟨rfl, rfl⟩ := inj2 hm
  exact ⟨trivial, fin_pure (by kernel_rfl)⟩
end Go.Proofs.Tryd
namespace Go.Proofs.Tryd
open Go Go.Pm
set_option linter.unusedVariables false
set_option maxHeartbeats 2000000
set_option maxRecDepth 2000
def m_simplify_transposed (x : T_api_Tree) : Option (T_api_Tree × Bool) :=
  match x with
  | p0 =>
  m_simplify_twice (p0, 4) >>= fun ((v1, v2) : (T_api_Tree × Bool)) =>
  some (v1, v2)
def P_simplify_transposed : T_api_Tree → (T_api_Tree × Bool) → Prop := fun x r => match x, r with
  | p0, (r0, r1) => ∀ H, PC prog env 67 ([(T_api_Tree.ex p0)].map .dat) H (.tup [(.dat (T_api_Tree.ex r0)), (boolPV r1)]) H
theorem w_simplify_transposed : ∀ x r, m_simplify_transposed x = some r → P_simplify_transposed x r := by
  intro p0 r hm
  unfold m_simplify_transposed at hm
  unfold P_simplify_transposed
  obtain ⟨r0, r1⟩ := r
  intro H
  refine PC_sx (ds := [(T_api_Tree.ex p0)]) (fn := f67) (by kernel_rfl) (by kernel_rfl) rfl ?_ (by kernel_rfl)
  refine R_seq ?_
  refine R_G ?_
  refine G_run 3 ?_
  refine G_end ?_
  refine R_seq ?_
  refine R_G ?_
  refine G_run 1 ?_
  obtain ⟨⟨v1, v2⟩, hx, hm⟩ := bind_inv hm
  have hq := w_simplify_twice _ _ hx []
  refine G_callP hq ?_
  refine G_run 4 ?_
  refine G_end ?_
  refine R_ret ?_
  obtain ⟨rfl, rfl⟩ := inj2 hm
  exact ⟨trivial, fin_pure (by kernel_rfl)⟩
end Go.Proofs.Tryd
namespace Go.Proofs.Tryd
open Go Go.Pm
set_option linter.unusedVariables false
set_option maxHeartbeats 2000000
set_option maxRecDepth 2000
def m_simplify_raveled (x : T_api_Tree) : Option (T_api_Tree × Bool) :=
  match x with
  | p0 =>
  m_simplify_twice (p0, 6) >>= fun ((v1, v2) : (T_api_Tree × Bool)) =>
  if v2 = false then
    some (p0, false)
  else
  idx p0.kids 0 >>= fun v3 =>
  some (v3, true)
def P_simplify_raveled : T_api_Tree → (T_api_Tree × Bool) → Prop := fun x r => match x, r with
  | p0, (r0, r1) => ∀ H, PC prog env 68 ([(T_api_Tree.ex p0)].map .dat) H (.tup [(.dat (T_api_Tree.ex r0)), (boolPV r1)]) H
theorem w_simplify_raveled : ∀ x r, m_simplify_raveled x = some r → P_simplify_raveled x r := by
  intro p0 r hm
  unfold m_simplify_raveled at hm
  unfold P_simplify_raveled
  obtain ⟨r0, r1⟩ := r
  intro H
  refine PC_sx (ds := [(T_api_Tree.ex p0)]) (fn := f68) (by kernel_rfl) (by kernel_rfl) rfl ?_ (by kernel_rfl)
  refine R_seq ?_
  refine R_G ?_
  refine G_run 3 ?_
  refine G_end ?_
  refine R_seq ?_
  refine R_seq ?_
  refine R_G ?_
  refine G_run 1 ?_
  obtain ⟨⟨v1, v2⟩, hx, hm⟩ := bind_inv hm
  have hq := w_simplify_twice _ _ hx []
  refine G_callP hq ?_
  refine G_run 6 ?_
  refine G_end ?_
  refine R_seq ?_
  refine R_G ?_
  refine G_run 2 ?_
  refine G_end ?_
  refine R_ifp (p := v2 = false) (not_dec _) (fun hc => ?_) (fun hc => ?_)
  · replace hm := pos_inv hc hm
    refine R_seq ?_
    refine R_G ?_
    refine G_run 3 ?_
    refine G_end ?_
    refine R_ret ?_
    obtain ⟨rfl, rfl⟩ := inj2 hm
    exact ⟨trivial, fin_pure (by kernel_rfl)⟩
  replace hm := neg_inv hc hm
  refine R_skip ?_
  refine R_seq ?_
  refine R_G ?_
  refine G_run 2 ?_
  obtain ⟨v3, hx, hm⟩ := bind_inv hm
  refine I_idx 6 T_api_Tree.toD p0.kids 0 v3 (es := T_api_Tree.toDs p0.kids) (d := (T_api_Tree.ex v3)) (T_api_Tree.toDs_eq _) hx (T_api_Tree.toD_eq v3) rfl ?_
  refine G_run 3 ?_
  refine G_end ?_
  refine R_ret ?_
  obtain ⟨rfl, rfl⟩ := inj2 hm
  exact ⟨trivial, fin_pure (by kernel_rfl)⟩
end Go.Proofs.Tryd
namespace Go.Proofs.Tryd
open Go Go.Pm
set_option linter.unusedVariables false
set_option maxHeartbeats 2000000
set_option maxRecDepth 2000
def m_simplify_reshaped (x : T_api_Tree) : Option (T_api_Tree × Bool) :=
  match x with
  | p0 =>
  (m_simplify_is (p0, 4, 5) >>= fun (v2 : Bool) =>
  if v2 = false then
    some true
  else
  idx p0.kids 1 >>= fun v3 =>
  m_simplify_is (v3, 3, 6) >>= fun (v4 : Bool) =>
  some (!v4)
  ) >>= fun (v1 : Bool) =>
  if v1 = true then
    some (p0, false)
  else
  idx p0.kids 0 >>= fun v5 =>
  idx p0.kids 1 >>= fun v6 =>
  idx v6.kids 0 >>= fun v7 =>
  some ((⟨p0.kind, p0.fn, p0.axis, p0.name, p0.nums, ([(⟨v5.kind, v5.fn, v5.axis, v5.name, v5.nums, v5.kids⟩ : T_api_Tree), (⟨v7.kind, v7.fn, v7.axis, v7.name, v7.nums, v7.kids⟩ : T_api_Tree)] : (List T_api_Tree))⟩ : T_api_Tree), true)
def P_simplify_reshaped : T_api_Tree → (T_api_Tree × Bool) → Prop := fun x r => match x, r with
  | p0, (r0, r1) => ∀ H, PC prog env 69 ([(T_api_Tree.ex p0)].map .dat) H (.tup [(.dat (T_api_Tree.ex r0)), (boolPV r1)]) H
theorem w_simplify_reshaped : ∀ x r, m_simplify_reshaped x = some r → P_simplify_reshaped x r := by
  intro p0 r hm
  unfold m_simplify_reshaped at hm
  unfold P_simplify_reshaped
  obtain ⟨r0, r1⟩ := r
  intro H
  refine PC_sx (ds := [(T_api_Tree.ex p0)]) (fn := f69) (by kernel_rfl) (by kernel_rfl) rfl ?_ (by kernel_rfl)
  refine R_seq ?_
  refine R_G ?_
  refine G_run 3 ?_
  refine G_end ?_
  refine R_seq ?_
  refine R_seq ?_
  obtain ⟨v1, hs, hm⟩ := bind_inv hm
  refine R_cut (fun d => ⟨sl d 30 [(1, (.ptr 0 0)), (2, (.ptr 1 0)), (14, (boolPV v1))], [(.box [(intPV p0.kind), (intPV p0.fn), (intPV p0.axis), (.dat (strD p0.name)), (.dat (.lst ((List.map intD) p0.nums))), (.dat (.lst (T_api_Tree.toDs p0.kids)))]), (.box [(intPV 0), (intPV 0), (intPV 0), (.dat (strD ByteArray.empty)), (.dat (.lst ((List.map intD) []))), (.dat (.lst (T_api_Tree.toDs [])))])]⟩) ?_ (fun d => ?_)
  · replace hm := hs
    clear hs
    refine R_G ?_
    refine G_run 1 ?_
    obtain ⟨v2, hx, hm⟩ := bind_inv hm
    have hq := w_simplify_is _ _ hx []
    refine G_callP hq ?_
    refine G_run 2 ?_
    refine G_split (p := v2 = false) 7 (not_dec _) (fun hc => ?_) (fun hc => ?_)
    · replace hm := pos_inv hc hm
      refine G_run 7 ?_
      refine G_end ?_
      obtain rfl := inj1 hm
      exact cut_leaf (by kernel_rfl)
    replace hm := neg_inv hc hm
    refine G_run 2 ?_
    obtain ⟨v3, hx, hm⟩ := bind_inv hm
    refine I_idx 6 T_api_Tree.toD p0.kids 1 v3 (es := T_api_Tree.toDs p0.kids) (d := (T_api_Tree.ex v3)) (T_api_Tree.toDs_eq _) hx (T_api_Tree.toD_eq v3) rfl ?_
    refine G_run 1 ?_
    obtain ⟨v4, hx, hm⟩ := bind_inv hm
    have hq := w_simplify_is _ _ hx []
    refine G_callP hq ?_
    refine G_run 2 ?_
    refine G_end ?_
    obtain rfl := inj1 hm
    exact cut_leaf (by kernel_rfl)
  clear hs
  refine R_ifp (p := v1 = true) (bool_dec _) (fun hc => ?_) (fun hc => ?_)
  · replace hm := pos_inv hc hm
    refine R_seq ?_
    refine R_G ?_
    refine G_run 3 ?_
    refine G_end ?_
    refine R_ret ?_
    obtain ⟨rfl, rfl⟩ := inj2 hm
    exact ⟨trivial, fin_pure (by kernel_rfl)⟩
  replace hm := neg_inv hc hm
  refine R_skip ?_
  refine R_seq ?_
  refine R_GD ?_
  refine G_run 2 ?_
  obtain ⟨v5, hx, hm⟩ := bind_inv hm
  refine I_idx 6 T_api_Tree.toD p0.kids 0 v5 (es := T_api_Tree.toDs p0.kids) (d := (T_api_Tree.ex v5)) (T_api_Tree.toDs_eq _) hx (T_api_Tree.toD_eq v5) rfl ?_
  refine G_run 3 ?_
  obtain ⟨v6, hx, hm⟩ := bind_inv hm
  refine I_idx 6 T_api_Tree.toD p0.kids 1 v6 (es := T_api_Tree.toDs p0.kids) (d := (T_api_Tree.ex v6)) (T_api_Tree.toDs_eq _) hx (T_api_Tree.toD_eq v6) rfl ?_
  refine G_run 2 ?_
  obtain ⟨v7, hx, hm⟩ := bind_inv hm
  refine I_idx 6 T_api_Tree.toD v6.kids 0 v7 (es := T_api_Tree.toDs v6.kids) (d := (T_api_Tree.ex v7)) (T_api_Tree.toDs_eq _) hx (T_api_Tree.toD_eq v7) rfl ?_
  refine G_run 4 ?_
  refine G_end ⟨by kernel_rfl, ?_⟩
  refine R_seq ?_
  refine R_G ?_
  refine G_run 3 ?_
  refine G_end ?_
  refine R_ret ?_
  obtain ⟨rfl, rfl⟩ := inj2 hm
  exact ⟨trivial, fin_pure (by kernel_rfl)⟩
end Go.Proofs.Tryd
namespace Go.Proofs.Tryd
open Go Go.Pm
set_option linter.unusedVariables false
set_option maxHeartbeats 2000000
set_option maxRecDepth 2000
def m_simplify_plain_L1 (x : ((List Int) × T_api_Tree × Int)) : Option (Unit ⊕ Unit) :=
  match x with
  | (p2, p0, v206) =>
  if v206 < (p2.length : Int) then
    idx p2 v206 >>= fun v606 =>
    idx p0.kids 0 >>= fun v607 =>
    idx v607.nums v206 >>= fun v608 =>
    if v608 ≠ v606 then
      some (Sum.inl ())
    else
    m_simplify_plain_L1 (p2, p0, (W (v206 + 1)))
  else
  some (Sum.inr ())
  partial_fixpoint
def P_simplify_plain_L1 : ((List Int) × T_api_Tree × Int) → (Unit ⊕ Unit) → Prop := fun x r => match x with
  | (p2, p0, v206) => ∀ st, prune 2 ((firstRegion (codeAt [1, 1, 0, 1, 0, 0] (bodyOf f74))).bind (env.hint 74).keepAt) st = ⟨kp 57 [(3, (.ptr 0 0)), (6, (.ptr 1 0)), (34, (.dat (.lst ((List.map intD) p2)))), (35, (intPV (p2.length : Int))), (36, (intPV v206))], [(.box [(intPV p0.kind), (intPV p0.fn), (intPV p0.axis), (.dat (strD p0.name)), (.dat (.lst ((List.map intD) p0.nums))), (.dat (.lst (T_api_Tree.toDs p0.kids)))]), (.box [(intPV 0), (intPV 0), (intPV 0), (.dat (strD ByteArray.empty)), (.dat (.lst ((List.map intD) []))), (.dat (.lst (T_api_Tree.toDs [])))])]⟩ →
    RL prog env (env.hint 74) true (codeAt [1, 1, 0, 1, 0, 0] (bodyOf f74)) 2 st (fun e s => match r with | .inl _ => e = .ret ∧ ∃ d, s = ⟨sl d 57 [(6, (.ptr 1 0)), (7, (boolPV false))], [(.box [(intPV p0.kind), (intPV p0.fn), (intPV p0.axis), (.dat (strD p0.name)), (.dat (.lst ((List.map intD) p0.nums))), (.dat (.lst (T_api_Tree.toDs p0.kids)))]), (.box [(intPV p0.kind), (intPV p0.fn), (intPV p0.axis), (.dat (strD p0.name)), (.dat (.lst ((List.map intD) p0.nums))), (.dat (.lst (T_api_Tree.toDs p0.kids)))])]⟩ | .inr (_) => e = .exit 0 ∧ ∃ d, s = ⟨sl d 57 [(3, (.ptr 0 0)), (6, (.ptr 1 0))], [(.box [(intPV p0.kind), (intPV p0.fn), (intPV p0.axis), (.dat (strD p0.name)), (.dat (.lst ((List.map intD) p0.nums))), (.dat (.lst (T_api_Tree.toDs p0.kids)))]), (.box [(intPV 0), (intPV 0), (intPV 0), (.dat (strD ByteArray.empty)), (.dat (.lst ((List.map intD) []))), (.dat (.lst (T_api_Tree.toDs [])))])]⟩)
theorem w_simplify_plain_L1 : ∀ x r, m_simplify_plain_L1 x = some r → P_simplify_plain_L1 x r := by
  refine m_simplify_plain_L1.partial_correctness _ (fun m_simplify_plain_L1 w_simplify_plain_L1 x r hm => ?_)
  unfold P_simplify_plain_L1
  obtain ⟨p2, p0, v206⟩ := x
  intro st hst
  refine RL_at hst ?_
  clear hst
  refine R_seq ?_
  refine R_G ?_
  refine G_run 1 ?_
  refine G_end ?_
  refine R_seq ?_
  refine R_ifp (p := v206 < (p2.length : Int)) (rfl) (fun hc => ?_) (fun hc => ?_)
  · replace hm := pos_inv hc hm
    refine R_skip ?_
    refine R_seq ?_
    refine R_block ?_
    refine R_seq ?_
    refine R_G ?_
    refine G_run 1 ?_
    obtain ⟨v606, hx, hm⟩ := bind_inv hm
    refine I_idx 1 intD p2 v206 v606 (es := (List.map intD) p2) (d := (intD v606)) rfl hx rfl rfl ?_
    refine G_run 3 ?_
    refine G_end ?_
    refine R_seq ?_
    refine R_G ?_
    refine G_run 2 ?_
    obtain ⟨v607, hx, hm⟩ := bind_inv hm
    refine I_idx 6 T_api_Tree.toD p0.kids 0 v607 (es := T_api_Tree.toDs p0.kids) (d := (T_api_Tree.ex v607)) (T_api_Tree.toDs_eq _) hx (T_api_Tree.toD_eq v607) rfl ?_
    refine G_run 3 ?_
    obtain ⟨v608, hx, hm⟩ := bind_inv hm
    refine I_idx 1 intD v607.nums v206 v608 (es := (List.map intD) v607.nums) (d := (intD v608)) rfl hx rfl rfl ?_
    refine G_run 3 ?_
    refine G_end ?_
    refine R_ifp (p := v608 ≠ v606) (ne_dec _ _) (fun hc => ?_) (fun hc => ?_)
    · replace hm := pos_inv hc hm
      refine R_seq ?_
      refine R_G ?_
      refine G_run 3 ?_
      refine G_end ?_
      refine R_ret ?_
      obtain rfl := inj1 hm
      exact ⟨rfl, cut_leaf (by kernel_rfl)⟩
    replace hm := neg_inv hc hm
    refine R_skip ?_
    refine R_G ?_
    refine G_run 2 ?_
    refine G_end ?_
    exact w_simplify_plain_L1 _ _ hm _ (by kernel_rfl)
  replace hm := neg_inv hc hm
  refine R_exit ?_
  obtain rfl := inj1 hm
  exact ⟨rfl, cut_leaf (by kernel_rfl)⟩
def m_simplify_plain (x : (T_api_Tree × Int × (List Int))) : Option (T_api_Tree × Bool) :=
  match x with
  | (p0, p1, p2) =>
  (m_simplify_is (p0, 4, p1) >>= fun (v2 : Bool) =>
  (if v2 = false then
    some true
  else
  idx p0.kids 0 >>= fun v4 =>
  some (v4.kind != 1)
  ) >>= fun (v3 : Bool) =>
  if v3 = true then
    some true
  else
  idx p0.kids 0 >>= fun v5 =>
  some ((v5.nums.length : Int) != (p2.length : Int))
  ) >>= fun (v1 : Bool) =>
  if v1 = true then
    some (p0, false)
  else
  (
  m_simplify_plain_L1 (p2, p0, 0) >>= fun (out : Unit ⊕ Unit) =>
  match out with
  | .inl _ =>
    some (p0, false)
  | .inr (_) =>
    idx p0.kids 1 >>= fun v609 =>
    some (v609, true)
  )
def P_simplify_plain : (T_api_Tree × Int × (List Int)) → (T_api_Tree × Bool) → Prop := fun x r => match x, r with
  | (p0, p1, p2), (r0, r1) => ∀ H, PC prog env 74 ([(T_api_Tree.ex p0), (intD p1), (.lst ((List.map intD) p2))].map .dat) H (.tup [(.dat (T_api_Tree.ex r0)), (boolPV r1)]) H
theorem w_simplify_plain : ∀ x r, m_simplify_plain x = some r → P_simplify_plain x r := by
  intro x r hm
  unfold m_simplify_plain at hm
  unfold P_simplify_plain
  obtain ⟨p0, p1, p2⟩ := x
  obtain ⟨r0, r1⟩ := r
  intro H
  refine PC_sx (ds := [(T_api_Tree.ex p0), (intD p1), (.lst ((List.map intD) p2))]) (fn := f74) (by kernel_rfl) (by kernel_rfl) rfl ?_ (by kernel_rfl)
  refine R_seq ?_
  refine R_G ?_
  refine G_run 3 ?_
  refine G_end ?_
  refine R_seq ?_
  refine R_seq ?_
  obtain ⟨v1, hs, hm⟩ := bind_inv hm
  refine R_cut (fun d => ⟨sl d 57 [(2, (.dat (.lst ((List.map intD) p2)))), (3, (.ptr 0 0)), (6, (.ptr 1 0)), (32, (boolPV v1))], [(.box [(intPV p0.kind), (intPV p0.fn), (intPV p0.axis), (.dat (strD p0.name)), (.dat (.lst ((List.map intD) p0.nums))), (.dat (.lst (T_api_Tree.toDs p0.kids)))]), (.box [(intPV 0), (intPV 0), (intPV 0), (.dat (strD ByteArray.empty)), (.dat (.lst ((List.map intD) []))), (.dat (.lst (T_api_Tree.toDs [])))])]⟩) ?_ (fun d => ?_)
  · replace hm := hs
    clear hs
    refine R_GN ?_
    refine G_run 2 ?_
    obtain ⟨v2, hx, hm⟩ := bind_inv hm
    have hq := w_simplify_is _ _ hx []
    refine G_callP hq ?_
    refine G_run 2 ?_
    obtain ⟨v3, hs, hm⟩ := bind_inv hm
    refine G_cut (j := 12) (fun d => ⟨sl d 57 [(0, (.dat (.agg [(intD p0.kind), (intD p0.fn), (intD p0.axis), (strD p0.name), (.lst ((List.map intD) p0.nums)), (.lst (T_api_Tree.toDs p0.kids))]))), (1, (intPV p1)), (2, (.dat (.lst ((List.map intD) p2)))), (3, (.ptr 0 0)), (6, (.ptr 1 0)), (7, (boolPV false)), (10, (.dat (.agg [(intD p0.kind), (intD p0.fn), (intD p0.axis), (strD p0.name), (.lst ((List.map intD) p0.nums)), (.lst (T_api_Tree.toDs p0.kids))]))), (11, (intPV p1)), (12, (boolPV v2)), (13, (boolPV (!v2))), (21, (boolPV v3))], [(.box [(intPV p0.kind), (intPV p0.fn), (intPV p0.axis), (.dat (strD p0.name)), (.dat (.lst ((List.map intD) p0.nums))), (.dat (.lst (T_api_Tree.toDs p0.kids)))]), (.box [(intPV 0), (intPV 0), (intPV 0), (.dat (strD ByteArray.empty)), (.dat (.lst ((List.map intD) []))), (.dat (.lst (T_api_Tree.toDs [])))])]⟩) (fun d => ?_) (fun hJ => ?_)
    · clear hs
      refine G_run 1 ?_
      refine G_split (p := v3 = true) 22 (bool_dec _) (fun hc => ?_) (fun hc => ?_)
      · replace hm := pos_inv hc hm
        refine G_run 10 ?_
        refine G_end ⟨by kernel_rfl, ?_⟩
        obtain rfl := inj1 hm
        exact cut_leaf (by kernel_rfl)
      replace hm := neg_inv hc hm
      refine G_run 2 ?_
      obtain ⟨v5, hx, hm⟩ := bind_inv hm
      refine I_idx 6 T_api_Tree.toD p0.kids 0 v5 (es := T_api_Tree.toDs p0.kids) (d := (T_api_Tree.ex v5)) (T_api_Tree.toDs_eq _) hx (T_api_Tree.toD_eq v5) rfl ?_
      refine G_run 2 ?_
      refine I_len intD v5.nums (es := (List.map intD) v5.nums) rfl ?_
      refine G_run 1 ?_
      refine I_len intD p2 (es := (List.map intD) p2) rfl ?_
      refine G_run 2 ?_
      refine G_end ⟨by kernel_rfl, ?_⟩
      obtain rfl := inj1 hm
      exact cut_leaf (by kernel_rfl)
    replace hm := hs
    clear hs
    refine G_split (p := v2 = false) 14 (not_dec _) (fun hc => ?_) (fun hc => ?_)
    · replace hm := pos_inv hc hm
      refine G_run 7 ?_
      obtain rfl := inj1 hm
      exact hJ _ _ (by kernel_rfl) (by kernel_rfl)
    replace hm := neg_inv hc hm
    refine G_run 2 ?_
    obtain ⟨v4, hx, hm⟩ := bind_inv hm
    refine I_idx 6 T_api_Tree.toD p0.kids 0 v4 (es := T_api_Tree.toDs p0.kids) (d := (T_api_Tree.ex v4)) (T_api_Tree.toDs_eq _) hx (T_api_Tree.toD_eq v4) rfl ?_
    refine G_run 4 ?_
    obtain rfl := inj1 hm
    exact hJ _ _ (by kernel_rfl) (by kernel_rfl)
  clear hs
  refine R_ifp (p := v1 = true) (bool_dec _) (fun hc => ?_) (fun hc => ?_)
  · replace hm := pos_inv hc hm
    refine R_seq ?_
    refine R_G ?_
    refine G_run 3 ?_
    refine G_end ?_
    refine R_ret ?_
    obtain ⟨rfl, rfl⟩ := inj2 hm
    exact ⟨trivial, fin_pure (by kernel_rfl)⟩
  replace hm := neg_inv hc hm
  refine R_skip ?_
  refine R_seq ?_
  refine R_seq ?_
  refine R_G ?_
  refine G_run 1 ?_
  refine I_len intD p2 (es := (List.map intD) p2) rfl ?_
  refine G_run 1 ?_
  refine G_end ?_
  refine R_block ?_
  obtain ⟨out, hs, hm⟩ := bind_inv hm
  refine R_loop ?_
  rcases out with _ | _
  · refine RL_use (w_simplify_plain_L1 _ _ hs) (by kernel_rfl) ?_
    clear hs
    intro e s hp
    obtain ⟨rfl, d, rfl⟩ := hp
    obtain ⟨rfl, rfl⟩ := inj2 hm
    exact ⟨trivial, fin_pure (by kernel_rfl)⟩
  · refine RL_use (w_simplify_plain_L1 _ _ hs) (by kernel_rfl) ?_
    clear hs
    intro e s hp
    obtain ⟨rfl, d, rfl⟩ := hp
    refine R_seq ?_
    refine R_G ?_
    refine G_run 2 ?_
    obtain ⟨v609, hx, hm⟩ := bind_inv hm
    refine I_idx 6 T_api_Tree.toD p0.kids 1 v609 (es := T_api_Tree.toDs p0.kids) (d := (T_api_Tree.ex v609)) (T_api_Tree.toDs_eq _) hx (T_api_Tree.toD_eq v609) rfl ?_
    refine G_run 3 ?_
    refine G_end ?_
    refine R_ret ?_
    obtain ⟨rfl, rfl⟩ := inj2 hm
    exact ⟨trivial, fin_pure (by kernel_rfl)⟩
end Go.Proofs.Tryd
namespace Go.Proofs.Tryd
open Go Go.Pm
set_option linter.unusedVariables false
set_option maxHeartbeats 2000000
set_option maxRecDepth 2000
def m_simplify_rotated (x : T_api_Tree) : Option (T_api_Tree × Bool) :=
  match x with
  | p0 =>
  m_simplify_plain (p0, 3, ([0] : List Int)) >>= fun ((v1, v2) : (T_api_Tree × Bool)) =>
  some (v1, v2)
def P_simplify_rotated : T_api_Tree → (T_api_Tree × Bool) → Prop := fun x r => match x, r with
  | p0, (r0, r1) => ∀ H, PC prog env 70 ([(T_api_Tree.ex p0)].map .dat) H (.tup [(.dat (T_api_Tree.ex r0)), (boolPV r1)]) H
theorem w_simplify_rotated : ∀ x r, m_simplify_rotated x = some r → P_simplify_rotated x r := by
  intro p0 r hm
  unfold m_simplify_rotated at hm
  unfold P_simplify_rotated
  obtain ⟨r0, r1⟩ := r
  intro H
  refine PC_sx (ds := [(T_api_Tree.ex p0)]) (fn := f70) (by kernel_rfl) (by kernel_rfl) rfl ?_ (by kernel_rfl)
  refine R_seq ?_
  refine R_G ?_
  refine G_run 3 ?_
  refine G_end ?_
  refine R_seq ?_
  refine R_G ?_
  refine G_run 2 ?_
  obtain ⟨⟨v1, v2⟩, hx, hm⟩ := bind_inv hm
  have hq := w_simplify_plain _ _ hx []
  refine G_callP hq ?_
  refine G_run 4 ?_
  refine G_end ?_
  refine R_ret ?_
  obtain ⟨rfl, rfl⟩ := inj2 hm
  exact ⟨trivial, fin_pure (by kernel_rfl)⟩
end Go.Proofs.Tryd
namespace Go.Proofs.Tryd
open Go Go.Pm
set_option linter.unusedVariables false
set_option maxHeartbeats 2000000
set_option maxRecDepth 2000
def m_simplify_dropped (x : T_api_Tree) : Option (T_api_Tree × Bool) :=
  match x with
  | p0 =>
  m_simplify_plain (p0, 2, ([] : (List Int))) >>= fun ((v1, v2) : (T_api_Tree × Bool)) =>
  some (v1, v2)
def P_simplify_dropped : T_api_Tree → (T_api_Tree × Bool) → Prop := fun x r => match x, r with
  | p0, (r0, r1) => ∀ H, PC prog env 71 ([(T_api_Tree.ex p0)].map .dat) H (.tup [(.dat (T_api_Tree.ex r0)), (boolPV r1)]) H
theorem w_simplify_dropped : ∀ x r, m_simplify_dropped x = some r → P_simplify_dropped x r := by
  intro p0 r hm
  unfold m_simplify_dropped at hm
  unfold P_simplify_dropped
  obtain ⟨r0, r1⟩ := r
  intro H
  refine PC_sx (ds := [(T_api_Tree.ex p0)]) (fn := f71) (by kernel_rfl) (by kernel_rfl) rfl ?_ (by kernel_rfl)
  refine R_seq ?_
  refine R_G ?_
  refine G_run 3 ?_
  refine G_end ?_
  refine R_seq ?_
  refine R_G ?_
  refine G_run 1 ?_
  obtain ⟨⟨v1, v2⟩, hx, hm⟩ := bind_inv hm
  have hq := w_simplify_plain _ _ hx []
  refine G_callP hq ?_
  refine G_run 4 ?_
  refine G_end ?_
  refine R_ret ?_
  obtain ⟨rfl, rfl⟩ := inj2 hm
  exact ⟨trivial, fin_pure (by kernel_rfl)⟩
end Go.Proofs.Tryd
namespace Go.Proofs.Tryd
open Go Go.Pm
set_option linter.unusedVariables false
set_option maxHeartbeats 2000000
set_option maxRecDepth 2000
def m_simplify_once (x : T_api_Tree) : Option (T_api_Tree × Int) :=
  match x with
  | p0 =>
  m_simplify_reversed p0 >>= fun ((v1, v2) : (T_api_Tree × Bool)) =>
  if v2 = true then
    some (v1, 1)
  else
  m_simplify_transposed p0 >>= fun ((v3, v4) : (T_api_Tree × Bool)) =>
  if v4 = true then
    some (v3, 2)
  else
  m_simplify_raveled p0 >>= fun ((v5, v6) : (T_api_Tree × Bool)) =>
  if v6 = true then
    some (v5, 3)
  else
  m_simplify_reshaped p0 >>= fun ((v7, v8) : (T_api_Tree × Bool)) =>
  if v8 = true then
    some (v7, 4)
  else
  m_simplify_rotated p0 >>= fun ((v9, v10) : (T_api_Tree × Bool)) =>
  if v10 = true then
    some (v9, 5)
  else
  m_simplify_dropped p0 >>= fun ((v11, v12) : (T_api_Tree × Bool)) =>
  if v12 = true then
    some (v11, 6)
  else
  some (p0, 0)
def P_simplify_once : T_api_Tree → (T_api_Tree × Int) → Prop := fun x r => match x, r with
  | p0, (r0, r1) => ∀ H, PC prog env 22 ([(T_api_Tree.ex p0)].map .dat) H (.tup [(.dat (T_api_Tree.ex r0)), (intPV r1)]) H
theorem w_simplify_once : ∀ x r, m_simplify_once x = some r → P_simplify_once x r := by
  intro p0 r hm
  unfold m_simplify_once at hm
  unfold P_simplify_once
  obtain ⟨r0, r1⟩ := r
  intro H
  refine PC_sx (ds := [(T_api_Tree.ex p0)]) (fn := f22) (by kernel_rfl) (by kernel_rfl) rfl ?_ (by kernel_rfl)
  refine R_seq ?_
  refine R_G ?_
  refine G_run 3 ?_
  refine G_end ?_
  refine R_seq ?_
  refine R_seq ?_
  refine R_G ?_
  refine G_run 2 ?_
  refine G_end ?_
  refine R_block ?_
  refine R_loop ?_
  refine RL_at (st' := ⟨kp 26 [(1, (.ptr 0 0)), (2, (.ptr 1 0)), (8, (.dat (.agg [(.raw (.func (.func 66) #[] #[])), (.raw (.func (.func 67) #[] #[])), (.raw (.func (.func 68) #[] #[])), (.raw (.func (.func 69) #[] #[])), (.raw (.func (.func 70) #[] #[])), (.raw (.func (.func 71) #[] #[]))]))), (9, (intPV 0))], [(.box [(intPV p0.kind), (intPV p0.fn), (intPV p0.axis), (.dat (strD p0.name)), (.dat (.lst ((List.map intD) p0.nums))), (.dat (.lst (T_api_Tree.toDs p0.kids)))]), (.box [(intPV 0), (intPV 0), (intPV 0), (.dat (strD ByteArray.empty)), (.dat (.lst ((List.map intD) []))), (.dat (.lst (T_api_Tree.toDs [])))])]⟩) (by kernel_rfl) ?_
  refine R_seq ?_
  refine R_G ?_
  refine G_run 1 ?_
  refine G_end ?_
  refine R_seq ?_
  refine R_true (by kernel_rfl) ?_
  refine R_skip ?_
  refine R_seq ?_
  refine R_block ?_
  refine R_seq ?_
  refine R_G ?_
  refine G_run 1 ?_
  refine G_run 1 ?_
  refine G_run 3 ?_
  refine G_end ?_
  refine R_seq ?_
  refine R_G ?_
  refine G_run 3 ?_
  obtain ⟨⟨v1, v2⟩, hx, hm⟩ := bind_inv hm
  have hq := w_simplify_reversed _ _ hx []
  refine G_callP hq ?_
  refine G_run 6 ?_
  refine G_end ?_
  refine R_seq ?_
  refine R_G ?_
  refine G_run 1 ?_
  refine G_end ?_
  refine R_ifp (p := v2 = true) (bool_dec _) (fun hc => ?_) (fun hc => ?_)
  · replace hm := pos_inv hc hm
    refine R_seq ?_
    refine R_G ?_
    refine G_run 5 ?_
    refine G_end ?_
    refine R_ret ?_
    obtain ⟨rfl, rfl⟩ := inj2 hm
    exact ⟨trivial, fin_pure (by kernel_rfl)⟩
  replace hm := neg_inv hc hm
  refine R_skip ?_
  refine R_G ?_
  refine G_run 2 ?_
  refine G_end ?_
  refine RL_at (st' := ⟨kp 26 [(1, (.ptr 0 0)), (2, (.ptr 1 0)), (8, (.dat (.agg [(.raw (.func (.func 66) #[] #[])), (.raw (.func (.func 67) #[] #[])), (.raw (.func (.func 68) #[] #[])), (.raw (.func (.func 69) #[] #[])), (.raw (.func (.func 70) #[] #[])), (.raw (.func (.func 71) #[] #[]))]))), (9, (intPV 1))], [(.box [(intPV p0.kind), (intPV p0.fn), (intPV p0.axis), (.dat (strD p0.name)), (.dat (.lst ((List.map intD) p0.nums))), (.dat (.lst (T_api_Tree.toDs p0.kids)))]), (.box [(intPV 0), (intPV 0), (intPV 0), (.dat (strD ByteArray.empty)), (.dat (.lst ((List.map intD) []))), (.dat (.lst (T_api_Tree.toDs [])))])]⟩) (by kernel_rfl) ?_
  refine R_seq ?_
  refine R_G ?_
  refine G_run 1 ?_
  refine G_end ?_
  refine R_seq ?_
  refine R_true (by kernel_rfl) ?_
  refine R_skip ?_
  refine R_seq ?_
  refine R_block ?_
  refine R_seq ?_
  refine R_G ?_
  refine G_run 1 ?_
  refine G_run 1 ?_
  refine G_run 3 ?_
  refine G_end ?_
  refine R_seq ?_
  refine R_G ?_
  refine G_run 3 ?_
  obtain ⟨⟨v3, v4⟩, hx, hm⟩ := bind_inv hm
  have hq := w_simplify_transposed _ _ hx []
  refine G_callP hq ?_
  refine G_run 6 ?_
  refine G_end ?_
  refine R_seq ?_
  refine R_G ?_
  refine G_run 1 ?_
  refine G_end ?_
  refine R_ifp (p := v4 = true) (bool_dec _) (fun hc => ?_) (fun hc => ?_)
  · replace hm := pos_inv hc hm
    refine R_seq ?_
    refine R_G ?_
    refine G_run 5 ?_
    refine G_end ?_
    refine R_ret ?_
    obtain ⟨rfl, rfl⟩ := inj2 hm
    exact ⟨trivial, fin_pure (by kernel_rfl)⟩
  replace hm := neg_inv hc hm
  refine R_skip ?_
  refine R_G ?_
  refine G_run 2 ?_
  refine G_end ?_
  refine RL_at (st' := ⟨kp 26 [(1, (.ptr 0 0)), (2, (.ptr 1 0)), (8, (.dat (.agg [(.raw (.func (.func 66) #[] #[])), (.raw (.func (.func 67) #[] #[])), (.raw (.func (.func 68) #[] #[])), (.raw (.func (.func 69) #[] #[])), (.raw (.func (.func 70) #[] #[])), (.raw (.func (.func 71) #[] #[]))]))), (9, (intPV 2))], [(.box [(intPV p0.kind), (intPV p0.fn), (intPV p0.axis), (.dat (strD p0.name)), (.dat (.lst ((List.map intD) p0.nums))), (.dat (.lst (T_api_Tree.toDs p0.kids)))]), (.box [(intPV 0), (intPV 0), (intPV 0), (.dat (strD ByteArray.empty)), (.dat (.lst ((List.map intD) []))), (.dat (.lst (T_api_Tree.toDs [])))])]⟩) (by kernel_rfl) ?_
  refine R_seq ?_
  refine R_G ?_
  refine G_run 1 ?_
  refine G_end ?_
  refine R_seq ?_
  refine R_true (by kernel_rfl) ?_
  refine R_skip ?_
  refine R_seq ?_
  refine R_block ?_
  refine R_seq ?_
  refine R_G ?_
  refine G_run 1 ?_
  refine G_run 1 ?_
  refine G_run 3 ?_
  refine G_end ?_
  refine R_seq ?_
  refine R_G ?_
  refine G_run 3 ?_
  obtain ⟨⟨v5, v6⟩, hx, hm⟩ := bind_inv hm
  have hq := w_simplify_raveled _ _ hx []
  refine G_callP hq ?_
  refine G_run 6 ?_
  refine G_end ?_
  refine R_seq ?_
  refine R_G ?_
  refine G_run 1 ?_
  refine G_end ?_
  refine R_ifp (p := v6 = true) (bool_dec _) (fun hc => ?_) (fun hc => ?_)
  · replace hm := pos_inv hc hm
    refine R_seq ?_
    refine R_G ?_
    refine G_run 5 ?_
    refine G_end ?_
    refine R_ret ?_
    obtain ⟨rfl, rfl⟩ := inj2 hm
    exact ⟨trivial, fin_pure (by kernel_rfl)⟩
  replace hm := neg_inv hc hm
  refine R_skip ?_
  refine R_G ?_
  refine G_run 2 ?_
  refine G_end ?_
  refine RL_at (st' := ⟨kp 26 [(1, (.ptr 0 0)), (2, (.ptr 1 0)), (8, (.dat (.agg [(.raw (.func (.func 66) #[] #[])), (.raw (.func (.func 67) #[] #[])), (.raw (.func (.func 68) #[] #[])), (.raw (.func (.func 69) #[] #[])), (.raw (.func (.func 70) #[] #[])), (.raw (.func (.func 71) #[] #[]))]))), (9, (intPV 3))], [(.box [(intPV p0.kind), (intPV p0.fn), (intPV p0.axis), (.dat (strD p0.name)), (.dat (.lst ((List.map intD) p0.nums))), (.dat (.lst (T_api_Tree.toDs p0.kids)))]), (.box [(intPV 0), (intPV 0), (intPV 0), (.dat (strD ByteArray.empty)), (.dat (.lst ((List.map intD) []))), (.dat (.lst (T_api_Tree.toDs [])))])]⟩) (by kernel_rfl) ?_
  refine R_seq ?_
  refine R_G ?_
  refine G_run 1 ?_
  refine G_end ?_
  refine R_seq ?_
  refine R_true (by kernel_rfl) ?_
  refine R_skip ?_
  refine R_seq ?_
  refine R_block ?_
  refine R_seq ?_
  refine R_G ?_
  refine G_run 1 ?_
  refine G_run 1 ?_
  refine G_run 3 ?_
  refine G_end ?_
  refine R_seq ?_
  refine R_G ?_
  refine G_run 3 ?_
  obtain ⟨⟨v7, v8⟩, hx, hm⟩ := bind_inv hm
  have hq := w_simplify_reshaped _ _ hx []
  refine G_callP hq ?_
  refine G_run 6 ?_
  refine G_end ?_
  refine R_seq ?_
  refine R_G ?_
  refine G_run 1 ?_
  refine G_end ?_
  refine R_ifp (p := v8 = true) (bool_dec _) (fun hc => ?_) (fun hc => ?_)
  · replace hm := pos_inv hc hm
    refine R_seq ?_
    refine R_G ?_
    refine G_run 5 ?_
    refine G_end ?_
    refine R_ret ?_
    obtain ⟨rfl, rfl⟩ := inj2 hm
    exact ⟨trivial, fin_pure (by kernel_rfl)⟩
  replace hm := neg_inv hc hm
  refine R_skip ?_
  refine R_G ?_
  refine G_run 2 ?_
  refine G_end ?_
  refine RL_at (st' := ⟨kp 26 [(1, (.ptr 0 0)), (2, (.ptr 1 0)), (8, (.dat (.agg [(.raw (.func (.func 66) #[] #[])), (.raw (.func (.func 67) #[] #[])), (.raw (.func (.func 68) #[] #[])), (.raw (.func (.func 69) #[] #[])), (.raw (.func (.func 70) #[] #[])), (.raw (.func (.func 71) #[] #[]))]))), (9, (intPV 4))], [(.box [(intPV p0.kind), (intPV p0.fn), (intPV p0.axis), (.dat (strD p0.name)), (.dat (.lst ((List.map intD) p0.nums))), (.dat (.lst (T_api_Tree.toDs p0.kids)))]), (.box [(intPV 0), (intPV 0), (intPV 0), (.dat (strD ByteArray.empty)), (.dat (.lst ((List.map intD) []))), (.dat (.lst (T_api_Tree.toDs [])))])]⟩) (by kernel_rfl) ?_
  refine R_seq ?_
  refine R_G ?_
  refine G_run 1 ?_
  refine G_end ?_
  refine R_seq ?_
  refine R_true (by kernel_rfl) ?_
  refine R_skip ?_
  refine R_seq ?_
  refine R_block ?_
  refine R_seq ?_
  refine R_G ?_
  refine G_run 1 ?_
  refine G_run 1 ?_
  refine G_run 3 ?_
  refine G_end ?_
  refine R_seq ?_
  refine R_G ?_
  refine G_run 3 ?_
  obtain ⟨⟨v9, v10⟩, hx, hm⟩ := bind_inv hm
  have hq := w_simplify_rotated _ _ hx []
  refine G_callP hq ?_
  refine G_run 6 ?_
  refine G_end ?_
  refine R_seq ?_
  refine R_G ?_
  refine G_run 1 ?_
  refine G_end ?_
  refine R_ifp (p := v10 = true) (bool_dec _) (fun hc => ?_) (fun hc => ?_)
  · replace hm := pos_inv hc hm
    refine R_seq ?_
    refine R_G ?_
    refine G_run 5 ?_
    refine G_end ?_
    refine R_ret ?_
    obtain ⟨rfl, rfl⟩ := inj2 hm
    exact ⟨trivial, fin_pure (by kernel_rfl)⟩
  replace hm := neg_inv hc hm
  refine R_skip ?_
  refine R_G ?_
  refine G_run 2 ?_
  refine G_end ?_
  refine RL_at (st' := ⟨kp 26 [(1, (.ptr 0 0)), (2, (.ptr 1 0)), (8, (.dat (.agg [(.raw (.func (.func 66) #[] #[])), (.raw (.func (.func 67) #[] #[])), (.raw (.func (.func 68) #[] #[])), (.raw (.func (.func 69) #[] #[])), (.raw (.func (.func 70) #[] #[])), (.raw (.func (.func 71) #[] #[]))]))), (9, (intPV 5))], [(.box [(intPV p0.kind), (intPV p0.fn), (intPV p0.axis), (.dat (strD p0.name)), (.dat (.lst ((List.map intD) p0.nums))), (.dat (.lst (T_api_Tree.toDs p0.kids)))]), (.box [(intPV 0), (intPV 0), (intPV 0), (.dat (strD ByteArray.empty)), (.dat (.lst ((List.map intD) []))), (.dat (.lst (T_api_Tree.toDs [])))])]⟩) (by kernel_rfl) ?_
  refine R_seq ?_
  refine R_G ?_
  refine G_run 1 ?_
  refine G_end ?_
  refine R_seq ?_
  refine R_true (by kernel_rfl) ?_
  refine R_skip ?_
  refine R_seq ?_
  refine R_block ?_
  refine R_seq ?_
  refine R_G ?_
  refine G_run 1 ?_
  refine G_run 1 ?_
  refine G_run 3 ?_
  refine G_end ?_
  refine R_seq ?_
  refine R_G ?_
  refine G_run 3 ?_
  obtain ⟨⟨v11, v12⟩, hx, hm⟩ := bind_inv hm
  have hq := w_simplify_dropped _ _ hx []
  refine G_callP hq ?_
  refine G_run 6 ?_
  refine G_end ?_
  refine R_seq ?_
  refine R_G ?_
  refine G_run 1 ?_
  refine G_end ?_
  refine R_ifp (p := v12 = true) (bool_dec _) (fun hc => ?_) (fun hc => ?_)
  · replace hm := pos_inv hc hm
    refine R_seq ?_
    refine R_G ?_
    refine G_run 5 ?_
    refine G_end ?_
    refine R_ret ?_
    obtain ⟨rfl, rfl⟩ := inj2 hm
    exact ⟨trivial, fin_pure (by kernel_rfl)⟩
  replace hm := neg_inv hc hm
  refine R_skip ?_
  refine R_G ?_
  refine G_run 2 ?_
  refine G_end ?_
  refine RL_at (st' := ⟨kp 26 [(1, (.ptr 0 0)), (2, (.ptr 1 0)), (8, (.dat (.agg [(.raw (.func (.func 66) #[] #[])), (.raw (.func (.func 67) #[] #[])), (.raw (.func (.func 68) #[] #[])), (.raw (.func (.func 69) #[] #[])), (.raw (.func (.func 70) #[] #[])), (.raw (.func (.func 71) #[] #[]))]))), (9, (intPV 6))], [(.box [(intPV p0.kind), (intPV p0.fn), (intPV p0.axis), (.dat (strD p0.name)), (.dat (.lst ((List.map intD) p0.nums))), (.dat (.lst (T_api_Tree.toDs p0.kids)))]), (.box [(intPV 0), (intPV 0), (intPV 0), (.dat (strD ByteArray.empty)), (.dat (.lst ((List.map intD) []))), (.dat (.lst (T_api_Tree.toDs [])))])]⟩) (by kernel_rfl) ?_
  refine R_seq ?_
  refine R_G ?_
  refine G_run 1 ?_
  refine G_end ?_
  refine R_seq ?_
  refine R_false (by kernel_rfl) ?_
  refine R_exit ?_
  refine R_seq ?_
  refine R_G ?_
  refine G_run 3 ?_
  refine G_end ?_
  refine R_ret ?_
  obtain ⟨rfl, rfl⟩ := inj2 hm
  exact ⟨trivial, fin_pure (by kernel_rfl)⟩
end Go.Proofs.Tryd
namespace Go.Proofs.Tryd
open Go Go.Pm
set_option linter.unusedVariables false
set_option maxHeartbeats 2000000
set_option maxRecDepth 2000
def m_slices_Clone_int64_int64 (x : List Int) : Option (List Int) := app 8 [] x
def cgm_slices_Clone_int64_int64 (l : List Int) : Nat := match l with | [] => 0 | _ => 1
def P_slices_Clone_int64_int64 : List Int → List Int → Prop := fun x r => PC prog env 34 [.dat (.lst ((List.map intD) x))] [] (.ms 0 (cgm_slices_Clone_int64_int64 r) 0 r.length r.length) [.mt 2 (cgm_slices_Clone_int64_int64 r) (cellsOf intD r)]
theorem w_slices_Clone_int64_int64 : ∀ x r, m_slices_Clone_int64_int64 x = some r → P_slices_Clone_int64_int64 x r := by
  intro x r hm
  obtain ⟨hroom, hr⟩ := app_some hm
  have hr : r = x := hr
  subst hr
  unfold P_slices_Clone_int64_int64
  cases r with
  | nil => exact PC_of (n := 20) (by kernel_rfl)
  | cons a l =>
    refine PC_sxB (fn := f34) (by kernel_rfl) (by kernel_rfl) rfl ?_
    refine R_seq ?_
    refine R_G ?_
    refine G_run 1 ?_
    refine G_end ?_
    refine R_seq ?_
    refine R_seq ?_
    refine R_G ?_
    refine G_run 1 ?_
    refine G_semN rfl (by kernel_rfl) (fun _ => E_lstNil (p := .dat (.lst ((List.map intD) (a :: l)))) (b := false) rfl (by kernel_rfl) (by kernel_rfl) (by kernel_rfl)) ?_
    refine G_end ?_
    refine R_false (by kernel_rfl) ?_
    refine R_skip ?_
    refine R_seq ?_
    refine R_G ?_
    refine G_run 2 ?_
    refine G_semH (v := .ms 0 1 0 (a :: l).length (a :: l).length) (fun H => H.set 0 (.mt 2 1 (cellsOf intD (a :: l)))) rfl (by kernel_rfl) (fun _ hk => E_apMs intD (l := []) (es := a :: l) (bytes := 8) (e := 2) (tt := 0) (g := 0) (m := 0) hm (fun _ => rfl) (by kernel_rfl) (by kernel_rfl) (by kernel_rfl) (by kernel_rfl) rfl rfl (by kernel_rfl) rfl (by kernel_rfl) (source_lst (fun _ => rfl)) hk) ?_
    refine G_run 1 ?_
    refine G_end ?_
    refine R_ret ?_
    exact ⟨trivial, fin_body (by kernel_rfl) (by kernel_rfl)⟩
end Go.Proofs.Tryd
namespace Go.Proofs.Tryd
open Go Go.Pm
set_option linter.unusedVariables false
set_option maxHeartbeats 2000000
set_option maxRecDepth 2000
mutual
def m_tree_Copy_L1 (x : (T_api_Tree × (List Int) × (List T_api_Tree) × Int)) : Option ((List T_api_Tree)) :=
  match x with
  | (p0, v1, v202, v203) =>
  if v203 < (p0.kids.length : Int) then
    idx p0.kids v203 >>= fun v603 =>
    m_tree_Copy v603 >>= fun (v604 : T_api_Tree) =>
    app 88 v202 ([v604] : List T_api_Tree) >>= fun v605 =>
    m_tree_Copy_L1 (p0, v1, v605, (W (v203 + 1)))
  else
  some v202
  partial_fixpoint
def m_tree_Copy (x : T_api_Tree) : Option T_api_Tree :=
  match x with
  | p0 =>
  m_slices_Clone_int64_int64 p0.nums >>= fun v1 =>
  m_tree_Copy_L1 (p0, v1, ([] : List T_api_Tree), 0) >>= fun (v602 : (List T_api_Tree)) =>
  some (⟨p0.kind, p0.fn, p0.axis, p0.name, v1, v602⟩ : T_api_Tree)
  partial_fixpoint
end
def P_tree_Copy_L1 : (T_api_Tree × (List Int) × (List T_api_Tree) × Int) → (List T_api_Tree) → Prop := fun x r => match x with
  | (p0, v1, v202, v203) => ∀ st, prune 4 ((firstRegion (codeAt [1, 1, 1, 0, 1, 0, 0] (bodyOf f23))).bind (env.hint 23).keepAt) st = ⟨kp 26 [(1, (.ptr 0 0)), (2, (.ptr 1 0)), (3, (.vec 3 (T_api_Tree.toDs v202))), (11, (.dat (.lst (T_api_Tree.toDs p0.kids)))), (12, (intPV (p0.kids.length : Int))), (13, (intPV v203))], [(.box [(intPV p0.kind), (intPV p0.fn), (intPV p0.axis), (.dat (strD p0.name)), (.ms 2 1 0 v1.length v1.length), (.dat (.lst (T_api_Tree.toDs p0.kids)))]), (.box [(intPV 0), (intPV 0), (intPV 0), (.dat (strD ByteArray.empty)), (.dat (.lst ((List.map intD) []))), (.dat (.lst (T_api_Tree.toDs [])))]), (.mt 2 1 (cellsOf intD v1)), (.tok 25 v202.length)]⟩ →
    RL prog env (env.hint 23) true (codeAt [1, 1, 1, 0, 1, 0, 0] (bodyOf f23)) 4 st (fun e s => match r with | v602 => e = .exit 0 ∧ ∃ d, s = ⟨sl d 26 [(1, (.ptr 0 0)), (2, (.ptr 1 0)), (3, (.vec 3 (T_api_Tree.toDs v602)))], [(.box [(intPV p0.kind), (intPV p0.fn), (intPV p0.axis), (.dat (strD p0.name)), (.ms 2 1 0 v1.length v1.length), (.dat (.lst (T_api_Tree.toDs p0.kids)))]), (.box [(intPV 0), (intPV 0), (intPV 0), (.dat (strD ByteArray.empty)), (.dat (.lst ((List.map intD) []))), (.dat (.lst (T_api_Tree.toDs [])))]), (.mt 2 1 (cellsOf intD v1)), (.tok 25 v602.length)]⟩)
def P_tree_Copy : T_api_Tree → T_api_Tree → Prop := fun x r => match x, r with
  | p0, r0 => ∀ H, PC prog env 23 ([(T_api_Tree.ex p0)].map .dat) H (.dat (T_api_Tree.ex r0)) H
theorem g_tree_Copy_L1 : (∀ x r, m_tree_Copy_L1 x = some r → P_tree_Copy_L1 x r) ∧ (∀ x r, m_tree_Copy x = some r → P_tree_Copy x r) := by
  refine m_tree_Copy_L1.mutual_partial_correctness P_tree_Copy_L1 P_tree_Copy ?_ ?_
  · intro m_tree_Copy_L1 m_tree_Copy w_tree_Copy_L1 w_tree_Copy x r hm
    unfold P_tree_Copy_L1
    obtain ⟨p0, v1, v202, v203⟩ := x
    intro st hst
    refine RL_at hst ?_
    clear hst
    refine R_seq ?_
    refine R_G ?_
    refine G_run 1 ?_
    refine G_end ?_
    refine R_seq ?_
    refine R_ifp (p := v203 < (p0.kids.length : Int)) (rfl) (fun hc => ?_) (fun hc => ?_)
    · replace hm := pos_inv hc hm
      refine R_skip ?_
      refine R_seq ?_
      refine R_block ?_
      refine R_seq ?_
      refine R_G ?_
      obtain ⟨v603, hx, hm⟩ := bind_inv hm
      refine I_idx 6 T_api_Tree.toD p0.kids v203 v603 (es := T_api_Tree.toDs p0.kids) (d := (T_api_Tree.ex v603)) (T_api_Tree.toDs_eq _) hx (T_api_Tree.toD_eq v603) rfl ?_
      refine G_run 3 ?_
      refine G_end ?_
      refine R_G ?_
      refine G_run 2 ?_
      obtain ⟨v604, hx, hm⟩ := bind_inv hm
      have hq := w_tree_Copy _ _ hx []
      refine G_callP hq ?_
      refine G_run 1 ?_
      obtain ⟨v605, hx, hm⟩ := bind_inv hm
      refine I_app 25 6 88 3 T_api_Tree.toD v202 ([v604] : List T_api_Tree) v605 (xs := T_api_Tree.toDs v202) (es := [(T_api_Tree.ex v604)]) (L := T_api_Tree.toDs) T_api_Tree.toDs_eq rfl (by simp only [T_api_Tree.toDs, T_api_Tree.toD_eq]) T_api_Tree.fit hx ?_
      refine G_run 1 ?_
      refine G_end ?_
      refine R_G ?_
      refine G_run 2 ?_
      refine G_end ?_
      exact w_tree_Copy_L1 _ _ hm _ (prune_of2 [(.box [(intPV p0.kind), (intPV p0.fn), (intPV p0.axis), (.dat (strD p0.name)), (.ms 2 1 0 v1.length v1.length), (.dat (.lst (T_api_Tree.toDs p0.kids)))]), (.box [(intPV 0), (intPV 0), (intPV 0), (.dat (strD ByteArray.empty)), (.dat (.lst ((List.map intD) []))), (.dat (.lst (T_api_Tree.toDs [])))]), (.mt 2 1 (cellsOf intD v1)), (.tok 25 v605.length)] (fun _ => (pg_cons (by kernel_rfl) (pg_cons (by kernel_rfl) (pg_cons (purge_mt intD _ _ _ _ _) (pg_cons (by kernel_rfl) pg_nil))))) rfl)
    replace hm := neg_inv hc hm
    refine R_exit ?_
    obtain rfl := inj1 hm
    exact ⟨rfl, cut_leaf (by kernel_rfl)⟩
  · intro m_tree_Copy_L1 w_tree_Copy_L1 p0 r0 hm
    unfold P_tree_Copy
    intro H
    refine PC_sx (ds := [(T_api_Tree.ex p0)]) (fn := f23) (by kernel_rfl) (by kernel_rfl) rfl ?_ (by kernel_rfl)
    refine R_seq ?_
    refine R_G ?_
    refine G_run 2 ?_
    refine G_end ?_
    refine R_seq ?_
    refine R_G ?_
    refine G_run 2 ?_
    obtain ⟨v1, hx, hm⟩ := bind_inv hm
    have hq := w_slices_Clone_int64_int64 _ _ hx
    dsimp only [P_slices_Clone_int64_int64] at hq
    have hl9 : mtOf [Blk.mt 2 (cgm_slices_Clone_int64_int64 v1) (cellsOf intD v1)] 0 = some (2, cgm_slices_Clone_int64_int64 v1, cellsOf intD v1) := mtOf_at (by kernel_rfl)
    refine G_semH (v := .ms 2 1 0 v1.length v1.length) (fun H => H ++ [.mt 2 1 (cellsOf intD v1)]) rfl (by kernel_rfl) ?_ ?_
    · intro K hk
      refine E_callOwnN 2 (first := #[]) (cap := #[]) (j := (0, 2)) (ow' := []) (f0 := intD) (l := v1) rfl ?_ ?_ ?_ (ds := [.lst ((List.map intD) p0.nums)]) ?_ hq hl9 ?_ ?_ ?_
      · kernel_rfl
      · kernel_rfl
      · kernel_rfl
      · kernel_rfl
      · exact hk
      · kernel_rfl
      · decide
    refine G_run 2 ?_
    refine G_end ?_
    refine R_seq ?_
    refine R_G ?_
    refine G_run 1 ?_
    refine G_end ?_
    refine R_seq ?_
    refine R_seq ?_
    refine R_G ?_
    refine G_run 2 ?_
    refine I_len T_api_Tree.toD p0.kids (es := T_api_Tree.toDs p0.kids) (T_api_Tree.toDs_eq _) ?_
    refine G_run 1 ?_
    refine G_end ?_
    refine R_block ?_
    obtain ⟨v602, hs, hm⟩ := bind_inv hm
    refine R_loop ?_
    refine RL_use (w_tree_Copy_L1 _ _ hs) (prune_of2 [(.box [(intPV p0.kind), (intPV p0.fn), (intPV p0.axis), (.dat (strD p0.name)), (.ms 2 1 0 v1.length v1.length), (.dat (.lst (T_api_Tree.toDs p0.kids)))]), (.box [(intPV 0), (intPV 0), (intPV 0), (.dat (strD ByteArray.empty)), (.dat (.lst ((List.map intD) []))), (.dat (.lst (T_api_Tree.toDs [])))]), (.mt 2 1 (cellsOf intD v1)), (.tok 25 (([] : List T_api_Tree).length))] (fun _ => (pg_cons (by kernel_rfl) (pg_cons (by kernel_rfl) (pg_cons (purge_mt intD _ _ _ _ _) (pg_cons (by kernel_rfl) pg_nil))))) rfl) ?_
    clear hs
    intro e s hp
    obtain ⟨rfl, d, rfl⟩ := hp
    refine R_seq ?_
    refine R_G ?_
    refine G_run 3 ?_
    refine G_end ?_
    refine R_seq ?_
    refine R_G ?_
    refine G_run 2 ?_
    refine G_end ?_
    refine R_ret ?_
    obtain rfl := inj1 hm
    exact ⟨trivial, fin_pureX [(.agg [(intPV p0.kind), (intPV p0.fn), (intPV p0.axis), (.dat (strD p0.name)), (.ms 2 1 0 v1.length v1.length), (.vec 3 (T_api_Tree.toDs v602))])] (by kernel_rfl) (po_agg (pc_cons (by kernel_rfl) (pc_cons (by kernel_rfl) (pc_cons (by kernel_rfl) (pc_cons (by kernel_rfl) (pc_cons (pc_ms (e := 2) intD v1 rfl (fun _ => rfl) (by kernel_rfl)) (pc_cons (by kernel_rfl) pc_nil)))))))⟩
theorem w_tree_Copy_L1 : ∀ x r, m_tree_Copy_L1 x = some r → P_tree_Copy_L1 x r := g_tree_Copy_L1.1
theorem w_tree_Copy : ∀ x r, m_tree_Copy x = some r → P_tree_Copy x r := g_tree_Copy_L1.2
end Go.Proofs.Tryd
namespace Go.Proofs.Tryd
open Go Go.Pm
set_option linter.unusedVariables false
set_option maxHeartbeats 2000000
set_option maxRecDepth 2000
def m_simplify_Rule (x : T_api_Tree) : Option (T_api_Tree × Int) :=
  match x with
  | p0 =>
  m_simplify_once p0 >>= fun ((v1, v2) : (T_api_Tree × Int)) =>
  m_tree_Copy (⟨v1.kind, v1.fn, v1.axis, v1.name, v1.nums, v1.kids⟩ : T_api_Tree) >>= fun (v3 : T_api_Tree) =>
  some (v3, v2)
def P_simplify_Rule : T_api_Tree → (T_api_Tree × Int) → Prop := fun x r => match x, r with
  | p0, (r0, r1) => ∀ H, PC prog env 9 ([(T_api_Tree.ex p0)].map .dat) H (.tup [(.dat (T_api_Tree.ex r0)), (intPV r1)]) H
theorem w_simplify_Rule : ∀ x r, m_simplify_Rule x = some r → P_simplify_Rule x r := by
  intro p0 r hm
  unfold m_simplify_Rule at hm
  unfold P_simplify_Rule
  obtain ⟨r0, r1⟩ := r
  intro H
  refine PC_sx (ds := [(T_api_Tree.ex p0)]) (fn := f9) (by kernel_rfl) (by kernel_rfl) rfl ?_ (by kernel_rfl)
  refine R_seq ?_
  refine R_G ?_
  refine G_run 3 ?_
  refine G_end ?_
  refine R_seq ?_
  refine R_G ?_
  refine G_run 1 ?_
  obtain ⟨⟨v1, v2⟩, hx, hm⟩ := bind_inv hm
  have hq := w_simplify_once _ _ hx []
  refine G_callP hq ?_
  refine G_run 6 ?_
  refine G_end ?_
  refine R_seq ?_
  refine R_G ?_
  refine G_run 1 ?_
  obtain ⟨v3, hx, hm⟩ := bind_inv hm
  have hq := w_tree_Copy _ _ hx []
  refine G_callP hq ?_
  refine G_run 3 ?_
  refine G_end ?_
  refine R_ret ?_
  obtain ⟨rfl, rfl⟩ := inj2 hm
  exact ⟨trivial, fin_pure (by kernel_rfl)⟩
end Go.Proofs.Tryd
namespace Go.Proofs.Tryd
open Go Go.Pm
set_option linter.unusedVariables false
set_option maxHeartbeats 2000000
set_option maxRecDepth 2000
def m_simplify_simplified_L2 (x : ((List T_api_Tree) × Int × Int × Int × ByteArray × (List Int) × (List T_api_Tree) × Int)) : Option ((Int × Int × Int × ByteArray × (List Int) × (List T_api_Tree) × Int × Int × Int × ByteArray × (List Int) × (List T_api_Tree) × Int)) :=
  match x with
  | (v602, v807, v808, v809, v810, v811, v812, v813) =>
  m_simplify_once (⟨v807, v808, v809, v810, v811, v812⟩ : T_api_Tree) >>= fun ((v1220, v1221) : (T_api_Tree × Int)) =>
  if v1221 = 0 then
    some (v807, v808, v809, v810, v811, v812, v1220.kind, v1220.fn, v1220.axis, v1220.name, v1220.nums, v1220.kids, v813)
  else
  m_simplify_simplified_L2 (v602, v1220.kind, v1220.fn, v1220.axis, v1220.name, v1220.nums, v1220.kids, (W (v813 + 1)))
  partial_fixpoint
def P_simplify_simplified_L2 : ((List T_api_Tree) × Int × Int × Int × ByteArray × (List Int) × (List T_api_Tree) × Int) → (Int × Int × Int × ByteArray × (List Int) × (List T_api_Tree) × Int × Int × Int × ByteArray × (List Int) × (List T_api_Tree) × Int) → Prop := fun x r => match x with
  | (v602, v807, v808, v809, v810, v811, v812, v813) => ∀ st, prune 3 ((firstRegion (codeAt [1, 0, 1, 1, 1, 1, 1, 0, 0, 0] (bodyOf f25))).bind (env.hint 25).keepAt) st = ⟨kp 46 [(1, (.ptr 0 0)), (2, (.ptr 1 0)), (4, (intPV v813))], [(.box [(intPV v807), (intPV v808), (intPV v809), (.dat (strD v810)), (.dat (.lst ((List.map intD) v811))), (.dat (.lst (T_api_Tree.toDs v812)))]), (.box [(intPV 0), (intPV 0), (intPV 0), (.dat (strD ByteArray.empty)), (.dat (.lst ((List.map intD) []))), (.dat (.lst (T_api_Tree.toDs [])))]), (.tok 25 v602.length)]⟩ →
    RL prog env (env.hint 25) true (codeAt [1, 0, 1, 1, 1, 1, 1, 0, 0, 0] (bodyOf f25)) 3 st (fun e s => match r with | (v1207, v1208, v1209, v1210, v1211, v1212, v1213, v1214, v1215, v1216, v1217, v1218, v1219) => e = .exit 2 ∧ ∃ d, s = ⟨sl d 46 [(1, (.ptr 0 0)), (2, (.ptr 1 0)), (4, (intPV v1219))], [(.box [(intPV v1207), (intPV v1208), (intPV v1209), (.dat (strD v1210)), (.dat (.lst ((List.map intD) v1211))), (.dat (.lst (T_api_Tree.toDs v1212)))]), (.box [(intPV 0), (intPV 0), (intPV 0), (.dat (strD ByteArray.empty)), (.dat (.lst ((List.map intD) []))), (.dat (.lst (T_api_Tree.toDs [])))]), (.tok 25 v602.length), (.box [(intPV v1213), (intPV v1214), (intPV v1215), (.dat (strD v1216)), (.dat (.lst ((List.map intD) v1217))), (.dat (.lst (T_api_Tree.toDs v1218)))])]⟩)
theorem w_simplify_simplified_L2 : ∀ x r, m_simplify_simplified_L2 x = some r → P_simplify_simplified_L2 x r := by
  refine m_simplify_simplified_L2.partial_correctness _ (fun m_simplify_simplified_L2 w_simplify_simplified_L2 x r hm => ?_)
  unfold P_simplify_simplified_L2
  obtain ⟨v602, v807, v808, v809, v810, v811, v812, v813⟩ := x
  intro st hst
  refine RL_at hst ?_
  clear hst
  refine R_block ?_
  refine R_seq ?_
  refine R_G ?_
  refine G_run 1 ?_
  obtain ⟨⟨v1220, v1221⟩, hx, hm⟩ := bind_inv hm
  have hq := w_simplify_once _ _ hx []
  refine G_callP hq ?_
  refine G_run 6 ?_
  refine G_end ?_
  refine R_seq ?_
  refine R_seq ?_
  refine R_G ?_
  refine G_run 2 ?_
  refine G_end ?_
  refine R_ifp (p := v1221 = 0) (eq_dec _ _) (fun hc => ?_) (fun hc => ?_)
  · replace hm := pos_inv hc hm
    refine R_exit ?_
    obtain rfl := inj1 hm
    exact ⟨rfl, cut_leaf (by kernel_rfl)⟩
  replace hm := neg_inv hc hm
  refine R_skip ?_
  refine R_G ?_
  refine G_run 5 ?_
  refine G_end ?_
  exact w_simplify_simplified_L2 _ _ hm _ (by kernel_rfl)
mutual
def m_simplify_simplified_L1 (x : (T_api_Tree × Int × (List T_api_Tree) × Int)) : Option ((Int × (List T_api_Tree))) :=
  match x with
  | (p0, v201, v202, v203) =>
  if v203 < (p0.kids.length : Int) then
    idx p0.kids v203 >>= fun v603 =>
    m_simplify_simplified v603 >>= fun ((v604, v605) : (T_api_Tree × Int)) =>
    app 88 v202 ([v604] : List T_api_Tree) >>= fun v606 =>
    m_simplify_simplified_L1 (p0, (W (v201 + v605)), v606, (W (v203 + 1)))
  else
  some (v201, v202)
  partial_fixpoint
def m_simplify_simplified (x : T_api_Tree) : Option (T_api_Tree × Int) :=
  match x with
  | p0 =>
  m_simplify_simplified_L1 (p0, 0, ([] : List T_api_Tree), 0) >>= fun ((v601, v602) : (Int × (List T_api_Tree))) =>
  m_simplify_simplified_L2 (v602, p0.kind, p0.fn, p0.axis, p0.name, p0.nums, v602, v601) >>= fun ((v1207, v1208, v1209, v1210, v1211, v1212, v1213, v1214, v1215, v1216, v1217, v1218, v1219) : (Int × Int × Int × ByteArray × (List Int) × (List T_api_Tree) × Int × Int × Int × ByteArray × (List Int) × (List T_api_Tree) × Int)) =>
  some ((⟨v1207, v1208, v1209, v1210, v1211, v1212⟩ : T_api_Tree), v1219)
  partial_fixpoint
end
def P_simplify_simplified_L1 : (T_api_Tree × Int × (List T_api_Tree) × Int) → (Int × (List T_api_Tree)) → Prop := fun x r => match x with
  | (p0, v201, v202, v203) => ∀ st, prune 3 ((firstRegion (codeAt [1, 0, 1, 1, 0, 1, 0, 0] (bodyOf f25))).bind (env.hint 25).keepAt) st = ⟨kp 46 [(1, (.ptr 0 0)), (2, (.ptr 1 0)), (4, (intPV v201)), (5, (.vec 2 (T_api_Tree.toDs v202))), (13, (.dat (.lst (T_api_Tree.toDs p0.kids)))), (14, (intPV (p0.kids.length : Int))), (15, (intPV v203))], [(.box [(intPV p0.kind), (intPV p0.fn), (intPV p0.axis), (.dat (strD p0.name)), (.dat (.lst ((List.map intD) p0.nums))), (.dat (.lst (T_api_Tree.toDs p0.kids)))]), (.box [(intPV 0), (intPV 0), (intPV 0), (.dat (strD ByteArray.empty)), (.dat (.lst ((List.map intD) []))), (.dat (.lst (T_api_Tree.toDs [])))]), (.tok 25 v202.length)]⟩ →
    RL prog env (env.hint 25) true (codeAt [1, 0, 1, 1, 0, 1, 0, 0] (bodyOf f25)) 3 st (fun e s => match r with | (v601, v602) => e = .exit 0 ∧ ∃ d, s = ⟨sl d 46 [(1, (.ptr 0 0)), (2, (.ptr 1 0)), (4, (intPV v601)), (5, (.vec 2 (T_api_Tree.toDs v602)))], [(.box [(intPV p0.kind), (intPV p0.fn), (intPV p0.axis), (.dat (strD p0.name)), (.dat (.lst ((List.map intD) p0.nums))), (.dat (.lst (T_api_Tree.toDs p0.kids)))]), (.box [(intPV 0), (intPV 0), (intPV 0), (.dat (strD ByteArray.empty)), (.dat (.lst ((List.map intD) []))), (.dat (.lst (T_api_Tree.toDs [])))]), (.tok 25 v602.length)]⟩)
def P_simplify_simplified : T_api_Tree → (T_api_Tree × Int) → Prop := fun x r => match x, r with
  | p0, (r0, r1) => ∀ H, PC prog env 25 ([(T_api_Tree.ex p0)].map .dat) H (.tup [(.dat (T_api_Tree.ex r0)), (intPV r1)]) H
theorem g_simplify_simplified_L1 : (∀ x r, m_simplify_simplified_L1 x = some r → P_simplify_simplified_L1 x r) ∧ (∀ x r, m_simplify_simplified x = some r → P_simplify_simplified x r) := by
  refine m_simplify_simplified_L1.mutual_partial_correctness P_simplify_simplified_L1 P_simplify_simplified ?_ ?_
  · intro m_simplify_simplified_L1 m_simplify_simplified w_simplify_simplified_L1 w_simplify_simplified x r hm
    unfold P_simplify_simplified_L1
    obtain ⟨p0, v201, v202, v203⟩ := x
    intro st hst
    refine RL_at hst ?_
    clear hst
    refine R_seq ?_
    refine R_G ?_
    refine G_run 1 ?_
    refine G_end ?_
    refine R_seq ?_
    refine R_ifp (p := v203 < (p0.kids.length : Int)) (rfl) (fun hc => ?_) (fun hc => ?_)
    · replace hm := pos_inv hc hm
      refine R_skip ?_
      refine R_seq ?_
      refine R_block ?_
      refine R_seq ?_
      refine R_G ?_
      obtain ⟨v603, hx, hm⟩ := bind_inv hm
      refine I_idx 6 T_api_Tree.toD p0.kids v203 v603 (es := T_api_Tree.toDs p0.kids) (d := (T_api_Tree.ex v603)) (T_api_Tree.toDs_eq _) hx (T_api_Tree.toD_eq v603) rfl ?_
      refine G_run 3 ?_
      refine G_end ?_
      refine R_seq ?_
      refine R_G ?_
      refine G_run 1 ?_
      obtain ⟨⟨v604, v605⟩, hx, hm⟩ := bind_inv hm
      have hq := w_simplify_simplified _ _ hx []
      refine G_callP hq ?_
      refine G_run 6 ?_
      refine G_end ?_
      refine R_seq ?_
      refine R_G ?_
      refine G_run 3 ?_
      obtain ⟨v606, hx, hm⟩ := bind_inv hm
      refine I_app 25 6 88 2 T_api_Tree.toD v202 ([v604] : List T_api_Tree) v606 (xs := T_api_Tree.toDs v202) (es := [(T_api_Tree.ex v604)]) (L := T_api_Tree.toDs) T_api_Tree.toDs_eq rfl (by simp only [T_api_Tree.toDs, T_api_Tree.toD_eq]) T_api_Tree.fit hx ?_
      refine G_run 1 ?_
      refine G_end ?_
      refine R_G ?_
      refine G_run 4 ?_
      refine G_end ?_
      refine R_G ?_
      refine G_run 2 ?_
      refine G_end ?_
      exact w_simplify_simplified_L1 _ _ hm _ (by kernel_rfl)
    replace hm := neg_inv hc hm
    refine R_exit ?_
    obtain rfl := inj1 hm
    exact ⟨rfl, cut_leaf (by kernel_rfl)⟩
  · intro m_simplify_simplified_L1 w_simplify_simplified_L1 p0 r hm
    unfold P_simplify_simplified
    obtain ⟨r0, r1⟩ := r
    intro H
    refine PC_sx (ds := [(T_api_Tree.ex p0)]) (fn := f25) (by kernel_rfl) (by kernel_rfl) rfl ?_ (by kernel_rfl)
    refine R_seq ?_
    refine R_G ?_
    refine G_run 3 ?_
    refine G_end ?_
    refine R_scope ?_
    refine R_seq ?_
    refine R_G ?_
    refine G_run 1 ?_
    refine G_end ?_
    refine R_seq ?_
    refine R_G ?_
    refine G_run 1 ?_
    refine G_end ?_
    refine R_seq ?_
    refine R_seq ?_
    refine R_G ?_
    refine G_run 2 ?_
    refine I_len T_api_Tree.toD p0.kids (es := T_api_Tree.toDs p0.kids) (T_api_Tree.toDs_eq _) ?_
    refine G_run 1 ?_
    refine G_end ?_
    refine R_block ?_
    obtain ⟨⟨v601, v602⟩, hs, hm⟩ := bind_inv hm
    refine R_loop ?_
    refine RL_use (w_simplify_simplified_L1 _ _ hs) (by kernel_rfl) ?_
    clear hs
    intro e s hp
    obtain ⟨rfl, d, rfl⟩ := hp
    refine R_seq ?_
    refine R_G ?_
    refine G_run 3 ?_
    refine G_end ?_
    refine R_seq ?_
    refine R_label ?_
    refine R_seq ?_
    refine R_block ?_
    obtain ⟨⟨v1207, v1208, v1209, v1210, v1211, v1212, v1213, v1214, v1215, v1216, v1217, v1218, v1219⟩, hs, hm⟩ := bind_inv hm
    refine R_loop ?_
    refine RL_use (w_simplify_simplified_L2 _ _ hs) (by kernel_rfl) ?_
    clear hs
    intro e s hp
    obtain ⟨rfl, d, rfl⟩ := hp
    refine R_seq ?_
    refine R_G ?_
    refine G_run 4 ?_
    refine G_end ?_
    refine R_ret ?_
    obtain ⟨rfl, rfl⟩ := inj2 hm
    exact ⟨trivial, fin_pure (by kernel_rfl)⟩
theorem w_simplify_simplified_L1 : ∀ x r, m_simplify_simplified_L1 x = some r → P_simplify_simplified_L1 x r := g_simplify_simplified_L1.1
theorem w_simplify_simplified : ∀ x r, m_simplify_simplified x = some r → P_simplify_simplified x r := g_simplify_simplified_L1.2
end Go.Proofs.Tryd
namespace Go.Proofs.Tryd
open Go Go.Pm
set_option linter.unusedVariables false
set_option maxHeartbeats 2000000
set_option maxRecDepth 2000
def m_simplify_Simplify (x : T_api_Tree) : Option T_api_Tree :=
  match x with
  | p0 =>
  m_simplify_simplified p0 >>= fun ((v1, v2) : (T_api_Tree × Int)) =>
  m_tree_Copy v1 >>= fun (v3 : T_api_Tree) =>
  some v3
def P_simplify_Simplify : T_api_Tree → T_api_Tree → Prop := fun x r => match x, r with
  | p0, r0 => ∀ H, PC prog env 13 ([(T_api_Tree.ex p0)].map .dat) H (.dat (T_api_Tree.ex r0)) H
theorem w_simplify_Simplify : ∀ x r, m_simplify_Simplify x = some r → P_simplify_Simplify x r := by
  intro p0 r0 hm
  unfold m_simplify_Simplify at hm
  unfold P_simplify_Simplify
  intro H
  refine PC_sx (ds := [(T_api_Tree.ex p0)]) (fn := f13) (by kernel_rfl) (by kernel_rfl) rfl ?_ (by kernel_rfl)
  refine R_seq ?_
  refine R_G ?_
  refine G_run 2 ?_
  refine G_end ?_
  refine R_seq ?_
  refine R_G ?_
  refine G_run 1 ?_
  obtain ⟨⟨v1, v2⟩, hx, hm⟩ := bind_inv hm
  have hq := w_simplify_simplified _ _ hx []
  refine G_callP hq ?_
  refine G_run 6 ?_
  refine G_end ?_
  refine R_seq ?_
  refine R_G ?_
  refine G_run 1 ?_
  obtain ⟨v3, hx, hm⟩ := bind_inv hm
  have hq := w_tree_Copy _ _ hx []
  refine G_callP hq ?_
  refine G_run 1 ?_
  refine G_end ?_
  refine R_ret ?_
  obtain rfl := inj1 hm
  exact ⟨trivial, fin_pure (by kernel_rfl)⟩
end Go.Proofs.Tryd
namespace Go.Proofs.Tryd
open Go Go.Pm
set_option linter.unusedVariables false
set_option maxHeartbeats 2000000
set_option maxRecDepth 2000
def m_ref08_Same_L1 (x : (T_api_Tree × T_api_Tree × Int)) : Option (Unit ⊕ Unit) :=
  match x with
  | (p0, p1, v206) =>
  if v206 < (p0.nums.length : Int) then
    idx p0.nums v206 >>= fun v606 =>
    idx p1.nums v206 >>= fun v607 =>
    if v606 ≠ v607 then
      some (Sum.inl ())
    else
    m_ref08_Same_L1 (p0, p1, (W (v206 + 1)))
  else
  some (Sum.inr ())
  partial_fixpoint
def P_ref08_Same_L1 : (T_api_Tree × T_api_Tree × Int) → (Unit ⊕ Unit) → Prop := fun x r => match x with
  | (p0, p1, v206) => ∀ st, prune 2 ((firstRegion (codeAt [1, 1, 0, 1, 0, 0] (bodyOf f12))).bind (env.hint 12).keepAt) st = ⟨kp 88 [(2, (.ptr 0 0)), (3, (.ptr 1 0)), (5, (intPV v206))], [(.box [(intPV p0.kind), (intPV p0.fn), (intPV p0.axis), (.dat (strD p0.name)), (.dat (.lst ((List.map intD) p0.nums))), (.dat (.lst (T_api_Tree.toDs p0.kids)))]), (.box [(intPV p1.kind), (intPV p1.fn), (intPV p1.axis), (.dat (strD p1.name)), (.dat (.lst ((List.map intD) p1.nums))), (.dat (.lst (T_api_Tree.toDs p1.kids)))])]⟩ →
    RL prog env (env.hint 12) true (codeAt [1, 1, 0, 1, 0, 0] (bodyOf f12)) 2 st (fun e s => match r with | .inl _ => e = .ret ∧ ∃ d, s = ⟨sl d 88 [(4, (boolPV false))], [(.box [(intPV p0.kind), (intPV p0.fn), (intPV p0.axis), (.dat (strD p0.name)), (.dat (.lst ((List.map intD) p0.nums))), (.dat (.lst (T_api_Tree.toDs p0.kids)))]), (.box [(intPV p1.kind), (intPV p1.fn), (intPV p1.axis), (.dat (strD p1.name)), (.dat (.lst ((List.map intD) p1.nums))), (.dat (.lst (T_api_Tree.toDs p1.kids)))])]⟩ | .inr (_) => e = .exit 0 ∧ ∃ d, s = ⟨sl d 88 [(2, (.ptr 0 0)), (3, (.ptr 1 0))], [(.box [(intPV p0.kind), (intPV p0.fn), (intPV p0.axis), (.dat (strD p0.name)), (.dat (.lst ((List.map intD) p0.nums))), (.dat (.lst (T_api_Tree.toDs p0.kids)))]), (.box [(intPV p1.kind), (intPV p1.fn), (intPV p1.axis), (.dat (strD p1.name)), (.dat (.lst ((List.map intD) p1.nums))), (.dat (.lst (T_api_Tree.toDs p1.kids)))])]⟩)
theorem w_ref08_Same_L1 : ∀ x r, m_ref08_Same_L1 x = some r → P_ref08_Same_L1 x r := by
  refine m_ref08_Same_L1.partial_correctness _ (fun m_ref08_Same_L1 w_ref08_Same_L1 x r hm => ?_)
  unfold P_ref08_Same_L1
  obtain ⟨p0, p1, v206⟩ := x
  intro st hst
  refine RL_at hst ?_
  clear hst
  refine R_seq ?_
  refine R_seq ?_
  refine R_G ?_
  refine G_run 3 ?_
  refine I_len intD p0.nums (es := (List.map intD) p0.nums) rfl ?_
  refine G_run 1 ?_
  refine G_end ?_
  refine R_ifp (p := v206 < (p0.nums.length : Int)) (rfl) (fun hc => ?_) (fun hc => ?_)
  · replace hm := pos_inv hc hm
    refine R_skip ?_
    refine R_seq ?_
    refine R_block ?_
    refine R_seq ?_
    refine R_GD ?_
    refine G_run 3 ?_
    obtain ⟨v606, hx, hm⟩ := bind_inv hm
    refine I_idx 1 intD p0.nums v206 v606 (es := (List.map intD) p0.nums) (d := (intD v606)) rfl hx rfl rfl ?_
    refine G_run 4 ?_
    obtain ⟨v607, hx, hm⟩ := bind_inv hm
    refine I_idx 1 intD p1.nums v206 v607 (es := (List.map intD) p1.nums) (d := (intD v607)) rfl hx rfl rfl ?_
    refine G_run 2 ?_
    refine G_end ⟨by kernel_rfl, ?_⟩
    refine R_ifp (p := v606 ≠ v607) (ne_dec _ _) (fun hc => ?_) (fun hc => ?_)
    · replace hm := pos_inv hc hm
      refine R_seq ?_
      refine R_G ?_
      refine G_run 1 ?_
      refine G_end ?_
      refine R_ret ?_
      obtain rfl := inj1 hm
      exact ⟨rfl, cut_leaf (by kernel_rfl)⟩
    replace hm := neg_inv hc hm
    refine R_skip ?_
    refine R_G ?_
    refine G_run 3 ?_
    refine G_end ?_
    exact w_ref08_Same_L1 _ _ hm _ (by kernel_rfl)
  replace hm := neg_inv hc hm
  refine R_exit ?_
  obtain rfl := inj1 hm
  exact ⟨rfl, cut_leaf (by kernel_rfl)⟩
mutual
def m_ref08_Same_L2 (x : (T_api_Tree × T_api_Tree × Int)) : Option (Unit ⊕ Unit) :=
  match x with
  | (p0, p1, v808) =>
  if v808 < (p0.kids.length : Int) then
    idx p0.kids v808 >>= fun v1208 =>
    idx p1.kids v808 >>= fun v1209 =>
    m_ref08_Same (v1208, v1209) >>= fun (v1210 : Bool) =>
    if v1210 = false then
      some (Sum.inl ())
    else
    m_ref08_Same_L2 (p0, p1, (W (v808 + 1)))
  else
  some (Sum.inr ())
  partial_fixpoint
def m_ref08_Same (x : (T_api_Tree × T_api_Tree)) : Option Bool :=
  match x with
  | (p0, p1) =>
  ((if p0.kind ≠ p1.kind then
    some true
  else
  some (p0.fn != p1.fn)
  ) >>= fun (v2 : Bool) =>
  (if v2 = true then
    some true
  else
  some (p0.axis != p1.axis)
  ) >>= fun (v3 : Bool) =>
  (if v3 = true then
    some true
  else
  some (decide (p0.name ≠ p1.name))
  ) >>= fun (v4 : Bool) =>
  (if v4 = true then
    some true
  else
  some ((p0.nums.length : Int) != (p1.nums.length : Int))
  ) >>= fun (v5 : Bool) =>
  if v5 = true then
    some true
  else
  some ((p0.kids.length : Int) != (p1.kids.length : Int))
  ) >>= fun (v1 : Bool) =>
  if v1 = true then
    some false
  else
  (
  m_ref08_Same_L1 (p0, p1, 0) >>= fun (out : Unit ⊕ Unit) =>
  match out with
  | .inl _ =>
    some false
  | .inr (_) =>
    (
    m_ref08_Same_L2 (p0, p1, 0) >>= fun (out : Unit ⊕ Unit) =>
    match out with
    | .inl _ =>
      some false
    | .inr (_) =>
      some true
    )
  )
  partial_fixpoint
end
def P_ref08_Same_L2 : (T_api_Tree × T_api_Tree × Int) → (Unit ⊕ Unit) → Prop := fun x r => match x with
  | (p0, p1, v808) => ∀ st, prune 2 ((firstRegion (codeAt [1, 1, 1, 0, 1, 0, 0] (bodyOf f12))).bind (env.hint 12).keepAt) st = ⟨kp 88 [(2, (.ptr 0 0)), (3, (.ptr 1 0)), (6, (intPV v808))], [(.box [(intPV p0.kind), (intPV p0.fn), (intPV p0.axis), (.dat (strD p0.name)), (.dat (.lst ((List.map intD) p0.nums))), (.dat (.lst (T_api_Tree.toDs p0.kids)))]), (.box [(intPV p1.kind), (intPV p1.fn), (intPV p1.axis), (.dat (strD p1.name)), (.dat (.lst ((List.map intD) p1.nums))), (.dat (.lst (T_api_Tree.toDs p1.kids)))])]⟩ →
    RL prog env (env.hint 12) true (codeAt [1, 1, 1, 0, 1, 0, 0] (bodyOf f12)) 2 st (fun e s => match r with | .inl _ => e = .ret ∧ ∃ d, s = ⟨sl d 88 [(4, (boolPV false))], [(.box [(intPV p0.kind), (intPV p0.fn), (intPV p0.axis), (.dat (strD p0.name)), (.dat (.lst ((List.map intD) p0.nums))), (.dat (.lst (T_api_Tree.toDs p0.kids)))]), (.box [(intPV p1.kind), (intPV p1.fn), (intPV p1.axis), (.dat (strD p1.name)), (.dat (.lst ((List.map intD) p1.nums))), (.dat (.lst (T_api_Tree.toDs p1.kids)))])]⟩ | .inr (_) => e = .exit 2 ∧ ∃ d, s = ⟨sl d 88 [], [(.box [(intPV p0.kind), (intPV p0.fn), (intPV p0.axis), (.dat (strD p0.name)), (.dat (.lst ((List.map intD) p0.nums))), (.dat (.lst (T_api_Tree.toDs p0.kids)))]), (.box [(intPV p1.kind), (intPV p1.fn), (intPV p1.axis), (.dat (strD p1.name)), (.dat (.lst ((List.map intD) p1.nums))), (.dat (.lst (T_api_Tree.toDs p1.kids)))])]⟩)
def P_ref08_Same : (T_api_Tree × T_api_Tree) → Bool → Prop := fun x r => match x, r with
  | (p0, p1), r0 => ∀ H, PC prog env 12 ([(T_api_Tree.ex p0), (T_api_Tree.ex p1)].map .dat) H (boolPV r0) H
theorem g_ref08_Same_L2 : (∀ x r, m_ref08_Same_L2 x = some r → P_ref08_Same_L2 x r) ∧ (∀ x r, m_ref08_Same x = some r → P_ref08_Same x r) := by
  refine m_ref08_Same_L2.mutual_partial_correctness P_ref08_Same_L2 P_ref08_Same ?_ ?_
  · intro m_ref08_Same_L2 m_ref08_Same w_ref08_Same_L2 w_ref08_Same x r hm
    unfold P_ref08_Same_L2
    obtain ⟨p0, p1, v808⟩ := x
    intro st hst
    refine RL_at hst ?_
    clear hst
    refine R_seq ?_
    refine R_seq ?_
    refine R_G ?_
    refine G_run 3 ?_
    refine I_len T_api_Tree.toD p0.kids (es := T_api_Tree.toDs p0.kids) (T_api_Tree.toDs_eq _) ?_
    refine G_run 1 ?_
    refine G_end ?_
    refine R_ifp (p := v808 < (p0.kids.length : Int)) (rfl) (fun hc => ?_) (fun hc => ?_)
    · replace hm := pos_inv hc hm
      refine R_skip ?_
      refine R_seq ?_
      refine R_block ?_
      refine R_seq ?_
      refine R_GD ?_
      refine G_run 3 ?_
      obtain ⟨v1208, hx, hm⟩ := bind_inv hm
      refine I_idx 6 T_api_Tree.toD p0.kids v808 v1208 (es := T_api_Tree.toDs p0.kids) (d := (T_api_Tree.ex v1208)) (T_api_Tree.toDs_eq _) hx (T_api_Tree.toD_eq v1208) rfl ?_
      refine G_run 4 ?_
      obtain ⟨v1209, hx, hm⟩ := bind_inv hm
      refine I_idx 6 T_api_Tree.toD p1.kids v808 v1209 (es := T_api_Tree.toDs p1.kids) (d := (T_api_Tree.ex v1209)) (T_api_Tree.toDs_eq _) hx (T_api_Tree.toD_eq v1209) rfl ?_
      refine G_run 1 ?_
      obtain ⟨v1210, hx, hm⟩ := bind_inv hm
      have hq := w_ref08_Same _ _ hx []
      refine G_callP hq ?_
      refine G_run 1 ?_
      refine G_end ⟨by kernel_rfl, ?_⟩
      refine R_ifp (p := v1210 = false) (not_dec _) (fun hc => ?_) (fun hc => ?_)
      · replace hm := pos_inv hc hm
        refine R_seq ?_
        refine R_G ?_
        refine G_run 1 ?_
        refine G_end ?_
        refine R_ret ?_
        obtain rfl := inj1 hm
        exact ⟨rfl, cut_leaf (by kernel_rfl)⟩
      replace hm := neg_inv hc hm
      refine R_skip ?_
      refine R_G ?_
      refine G_run 3 ?_
      refine G_end ?_
      exact w_ref08_Same_L2 _ _ hm _ (by kernel_rfl)
    replace hm := neg_inv hc hm
    refine R_exit ?_
    obtain rfl := inj1 hm
    exact ⟨rfl, cut_leaf (by kernel_rfl)⟩
  · intro m_ref08_Same_L2 w_ref08_Same_L2 x r0 hm
    unfold P_ref08_Same
    obtain ⟨p0, p1⟩ := x
    intro H
    refine PC_sx (ds := [(T_api_Tree.ex p0), (T_api_Tree.ex p1)]) (fn := f12) (by kernel_rfl) (by kernel_rfl) rfl ?_ (by kernel_rfl)
    refine R_seq ?_
    refine R_G ?_
    refine G_run 3 ?_
    refine G_end ?_
    refine R_seq ?_
    refine R_seq ?_
    obtain ⟨v1, hs, hm⟩ := bind_inv hm
    refine R_cut (fun d => ⟨sl d 88 [(2, (.ptr 0 0)), (3, (.ptr 1 0)), (50, (boolPV v1))], [(.box [(intPV p0.kind), (intPV p0.fn), (intPV p0.axis), (.dat (strD p0.name)), (.dat (.lst ((List.map intD) p0.nums))), (.dat (.lst (T_api_Tree.toDs p0.kids)))]), (.box [(intPV p1.kind), (intPV p1.fn), (intPV p1.axis), (.dat (strD p1.name)), (.dat (.lst ((List.map intD) p1.nums))), (.dat (.lst (T_api_Tree.toDs p1.kids)))])]⟩) ?_ (fun d => ?_)
    · replace hm := hs
      clear hs
      refine R_GN ?_
      refine G_run 6 ?_
      obtain ⟨v2, hs, hm⟩ := bind_inv hm
      refine G_cut (j := 12) (fun d => ⟨sl d 88 [(0, (.dat (.agg [(intD p0.kind), (intD p0.fn), (intD p0.axis), (strD p0.name), (.lst ((List.map intD) p0.nums)), (.lst (T_api_Tree.toDs p0.kids))]))), (1, (.dat (.agg [(intD p1.kind), (intD p1.fn), (intD p1.axis), (strD p1.name), (.lst ((List.map intD) p1.nums)), (.lst (T_api_Tree.toDs p1.kids))]))), (2, (.ptr 0 0)), (3, (.ptr 1 0)), (4, (boolPV false)), (7, (.ptr 0 0)), (8, (intPV p0.kind)), (9, (.ptr 1 0)), (10, (intPV p1.kind)), (11, (boolPV (p0.kind != p1.kind))), (18, (boolPV v2))], [(.box [(intPV p0.kind), (intPV p0.fn), (intPV p0.axis), (.dat (strD p0.name)), (.dat (.lst ((List.map intD) p0.nums))), (.dat (.lst (T_api_Tree.toDs p0.kids)))]), (.box [(intPV p1.kind), (intPV p1.fn), (intPV p1.axis), (.dat (strD p1.name)), (.dat (.lst ((List.map intD) p1.nums))), (.dat (.lst (T_api_Tree.toDs p1.kids)))])]⟩) (fun d => ?_) (fun hJ => ?_)
      · clear hs
        refine G_run 1 ?_
        obtain ⟨v3, hs, hm⟩ := bind_inv hm
        refine G_cut (j := 19) (fun d => ⟨sl d 88 [(0, (.dat (.agg [(intD p0.kind), (intD p0.fn), (intD p0.axis), (strD p0.name), (.lst ((List.map intD) p0.nums)), (.lst (T_api_Tree.toDs p0.kids))]))), (1, (.dat (.agg [(intD p1.kind), (intD p1.fn), (intD p1.axis), (strD p1.name), (.lst ((List.map intD) p1.nums)), (.lst (T_api_Tree.toDs p1.kids))]))), (2, (.ptr 0 0)), (3, (.ptr 1 0)), (4, (boolPV false)), (7, (.ptr 0 0)), (8, (intPV p0.kind)), (9, (.ptr 1 0)), (10, (intPV p1.kind)), (11, (boolPV (p0.kind != p1.kind))), (18, (boolPV v2)), (25, (boolPV v3))], [(.box [(intPV p0.kind), (intPV p0.fn), (intPV p0.axis), (.dat (strD p0.name)), (.dat (.lst ((List.map intD) p0.nums))), (.dat (.lst (T_api_Tree.toDs p0.kids)))]), (.box [(intPV p1.kind), (intPV p1.fn), (intPV p1.axis), (.dat (strD p1.name)), (.dat (.lst ((List.map intD) p1.nums))), (.dat (.lst (T_api_Tree.toDs p1.kids)))])]⟩) (fun d => ?_) (fun hJ => ?_)
        · clear hs
          refine G_run 1 ?_
          obtain ⟨v4, hs, hm⟩ := bind_inv hm
          refine G_cut (j := 26) (fun d => ⟨sl d 88 [(0, (.dat (.agg [(intD p0.kind), (intD p0.fn), (intD p0.axis), (strD p0.name), (.lst ((List.map intD) p0.nums)), (.lst (T_api_Tree.toDs p0.kids))]))), (1, (.dat (.agg [(intD p1.kind), (intD p1.fn), (intD p1.axis), (strD p1.name), (.lst ((List.map intD) p1.nums)), (.lst (T_api_Tree.toDs p1.kids))]))), (2, (.ptr 0 0)), (3, (.ptr 1 0)), (4, (boolPV false)), (7, (.ptr 0 0)), (8, (intPV p0.kind)), (9, (.ptr 1 0)), (10, (intPV p1.kind)), (11, (boolPV (p0.kind != p1.kind))), (18, (boolPV v2)), (25, (boolPV v3)), (32, (boolPV v4))], [(.box [(intPV p0.kind), (intPV p0.fn), (intPV p0.axis), (.dat (strD p0.name)), (.dat (.lst ((List.map intD) p0.nums))), (.dat (.lst (T_api_Tree.toDs p0.kids)))]), (.box [(intPV p1.kind), (intPV p1.fn), (intPV p1.axis), (.dat (strD p1.name)), (.dat (.lst ((List.map intD) p1.nums))), (.dat (.lst (T_api_Tree.toDs p1.kids)))])]⟩) (fun d => ?_) (fun hJ => ?_)
          · clear hs
            refine G_run 1 ?_
            obtain ⟨v5, hs, hm⟩ := bind_inv hm
            refine G_cut (j := 35) (fun d => ⟨sl d 88 [(0, (.dat (.agg [(intD p0.kind), (intD p0.fn), (intD p0.axis), (strD p0.name), (.lst ((List.map intD) p0.nums)), (.lst (T_api_Tree.toDs p0.kids))]))), (1, (.dat (.agg [(intD p1.kind), (intD p1.fn), (intD p1.axis), (strD p1.name), (.lst ((List.map intD) p1.nums)), (.lst (T_api_Tree.toDs p1.kids))]))), (2, (.ptr 0 0)), (3, (.ptr 1 0)), (4, (boolPV false)), (7, (.ptr 0 0)), (8, (intPV p0.kind)), (9, (.ptr 1 0)), (10, (intPV p1.kind)), (11, (boolPV (p0.kind != p1.kind))), (18, (boolPV v2)), (25, (boolPV v3)), (32, (boolPV v4)), (41, (boolPV v5))], [(.box [(intPV p0.kind), (intPV p0.fn), (intPV p0.axis), (.dat (strD p0.name)), (.dat (.lst ((List.map intD) p0.nums))), (.dat (.lst (T_api_Tree.toDs p0.kids)))]), (.box [(intPV p1.kind), (intPV p1.fn), (intPV p1.axis), (.dat (strD p1.name)), (.dat (.lst ((List.map intD) p1.nums))), (.dat (.lst (T_api_Tree.toDs p1.kids)))])]⟩) (fun d => ?_) (fun hJ => ?_)
            · clear hs
              refine G_run 1 ?_
              refine G_split (p := v5 = true) 42 (bool_dec _) (fun hc => ?_) (fun hc => ?_)
              · replace hm := pos_inv hc hm
                refine G_run 8 ?_
                refine G_end ⟨by kernel_rfl, ?_⟩
                obtain rfl := inj1 hm
                exact cut_leaf (by kernel_rfl)
              replace hm := neg_inv hc hm
              refine G_run 2 ?_
              refine I_len T_api_Tree.toD p0.kids (es := T_api_Tree.toDs p0.kids) (T_api_Tree.toDs_eq _) ?_
              refine G_run 2 ?_
              refine I_len T_api_Tree.toD p1.kids (es := T_api_Tree.toDs p1.kids) (T_api_Tree.toDs_eq _) ?_
              refine G_run 2 ?_
              refine G_end ⟨by kernel_rfl, ?_⟩
              obtain rfl := inj1 hm
              exact cut_leaf (by kernel_rfl)
            replace hm := hs
            clear hs
            refine G_split (p := v4 = true) 33 (bool_dec _) (fun hc => ?_) (fun hc => ?_)
            · replace hm := pos_inv hc hm
              refine G_run 8 ?_
              obtain rfl := inj1 hm
              exact hJ _ _ (by kernel_rfl) (by kernel_rfl)
            replace hm := neg_inv hc hm
            refine G_run 2 ?_
            refine I_len intD p0.nums (es := (List.map intD) p0.nums) rfl ?_
            refine G_run 2 ?_
            refine I_len intD p1.nums (es := (List.map intD) p1.nums) rfl ?_
            refine G_run 2 ?_
            obtain rfl := inj1 hm
            exact hJ _ _ (by kernel_rfl) (by kernel_rfl)
          replace hm := hs
          clear hs
          refine G_split (p := v3 = true) 26 (bool_dec _) (fun hc => ?_) (fun hc => ?_)
          · replace hm := pos_inv hc hm
            refine G_run 6 ?_
            obtain rfl := inj1 hm
            exact hJ _ _ (by kernel_rfl) (by kernel_rfl)
          replace hm := neg_inv hc hm
          refine G_run 4 ?_
          refine G_semN rfl (by kernel_rfl) (fun _ => E_neqStr (a := p0.name) (b := p1.name) rfl (by kernel_rfl) (by kernel_rfl)) ?_
          refine G_run 1 ?_
          obtain rfl := inj1 hm
          exact hJ _ _ (by kernel_rfl) (by kernel_rfl)
        replace hm := hs
        clear hs
        refine G_split (p := v2 = true) 19 (bool_dec _) (fun hc => ?_) (fun hc => ?_)
        · replace hm := pos_inv hc hm
          refine G_run 6 ?_
          obtain rfl := inj1 hm
          exact hJ _ _ (by kernel_rfl) (by kernel_rfl)
        replace hm := neg_inv hc hm
        refine G_run 6 ?_
        obtain rfl := inj1 hm
        exact hJ _ _ (by kernel_rfl) (by kernel_rfl)
      replace hm := hs
      clear hs
      refine G_split (p := p0.kind ≠ p1.kind) 12 (ne_dec _ _) (fun hc => ?_) (fun hc => ?_)
      · replace hm := pos_inv hc hm
        refine G_run 6 ?_
        obtain rfl := inj1 hm
        exact hJ _ _ (by kernel_rfl) (by kernel_rfl)
      replace hm := neg_inv hc hm
      refine G_run 6 ?_
      obtain rfl := inj1 hm
      exact hJ _ _ (by kernel_rfl) (by kernel_rfl)
    clear hs
    refine R_ifp (p := v1 = true) (bool_dec _) (fun hc => ?_) (fun hc => ?_)
    · replace hm := pos_inv hc hm
      refine R_seq ?_
      refine R_G ?_
      refine G_run 1 ?_
      refine G_end ?_
      refine R_ret ?_
      obtain rfl := inj1 hm
      exact ⟨trivial, fin_pure (by kernel_rfl)⟩
    replace hm := neg_inv hc hm
    refine R_skip ?_
    refine R_seq ?_
    refine R_seq ?_
    refine R_G ?_
    refine G_run 1 ?_
    refine G_end ?_
    refine R_block ?_
    obtain ⟨out, hs, hm⟩ := bind_inv hm
    refine R_loop ?_
    rcases out with _ | _
    · refine RL_use (w_ref08_Same_L1 _ _ hs) (by kernel_rfl) ?_
      clear hs
      intro e s hp
      obtain ⟨rfl, d, rfl⟩ := hp
      obtain rfl := inj1 hm
      exact ⟨trivial, fin_pure (by kernel_rfl)⟩
    · refine RL_use (w_ref08_Same_L1 _ _ hs) (by kernel_rfl) ?_
      clear hs
      intro e s hp
      obtain ⟨rfl, d, rfl⟩ := hp
      refine R_seq ?_
      refine R_seq ?_
      refine R_G ?_
      refine G_run 1 ?_
      refine G_end ?_
      refine R_block ?_
      obtain ⟨out, hs, hm⟩ := bind_inv hm
      refine R_loop ?_
      rcases out with _ | _
      · refine RL_use (w_ref08_Same_L2 _ _ hs) (by kernel_rfl) ?_
        clear hs
        intro e s hp
        obtain ⟨rfl, d, rfl⟩ := hp
        obtain rfl := inj1 hm
        exact ⟨trivial, fin_pure (by kernel_rfl)⟩
      · refine RL_use (w_ref08_Same_L2 _ _ hs) (by kernel_rfl) ?_
        clear hs
        intro e s hp
        obtain ⟨rfl, d, rfl⟩ := hp
        refine R_seq ?_
        refine R_G ?_
        refine G_run 1 ?_
        refine G_end ?_
        refine R_ret ?_
        obtain rfl := inj1 hm
        exact ⟨trivial, fin_pure (by kernel_rfl)⟩
theorem w_ref08_Same_L2 : ∀ x r, m_ref08_Same_L2 x = some r → P_ref08_Same_L2 x r := g_ref08_Same_L2.1
theorem w_ref08_Same : ∀ x r, m_ref08_Same x = some r → P_ref08_Same x r := g_ref08_Same_L2.2
end Go.Proofs.Tryd
namespace Go.Proofs.Tryd
open Go Go.Pm
set_option linter.unusedVariables false
set_option maxHeartbeats 2000000
set_option maxRecDepth 2000
def m_simplify_Count (x : T_api_Tree) : Option Int :=
  match x with
  | p0 =>
  m_simplify_simplified p0 >>= fun ((v1, v2) : (T_api_Tree × Int)) =>
  some v2
def P_simplify_Count : T_api_Tree → Int → Prop := fun x r => match x, r with
  | p0, r0 => ∀ H, PC prog env 14 ([(T_api_Tree.ex p0)].map .dat) H (intPV r0) H
theorem w_simplify_Count : ∀ x r, m_simplify_Count x = some r → P_simplify_Count x r := by
  intro p0 r0 hm
  unfold m_simplify_Count at hm
  unfold P_simplify_Count
  intro H
  refine PC_sx (ds := [(T_api_Tree.ex p0)]) (fn := f14) (by kernel_rfl) (by kernel_rfl) rfl ?_ (by kernel_rfl)
  refine R_seq ?_
  refine R_G ?_
  refine G_run 2 ?_
  refine G_end ?_
  refine R_seq ?_
  refine R_G ?_
  refine G_run 1 ?_
  obtain ⟨⟨v1, v2⟩, hx, hm⟩ := bind_inv hm
  have hq := w_simplify_simplified _ _ hx []
  refine G_callP hq ?_
  refine G_run 6 ?_
  refine G_end ?_
  refine R_seq ?_
  refine R_G ?_
  refine G_run 2 ?_
  refine G_end ?_
  refine R_ret ?_
  obtain rfl := inj1 hm
  exact ⟨trivial, fin_pure (by kernel_rfl)⟩
end Go.Proofs.Tryd
namespace Go.Proofs.Tryd
open Go Go.Pm
set_option linter.unusedVariables false
set_option maxHeartbeats 2000000
set_option maxRecDepth 2000
def m_law29_awake (x : Unit) : Option Bool :=
  match x with
  | _ =>
  m_ref09_Text (⟨#[226, 140, 189, 226, 140, 189, 50, 32, 51, 226, 141, 180, 44, 120]⟩ : ByteArray) >>= fun ((v1, v2) : (T_api_Tree × Int)) =>
  m_simplify_Rule (⟨v1.kind, v1.fn, v1.axis, v1.name, v1.nums, v1.kids⟩ : T_api_Tree) >>= fun ((v3, v4) : (T_api_Tree × Int)) =>
  m_simplify_Simplify v1 >>= fun (v5 : T_api_Tree) =>
  m_ref09_Text (⟨#[50, 32, 51, 226, 141, 180, 120]⟩ : ByteArray) >>= fun ((v6, v7) : (T_api_Tree × Int)) =>
  (if v4 = 1 then
    some (v3.kind == 4)
  else
  some false
  ) >>= fun (v8 : Bool) =>
  (if v8 = true then
    m_ref08_Same ((⟨v5.kind, v5.fn, v5.axis, v5.name, v5.nums, v5.kids⟩ : T_api_Tree), (⟨v6.kind, v6.fn, v6.axis, v6.name, v6.nums, v6.kids⟩ : T_api_Tree)) >>= fun (v10 : Bool) =>
    some v10
  else
  some false
  ) >>= fun (v9 : Bool) =>
  (if v9 = true then
    m_simplify_Count v1 >>= fun (v12 : Int) =>
    some (v12 == 2)
  else
  some false
  ) >>= fun (v11 : Bool) =>
  if v11 = true then
    m_simplify_Count (⟨v5.kind, v5.fn, v5.axis, v5.name, v5.nums, v5.kids⟩ : T_api_Tree) >>= fun (v13 : Int) =>
    some (v13 == 0)
  else
  some false
def P_law29_awake : Unit → Bool → Prop := fun x r => match x, r with
  | _, r0 => ∀ H, PC prog env 7 ([].map .dat) H (boolPV r0) H
theorem w_law29_awake : ∀ x r, m_law29_awake x = some r → P_law29_awake x r := by
  intro x r0 hm
  unfold m_law29_awake at hm
  unfold P_law29_awake
  intro H
  refine PC_sx (ds := []) (fn := f7) (by kernel_rfl) (by kernel_rfl) rfl ?_ (by kernel_rfl)
  refine R_seq ?_
  refine R_G ?_
  refine G_run 1 ?_
  refine G_end ?_
  refine R_seq ?_
  refine R_G ?_
  obtain ⟨⟨v1, v2⟩, hx, hm⟩ := bind_inv hm
  have hq := w_ref09_Text _ _ hx []
  refine G_callP hq ?_
  refine G_run 6 ?_
  refine G_end ?_
  refine R_seq ?_
  refine R_G ?_
  refine G_run 1 ?_
  obtain ⟨⟨v3, v4⟩, hx, hm⟩ := bind_inv hm
  have hq := w_simplify_Rule _ _ hx []
  refine G_callP hq ?_
  refine G_run 6 ?_
  refine G_end ?_
  refine R_seq ?_
  refine R_G ?_
  refine G_run 1 ?_
  obtain ⟨v5, hx, hm⟩ := bind_inv hm
  have hq := w_simplify_Simplify _ _ hx []
  refine G_callP hq ?_
  refine G_run 2 ?_
  refine G_end ?_
  refine R_seq ?_
  refine R_G ?_
  obtain ⟨⟨v6, v7⟩, hx, hm⟩ := bind_inv hm
  have hq := w_ref09_Text _ _ hx []
  refine G_callP hq ?_
  refine G_run 6 ?_
  refine G_end ?_
  refine R_seq ?_
  refine R_GN ?_
  refine G_run 3 ?_
  obtain ⟨v8, hs, hm⟩ := bind_inv hm
  refine G_cut (j := 7) (fun d => ⟨sl d 45 [(0, (boolPV false)), (1, (.ptr 0 0)), (2, (intPV v2)), (3, (.ptr 1 0)), (4, (intPV v4)), (5, (.ptr 2 0)), (6, (.ptr 3 0)), (7, (intPV v7)), (8, (.tup [(.dat (.agg [(intD v1.kind), (intD v1.fn), (intD v1.axis), (strD v1.name), (.lst ((List.map intD) v1.nums)), (.lst (T_api_Tree.toDs v1.kids))])), (intPV v2)])), (9, (.tup [(.dat (.agg [(intD v1.kind), (intD v1.fn), (intD v1.axis), (strD v1.name), (.lst ((List.map intD) v1.nums)), (.lst (T_api_Tree.toDs v1.kids))])), (intPV v2)])), (10, (.dat (.agg [(intD v1.kind), (intD v1.fn), (intD v1.axis), (strD v1.name), (.lst ((List.map intD) v1.nums)), (.lst (T_api_Tree.toDs v1.kids))]))), (11, (intPV v2)), (12, (.tup [(.dat (.agg [(intD v3.kind), (intD v3.fn), (intD v3.axis), (strD v3.name), (.lst ((List.map intD) v3.nums)), (.lst (T_api_Tree.toDs v3.kids))])), (intPV v4)])), (13, (.dat (.agg [(intD v1.kind), (intD v1.fn), (intD v1.axis), (strD v1.name), (.lst ((List.map intD) v1.nums)), (.lst (T_api_Tree.toDs v1.kids))]))), (14, (.tup [(.dat (.agg [(intD v3.kind), (intD v3.fn), (intD v3.axis), (strD v3.name), (.lst ((List.map intD) v3.nums)), (.lst (T_api_Tree.toDs v3.kids))])), (intPV v4)])), (15, (.dat (.agg [(intD v3.kind), (intD v3.fn), (intD v3.axis), (strD v3.name), (.lst ((List.map intD) v3.nums)), (.lst (T_api_Tree.toDs v3.kids))]))), (16, (intPV v4)), (17, (.dat (.agg [(intD v1.kind), (intD v1.fn), (intD v1.axis), (strD v1.name), (.lst ((List.map intD) v1.nums)), (.lst (T_api_Tree.toDs v1.kids))]))), (18, (.dat (.agg [(intD v5.kind), (intD v5.fn), (intD v5.axis), (strD v5.name), (.lst ((List.map intD) v5.nums)), (.lst (T_api_Tree.toDs v5.kids))]))), (19, (.tup [(.dat (.agg [(intD v6.kind), (intD v6.fn), (intD v6.axis), (strD v6.name), (.lst ((List.map intD) v6.nums)), (.lst (T_api_Tree.toDs v6.kids))])), (intPV v7)])), (20, (.tup [(.dat (.agg [(intD v6.kind), (intD v6.fn), (intD v6.axis), (strD v6.name), (.lst ((List.map intD) v6.nums)), (.lst (T_api_Tree.toDs v6.kids))])), (intPV v7)])), (21, (.dat (.agg [(intD v6.kind), (intD v6.fn), (intD v6.axis), (strD v6.name), (.lst ((List.map intD) v6.nums)), (.lst (T_api_Tree.toDs v6.kids))]))), (22, (intPV v7)), (23, (intPV v4)), (24, (boolPV (v4 == 1))), (29, (boolPV v8))], [(.box [(intPV v1.kind), (intPV v1.fn), (intPV v1.axis), (.dat (strD v1.name)), (.dat (.lst ((List.map intD) v1.nums))), (.dat (.lst (T_api_Tree.toDs v1.kids)))]), (.box [(intPV v3.kind), (intPV v3.fn), (intPV v3.axis), (.dat (strD v3.name)), (.dat (.lst ((List.map intD) v3.nums))), (.dat (.lst (T_api_Tree.toDs v3.kids)))]), (.box [(intPV v5.kind), (intPV v5.fn), (intPV v5.axis), (.dat (strD v5.name)), (.dat (.lst ((List.map intD) v5.nums))), (.dat (.lst (T_api_Tree.toDs v5.kids)))]), (.box [(intPV v6.kind), (intPV v6.fn), (intPV v6.axis), (.dat (strD v6.name)), (.dat (.lst ((List.map intD) v6.nums))), (.dat (.lst (T_api_Tree.toDs v6.kids)))])]⟩) (fun d => ?_) (fun hJ => ?_)
  · clear hs
    refine G_run 1 ?_
    obtain ⟨v9, hs, hm⟩ := bind_inv hm
    refine G_cut (j := 12) (fun d => ⟨sl d 45 [(0, (boolPV false)), (1, (.ptr 0 0)), (2, (intPV v2)), (3, (.ptr 1 0)), (4, (intPV v4)), (5, (.ptr 2 0)), (6, (.ptr 3 0)), (7, (intPV v7)), (8, (.tup [(.dat (.agg [(intD v1.kind), (intD v1.fn), (intD v1.axis), (strD v1.name), (.lst ((List.map intD) v1.nums)), (.lst (T_api_Tree.toDs v1.kids))])), (intPV v2)])), (9, (.tup [(.dat (.agg [(intD v1.kind), (intD v1.fn), (intD v1.axis), (strD v1.name), (.lst ((List.map intD) v1.nums)), (.lst (T_api_Tree.toDs v1.kids))])), (intPV v2)])), (10, (.dat (.agg [(intD v1.kind), (intD v1.fn), (intD v1.axis), (strD v1.name), (.lst ((List.map intD) v1.nums)), (.lst (T_api_Tree.toDs v1.kids))]))), (11, (intPV v2)), (12, (.tup [(.dat (.agg [(intD v3.kind), (intD v3.fn), (intD v3.axis), (strD v3.name), (.lst ((List.map intD) v3.nums)), (.lst (T_api_Tree.toDs v3.kids))])), (intPV v4)])), (13, (.dat (.agg [(intD v1.kind), (intD v1.fn), (intD v1.axis), (strD v1.name), (.lst ((List.map intD) v1.nums)), (.lst (T_api_Tree.toDs v1.kids))]))), (14, (.tup [(.dat (.agg [(intD v3.kind), (intD v3.fn), (intD v3.axis), (strD v3.name), (.lst ((List.map intD) v3.nums)), (.lst (T_api_Tree.toDs v3.kids))])), (intPV v4)])), (15, (.dat (.agg [(intD v3.kind), (intD v3.fn), (intD v3.axis), (strD v3.name), (.lst ((List.map intD) v3.nums)), (.lst (T_api_Tree.toDs v3.kids))]))), (16, (intPV v4)), (17, (.dat (.agg [(intD v1.kind), (intD v1.fn), (intD v1.axis), (strD v1.name), (.lst ((List.map intD) v1.nums)), (.lst (T_api_Tree.toDs v1.kids))]))), (18, (.dat (.agg [(intD v5.kind), (intD v5.fn), (intD v5.axis), (strD v5.name), (.lst ((List.map intD) v5.nums)), (.lst (T_api_Tree.toDs v5.kids))]))), (19, (.tup [(.dat (.agg [(intD v6.kind), (intD v6.fn), (intD v6.axis), (strD v6.name), (.lst ((List.map intD) v6.nums)), (.lst (T_api_Tree.toDs v6.kids))])), (intPV v7)])), (20, (.tup [(.dat (.agg [(intD v6.kind), (intD v6.fn), (intD v6.axis), (strD v6.name), (.lst ((List.map intD) v6.nums)), (.lst (T_api_Tree.toDs v6.kids))])), (intPV v7)])), (21, (.dat (.agg [(intD v6.kind), (intD v6.fn), (intD v6.axis), (strD v6.name), (.lst ((List.map intD) v6.nums)), (.lst (T_api_Tree.toDs v6.kids))]))), (22, (intPV v7)), (23, (intPV v4)), (24, (boolPV (v4 == 1))), (29, (boolPV v8)), (34, (boolPV v9))], [(.box [(intPV v1.kind), (intPV v1.fn), (intPV v1.axis), (.dat (strD v1.name)), (.dat (.lst ((List.map intD) v1.nums))), (.dat (.lst (T_api_Tree.toDs v1.kids)))]), (.box [(intPV v3.kind), (intPV v3.fn), (intPV v3.axis), (.dat (strD v3.name)), (.dat (.lst ((List.map intD) v3.nums))), (.dat (.lst (T_api_Tree.toDs v3.kids)))]), (.box [(intPV v5.kind), (intPV v5.fn), (intPV v5.axis), (.dat (strD v5.name)), (.dat (.lst ((List.map intD) v5.nums))), (.dat (.lst (T_api_Tree.toDs v5.kids)))]), (.box [(intPV v6.kind), (intPV v6.fn), (intPV v6.axis), (.dat (strD v6.name)), (.dat (.lst ((List.map intD) v6.nums))), (.dat (.lst (T_api_Tree.toDs v6.kids)))])]⟩) (fun d => ?_) (fun hJ => ?_)
    · clear hs
      refine G_run 1 ?_
      obtain ⟨v11, hs, hm⟩ := bind_inv hm
      refine G_cut (j := 17) (fun d => ⟨sl d 45 [(0, (boolPV false)), (1, (.ptr 0 0)), (2, (intPV v2)), (3, (.ptr 1 0)), (4, (intPV v4)), (5, (.ptr 2 0)), (6, (.ptr 3 0)), (7, (intPV v7)), (8, (.tup [(.dat (.agg [(intD v1.kind), (intD v1.fn), (intD v1.axis), (strD v1.name), (.lst ((List.map intD) v1.nums)), (.lst (T_api_Tree.toDs v1.kids))])), (intPV v2)])), (9, (.tup [(.dat (.agg [(intD v1.kind), (intD v1.fn), (intD v1.axis), (strD v1.name), (.lst ((List.map intD) v1.nums)), (.lst (T_api_Tree.toDs v1.kids))])), (intPV v2)])), (10, (.dat (.agg [(intD v1.kind), (intD v1.fn), (intD v1.axis), (strD v1.name), (.lst ((List.map intD) v1.nums)), (.lst (T_api_Tree.toDs v1.kids))]))), (11, (intPV v2)), (12, (.tup [(.dat (.agg [(intD v3.kind), (intD v3.fn), (intD v3.axis), (strD v3.name), (.lst ((List.map intD) v3.nums)), (.lst (T_api_Tree.toDs v3.kids))])), (intPV v4)])), (13, (.dat (.agg [(intD v1.kind), (intD v1.fn), (intD v1.axis), (strD v1.name), (.lst ((List.map intD) v1.nums)), (.lst (T_api_Tree.toDs v1.kids))]))), (14, (.tup [(.dat (.agg [(intD v3.kind), (intD v3.fn), (intD v3.axis), (strD v3.name), (.lst ((List.map intD) v3.nums)), (.lst (T_api_Tree.toDs v3.kids))])), (intPV v4)])), (15, (.dat (.agg [(intD v3.kind), (intD v3.fn), (intD v3.axis), (strD v3.name), (.lst ((List.map intD) v3.nums)), (.lst (T_api_Tree.toDs v3.kids))]))), (16, (intPV v4)), (17, (.dat (.agg [(intD v1.kind), (intD v1.fn), (intD v1.axis), (strD v1.name), (.lst ((List.map intD) v1.nums)), (.lst (T_api_Tree.toDs v1.kids))]))), (18, (.dat (.agg [(intD v5.kind), (intD v5.fn), (intD v5.axis), (strD v5.name), (.lst ((List.map intD) v5.nums)), (.lst (T_api_Tree.toDs v5.kids))]))), (19, (.tup [(.dat (.agg [(intD v6.kind), (intD v6.fn), (intD v6.axis), (strD v6.name), (.lst ((List.map intD) v6.nums)), (.lst (T_api_Tree.toDs v6.kids))])), (intPV v7)])), (20, (.tup [(.dat (.agg [(intD v6.kind), (intD v6.fn), (intD v6.axis), (strD v6.name), (.lst ((List.map intD) v6.nums)), (.lst (T_api_Tree.toDs v6.kids))])), (intPV v7)])), (21, (.dat (.agg [(intD v6.kind), (intD v6.fn), (intD v6.axis), (strD v6.name), (.lst ((List.map intD) v6.nums)), (.lst (T_api_Tree.toDs v6.kids))]))), (22, (intPV v7)), (23, (intPV v4)), (24, (boolPV (v4 == 1))), (29, (boolPV v8)), (34, (boolPV v9)), (39, (boolPV v11))], [(.box [(intPV v1.kind), (intPV v1.fn), (intPV v1.axis), (.dat (strD v1.name)), (.dat (.lst ((List.map intD) v1.nums))), (.dat (.lst (T_api_Tree.toDs v1.kids)))]), (.box [(intPV v3.kind), (intPV v3.fn), (intPV v3.axis), (.dat (strD v3.name)), (.dat (.lst ((List.map intD) v3.nums))), (.dat (.lst (T_api_Tree.toDs v3.kids)))]), (.box [(intPV v5.kind), (intPV v5.fn), (intPV v5.axis), (.dat (strD v5.name)), (.dat (.lst ((List.map intD) v5.nums))), (.dat (.lst (T_api_Tree.toDs v5.kids)))]), (.box [(intPV v6.kind), (intPV v6.fn), (intPV v6.axis), (.dat (strD v6.name)), (.dat (.lst ((List.map intD) v6.nums))), (.dat (.lst (T_api_Tree.toDs v6.kids)))])]⟩) (fun d => ?_) (fun hJ => ?_)
      · clear hs
        refine G_run 1 ?_
        refine G_split (p := v11 = true) 40 (bool_dec _) (fun hc => ?_) (fun hc => ?_)
        · replace hm := pos_inv hc hm
          refine G_run 1 ?_
          obtain ⟨v13, hx, hm⟩ := bind_inv hm
          have hq := w_simplify_Count _ _ hx []
          refine G_callP hq ?_
          refine G_run 3 ?_
          refine G_end ⟨by kernel_rfl, ?_⟩
          refine R_ret ?_
          obtain rfl := inj1 hm
          exact ⟨trivial, fin_pure (by kernel_rfl)⟩
        replace hm := neg_inv hc hm
        refine G_run 5 ?_
        refine G_end ⟨by kernel_rfl, ?_⟩
        refine R_ret ?_
        obtain rfl := inj1 hm
        exact ⟨trivial, fin_pure (by kernel_rfl)⟩
      replace hm := hs
      clear hs
      refine G_split (p := v9 = true) 35 (bool_dec _) (fun hc => ?_) (fun hc => ?_)
      · replace hm := pos_inv hc hm
        refine G_run 1 ?_
        obtain ⟨v12, hx, hm⟩ := bind_inv hm
        have hq := w_simplify_Count _ _ hx []
        refine G_callP hq ?_
        refine G_run 2 ?_
        obtain rfl := inj1 hm
        exact hJ _ _ (by kernel_rfl) (by kernel_rfl)
      replace hm := neg_inv hc hm
      refine G_run 4 ?_
      obtain rfl := inj1 hm
      exact hJ _ _ (by kernel_rfl) (by kernel_rfl)
    replace hm := hs
    clear hs
    refine G_split (p := v8 = true) 30 (bool_dec _) (fun hc => ?_) (fun hc => ?_)
    · replace hm := pos_inv hc hm
      refine G_run 2 ?_
      obtain ⟨v10, hx, hm⟩ := bind_inv hm
      have hq := w_ref08_Same _ _ hx []
      refine G_callP hq ?_
      refine G_run 1 ?_
      obtain rfl := inj1 hm
      exact hJ _ _ (by kernel_rfl) (by kernel_rfl)
    replace hm := neg_inv hc hm
    refine G_run 4 ?_
    obtain rfl := inj1 hm
    exact hJ _ _ (by kernel_rfl) (by kernel_rfl)
  replace hm := hs
  clear hs
  refine G_split (p := v4 = 1) 25 (eq_dec _ _) (fun hc => ?_) (fun hc => ?_)
  · replace hm := pos_inv hc hm
    refine G_run 4 ?_
    obtain rfl := inj1 hm
    exact hJ _ _ (by kernel_rfl) (by kernel_rfl)
  replace hm := neg_inv hc hm
  refine G_run 4 ?_
  obtain rfl := inj1 hm
  exact hJ _ _ (by kernel_rfl) (by kernel_rfl)
end Go.Proofs.Tryd
namespace Go.Proofs.Tryd
open Go Go.Pm
set_option linter.unusedVariables false
set_option maxHeartbeats 2000000
set_option maxRecDepth 2000
mutual
def m_ref08_left_L1 (x : (T_api_Tree × Int × Int)) : Option (Int) :=
  match x with
  | (p0, v201, v202) =>
  (if v202 < (p0.kids.length : Int) then
    some (decide (v201 ≥ 0))
  else
  some false
  ) >>= fun (v602 : Bool) =>
  if v602 = true then
    idx p0.kids v202 >>= fun v603 =>
    m_ref08_left (v603, v201) >>= fun (v604 : Int) =>
    m_ref08_left_L1 (p0, v604, (W (v202 + 1)))
  else
  some v201
  partial_fixpoint
def m_ref08_left (x : (T_api_Tree × Int)) : Option Int :=
  match x with
  | (p0, p1) =>
  m_ref08_left_L1 (p0, (W (p1 - 1)), 0) >>= fun (v601 : Int) =>
  some v601
  partial_fixpoint
end
def P_ref08_left_L1 : (T_api_Tree × Int × Int) → Int → Prop := fun x r => match x with
  | (p0, v201, v202) => ∀ st, prune 1 ((firstRegion (codeAt [1, 1, 0, 1, 0, 0] (bodyOf f26))).bind (env.hint 26).keepAt) st = ⟨kp 27 [(1, (intPV v201)), (2, (.ptr 0 0)), (5, (intPV v202))], [(.box [(intPV p0.kind), (intPV p0.fn), (intPV p0.axis), (.dat (strD p0.name)), (.dat (.lst ((List.map intD) p0.nums))), (.dat (.lst (T_api_Tree.toDs p0.kids)))])]⟩ →
    RL prog env (env.hint 26) true (codeAt [1, 1, 0, 1, 0, 0] (bodyOf f26)) 1 st (fun e s => match r with | v601 => e = .exit 0 ∧ ∃ d, s = ⟨sl d 27 [(1, (intPV v601))], [(.box [(intPV p0.kind), (intPV p0.fn), (intPV p0.axis), (.dat (strD p0.name)), (.dat (.lst ((List.map intD) p0.nums))), (.dat (.lst (T_api_Tree.toDs p0.kids)))])]⟩)
def P_ref08_left : (T_api_Tree × Int) → Int → Prop := fun x r => match x, r with
  | (p0, p1), r0 => ∀ H, PC prog env 26 ([(T_api_Tree.ex p0), (intD p1)].map .dat) H (intPV r0) H
theorem g_ref08_left_L1 : (∀ x r, m_ref08_left_L1 x = some r → P_ref08_left_L1 x r) ∧ (∀ x r, m_ref08_left x = some r → P_ref08_left x r) := by
  refine m_ref08_left_L1.mutual_partial_correctness P_ref08_left_L1 P_ref08_left ?_ ?_
  · intro m_ref08_left_L1 m_ref08_left w_ref08_left_L1 w_ref08_left x r hm
    unfold P_ref08_left_L1
    obtain ⟨p0, v201, v202⟩ := x
    intro st hst
    refine RL_at hst ?_
    clear hst
    refine R_seq ?_
    refine R_seq ?_
    obtain ⟨v602, hs, hm⟩ := bind_inv hm
    refine R_cut (fun d => ⟨sl d 27 [(1, (intPV v201)), (2, (.ptr 0 0)), (5, (intPV v202)), (16, (boolPV v602))], [(.box [(intPV p0.kind), (intPV p0.fn), (intPV p0.axis), (.dat (strD p0.name)), (.dat (.lst ((List.map intD) p0.nums))), (.dat (.lst (T_api_Tree.toDs p0.kids)))])]⟩) ?_ (fun d => ?_)
    · replace hm := hs
      clear hs
      refine R_G ?_
      refine G_run 3 ?_
      refine I_len T_api_Tree.toD p0.kids (es := T_api_Tree.toDs p0.kids) (T_api_Tree.toDs_eq _) ?_
      refine G_run 2 ?_
      refine G_split (p := v202 < (p0.kids.length : Int)) 13 (rfl) (fun hc => ?_) (fun hc => ?_)
      · replace hm := pos_inv hc hm
        refine G_run 3 ?_
        refine G_end ?_
        obtain rfl := inj1 hm
        exact cut_leaf (by kernel_rfl)
      replace hm := neg_inv hc hm
      refine G_run 3 ?_
      refine G_end ?_
      obtain rfl := inj1 hm
      exact cut_leaf (by kernel_rfl)
    clear hs
    refine R_ifp (p := v602 = true) (bool_dec _) (fun hc => ?_) (fun hc => ?_)
    · replace hm := pos_inv hc hm
      refine R_skip ?_
      refine R_seq ?_
      refine R_block ?_
      refine R_G ?_
      refine G_run 3 ?_
      obtain ⟨v603, hx, hm⟩ := bind_inv hm
      refine I_idx 6 T_api_Tree.toD p0.kids v202 v603 (es := T_api_Tree.toDs p0.kids) (d := (T_api_Tree.ex v603)) (T_api_Tree.toDs_eq _) hx (T_api_Tree.toD_eq v603) rfl ?_
      refine G_run 2 ?_
      obtain ⟨v604, hx, hm⟩ := bind_inv hm
      have hq := w_ref08_left _ _ hx []
      refine G_callP hq ?_
      refine G_run 1 ?_
      refine G_end ?_
      refine R_G ?_
      refine G_run 3 ?_
      refine G_end ?_
      exact w_ref08_left_L1 _ _ hm _ (by kernel_rfl)
    replace hm := neg_inv hc hm
    refine R_exit ?_
    obtain rfl := inj1 hm
    exact ⟨rfl, cut_leaf (by kernel_rfl)⟩
  · intro m_ref08_left_L1 w_ref08_left_L1 x r0 hm
    unfold P_ref08_left
    obtain ⟨p0, p1⟩ := x
    intro H
    refine PC_sx (ds := [(T_api_Tree.ex p0), (intD p1)]) (fn := f26) (by kernel_rfl) (by kernel_rfl) rfl ?_ (by kernel_rfl)
    refine R_seq ?_
    refine R_G ?_
    refine G_run 2 ?_
    refine G_end ?_
    refine R_seq ?_
    refine R_G ?_
    refine G_run 3 ?_
    refine G_end ?_
    refine R_seq ?_
    refine R_seq ?_
    refine R_G ?_
    refine G_run 1 ?_
    refine G_end ?_
    refine R_block ?_
    obtain ⟨v601, hs, hm⟩ := bind_inv hm
    refine R_loop ?_
    refine RL_use (w_ref08_left_L1 _ _ hs) (by kernel_rfl) ?_
    clear hs
    intro e s hp
    obtain ⟨rfl, d, rfl⟩ := hp
    refine R_seq ?_
    refine R_G ?_
    refine G_run 2 ?_
    refine G_end ?_
    refine R_ret ?_
    obtain rfl := inj1 hm
    exact ⟨trivial, fin_pure (by kernel_rfl)⟩
theorem w_ref08_left_L1 : ∀ x r, m_ref08_left_L1 x = some r → P_ref08_left_L1 x r := g_ref08_left_L1.1
theorem w_ref08_left : ∀ x r, m_ref08_left x = some r → P_ref08_left x r := g_ref08_left_L1.2
end Go.Proofs.Tryd
namespace Go.Proofs.Tryd
open Go Go.Pm
set_option linter.unusedVariables false
set_option maxHeartbeats 2000000
set_option maxRecDepth 2000
mutual
def m_ref08_Depth_L1 (x : (T_api_Tree × Int × Int)) : Option (Int) :=
  match x with
  | (p0, v201, v202) =>
  if v202 < (p0.kids.length : Int) then
    idx p0.kids v202 >>= fun v602 =>
    m_ref08_Depth v602 >>= fun (v603 : Int) =>
    m_ref08_Depth_L1 (p0, (if v201 < v603 then v603 else v201), (W (v202 + 1)))
  else
  some v201
  partial_fixpoint
def m_ref08_Depth (x : T_api_Tree) : Option Int :=
  match x with
  | p0 =>
  m_ref08_Depth_L1 (p0, 0, 0) >>= fun (v601 : Int) =>
  some (W (v601 + 1))
  partial_fixpoint
end
def P_ref08_Depth_L1 : (T_api_Tree × Int × Int) → Int → Prop := fun x r => match x with
  | (p0, v201, v202) => ∀ st, prune 1 ((firstRegion (codeAt [1, 1, 0, 1, 0, 0] (bodyOf f27))).bind (env.hint 27).keepAt) st = ⟨kp 22 [(1, (.ptr 0 0)), (3, (intPV v201)), (4, (intPV v202))], [(.box [(intPV p0.kind), (intPV p0.fn), (intPV p0.axis), (.dat (strD p0.name)), (.dat (.lst ((List.map intD) p0.nums))), (.dat (.lst (T_api_Tree.toDs p0.kids)))])]⟩ →
    RL prog env (env.hint 27) true (codeAt [1, 1, 0, 1, 0, 0] (bodyOf f27)) 1 st (fun e s => match r with | v601 => e = .exit 0 ∧ ∃ d, s = ⟨sl d 22 [(3, (intPV v601))], [(.box [(intPV p0.kind), (intPV p0.fn), (intPV p0.axis), (.dat (strD p0.name)), (.dat (.lst ((List.map intD) p0.nums))), (.dat (.lst (T_api_Tree.toDs p0.kids)))])]⟩)
def P_ref08_Depth : T_api_Tree → Int → Prop := fun x r => match x, r with
  | p0, r0 => ∀ H, PC prog env 27 ([(T_api_Tree.ex p0)].map .dat) H (intPV r0) H
theorem g_ref08_Depth_L1 : (∀ x r, m_ref08_Depth_L1 x = some r → P_ref08_Depth_L1 x r) ∧ (∀ x r, m_ref08_Depth x = some r → P_ref08_Depth x r) := by
  refine m_ref08_Depth_L1.mutual_partial_correctness P_ref08_Depth_L1 P_ref08_Depth ?_ ?_
  · intro m_ref08_Depth_L1 m_ref08_Depth w_ref08_Depth_L1 w_ref08_Depth x r hm
    unfold P_ref08_Depth_L1
    obtain ⟨p0, v201, v202⟩ := x
    intro st hst
    refine RL_at hst ?_
    clear hst
    refine R_seq ?_
    refine R_seq ?_
    refine R_G ?_
    refine G_run 3 ?_
    refine I_len T_api_Tree.toD p0.kids (es := T_api_Tree.toDs p0.kids) (T_api_Tree.toDs_eq _) ?_
    refine G_run 1 ?_
    refine G_end ?_
    refine R_ifp (p := v202 < (p0.kids.length : Int)) (rfl) (fun hc => ?_) (fun hc => ?_)
    · replace hm := pos_inv hc hm
      refine R_skip ?_
      refine R_seq ?_
      refine R_block ?_
      refine R_G ?_
      refine G_run 4 ?_
      obtain ⟨v602, hx, hm⟩ := bind_inv hm
      refine I_idx 6 T_api_Tree.toD p0.kids v202 v602 (es := T_api_Tree.toDs p0.kids) (d := (T_api_Tree.ex v602)) (T_api_Tree.toDs_eq _) hx (T_api_Tree.toD_eq v602) rfl ?_
      refine G_run 1 ?_
      obtain ⟨v603, hx, hm⟩ := bind_inv hm
      have hq := w_ref08_Depth _ _ hx []
      refine G_callP hq ?_
      refine G_semN rfl (by kernel_rfl) (fun _ => E_max (k := .i64) (m := v201) (n := v603) rfl (by kernel_rfl) (by kernel_rfl)) ?_
      refine G_run 1 ?_
      refine G_end ?_
      refine R_G ?_
      refine G_run 3 ?_
      refine G_end ?_
      exact w_ref08_Depth_L1 _ _ hm _ (by kernel_rfl)
    replace hm := neg_inv hc hm
    refine R_exit ?_
    obtain rfl := inj1 hm
    exact ⟨rfl, cut_leaf (by kernel_rfl)⟩
  · intro m_ref08_Depth_L1 w_ref08_Depth_L1 p0 r0 hm
    unfold P_ref08_Depth
    intro H
    refine PC_sx (ds := [(T_api_Tree.ex p0)]) (fn := f27) (by kernel_rfl) (by kernel_rfl) rfl ?_ (by kernel_rfl)
    refine R_seq ?_
    refine R_G ?_
    refine G_run 2 ?_
    refine G_end ?_
    refine R_seq ?_
    refine R_G ?_
    refine G_run 1 ?_
    refine G_end ?_
    refine R_seq ?_
    refine R_seq ?_
    refine R_G ?_
    refine G_run 1 ?_
    refine G_end ?_
    refine R_block ?_
    obtain ⟨v601, hs, hm⟩ := bind_inv hm
    refine R_loop ?_
    refine RL_use (w_ref08_Depth_L1 _ _ hs) (by kernel_rfl) ?_
    clear hs
    intro e s hp
    obtain ⟨rfl, d, rfl⟩ := hp
    refine R_seq ?_
    refine R_G ?_
    refine G_run 3 ?_
    refine G_end ?_
    refine R_ret ?_
    obtain rfl := inj1 hm
    exact ⟨trivial, fin_pure (by kernel_rfl)⟩
theorem w_ref08_Depth_L1 : ∀ x r, m_ref08_Depth_L1 x = some r → P_ref08_Depth_L1 x r := g_ref08_Depth_L1.1
theorem w_ref08_Depth : ∀ x r, m_ref08_Depth x = some r → P_ref08_Depth x r := g_ref08_Depth_L1.2
end Go.Proofs.Tryd
namespace Go.Proofs.Tryd
open Go Go.Pm
set_option linter.unusedVariables false
set_option maxHeartbeats 2000000
set_option maxRecDepth 2000
mutual
def m_ref08_numbers_L1 (x : (T_api_Tree × Int × Int)) : Option (Int) :=
  match x with
  | (p0, v201, v202) =>
  if v202 < (p0.kids.length : Int) then
    idx p0.kids v202 >>= fun v602 =>
    m_ref08_numbers v602 >>= fun (v603 : Int) =>
    m_ref08_numbers_L1 (p0, (W (v201 + v603)), (W (v202 + 1)))
  else
  some v201
  partial_fixpoint
def m_ref08_numbers (x : T_api_Tree) : Option Int :=
  match x with
  | p0 =>
  m_ref08_numbers_L1 (p0, (p0.nums.length : Int), 0) >>= fun (v601 : Int) =>
  some v601
  partial_fixpoint
end
def P_ref08_numbers_L1 : (T_api_Tree × Int × Int) → Int → Prop := fun x r => match x with
  | (p0, v201, v202) => ∀ st, prune 1 ((firstRegion (codeAt [1, 1, 0, 1, 0, 0] (bodyOf f28))).bind (env.hint 28).keepAt) st = ⟨kp 24 [(1, (.ptr 0 0)), (3, (intPV v201)), (4, (intPV v202))], [(.box [(intPV p0.kind), (intPV p0.fn), (intPV p0.axis), (.dat (strD p0.name)), (.dat (.lst ((List.map intD) p0.nums))), (.dat (.lst (T_api_Tree.toDs p0.kids)))])]⟩ →
    RL prog env (env.hint 28) true (codeAt [1, 1, 0, 1, 0, 0] (bodyOf f28)) 1 st (fun e s => match r with | v601 => e = .exit 0 ∧ ∃ d, s = ⟨sl d 24 [(3, (intPV v601))], [(.box [(intPV p0.kind), (intPV p0.fn), (intPV p0.axis), (.dat (strD p0.name)), (.dat (.lst ((List.map intD) p0.nums))), (.dat (.lst (T_api_Tree.toDs p0.kids)))])]⟩)
def P_ref08_numbers : T_api_Tree → Int → Prop := fun x r => match x, r with
  | p0, r0 => ∀ H, PC prog env 28 ([(T_api_Tree.ex p0)].map .dat) H (intPV r0) H
theorem g_ref08_numbers_L1 : (∀ x r, m_ref08_numbers_L1 x = some r → P_ref08_numbers_L1 x r) ∧ (∀ x r, m_ref08_numbers x = some r → P_ref08_numbers x r) := by
  refine m_ref08_numbers_L1.mutual_partial_correctness P_ref08_numbers_L1 P_ref08_numbers ?_ ?_
  · intro m_ref08_numbers_L1 m_ref08_numbers w_ref08_numbers_L1 w_ref08_numbers x r hm
    unfold P_ref08_numbers_L1
    obtain ⟨p0, v201, v202⟩ := x
    intro st hst
    refine RL_at hst ?_
    clear hst
    refine R_seq ?_
    refine R_seq ?_
    refine R_G ?_
    refine G_run 3 ?_
    refine I_len T_api_Tree.toD p0.kids (es := T_api_Tree.toDs p0.kids) (T_api_Tree.toDs_eq _) ?_
    refine G_run 1 ?_
    refine G_end ?_
    refine R_ifp (p := v202 < (p0.kids.length : Int)) (rfl) (fun hc => ?_) (fun hc => ?_)
    · replace hm := pos_inv hc hm
      refine R_skip ?_
      refine R_seq ?_
      refine R_block ?_
      refine R_G ?_
      refine G_run 4 ?_
      obtain ⟨v602, hx, hm⟩ := bind_inv hm
      refine I_idx 6 T_api_Tree.toD p0.kids v202 v602 (es := T_api_Tree.toDs p0.kids) (d := (T_api_Tree.ex v602)) (T_api_Tree.toDs_eq _) hx (T_api_Tree.toD_eq v602) rfl ?_
      refine G_run 1 ?_
      obtain ⟨v603, hx, hm⟩ := bind_inv hm
      have hq := w_ref08_numbers _ _ hx []
      refine G_callP hq ?_
      refine G_run 2 ?_
      refine G_end ?_
      refine R_G ?_
      refine G_run 3 ?_
      refine G_end ?_
      exact w_ref08_numbers_L1 _ _ hm _ (by kernel_rfl)
    replace hm := neg_inv hc hm
    refine R_exit ?_
    obtain rfl := inj1 hm
    exact ⟨rfl, cut_leaf (by kernel_rfl)⟩
  · intro m_ref08_numbers_L1 w_ref08_numbers_L1 p0 r0 hm
    unfold P_ref08_numbers
    intro H
    refine PC_sx (ds := [(T_api_Tree.ex p0)]) (fn := f28) (by kernel_rfl) (by kernel_rfl) rfl ?_ (by kernel_rfl)
    refine R_seq ?_
    refine R_G ?_
    refine G_run 2 ?_
    refine G_end ?_
    refine R_seq ?_
    refine R_G ?_
    refine G_run 2 ?_
    refine I_len intD p0.nums (es := (List.map intD) p0.nums) rfl ?_
    refine G_run 1 ?_
    refine G_end ?_
    refine R_seq ?_
    refine R_seq ?_
    refine R_G ?_
    refine G_run 1 ?_
    refine G_end ?_
    refine R_block ?_
    obtain ⟨v601, hs, hm⟩ := bind_inv hm
    refine R_loop ?_
    refine RL_use (w_ref08_numbers_L1 _ _ hs) (by kernel_rfl) ?_
    clear hs
    intro e s hp
    obtain ⟨rfl, d, rfl⟩ := hp
    refine R_seq ?_
    refine R_G ?_
    refine G_run 2 ?_
    refine G_end ?_
    refine R_ret ?_
    obtain rfl := inj1 hm
    exact ⟨trivial, fin_pure (by kernel_rfl)⟩
theorem w_ref08_numbers_L1 : ∀ x r, m_ref08_numbers_L1 x = some r → P_ref08_numbers_L1 x r := g_ref08_numbers_L1.1
theorem w_ref08_numbers : ∀ x r, m_ref08_numbers x = some r → P_ref08_numbers x r := g_ref08_numbers_L1.2
end Go.Proofs.Tryd
namespace Go.Proofs.Tryd
open Go Go.Pm
set_option linter.unusedVariables false
set_option maxHeartbeats 2000000
set_option maxRecDepth 2000
def m_ref08_Few (x : (T_api_Tree × Int)) : Option Bool :=
  match x with
  | (p0, p1) =>
  m_ref08_left (p0, p1) >>= fun (v1 : Int) =>
  (if v1 ≥ 0 then
    m_ref08_Depth p0 >>= fun (v3 : Int) =>
    some (decide (v3 ≤ 150))
  else
  some false
  ) >>= fun (v2 : Bool) =>
  if v2 = true then
    m_ref08_numbers p0 >>= fun (v4 : Int) =>
    some (decide (v4 ≤ (W (10 * p1))))
  else
  some false
def P_ref08_Few : (T_api_Tree × Int) → Bool → Prop := fun x r => match x, r with
  | (p0, p1), r0 => ∀ H, PC prog env 15 ([(T_api_Tree.ex p0), (intD p1)].map .dat) H (boolPV r0) H
theorem w_ref08_Few : ∀ x r, m_ref08_Few x = some r → P_ref08_Few x r := by
  intro x r0 hm
  unfold m_ref08_Few at hm
  unfold P_ref08_Few
  obtain ⟨p0, p1⟩ := x
  intro H
  refine PC_sx (ds := [(T_api_Tree.ex p0), (intD p1)]) (fn := f15) (by kernel_rfl) (by kernel_rfl) rfl ?_ (by kernel_rfl)
  refine R_seq ?_
  refine R_G ?_
  refine G_run 2 ?_
  refine G_end ?_
  refine R_seq ?_
  refine R_GN ?_
  refine G_run 2 ?_
  obtain ⟨v1, hx, hm⟩ := bind_inv hm
  have hq := w_ref08_left _ _ hx []
  refine G_callP hq ?_
  refine G_run 2 ?_
  obtain ⟨v2, hs, hm⟩ := bind_inv hm
  refine G_cut (j := 9) (fun d => ⟨sl d 21 [(0, (.dat (.agg [(intD p0.kind), (intD p0.fn), (intD p0.axis), (strD p0.name), (.lst ((List.map intD) p0.nums)), (.lst (T_api_Tree.toDs p0.kids))]))), (1, (intPV p1)), (2, (.ptr 0 0)), (4, (boolPV false)), (5, (.dat (.agg [(intD p0.kind), (intD p0.fn), (intD p0.axis), (strD p0.name), (.lst ((List.map intD) p0.nums)), (.lst (T_api_Tree.toDs p0.kids))]))), (6, (intPV p1)), (7, (intPV v1)), (8, (boolPV (decide (v1 ≥ 0)))), (13, (boolPV v2))], [(.box [(intPV p0.kind), (intPV p0.fn), (intPV p0.axis), (.dat (strD p0.name)), (.dat (.lst ((List.map intD) p0.nums))), (.dat (.lst (T_api_Tree.toDs p0.kids)))])]⟩) (fun d => ?_) (fun hJ => ?_)
  · clear hs
    refine G_run 1 ?_
    refine G_split (p := v2 = true) 14 (bool_dec _) (fun hc => ?_) (fun hc => ?_)
    · replace hm := pos_inv hc hm
      refine G_run 1 ?_
      obtain ⟨v4, hx, hm⟩ := bind_inv hm
      have hq := w_ref08_numbers _ _ hx []
      refine G_callP hq ?_
      refine G_run 5 ?_
      refine G_end ⟨by kernel_rfl, ?_⟩
      refine R_ret ?_
      obtain rfl := inj1 hm
      exact ⟨trivial, fin_pure (by kernel_rfl)⟩
    replace hm := neg_inv hc hm
    refine G_run 7 ?_
    refine G_end ⟨by kernel_rfl, ?_⟩
    refine R_ret ?_
    obtain rfl := inj1 hm
    exact ⟨trivial, fin_pure (by kernel_rfl)⟩
  replace hm := hs
  clear hs
  refine G_split (p := v1 ≥ 0) 9 (rfl) (fun hc => ?_) (fun hc => ?_)
  · replace hm := pos_inv hc hm
    refine G_run 1 ?_
    obtain ⟨v3, hx, hm⟩ := bind_inv hm
    have hq := w_ref08_Depth _ _ hx []
    refine G_callP hq ?_
    refine G_run 2 ?_
    obtain rfl := inj1 hm
    exact hJ _ _ (by kernel_rfl) (by kernel_rfl)
  replace hm := neg_inv hc hm
  refine G_run 4 ?_
  obtain rfl := inj1 hm
  exact hJ _ _ (by kernel_rfl) (by kernel_rfl)
end Go.Proofs.Tryd
namespace Go.Proofs.Tryd
open Go Go.Pm
set_option linter.unusedVariables false
set_option maxHeartbeats 2000000
set_option maxRecDepth 2000
def m_ref07_letter (x : Int) : Option Bool :=
  match x with
  | p0 =>
  (if p0 ≥ 65 then
    some (decide (p0 ≤ 90))
  else
  some false
  ) >>= fun (v1 : Bool) =>
  (if v1 = true then
    some true
  else
  if p0 ≥ 97 then
    some (decide (p0 ≤ 122))
  else
  some false
  ) >>= fun (v2 : Bool) =>
  if v2 = true then
    some true
  else
  some (p0 == 95)
def P_ref07_letter : Int → Bool → Prop := fun x r => match x, r with
  | p0, r0 => ∀ H, PC prog env 36 ([(numD .u8 p0)].map .dat) H (boolPV r0) H
theorem w_ref07_letter : ∀ x r, m_ref07_letter x = some r → P_ref07_letter x r := by
  intro p0 r0 hm
  unfold m_ref07_letter at hm
  unfold P_ref07_letter
  intro H
  refine PC_sx (ds := [(numD .u8 p0)]) (fn := f36) (by kernel_rfl) (by kernel_rfl) rfl ?_ (by kernel_rfl)
  refine R_seq ?_
  refine R_G ?_
  refine G_run 1 ?_
  refine G_end ?_
  refine R_seq ?_
  refine R_GN ?_
  refine G_run 3 ?_
  obtain ⟨v1, hs, hm⟩ := bind_inv hm
  refine G_cut (j := 6) (fun d => ⟨sl d 21 [(0, (.dat (numD .u8 p0))), (2, (boolPV false)), (3, (.dat (numD .u8 p0))), (4, (boolPV (decide (p0 ≥ 65)))), (8, (boolPV v1))], []⟩) (fun d => ?_) (fun hJ => ?_)
  · clear hs
    refine G_run 1 ?_
    obtain ⟨v2, hs, hm⟩ := bind_inv hm
    refine G_cut (j := 14) (fun d => ⟨sl d 21 [(0, (.dat (numD .u8 p0))), (2, (boolPV false)), (3, (.dat (numD .u8 p0))), (4, (boolPV (decide (p0 ≥ 65)))), (8, (boolPV v1)), (16, (boolPV v2))], []⟩) (fun d => ?_) (fun hJ => ?_)
    · clear hs
      refine G_run 1 ?_
      refine G_split (p := v2 = true) 17 (bool_dec _) (fun hc => ?_) (fun hc => ?_)
      · replace hm := pos_inv hc hm
        refine G_run 4 ?_
        refine G_end ⟨by kernel_rfl, ?_⟩
        refine R_ret ?_
        obtain rfl := inj1 hm
        exact ⟨trivial, fin_pure (by kernel_rfl)⟩
      replace hm := neg_inv hc hm
      refine G_run 4 ?_
      refine G_end ⟨by kernel_rfl, ?_⟩
      refine R_ret ?_
      obtain rfl := inj1 hm
      exact ⟨trivial, fin_pure (by kernel_rfl)⟩
    replace hm := hs
    clear hs
    refine G_split (p := v1 = true) 9 (bool_dec _) (fun hc => ?_) (fun hc => ?_)
    · replace hm := pos_inv hc hm
      refine G_run 7 ?_
      obtain rfl := inj1 hm
      exact hJ _ _ (by kernel_rfl) (by kernel_rfl)
    replace hm := neg_inv hc hm
    refine G_run 3 ?_
    refine G_split (p := p0 ≥ 97) 12 (rfl) (fun hc => ?_) (fun hc => ?_)
    · replace hm := pos_inv hc hm
      refine G_run 4 ?_
      obtain rfl := inj1 hm
      exact hJ _ _ (by kernel_rfl) (by kernel_rfl)
    replace hm := neg_inv hc hm
    refine G_run 4 ?_
    obtain rfl := inj1 hm
    exact hJ _ _ (by kernel_rfl) (by kernel_rfl)
  replace hm := hs
  clear hs
  refine G_split (p := p0 ≥ 65) 5 (rfl) (fun hc => ?_) (fun hc => ?_)
  · replace hm := pos_inv hc hm
    refine G_run 3 ?_
    obtain rfl := inj1 hm
    exact hJ _ _ (by kernel_rfl) (by kernel_rfl)
  replace hm := neg_inv hc hm
  refine G_run 3 ?_
  obtain rfl := inj1 hm
  exact hJ _ _ (by kernel_rfl) (by kernel_rfl)
end Go.Proofs.Tryd
namespace Go.Proofs.Tryd
open Go Go.Pm
set_option linter.unusedVariables false
set_option maxHeartbeats 2000000
set_option maxRecDepth 2000
def m_ref07_digit (x : Int) : Option Bool :=
  match x with
  | p0 =>
  if p0 ≥ 48 then
    some (decide (p0 ≤ 57))
  else
  some false
def P_ref07_digit : Int → Bool → Prop := fun x r => match x, r with
  | p0, r0 => ∀ H, PC prog env 44 ([(numD .u8 p0)].map .dat) H (boolPV r0) H
theorem w_ref07_digit : ∀ x r, m_ref07_digit x = some r → P_ref07_digit x r := by
  intro p0 r0 hm
  unfold m_ref07_digit at hm
  unfold P_ref07_digit
  intro H
  refine PC_sx (ds := [(numD .u8 p0)]) (fn := f44) (by kernel_rfl) (by kernel_rfl) rfl ?_ (by kernel_rfl)
  refine R_seq ?_
  refine R_G ?_
  refine G_run 1 ?_
  refine G_end ?_
  refine R_seq ?_
  refine R_G ?_
  refine G_run 3 ?_
  refine G_split (p := p0 ≥ 48) 5 (rfl) (fun hc => ?_) (fun hc => ?_)
  · replace hm := pos_inv hc hm
    refine G_run 4 ?_
    refine G_end ?_
    refine R_ret ?_
    obtain rfl := inj1 hm
    exact ⟨trivial, fin_pure (by kernel_rfl)⟩
  replace hm := neg_inv hc hm
  refine G_run 4 ?_
  refine G_end ?_
  refine R_ret ?_
  obtain rfl := inj1 hm
  exact ⟨trivial, fin_pure (by kernel_rfl)⟩
end Go.Proofs.Tryd
namespace Go.Proofs.Tryd
open Go Go.Pm
set_option linter.unusedVariables false
set_option maxHeartbeats 2000000
set_option maxRecDepth 2000
def m_ref07_end_L1 (x : (ByteArray × Int)) : Option (Int) :=
  match x with
  | (p0, v201) =>
  (if v201 < (p0.size : Int) then
    sidx p0 v201 >>= fun v603 =>
    m_ref07_letter v603 >>= fun (v604 : Bool) =>
    if v604 = true then
      some true
    else
    sidx p0 v201 >>= fun v605 =>
    m_ref07_digit v605 >>= fun (v606 : Bool) =>
    some v606
  else
  some false
  ) >>= fun (v602 : Bool) =>
  if v602 = true then
    m_ref07_end_L1 (p0, (W (v201 + 1)))
  else
  some v201
  partial_fixpoint
def P_ref07_end_L1 : (ByteArray × Int) → Int → Prop := fun x r => match x with
  | (p0, v201) => ∀ st, prune 0 ((firstRegion (codeAt [1, 0, 0, 0] (bodyOf f37))).bind (env.hint 37).keepAt) st = ⟨kp 24 [(0, (.dat (strD p0))), (1, (intPV v201))], []⟩ →
    RL prog env (env.hint 37) true (codeAt [1, 0, 0, 0] (bodyOf f37)) 0 st (fun e s => match r with | v601 => e = .exit 0 ∧ ∃ d, s = ⟨sl d 24 [(1, (intPV v601))], []⟩)
theorem w_ref07_end_L1 : ∀ x r, m_ref07_end_L1 x = some r → P_ref07_end_L1 x r := by
  refine m_ref07_end_L1.partial_correctness _ (fun m_ref07_end_L1 w_ref07_end_L1 x r hm => ?_)
  unfold P_ref07_end_L1
  obtain ⟨p0, v201⟩ := x
  intro st hst
  refine RL_at hst ?_
  clear hst
  refine R_seq ?_
  refine R_seq ?_
  obtain ⟨v602, hs, hm⟩ := bind_inv hm
  refine R_cut (fun d => ⟨sl d 24 [(0, (.dat (strD p0))), (1, (intPV v201)), (20, (boolPV v602))], []⟩) ?_ (fun d => ?_)
  · replace hm := hs
    clear hs
    refine R_G ?_
    refine G_run 2 ?_
    refine G_semN rfl (by kernel_rfl) (fun _ => E_lenStr (b := p0) (by kernel_rfl) rfl (by kernel_rfl)) ?_
    refine G_run 2 ?_
    refine G_split (p := v201 < (p0.size : Int)) 9 (rfl) (fun hc => ?_) (fun hc => ?_)
    · replace hm := pos_inv hc hm
      refine G_run 2 ?_
      obtain ⟨v603, hx, hm⟩ := bind_inv hm
      refine G_semN rfl (by kernel_rfl) (fun _ => E_idxStr (b := p0) (n := v201) (v := v603) (k := .i64) hx (by kernel_rfl) rfl (by kernel_rfl) (by kernel_rfl)) ?_
      obtain ⟨v604, hx, hm⟩ := bind_inv hm
      have hq := w_ref07_letter _ _ hx []
      refine G_callP hq ?_
      refine G_run 1 ?_
      refine G_split (p := v604 = true) 14 (bool_dec _) (fun hc => ?_) (fun hc => ?_)
      · replace hm := pos_inv hc hm
        refine G_run 6 ?_
        refine G_end ?_
        obtain rfl := inj1 hm
        exact cut_leaf (by kernel_rfl)
      replace hm := neg_inv hc hm
      refine G_run 2 ?_
      obtain ⟨v605, hx, hm⟩ := bind_inv hm
      refine G_semN rfl (by kernel_rfl) (fun _ => E_idxStr (b := p0) (n := v201) (v := v605) (k := .i64) hx (by kernel_rfl) rfl (by kernel_rfl) (by kernel_rfl)) ?_
      obtain ⟨v606, hx, hm⟩ := bind_inv hm
      have hq := w_ref07_digit _ _ hx []
      refine G_callP hq ?_
      refine G_run 2 ?_
      refine G_end ?_
      obtain rfl := inj1 hm
      exact cut_leaf (by kernel_rfl)
    replace hm := neg_inv hc hm
    refine G_run 11 ?_
    refine G_end ?_
    obtain rfl := inj1 hm
    exact cut_leaf (by kernel_rfl)
  clear hs
  refine R_ifp (p := v602 = true) (bool_dec _) (fun hc => ?_) (fun hc => ?_)
  · replace hm := pos_inv hc hm
    refine R_skip ?_
    refine R_block ?_
    refine R_G ?_
    refine G_run 3 ?_
    refine G_end ?_
    exact w_ref07_end_L1 _ _ hm _ (by kernel_rfl)
  replace hm := neg_inv hc hm
  refine R_exit ?_
  obtain rfl := inj1 hm
  exact ⟨rfl, cut_leaf (by kernel_rfl)⟩
def m_ref07_end (x : (ByteArray × Int)) : Option Int :=
  match x with
  | (p0, p1) =>
  m_ref07_end_L1 (p0, p1) >>= fun (v601 : Int) =>
  some v601
def P_ref07_end : (ByteArray × Int) → Int → Prop := fun x r => match x, r with
  | (p0, p1), r0 => ∀ H, PC prog env 37 ([(strD p0), (intD p1)].map .dat) H (intPV r0) H
theorem w_ref07_end : ∀ x r, m_ref07_end x = some r → P_ref07_end x r := by
  intro x r0 hm
  unfold m_ref07_end at hm
  unfold P_ref07_end
  obtain ⟨p0, p1⟩ := x
  intro H
  refine PC_sx (ds := [(strD p0), (intD p1)]) (fn := f37) (by kernel_rfl) (by kernel_rfl) rfl ?_ (by kernel_rfl)
  refine R_seq ?_
  refine R_G ?_
  refine G_run 1 ?_
  refine G_end ?_
  refine R_seq ?_
  refine R_block ?_
  obtain ⟨v601, hs, hm⟩ := bind_inv hm
  refine R_loop ?_
  refine RL_use (w_ref07_end_L1 _ _ hs) (by kernel_rfl) ?_
  clear hs
  intro e s hp
  obtain ⟨rfl, d, rfl⟩ := hp
  refine R_seq ?_
  refine R_G ?_
  refine G_run 2 ?_
  refine G_end ?_
  refine R_ret ?_
  obtain rfl := inj1 hm
  exact ⟨trivial, fin_pure (by kernel_rfl)⟩
end Go.Proofs.Tryd
namespace Go.Proofs.Tryd
open Go Go.Pm
set_option linter.unusedVariables false
set_option maxHeartbeats 2000000
set_option maxRecDepth 2000
def m_ref07_Name (x : ByteArray) : Option Bool :=
  match x with
  | p0 =>
  (if (p0.size : Int) > 0 then
    sidx p0 0 >>= fun v2 =>
    m_ref07_letter v2 >>= fun (v3 : Bool) =>
    some v3
  else
  some false
  ) >>= fun (v1 : Bool) =>
  if v1 = true then
    m_ref07_end (p0, 0) >>= fun (v4 : Int) =>
    some (v4 == (p0.size : Int))
  else
  some false
def P_ref07_Name : ByteArray → Bool → Prop := fun x r => match x, r with
  | p0, r0 => ∀ H, PC prog env 43 ([(strD p0)].map .dat) H (boolPV r0) H
theorem w_ref07_Name : ∀ x r, m_ref07_Name x = some r → P_ref07_Name x r := by
  intro p0 r0 hm
  unfold m_ref07_Name at hm
  unfold P_ref07_Name
  intro H
  refine PC_sx (ds := [(strD p0)]) (fn := f43) (by kernel_rfl) (by kernel_rfl) rfl ?_ (by kernel_rfl)
  refine R_seq ?_
  refine R_G ?_
  refine G_run 1 ?_
  refine G_end ?_
  refine R_seq ?_
  refine R_GN ?_
  refine G_run 1 ?_
  refine G_semN rfl (by kernel_rfl) (fun _ => E_lenStr (b := p0) (by kernel_rfl) rfl (by kernel_rfl)) ?_
  refine G_run 2 ?_
  obtain ⟨v1, hs, hm⟩ := bind_inv hm
  refine G_cut (j := 8) (fun d => ⟨sl d 18 [(0, (.dat (strD p0))), (2, (boolPV false)), (3, (.dat (strD p0))), (4, (intPV (p0.size : Int))), (5, (boolPV (decide ((p0.size : Int) > 0)))), (10, (boolPV v1))], []⟩) (fun d => ?_) (fun hJ => ?_)
  · clear hs
    refine G_run 1 ?_
    refine G_split (p := v1 = true) 11 (bool_dec _) (fun hc => ?_) (fun hc => ?_)
    · replace hm := pos_inv hc hm
      refine G_run 1 ?_
      obtain ⟨v4, hx, hm⟩ := bind_inv hm
      have hq := w_ref07_end _ _ hx []
      refine G_callP hq ?_
      refine G_run 1 ?_
      refine G_semN rfl (by kernel_rfl) (fun _ => E_lenStr (b := p0) (by kernel_rfl) rfl (by kernel_rfl)) ?_
      refine G_run 3 ?_
      refine G_end ⟨by kernel_rfl, ?_⟩
      refine R_ret ?_
      obtain rfl := inj1 hm
      exact ⟨trivial, fin_pure (by kernel_rfl)⟩
    replace hm := neg_inv hc hm
    refine G_run 7 ?_
    refine G_end ⟨by kernel_rfl, ?_⟩
    refine R_ret ?_
    obtain rfl := inj1 hm
    exact ⟨trivial, fin_pure (by kernel_rfl)⟩
  replace hm := hs
  clear hs
  refine G_split (p := (p0.size : Int) > 0) 6 (rfl) (fun hc => ?_) (fun hc => ?_)
  · replace hm := pos_inv hc hm
    refine G_run 1 ?_
    obtain ⟨v2, hx, hm⟩ := bind_inv hm
    refine G_semN rfl (by kernel_rfl) (fun _ => E_idxStr (b := p0) (n := 0) (v := v2) (k := .i64) hx (by kernel_rfl) rfl (by kernel_rfl) (by kernel_rfl)) ?_
    obtain ⟨v3, hx, hm⟩ := bind_inv hm
    have hq := w_ref07_letter _ _ hx []
    refine G_callP hq ?_
    refine G_run 1 ?_
    obtain rfl := inj1 hm
    exact hJ _ _ (by kernel_rfl) (by kernel_rfl)
  replace hm := neg_inv hc hm
  refine G_run 4 ?_
  obtain rfl := inj1 hm
  exact hJ _ _ (by kernel_rfl) (by kernel_rfl)
end Go.Proofs.Tryd
namespace Go.Proofs.Tryd
open Go Go.Pm
set_option linter.unusedVariables false
set_option maxHeartbeats 2000000
set_option maxRecDepth 2000
def m_ref08_node (x : T_api_Tree) : Option Bool :=
  match x with
  | p0 =>
  (if p0.axis ≥ 0 then
    some (decide (p0.axis ≤ 15))
  else
  some false
  ) >>= fun (v1 : Bool) =>
  if p0.kind = 1 then
    (if p0.fn = 0 then
      some (p0.axis == (-1))
    else
    some false
    ) >>= fun (v2 : Bool) =>
    (if v2 = true then
      some (decide (p0.name = ByteArray.empty))
    else
    some false
    ) >>= fun (v3 : Bool) =>
    if v3 = true then
      some ((p0.kids.length : Int) == 0)
    else
    some false
  else
  if p0.kind = 2 then
    (if p0.fn = 0 then
      some (p0.axis == (-1))
    else
    some false
    ) >>= fun (v4 : Bool) =>
    (if v4 = true then
      m_ref07_Name p0.name >>= fun (v6 : Bool) =>
      some v6
    else
    some false
    ) >>= fun (v5 : Bool) =>
    (if v5 = true then
      some ((p0.nums.length : Int) == 0)
    else
    some false
    ) >>= fun (v7 : Bool) =>
    if v7 = true then
      some ((p0.kids.length : Int) == 0)
    else
    some false
  else
  if p0.kind = 3 then
    (if p0.name = ByteArray.empty then
      some ((p0.nums.length : Int) == 0)
    else
    some false
    ) >>= fun (v8 : Bool) =>
    (if v8 = true then
      some ((p0.kids.length : Int) == 1)
    else
    some false
    ) >>= fun (v9 : Bool) =>
    if v9 = true then
      (if p0.fn = 3 then
        (if p0.axis = (-1) then
          some true
        else
        some v1
        ) >>= fun (v11 : Bool) =>
        some v11
      else
      some false
      ) >>= fun (v10 : Bool) =>
      if v10 = true then
        some true
      else
      (if p0.fn = 4 then
        some true
      else
      some (p0.fn == 6)
      ) >>= fun (v12 : Bool) =>
      (if v12 = true then
        some (p0.axis == (-1))
      else
      some false
      ) >>= fun (v13 : Bool) =>
      some v13
    else
    some false
  else
  if p0.kind = 4 then
    ((if p0.name ≠ ByteArray.empty then
      some true
    else
    some (decide ((p0.nums.length : Int) > 0))
    ) >>= fun (v15 : Bool) =>
    (if v15 = true then
      some true
    else
    some ((p0.kids.length : Int) != 2)
    ) >>= fun (v16 : Bool) =>
    (if v16 = true then
      some true
    else
    some (decide (p0.fn < 1))
    ) >>= fun (v17 : Bool) =>
    if v17 = true then
      some true
    else
    some (decide (p0.fn > 6))
    ) >>= fun (v14 : Bool) =>
    if v14 = true then
      some false
    else
    (if p0.axis ≠ (-1) then
      if v1 = false then
        some true
      else
      (if p0.fn ≠ 3 then
        some (p0.fn != 6)
      else
      some false
      ) >>= fun (v19 : Bool) =>
      some v19
    else
    some false
    ) >>= fun (v18 : Bool) =>
    if v18 = true then
      some false
    else
    (if p0.fn = 6 then
      some true
    else
    idx p0.kids 0 >>= fun v21 =>
    some (v21.kind == 1)
    ) >>= fun (v20 : Bool) =>
    if v20 = true then
      some true
    else
    idx p0.kids 0 >>= fun v22 =>
    some (v22.kind == 2)
  else
  some false
def P_ref08_node : T_api_Tree → Bool → Prop := fun x r => match x, r with
  | p0, r0 => ∀ H, PC prog env 35 ([(T_api_Tree.ex p0)].map .dat) H (boolPV r0) H
theorem w_ref08_node : ∀ x r, m_ref08_node x = some r → P_ref08_node x r := by
  intro p0 r0 hm
  unfold m_ref08_node at hm
  unfold P_ref08_node
  intro H
  refine PC_sx (ds := [(T_api_Tree.ex p0)]) (fn := f35) (by kernel_rfl) (by kernel_rfl) rfl ?_ (by kernel_rfl)
  refine R_seq ?_
  refine R_G ?_
  refine G_run 2 ?_
  refine G_end ?_
  refine R_seq ?_
  obtain ⟨v1, hs, hm⟩ := bind_inv hm
  refine R_cut (fun d => ⟨sl d 170 [(1, (.ptr 0 0)), (3, (boolPV v1))], [(.box [(intPV p0.kind), (intPV p0.fn), (intPV p0.axis), (.dat (strD p0.name)), (.dat (.lst ((List.map intD) p0.nums))), (.dat (.lst (T_api_Tree.toDs p0.kids)))])]⟩) ?_ (fun d => ?_)
  · replace hm := hs
    clear hs
    refine R_G ?_
    refine G_run 4 ?_
    refine G_split (p := p0.axis ≥ 0) 7 (rfl) (fun hc => ?_) (fun hc => ?_)
    · replace hm := pos_inv hc hm
      refine G_run 5 ?_
      refine G_end ?_
      obtain rfl := inj1 hm
      exact cut_leaf (by kernel_rfl)
    replace hm := neg_inv hc hm
    refine G_run 5 ?_
    refine G_end ?_
    obtain rfl := inj1 hm
    exact cut_leaf (by kernel_rfl)
  clear hs
  refine R_seq ?_
  refine R_seq ?_
  refine R_G ?_
  refine G_run 2 ?_
  refine G_end ?_
  refine R_block ?_
  refine R_seq ?_
  refine R_G ?_
  refine G_run 2 ?_
  refine G_end ?_
  refine R_ifp (p := p0.kind = 1) (eq_dec _ _) (fun hc => ?_) (fun hc => ?_)
  · replace hm := pos_inv hc hm
    refine R_seq ?_
    refine R_GN ?_
    refine G_run 4 ?_
    obtain ⟨v2, hs, hm⟩ := bind_inv hm
    refine G_cut (j := 8) (fun d => ⟨sl d 170 [(1, (.ptr 0 0)), (3, (boolPV v1)), (12, (.ptr 0 0)), (13, (intPV p0.kind)), (14, (boolPV (p0.kind == 1))), (15, (boolPV (p0.kind == 1))), (16, (.ptr 0 1)), (17, (intPV p0.fn)), (18, (boolPV (p0.fn == 0))), (23, (boolPV v2))], [(.box [(intPV p0.kind), (intPV p0.fn), (intPV p0.axis), (.dat (strD p0.name)), (.dat (.lst ((List.map intD) p0.nums))), (.dat (.lst (T_api_Tree.toDs p0.kids)))])]⟩) (fun d => ?_) (fun hJ => ?_)
    · clear hs
      refine G_run 1 ?_
      obtain ⟨v3, hs, hm⟩ := bind_inv hm
      refine G_cut (j := 13) (fun d => ⟨sl d 170 [(1, (.ptr 0 0)), (3, (boolPV v1)), (12, (.ptr 0 0)), (13, (intPV p0.kind)), (14, (boolPV (p0.kind == 1))), (15, (boolPV (p0.kind == 1))), (16, (.ptr 0 1)), (17, (intPV p0.fn)), (18, (boolPV (p0.fn == 0))), (23, (boolPV v2)), (28, (boolPV v3))], [(.box [(intPV p0.kind), (intPV p0.fn), (intPV p0.axis), (.dat (strD p0.name)), (.dat (.lst ((List.map intD) p0.nums))), (.dat (.lst (T_api_Tree.toDs p0.kids)))])]⟩) (fun d => ?_) (fun hJ => ?_)
      · clear hs
        refine G_run 1 ?_
        refine G_split (p := v3 = true) 29 (bool_dec _) (fun hc => ?_) (fun hc => ?_)
        · replace hm := pos_inv hc hm
          refine G_run 2 ?_
          refine I_len T_api_Tree.toD p0.kids (es := T_api_Tree.toDs p0.kids) (T_api_Tree.toDs_eq _) ?_
          refine G_run 3 ?_
          refine G_end ⟨by kernel_rfl, ?_⟩
          refine R_ret ?_
          obtain rfl := inj1 hm
          exact ⟨trivial, fin_pure (by kernel_rfl)⟩
        replace hm := neg_inv hc hm
        refine G_run 6 ?_
        refine G_end ⟨by kernel_rfl, ?_⟩
        refine R_ret ?_
        obtain rfl := inj1 hm
        exact ⟨trivial, fin_pure (by kernel_rfl)⟩
      replace hm := hs
      clear hs
      refine G_split (p := v2 = true) 24 (bool_dec _) (fun hc => ?_) (fun hc => ?_)
      · replace hm := pos_inv hc hm
        refine G_run 2 ?_
        refine G_semN rfl (by kernel_rfl) (fun _ => E_eqlStr (a := p0.name) (b := ByteArray.empty) rfl (by kernel_rfl) (by kernel_rfl)) ?_
        refine G_run 1 ?_
        obtain rfl := inj1 hm
        exact hJ _ _ (by kernel_rfl) (by kernel_rfl)
      replace hm := neg_inv hc hm
      refine G_run 4 ?_
      obtain rfl := inj1 hm
      exact hJ _ _ (by kernel_rfl) (by kernel_rfl)
    replace hm := hs
    clear hs
    refine G_split (p := p0.fn = 0) 19 (eq_dec _ _) (fun hc => ?_) (fun hc => ?_)
    · replace hm := pos_inv hc hm
      refine G_run 4 ?_
      obtain rfl := inj1 hm
      exact hJ _ _ (by kernel_rfl) (by kernel_rfl)
    replace hm := neg_inv hc hm
    refine G_run 4 ?_
    obtain rfl := inj1 hm
    exact hJ _ _ (by kernel_rfl) (by kernel_rfl)
  replace hm := neg_inv hc hm
  refine R_seq ?_
  refine R_G ?_
  refine G_run 2 ?_
  refine G_end ?_
  refine R_ifp (p := p0.kind = 2) (eq_dec _ _) (fun hc => ?_) (fun hc => ?_)
  · replace hm := pos_inv hc hm
    refine R_seq ?_
    refine R_GN ?_
    refine G_run 4 ?_
    obtain ⟨v4, hs, hm⟩ := bind_inv hm
    refine G_cut (j := 8) (fun d => ⟨sl d 170 [(1, (.ptr 0 0)), (3, (boolPV v1)), (12, (.ptr 0 0)), (13, (intPV p0.kind)), (14, (boolPV (p0.kind == 1))), (15, (boolPV (p0.kind == 1))), (35, (boolPV (p0.kind == 2))), (36, (boolPV (p0.kind == 2))), (37, (.ptr 0 1)), (38, (intPV p0.fn)), (39, (boolPV (p0.fn == 0))), (44, (boolPV v4))], [(.box [(intPV p0.kind), (intPV p0.fn), (intPV p0.axis), (.dat (strD p0.name)), (.dat (.lst ((List.map intD) p0.nums))), (.dat (.lst (T_api_Tree.toDs p0.kids)))])]⟩) (fun d => ?_) (fun hJ => ?_)
    · clear hs
      refine G_run 1 ?_
      obtain ⟨v5, hs, hm⟩ := bind_inv hm
      refine G_cut (j := 13) (fun d => ⟨sl d 170 [(1, (.ptr 0 0)), (3, (boolPV v1)), (12, (.ptr 0 0)), (13, (intPV p0.kind)), (14, (boolPV (p0.kind == 1))), (15, (boolPV (p0.kind == 1))), (35, (boolPV (p0.kind == 2))), (36, (boolPV (p0.kind == 2))), (37, (.ptr 0 1)), (38, (intPV p0.fn)), (39, (boolPV (p0.fn == 0))), (44, (boolPV v4)), (49, (boolPV v5))], [(.box [(intPV p0.kind), (intPV p0.fn), (intPV p0.axis), (.dat (strD p0.name)), (.dat (.lst ((List.map intD) p0.nums))), (.dat (.lst (T_api_Tree.toDs p0.kids)))])]⟩) (fun d => ?_) (fun hJ => ?_)
      · clear hs
        refine G_run 1 ?_
        obtain ⟨v7, hs, hm⟩ := bind_inv hm
        refine G_cut (j := 19) (fun d => ⟨sl d 170 [(1, (.ptr 0 0)), (3, (boolPV v1)), (12, (.ptr 0 0)), (13, (intPV p0.kind)), (14, (boolPV (p0.kind == 1))), (15, (boolPV (p0.kind == 1))), (35, (boolPV (p0.kind == 2))), (36, (boolPV (p0.kind == 2))), (37, (.ptr 0 1)), (38, (intPV p0.fn)), (39, (boolPV (p0.fn == 0))), (44, (boolPV v4)), (49, (boolPV v5)), (55, (boolPV v7))], [(.box [(intPV p0.kind), (intPV p0.fn), (intPV p0.axis), (.dat (strD p0.name)), (.dat (.lst ((List.map intD) p0.nums))), (.dat (.lst (T_api_Tree.toDs p0.kids)))])]⟩) (fun d => ?_) (fun hJ => ?_)
        · clear hs
          refine G_run 1 ?_
          refine G_split (p := v7 = true) 56 (bool_dec _) (fun hc => ?_) (fun hc => ?_)
          · replace hm := pos_inv hc hm
            refine G_run 2 ?_
            refine I_len T_api_Tree.toD p0.kids (es := T_api_Tree.toDs p0.kids) (T_api_Tree.toDs_eq _) ?_
            refine G_run 3 ?_
            refine G_end ⟨by kernel_rfl, ?_⟩
            refine R_ret ?_
            obtain rfl := inj1 hm
            exact ⟨trivial, fin_pure (by kernel_rfl)⟩
          replace hm := neg_inv hc hm
          refine G_run 6 ?_
          refine G_end ⟨by kernel_rfl, ?_⟩
          refine R_ret ?_
          obtain rfl := inj1 hm
          exact ⟨trivial, fin_pure (by kernel_rfl)⟩
        replace hm := hs
        clear hs
        refine G_split (p := v5 = true) 50 (bool_dec _) (fun hc => ?_) (fun hc => ?_)
        · replace hm := pos_inv hc hm
          refine G_run 2 ?_
          refine I_len intD p0.nums (es := (List.map intD) p0.nums) rfl ?_
          refine G_run 2 ?_
          obtain rfl := inj1 hm
          exact hJ _ _ (by kernel_rfl) (by kernel_rfl)
        replace hm := neg_inv hc hm
        refine G_run 5 ?_
        obtain rfl := inj1 hm
        exact hJ _ _ (by kernel_rfl) (by kernel_rfl)
      replace hm := hs
      clear hs
      refine G_split (p := v4 = true) 45 (bool_dec _) (fun hc => ?_) (fun hc => ?_)
      · replace hm := pos_inv hc hm
        refine G_run 2 ?_
        obtain ⟨v6, hx, hm⟩ := bind_inv hm
        have hq := w_ref07_Name _ _ hx []
        refine G_callP hq ?_
        refine G_run 1 ?_
        obtain rfl := inj1 hm
        exact hJ _ _ (by kernel_rfl) (by kernel_rfl)
      replace hm := neg_inv hc hm
      refine G_run 4 ?_
      obtain rfl := inj1 hm
      exact hJ _ _ (by kernel_rfl) (by kernel_rfl)
    replace hm := hs
    clear hs
    refine G_split (p := p0.fn = 0) 40 (eq_dec _ _) (fun hc => ?_) (fun hc => ?_)
    · replace hm := pos_inv hc hm
      refine G_run 4 ?_
      obtain rfl := inj1 hm
      exact hJ _ _ (by kernel_rfl) (by kernel_rfl)
    replace hm := neg_inv hc hm
    refine G_run 4 ?_
    obtain rfl := inj1 hm
    exact hJ _ _ (by kernel_rfl) (by kernel_rfl)
  replace hm := neg_inv hc hm
  refine R_seq ?_
  refine R_G ?_
  refine G_run 2 ?_
  refine G_end ?_
  refine R_ifp (p := p0.kind = 3) (eq_dec _ _) (fun hc => ?_) (fun hc => ?_)
  · replace hm := pos_inv hc hm
    refine R_seq ?_
    refine R_GN ?_
    refine G_run 2 ?_
    refine G_semN rfl (by kernel_rfl) (fun _ => E_eqlStr (a := p0.name) (b := ByteArray.empty) rfl (by kernel_rfl) (by kernel_rfl)) ?_
    refine G_run 1 ?_
    obtain ⟨v8, hs, hm⟩ := bind_inv hm
    refine G_cut (j := 9) (fun d => ⟨sl d 170 [(1, (.ptr 0 0)), (3, (boolPV v1)), (12, (.ptr 0 0)), (13, (intPV p0.kind)), (14, (boolPV (p0.kind == 1))), (15, (boolPV (p0.kind == 1))), (35, (boolPV (p0.kind == 2))), (36, (boolPV (p0.kind == 2))), (62, (boolPV (p0.kind == 3))), (63, (boolPV (p0.kind == 3))), (64, (.ptr 0 3)), (65, (.dat (strD p0.name))), (66, (boolPV (decide (p0.name = ByteArray.empty)))), (72, (boolPV v8))], [(.box [(intPV p0.kind), (intPV p0.fn), (intPV p0.axis), (.dat (strD p0.name)), (.dat (.lst ((List.map intD) p0.nums))), (.dat (.lst (T_api_Tree.toDs p0.kids)))])]⟩) (fun d => ?_) (fun hJ => ?_)
    · clear hs
      refine G_run 1 ?_
      obtain ⟨v9, hs, hm⟩ := bind_inv hm
      refine G_cut (j := 15) (fun d => ⟨sl d 170 [(1, (.ptr 0 0)), (3, (boolPV v1)), (12, (.ptr 0 0)), (13, (intPV p0.kind)), (14, (boolPV (p0.kind == 1))), (15, (boolPV (p0.kind == 1))), (35, (boolPV (p0.kind == 2))), (36, (boolPV (p0.kind == 2))), (62, (boolPV (p0.kind == 3))), (63, (boolPV (p0.kind == 3))), (64, (.ptr 0 3)), (65, (.dat (strD p0.name))), (66, (boolPV (decide (p0.name = ByteArray.empty)))), (72, (boolPV v8)), (78, (boolPV v9))], [(.box [(intPV p0.kind), (intPV p0.fn), (intPV p0.axis), (.dat (strD p0.name)), (.dat (.lst ((List.map intD) p0.nums))), (.dat (.lst (T_api_Tree.toDs p0.kids)))])]⟩) (fun d => ?_) (fun hJ => ?_)
      · clear hs
        refine G_run 1 ?_
        refine G_split (p := v9 = true) 79 (bool_dec _) (fun hc => ?_) (fun hc => ?_)
        · replace hm := pos_inv hc hm
          refine G_run 4 ?_
          obtain ⟨v10, hs, hm⟩ := bind_inv hm
          refine G_cut (j := 27) (fun d => ⟨sl d 170 [(1, (.ptr 0 0)), (3, (boolPV v1)), (12, (.ptr 0 0)), (13, (intPV p0.kind)), (14, (boolPV (p0.kind == 1))), (15, (boolPV (p0.kind == 1))), (35, (boolPV (p0.kind == 2))), (36, (boolPV (p0.kind == 2))), (62, (boolPV (p0.kind == 3))), (63, (boolPV (p0.kind == 3))), (64, (.ptr 0 3)), (65, (.dat (strD p0.name))), (66, (boolPV (decide (p0.name = ByteArray.empty)))), (72, (boolPV v8)), (78, (boolPV v9)), (79, (boolPV true)), (80, (.ptr 0 1)), (81, (intPV p0.fn)), (82, (boolPV (p0.fn == 3))), (90, (boolPV v10))], [(.box [(intPV p0.kind), (intPV p0.fn), (intPV p0.axis), (.dat (strD p0.name)), (.dat (.lst ((List.map intD) p0.nums))), (.dat (.lst (T_api_Tree.toDs p0.kids)))])]⟩) (fun d => ?_) (fun hJ => ?_)
          · clear hs
            refine G_run 1 ?_
            refine G_split (p := v10 = true) 91 (bool_dec _) (fun hc => ?_) (fun hc => ?_)
            · replace hm := pos_inv hc hm
              refine G_run 16 ?_
              refine G_end ⟨by kernel_rfl, ?_⟩
              refine R_ret ?_
              obtain rfl := inj1 hm
              exact ⟨trivial, fin_pure (by kernel_rfl)⟩
            replace hm := neg_inv hc hm
            refine G_run 4 ?_
            obtain ⟨v12, hs, hm⟩ := bind_inv hm
            refine G_cut (j := 36) (fun d => ⟨sl d 170 [(1, (.ptr 0 0)), (3, (boolPV v1)), (12, (.ptr 0 0)), (13, (intPV p0.kind)), (14, (boolPV (p0.kind == 1))), (15, (boolPV (p0.kind == 1))), (35, (boolPV (p0.kind == 2))), (36, (boolPV (p0.kind == 2))), (62, (boolPV (p0.kind == 3))), (63, (boolPV (p0.kind == 3))), (64, (.ptr 0 3)), (65, (.dat (strD p0.name))), (66, (boolPV (decide (p0.name = ByteArray.empty)))), (72, (boolPV v8)), (78, (boolPV v9)), (79, (boolPV true)), (80, (.ptr 0 1)), (81, (intPV p0.fn)), (82, (boolPV (p0.fn == 3))), (90, (boolPV v10)), (91, (boolPV false)), (92, (.ptr 0 1)), (93, (intPV p0.fn)), (94, (boolPV (p0.fn == 4))), (99, (boolPV v12))], [(.box [(intPV p0.kind), (intPV p0.fn), (intPV p0.axis), (.dat (strD p0.name)), (.dat (.lst ((List.map intD) p0.nums))), (.dat (.lst (T_api_Tree.toDs p0.kids)))])]⟩) (fun d => ?_) (fun hJ => ?_)
            · clear hs
              refine G_run 1 ?_
              obtain ⟨v13, hs, hm⟩ := bind_inv hm
              refine G_cut (j := 41) (fun d => ⟨sl d 170 [(1, (.ptr 0 0)), (3, (boolPV v1)), (12, (.ptr 0 0)), (13, (intPV p0.kind)), (14, (boolPV (p0.kind == 1))), (15, (boolPV (p0.kind == 1))), (35, (boolPV (p0.kind == 2))), (36, (boolPV (p0.kind == 2))), (62, (boolPV (p0.kind == 3))), (63, (boolPV (p0.kind == 3))), (64, (.ptr 0 3)), (65, (.dat (strD p0.name))), (66, (boolPV (decide (p0.name = ByteArray.empty)))), (72, (boolPV v8)), (78, (boolPV v9)), (79, (boolPV true)), (80, (.ptr 0 1)), (81, (intPV p0.fn)), (82, (boolPV (p0.fn == 3))), (90, (boolPV v10)), (91, (boolPV false)), (92, (.ptr 0 1)), (93, (intPV p0.fn)), (94, (boolPV (p0.fn == 4))), (99, (boolPV v12)), (104, (boolPV v13))], [(.box [(intPV p0.kind), (intPV p0.fn), (intPV p0.axis), (.dat (strD p0.name)), (.dat (.lst ((List.map intD) p0.nums))), (.dat (.lst (T_api_Tree.toDs p0.kids)))])]⟩) (fun d => ?_) (fun hJ => ?_)
              · clear hs
                refine G_run 3 ?_
                refine G_end ⟨by kernel_rfl, ?_⟩
                refine R_ret ?_
                obtain rfl := inj1 hm
                exact ⟨trivial, fin_pure (by kernel_rfl)⟩
              replace hm := hs
              clear hs
              refine G_split (p := v12 = true) 100 (bool_dec _) (fun hc => ?_) (fun hc => ?_)
              · replace hm := pos_inv hc hm
                refine G_run 4 ?_
                obtain rfl := inj1 hm
                exact hJ _ _ (by kernel_rfl) (by kernel_rfl)
              replace hm := neg_inv hc hm
              refine G_run 4 ?_
              obtain rfl := inj1 hm
              exact hJ _ _ (by kernel_rfl) (by kernel_rfl)
            replace hm := hs
            clear hs
            refine G_split (p := p0.fn = 4) 95 (eq_dec _ _) (fun hc => ?_) (fun hc => ?_)
            · replace hm := pos_inv hc hm
              refine G_run 4 ?_
              obtain rfl := inj1 hm
              exact hJ _ _ (by kernel_rfl) (by kernel_rfl)
            replace hm := neg_inv hc hm
            refine G_run 4 ?_
            obtain rfl := inj1 hm
            exact hJ _ _ (by kernel_rfl) (by kernel_rfl)
          replace hm := hs
          clear hs
          refine G_split (p := p0.fn = 3) 83 (eq_dec _ _) (fun hc => ?_) (fun hc => ?_)
          · replace hm := pos_inv hc hm
            refine G_run 4 ?_
            obtain ⟨v11, hs, hm⟩ := bind_inv hm
            refine G_cut (j := 26) (fun d => ⟨sl d 170 [(1, (.ptr 0 0)), (3, (boolPV v1)), (12, (.ptr 0 0)), (13, (intPV p0.kind)), (14, (boolPV (p0.kind == 1))), (15, (boolPV (p0.kind == 1))), (35, (boolPV (p0.kind == 2))), (36, (boolPV (p0.kind == 2))), (62, (boolPV (p0.kind == 3))), (63, (boolPV (p0.kind == 3))), (64, (.ptr 0 3)), (65, (.dat (strD p0.name))), (66, (boolPV (decide (p0.name = ByteArray.empty)))), (72, (boolPV v8)), (78, (boolPV v9)), (79, (boolPV true)), (80, (.ptr 0 1)), (81, (intPV p0.fn)), (82, (boolPV (p0.fn == 3))), (83, (boolPV true)), (84, (.ptr 0 2)), (85, (intPV p0.axis)), (86, (boolPV (p0.axis == (-1)))), (89, (boolPV v11))], [(.box [(intPV p0.kind), (intPV p0.fn), (intPV p0.axis), (.dat (strD p0.name)), (.dat (.lst ((List.map intD) p0.nums))), (.dat (.lst (T_api_Tree.toDs p0.kids)))])]⟩) (fun d => ?_) (fun hJ => ?_)
            · clear hs
              refine G_run 1 ?_
              obtain rfl := inj1 hm
              exact hJ _ _ (by kernel_rfl) (by kernel_rfl)
            replace hm := hs
            clear hs
            refine G_split (p := p0.axis = (-1)) 87 (eq_dec _ _) (fun hc => ?_) (fun hc => ?_)
            · replace hm := pos_inv hc hm
              refine G_run 2 ?_
              obtain rfl := inj1 hm
              exact hJ _ _ (by kernel_rfl) (by kernel_rfl)
            replace hm := neg_inv hc hm
            refine G_run 2 ?_
            obtain rfl := inj1 hm
            exact hJ _ _ (by kernel_rfl) (by kernel_rfl)
          replace hm := neg_inv hc hm
          refine G_run 7 ?_
          obtain rfl := inj1 hm
          exact hJ _ _ (by kernel_rfl) (by kernel_rfl)
        replace hm := neg_inv hc hm
        refine G_run 28 ?_
        refine G_end ⟨by kernel_rfl, ?_⟩
        refine R_ret ?_
        obtain rfl := inj1 hm
        exact ⟨trivial, fin_pure (by kernel_rfl)⟩
      replace hm := hs
      clear hs
      refine G_split (p := v8 = true) 73 (bool_dec _) (fun hc => ?_) (fun hc => ?_)
      · replace hm := pos_inv hc hm
        refine G_run 2 ?_
        refine I_len T_api_Tree.toD p0.kids (es := T_api_Tree.toDs p0.kids) (T_api_Tree.toDs_eq _) ?_
        refine G_run 2 ?_
        obtain rfl := inj1 hm
        exact hJ _ _ (by kernel_rfl) (by kernel_rfl)
      replace hm := neg_inv hc hm
      refine G_run 5 ?_
      obtain rfl := inj1 hm
      exact hJ _ _ (by kernel_rfl) (by kernel_rfl)
    replace hm := hs
    clear hs
    refine G_split (p := p0.name = ByteArray.empty) 67 (rfl) (fun hc => ?_) (fun hc => ?_)
    · replace hm := pos_inv hc hm
      refine G_run 2 ?_
      refine I_len intD p0.nums (es := (List.map intD) p0.nums) rfl ?_
      refine G_run 2 ?_
      obtain rfl := inj1 hm
      exact hJ _ _ (by kernel_rfl) (by kernel_rfl)
    replace hm := neg_inv hc hm
    refine G_run 5 ?_
    obtain rfl := inj1 hm
    exact hJ _ _ (by kernel_rfl) (by kernel_rfl)
  replace hm := neg_inv hc hm
  refine R_seq ?_
  refine R_G ?_
  refine G_run 2 ?_
  refine G_end ?_
  refine R_ifp (p := p0.kind = 4) (eq_dec _ _) (fun hc => ?_) (fun hc => ?_)
  · replace hm := pos_inv hc hm
    refine R_seq ?_
    refine R_seq ?_
    obtain ⟨v14, hs, hm⟩ := bind_inv hm
    refine R_cut (fun d => ⟨sl d 170 [(1, (.ptr 0 0)), (3, (boolPV v1)), (133, (boolPV v14))], [(.box [(intPV p0.kind), (intPV p0.fn), (intPV p0.axis), (.dat (strD p0.name)), (.dat (.lst ((List.map intD) p0.nums))), (.dat (.lst (T_api_Tree.toDs p0.kids)))])]⟩) ?_ (fun d => ?_)
    · replace hm := hs
      clear hs
      refine R_GN ?_
      refine G_run 2 ?_
      refine G_semN rfl (by kernel_rfl) (fun _ => E_neqStr (a := p0.name) (b := ByteArray.empty) rfl (by kernel_rfl) (by kernel_rfl)) ?_
      refine G_run 1 ?_
      obtain ⟨v15, hs, hm⟩ := bind_inv hm
      refine G_cut (j := 9) (fun d => ⟨sl d 170 [(1, (.ptr 0 0)), (3, (boolPV v1)), (12, (.ptr 0 0)), (13, (intPV p0.kind)), (14, (boolPV (p0.kind == 1))), (15, (boolPV (p0.kind == 1))), (35, (boolPV (p0.kind == 2))), (36, (boolPV (p0.kind == 2))), (62, (boolPV (p0.kind == 3))), (63, (boolPV (p0.kind == 3))), (107, (boolPV (p0.kind == 4))), (108, (boolPV (p0.kind == 4))), (109, (.ptr 0 3)), (110, (.dat (strD p0.name))), (111, (boolPV (decide (p0.name ≠ ByteArray.empty)))), (117, (boolPV v15))], [(.box [(intPV p0.kind), (intPV p0.fn), (intPV p0.axis), (.dat (strD p0.name)), (.dat (.lst ((List.map intD) p0.nums))), (.dat (.lst (T_api_Tree.toDs p0.kids)))])]⟩) (fun d => ?_) (fun hJ => ?_)
      · clear hs
        refine G_run 1 ?_
        obtain ⟨v16, hs, hm⟩ := bind_inv hm
        refine G_cut (j := 15) (fun d => ⟨sl d 170 [(1, (.ptr 0 0)), (3, (boolPV v1)), (12, (.ptr 0 0)), (13, (intPV p0.kind)), (14, (boolPV (p0.kind == 1))), (15, (boolPV (p0.kind == 1))), (35, (boolPV (p0.kind == 2))), (36, (boolPV (p0.kind == 2))), (62, (boolPV (p0.kind == 3))), (63, (boolPV (p0.kind == 3))), (107, (boolPV (p0.kind == 4))), (108, (boolPV (p0.kind == 4))), (109, (.ptr 0 3)), (110, (.dat (strD p0.name))), (111, (boolPV (decide (p0.name ≠ ByteArray.empty)))), (117, (boolPV v15)), (123, (boolPV v16))], [(.box [(intPV p0.kind), (intPV p0.fn), (intPV p0.axis), (.dat (strD p0.name)), (.dat (.lst ((List.map intD) p0.nums))), (.dat (.lst (T_api_Tree.toDs p0.kids)))])]⟩) (fun d => ?_) (fun hJ => ?_)
        · clear hs
          refine G_run 1 ?_
          obtain ⟨v17, hs, hm⟩ := bind_inv hm
          refine G_cut (j := 20) (fun d => ⟨sl d 170 [(1, (.ptr 0 0)), (3, (boolPV v1)), (12, (.ptr 0 0)), (13, (intPV p0.kind)), (14, (boolPV (p0.kind == 1))), (15, (boolPV (p0.kind == 1))), (35, (boolPV (p0.kind == 2))), (36, (boolPV (p0.kind == 2))), (62, (boolPV (p0.kind == 3))), (63, (boolPV (p0.kind == 3))), (107, (boolPV (p0.kind == 4))), (108, (boolPV (p0.kind == 4))), (109, (.ptr 0 3)), (110, (.dat (strD p0.name))), (111, (boolPV (decide (p0.name ≠ ByteArray.empty)))), (117, (boolPV v15)), (123, (boolPV v16)), (128, (boolPV v17))], [(.box [(intPV p0.kind), (intPV p0.fn), (intPV p0.axis), (.dat (strD p0.name)), (.dat (.lst ((List.map intD) p0.nums))), (.dat (.lst (T_api_Tree.toDs p0.kids)))])]⟩) (fun d => ?_) (fun hJ => ?_)
          · clear hs
            refine G_run 1 ?_
            refine G_split (p := v17 = true) 129 (bool_dec _) (fun hc => ?_) (fun hc => ?_)
            · replace hm := pos_inv hc hm
              refine G_run 4 ?_
              refine G_end ⟨by kernel_rfl, ?_⟩
              obtain rfl := inj1 hm
              exact cut_leaf (by kernel_rfl)
            replace hm := neg_inv hc hm
            refine G_run 4 ?_
            refine G_end ⟨by kernel_rfl, ?_⟩
            obtain rfl := inj1 hm
            exact cut_leaf (by kernel_rfl)
          replace hm := hs
          clear hs
          refine G_split (p := v16 = true) 124 (bool_dec _) (fun hc => ?_) (fun hc => ?_)
          · replace hm := pos_inv hc hm
            refine G_run 4 ?_
            obtain rfl := inj1 hm
            exact hJ _ _ (by kernel_rfl) (by kernel_rfl)
          replace hm := neg_inv hc hm
          refine G_run 4 ?_
          obtain rfl := inj1 hm
          exact hJ _ _ (by kernel_rfl) (by kernel_rfl)
        replace hm := hs
        clear hs
        refine G_split (p := v15 = true) 118 (bool_dec _) (fun hc => ?_) (fun hc => ?_)
        · replace hm := pos_inv hc hm
          refine G_run 5 ?_
          obtain rfl := inj1 hm
          exact hJ _ _ (by kernel_rfl) (by kernel_rfl)
        replace hm := neg_inv hc hm
        refine G_run 2 ?_
        refine I_len T_api_Tree.toD p0.kids (es := T_api_Tree.toDs p0.kids) (T_api_Tree.toDs_eq _) ?_
        refine G_run 2 ?_
        obtain rfl := inj1 hm
        exact hJ _ _ (by kernel_rfl) (by kernel_rfl)
      replace hm := hs
      clear hs
      refine G_split (p := p0.name ≠ ByteArray.empty) 112 (rfl) (fun hc => ?_) (fun hc => ?_)
      · replace hm := pos_inv hc hm
        refine G_run 5 ?_
        obtain rfl := inj1 hm
        exact hJ _ _ (by kernel_rfl) (by kernel_rfl)
      replace hm := neg_inv hc hm
      refine G_run 2 ?_
      refine I_len intD p0.nums (es := (List.map intD) p0.nums) rfl ?_
      refine G_run 2 ?_
      obtain rfl := inj1 hm
      exact hJ _ _ (by kernel_rfl) (by kernel_rfl)
    clear hs
    refine R_ifp (p := v14 = true) (bool_dec _) (fun hc => ?_) (fun hc => ?_)
    · replace hm := pos_inv hc hm
      refine R_seq ?_
      refine R_G ?_
      refine G_run 1 ?_
      refine G_end ?_
      refine R_ret ?_
      obtain rfl := inj1 hm
      exact ⟨trivial, fin_pure (by kernel_rfl)⟩
    replace hm := neg_inv hc hm
    refine R_skip ?_
    refine R_seq ?_
    refine R_seq ?_
    obtain ⟨v18, hs, hm⟩ := bind_inv hm
    refine R_cut (fun d => ⟨sl d 170 [(1, (.ptr 0 0)), (150, (boolPV v18))], [(.box [(intPV p0.kind), (intPV p0.fn), (intPV p0.axis), (.dat (strD p0.name)), (.dat (.lst ((List.map intD) p0.nums))), (.dat (.lst (T_api_Tree.toDs p0.kids)))])]⟩) ?_ (fun d => ?_)
    · replace hm := hs
      clear hs
      refine R_GN ?_
      refine G_run 4 ?_
      refine G_split (p := p0.axis ≠ (-1)) 137 (ne_dec _ _) (fun hc => ?_) (fun hc => ?_)
      · replace hm := pos_inv hc hm
        refine G_run 3 ?_
        refine G_split (p := v1 = false) 140 (not_dec _) (fun hc => ?_) (fun hc => ?_)
        · replace hm := pos_inv hc hm
          refine G_run 10 ?_
          refine G_end ⟨by kernel_rfl, ?_⟩
          obtain rfl := inj1 hm
          exact cut_leaf (by kernel_rfl)
        replace hm := neg_inv hc hm
        refine G_run 4 ?_
        obtain ⟨v19, hs, hm⟩ := bind_inv hm
        refine G_cut (j := 15) (fun d => ⟨sl d 170 [(1, (.ptr 0 0)), (3, (boolPV v1)), (133, (boolPV v14)), (134, (.ptr 0 2)), (135, (intPV p0.axis)), (136, (boolPV (p0.axis != (-1)))), (137, (boolPV true)), (138, (boolPV v1)), (139, (boolPV (!v1))), (140, (boolPV false)), (141, (.ptr 0 1)), (142, (intPV p0.fn)), (143, (boolPV (p0.fn != 3))), (148, (boolPV v19))], [(.box [(intPV p0.kind), (intPV p0.fn), (intPV p0.axis), (.dat (strD p0.name)), (.dat (.lst ((List.map intD) p0.nums))), (.dat (.lst (T_api_Tree.toDs p0.kids)))])]⟩) (fun d => ?_) (fun hJ => ?_)
        · clear hs
          refine G_run 2 ?_
          refine G_end ⟨by kernel_rfl, ?_⟩
          obtain rfl := inj1 hm
          exact cut_leaf (by kernel_rfl)
        replace hm := hs
        clear hs
        refine G_split (p := p0.fn ≠ 3) 144 (ne_dec _ _) (fun hc => ?_) (fun hc => ?_)
        · replace hm := pos_inv hc hm
          refine G_run 4 ?_
          obtain rfl := inj1 hm
          exact hJ _ _ (by kernel_rfl) (by kernel_rfl)
        replace hm := neg_inv hc hm
        refine G_run 4 ?_
        obtain rfl := inj1 hm
        exact hJ _ _ (by kernel_rfl) (by kernel_rfl)
      replace hm := neg_inv hc hm
      refine G_run 13 ?_
      refine G_end ⟨by kernel_rfl, ?_⟩
      obtain rfl := inj1 hm
      exact cut_leaf (by kernel_rfl)
    clear hs
    refine R_ifp (p := v18 = true) (bool_dec _) (fun hc => ?_) (fun hc => ?_)
    · replace hm := pos_inv hc hm
      refine R_seq ?_
      refine R_G ?_
      refine G_run 1 ?_
      refine G_end ?_
      refine R_ret ?_
      obtain rfl := inj1 hm
      exact ⟨trivial, fin_pure (by kernel_rfl)⟩
    replace hm := neg_inv hc hm
    refine R_skip ?_
    refine R_seq ?_
    refine R_GN ?_
    refine G_run 4 ?_
    obtain ⟨v20, hs, hm⟩ := bind_inv hm
    refine G_cut (j := 11) (fun d => ⟨sl d 170 [(1, (.ptr 0 0)), (150, (boolPV v18)), (151, (.ptr 0 1)), (152, (intPV p0.fn)), (153, (boolPV (p0.fn == 6))), (161, (boolPV v20))], [(.box [(intPV p0.kind), (intPV p0.fn), (intPV p0.axis), (.dat (strD p0.name)), (.dat (.lst ((List.map intD) p0.nums))), (.dat (.lst (T_api_Tree.toDs p0.kids)))])]⟩) (fun d => ?_) (fun hJ => ?_)
    · clear hs
      refine G_run 1 ?_
      refine G_split (p := v20 = true) 162 (bool_dec _) (fun hc => ?_) (fun hc => ?_)
      · replace hm := pos_inv hc hm
        refine G_run 8 ?_
        refine G_end ⟨by kernel_rfl, ?_⟩
        refine R_ret ?_
        obtain rfl := inj1 hm
        exact ⟨trivial, fin_pure (by kernel_rfl)⟩
      replace hm := neg_inv hc hm
      refine G_run 2 ?_
      obtain ⟨v22, hx, hm⟩ := bind_inv hm
      refine I_idx 6 T_api_Tree.toD p0.kids 0 v22 (es := T_api_Tree.toDs p0.kids) (d := (T_api_Tree.ex v22)) (T_api_Tree.toDs_eq _) hx (T_api_Tree.toD_eq v22) rfl ?_
      refine G_run 5 ?_
      refine G_end ⟨by kernel_rfl, ?_⟩
      refine R_ret ?_
      obtain rfl := inj1 hm
      exact ⟨trivial, fin_pure (by kernel_rfl)⟩
    replace hm := hs
    clear hs
    refine G_split (p := p0.fn = 6) 154 (eq_dec _ _) (fun hc => ?_) (fun hc => ?_)
    · replace hm := pos_inv hc hm
      refine G_run 7 ?_
      obtain rfl := inj1 hm
      exact hJ _ _ (by kernel_rfl) (by kernel_rfl)
    replace hm := neg_inv hc hm
    refine G_run 2 ?_
    obtain ⟨v21, hx, hm⟩ := bind_inv hm
    refine I_idx 6 T_api_Tree.toD p0.kids 0 v21 (es := T_api_Tree.toDs p0.kids) (d := (T_api_Tree.ex v21)) (T_api_Tree.toDs_eq _) hx (T_api_Tree.toD_eq v21) rfl ?_
    refine G_run 4 ?_
    obtain rfl := inj1 hm
    exact hJ _ _ (by kernel_rfl) (by kernel_rfl)
  replace hm := neg_inv hc hm
  refine R_skip ?_
  refine R_seq ?_
  refine R_G ?_
  refine G_run 1 ?_
  refine G_end ?_
  refine R_ret ?_
  obtain rfl := inj1 hm
  exact ⟨trivial, fin_pure (by kernel_rfl)⟩
end Go.Proofs.Tryd
namespace Go.Proofs.Tryd
open Go Go.Pm
set_option linter.unusedVariables false
set_option maxHeartbeats 2000000
set_option maxRecDepth 2000
mutual
def m_ref08_nodes_L1 (x : (T_api_Tree × Int)) : Option (Unit ⊕ Unit) :=
  match x with
  | (p0, v202) =>
  if v202 < (p0.kids.length : Int) then
    idx p0.kids v202 >>= fun v602 =>
    m_ref08_nodes v602 >>= fun (v603 : Bool) =>
    if v603 = false then
      some (Sum.inl ())
    else
    m_ref08_nodes_L1 (p0, (W (v202 + 1)))
  else
  some (Sum.inr ())
  partial_fixpoint
def m_ref08_nodes (x : T_api_Tree) : Option Bool :=
  match x with
  | p0 =>
  m_ref08_node (⟨p0.kind, p0.fn, p0.axis, p0.name, p0.nums, p0.kids⟩ : T_api_Tree) >>= fun (v1 : Bool) =>
  if v1 = false then
    some false
  else
  (
  m_ref08_nodes_L1 (p0, 0) >>= fun (out : Unit ⊕ Unit) =>
  match out with
  | .inl _ =>
    some false
  | .inr (_) =>
    some true
  )
  partial_fixpoint
end
def P_ref08_nodes_L1 : (T_api_Tree × Int) → (Unit ⊕ Unit) → Prop := fun x r => match x with
  | (p0, v202) => ∀ st, prune 1 ((firstRegion (codeAt [1, 1, 0, 1, 0, 0] (bodyOf f29))).bind (env.hint 29).keepAt) st = ⟨kp 21 [(1, (.ptr 0 0)), (3, (intPV v202))], [(.box [(intPV p0.kind), (intPV p0.fn), (intPV p0.axis), (.dat (strD p0.name)), (.dat (.lst ((List.map intD) p0.nums))), (.dat (.lst (T_api_Tree.toDs p0.kids)))])]⟩ →
    RL prog env (env.hint 29) true (codeAt [1, 1, 0, 1, 0, 0] (bodyOf f29)) 1 st (fun e s => match r with | .inl _ => e = .ret ∧ ∃ d, s = ⟨sl d 21 [(2, (boolPV false))], [(.box [(intPV p0.kind), (intPV p0.fn), (intPV p0.axis), (.dat (strD p0.name)), (.dat (.lst ((List.map intD) p0.nums))), (.dat (.lst (T_api_Tree.toDs p0.kids)))])]⟩ | .inr (_) => e = .exit 0 ∧ ∃ d, s = ⟨sl d 21 [], [(.box [(intPV p0.kind), (intPV p0.fn), (intPV p0.axis), (.dat (strD p0.name)), (.dat (.lst ((List.map intD) p0.nums))), (.dat (.lst (T_api_Tree.toDs p0.kids)))])]⟩)
def P_ref08_nodes : T_api_Tree → Bool → Prop := fun x r => match x, r with
  | p0, r0 => ∀ H, PC prog env 29 ([(T_api_Tree.ex p0)].map .dat) H (boolPV r0) H
theorem g_ref08_nodes_L1 : (∀ x r, m_ref08_nodes_L1 x = some r → P_ref08_nodes_L1 x r) ∧ (∀ x r, m_ref08_nodes x = some r → P_ref08_nodes x r) := by
  refine m_ref08_nodes_L1.mutual_partial_correctness P_ref08_nodes_L1 P_ref08_nodes ?_ ?_
  · intro m_ref08_nodes_L1 m_ref08_nodes w_ref08_nodes_L1 w_ref08_nodes x r hm
    unfold P_ref08_nodes_L1
    obtain ⟨p0, v202⟩ := x
    intro st hst
    refine RL_at hst ?_
    clear hst
    refine R_seq ?_
    refine R_seq ?_
    refine R_G ?_
    refine G_run 3 ?_
    refine I_len T_api_Tree.toD p0.kids (es := T_api_Tree.toDs p0.kids) (T_api_Tree.toDs_eq _) ?_
    refine G_run 1 ?_
    refine G_end ?_
    refine R_ifp (p := v202 < (p0.kids.length : Int)) (rfl) (fun hc => ?_) (fun hc => ?_)
    · replace hm := pos_inv hc hm
      refine R_skip ?_
      refine R_seq ?_
      refine R_block ?_
      refine R_seq ?_
      refine R_G ?_
      refine G_run 3 ?_
      obtain ⟨v602, hx, hm⟩ := bind_inv hm
      refine I_idx 6 T_api_Tree.toD p0.kids v202 v602 (es := T_api_Tree.toDs p0.kids) (d := (T_api_Tree.ex v602)) (T_api_Tree.toDs_eq _) hx (T_api_Tree.toD_eq v602) rfl ?_
      refine G_run 1 ?_
      obtain ⟨v603, hx, hm⟩ := bind_inv hm
      have hq := w_ref08_nodes _ _ hx []
      refine G_callP hq ?_
      refine G_run 1 ?_
      refine G_end ?_
      refine R_ifp (p := v603 = false) (not_dec _) (fun hc => ?_) (fun hc => ?_)
      · replace hm := pos_inv hc hm
        refine R_seq ?_
        refine R_G ?_
        refine G_run 1 ?_
        refine G_end ?_
        refine R_ret ?_
        obtain rfl := inj1 hm
        exact ⟨rfl, cut_leaf (by kernel_rfl)⟩
      replace hm := neg_inv hc hm
      refine R_skip ?_
      refine R_G ?_
      refine G_run 3 ?_
      refine G_end ?_
      exact w_ref08_nodes_L1 _ _ hm _ (by kernel_rfl)
    replace hm := neg_inv hc hm
    refine R_exit ?_
    obtain rfl := inj1 hm
    exact ⟨rfl, cut_leaf (by kernel_rfl)⟩
  · intro m_ref08_nodes_L1 w_ref08_nodes_L1 p0 r0 hm
    unfold P_ref08_nodes
    intro H
    refine PC_sx (ds := [(T_api_Tree.ex p0)]) (fn := f29) (by kernel_rfl) (by kernel_rfl) rfl ?_ (by kernel_rfl)
    refine R_seq ?_
    refine R_G ?_
    refine G_run 2 ?_
    refine G_end ?_
    refine R_seq ?_
    refine R_seq ?_
    refine R_G ?_
    refine G_run 1 ?_
    obtain ⟨v1, hx, hm⟩ := bind_inv hm
    have hq := w_ref08_node _ _ hx []
    refine G_callP hq ?_
    refine G_run 1 ?_
    refine G_end ?_
    refine R_ifp (p := v1 = false) (not_dec _) (fun hc => ?_) (fun hc => ?_)
    · replace hm := pos_inv hc hm
      refine R_seq ?_
      refine R_G ?_
      refine G_run 1 ?_
      refine G_end ?_
      refine R_ret ?_
      obtain rfl := inj1 hm
      exact ⟨trivial, fin_pure (by kernel_rfl)⟩
    replace hm := neg_inv hc hm
    refine R_skip ?_
    refine R_seq ?_
    refine R_seq ?_
    refine R_G ?_
    refine G_run 1 ?_
    refine G_end ?_
    refine R_block ?_
    obtain ⟨out, hs, hm⟩ := bind_inv hm
    refine R_loop ?_
    rcases out with _ | _
    · refine RL_use (w_ref08_nodes_L1 _ _ hs) (by kernel_rfl) ?_
      clear hs
      intro e s hp
      obtain ⟨rfl, d, rfl⟩ := hp
      obtain rfl := inj1 hm
      exact ⟨trivial, fin_pure (by kernel_rfl)⟩
    · refine RL_use (w_ref08_nodes_L1 _ _ hs) (by kernel_rfl) ?_
      clear hs
      intro e s hp
      obtain ⟨rfl, d, rfl⟩ := hp
      refine R_seq ?_
      refine R_G ?_
      refine G_run 1 ?_
      refine G_end ?_
      refine R_ret ?_
      obtain rfl := inj1 hm
      exact ⟨trivial, fin_pure (by kernel_rfl)⟩
theorem w_ref08_nodes_L1 : ∀ x r, m_ref08_nodes_L1 x = some r → P_ref08_nodes_L1 x r := g_ref08_nodes_L1.1
theorem w_ref08_nodes : ∀ x r, m_ref08_nodes x = some r → P_ref08_nodes x r := g_ref08_nodes_L1.2
end Go.Proofs.Tryd
namespace Go.Proofs.Tryd
open Go Go.Pm
set_option linter.unusedVariables false
set_option maxHeartbeats 2000000
set_option maxRecDepth 2000
def m_ref08_Right (x : T_api_Tree) : Option Bool :=
  match x with
  | p0 =>
  m_ref08_Depth p0 >>= fun (v1 : Int) =>
  if v1 ≤ 100 then
    m_ref08_nodes (⟨p0.kind, p0.fn, p0.axis, p0.name, p0.nums, p0.kids⟩ : T_api_Tree) >>= fun (v2 : Bool) =>
    some v2
  else
  some false
def P_ref08_Right : T_api_Tree → Bool → Prop := fun x r => match x, r with
  | p0, r0 => ∀ H, PC prog env 16 ([(T_api_Tree.ex p0)].map .dat) H (boolPV r0) H
theorem w_ref08_Right : ∀ x r, m_ref08_Right x = some r → P_ref08_Right x r := by
  intro p0 r0 hm
  unfold m_ref08_Right at hm
  unfold P_ref08_Right
  intro H
  refine PC_sx (ds := [(T_api_Tree.ex p0)]) (fn := f16) (by kernel_rfl) (by kernel_rfl) rfl ?_ (by kernel_rfl)
  refine R_seq ?_
  refine R_G ?_
  refine G_run 2 ?_
  refine G_end ?_
  refine R_seq ?_
  refine R_G ?_
  refine G_run 1 ?_
  obtain ⟨v1, hx, hm⟩ := bind_inv hm
  have hq := w_ref08_Depth _ _ hx []
  refine G_callP hq ?_
  refine G_run 2 ?_
  refine G_split (p := v1 ≤ 100) 6 (rfl) (fun hc => ?_) (fun hc => ?_)
  · replace hm := pos_inv hc hm
    refine G_run 1 ?_
    obtain ⟨v2, hx, hm⟩ := bind_inv hm
    have hq := w_ref08_nodes _ _ hx []
    refine G_callP hq ?_
    refine G_run 2 ?_
    refine G_end ?_
    refine R_ret ?_
    obtain rfl := inj1 hm
    exact ⟨trivial, fin_pure (by kernel_rfl)⟩
  replace hm := neg_inv hc hm
  refine G_run 4 ?_
  refine G_end ?_
  refine R_ret ?_
  obtain rfl := inj1 hm
  exact ⟨trivial, fin_pure (by kernel_rfl)⟩
end Go.Proofs.Tryd
namespace Go.Proofs.Tryd
open Go Go.Pm
set_option linter.unusedVariables false
set_option maxHeartbeats 2000000
set_option maxRecDepth 2000
def m_ref08_Small (x : (T_api_Tree × Int)) : Option Bool :=
  match x with
  | (p0, p1) =>
  m_ref08_Few (p0, p1) >>= fun (v1 : Bool) =>
  if v1 = true then
    m_ref08_Right (⟨p0.kind, p0.fn, p0.axis, p0.name, p0.nums, p0.kids⟩ : T_api_Tree) >>= fun (v2 : Bool) =>
    some v2
  else
  some false
def P_ref08_Small : (T_api_Tree × Int) → Bool → Prop := fun x r => match x, r with
  | (p0, p1), r0 => ∀ H, PC prog env 8 ([(T_api_Tree.ex p0), (intD p1)].map .dat) H (boolPV r0) H
theorem w_ref08_Small : ∀ x r, m_ref08_Small x = some r → P_ref08_Small x r := by
  intro x r0 hm
  unfold m_ref08_Small at hm
  unfold P_ref08_Small
  obtain ⟨p0, p1⟩ := x
  intro H
  refine PC_sx (ds := [(T_api_Tree.ex p0), (intD p1)]) (fn := f8) (by kernel_rfl) (by kernel_rfl) rfl ?_ (by kernel_rfl)
  refine R_seq ?_
  refine R_G ?_
  refine G_run 2 ?_
  refine G_end ?_
  refine R_seq ?_
  refine R_G ?_
  refine G_run 2 ?_
  obtain ⟨v1, hx, hm⟩ := bind_inv hm
  have hq := w_ref08_Few _ _ hx []
  refine G_callP hq ?_
  refine G_run 1 ?_
  refine G_split (p := v1 = true) 8 (bool_dec _) (fun hc => ?_) (fun hc => ?_)
  · replace hm := pos_inv hc hm
    refine G_run 1 ?_
    obtain ⟨v2, hx, hm⟩ := bind_inv hm
    have hq := w_ref08_Right _ _ hx []
    refine G_callP hq ?_
    refine G_run 2 ?_
    refine G_end ?_
    refine R_ret ?_
    obtain rfl := inj1 hm
    exact ⟨trivial, fin_pure (by kernel_rfl)⟩
  replace hm := neg_inv hc hm
  refine G_run 4 ?_
  refine G_end ?_
  refine R_ret ?_
  obtain rfl := inj1 hm
  exact ⟨trivial, fin_pure (by kernel_rfl)⟩
end Go.Proofs.Tryd
namespace Go.Proofs.Tryd
open Go Go.Pm
set_option linter.unusedVariables false
set_option maxHeartbeats 2000000
set_option maxRecDepth 2000
def m_ref29_monad (x : (T_api_Tree × Int)) : Option Bool :=
  match x with
  | (p0, p1) =>
  if p0.kind = 3 then
    some (p0.fn == p1)
  else
  some false
def P_ref29_monad : (T_api_Tree × Int) → Bool → Prop := fun x r => match x, r with
  | (p0, p1), r0 => ∀ H, PC prog env 24 ([(T_api_Tree.ex p0), (intD p1)].map .dat) H (boolPV r0) H
theorem w_ref29_monad : ∀ x r, m_ref29_monad x = some r → P_ref29_monad x r := by
  intro x r0 hm
  unfold m_ref29_monad at hm
  unfold P_ref29_monad
  obtain ⟨p0, p1⟩ := x
  intro H
  refine PC_sx (ds := [(T_api_Tree.ex p0), (intD p1)]) (fn := f24) (by kernel_rfl) (by kernel_rfl) rfl ?_ (by kernel_rfl)
  refine R_seq ?_
  refine R_G ?_
  refine G_run 2 ?_
  refine G_end ?_
  refine R_seq ?_
  refine R_G ?_
  refine G_run 4 ?_
  refine G_split (p := p0.kind = 3) 8 (eq_dec _ _) (fun hc => ?_) (fun hc => ?_)
  · replace hm := pos_inv hc hm
    refine G_run 6 ?_
    refine G_end ?_
    refine R_ret ?_
    obtain rfl := inj1 hm
    exact ⟨trivial, fin_pure (by kernel_rfl)⟩
  replace hm := neg_inv hc hm
  refine G_run 6 ?_
  refine G_end ?_
  refine R_ret ?_
  obtain rfl := inj1 hm
  exact ⟨trivial, fin_pure (by kernel_rfl)⟩
end Go.Proofs.Tryd
namespace Go.Proofs.Tryd
open Go Go.Pm
set_option linter.unusedVariables false
set_option maxHeartbeats 2000000
set_option maxRecDepth 2000
def m_ref29_Rule (x : T_api_Tree) : Option (T_api_Tree × Int) :=
  match x with
  | p0 =>
  if p0.kind < 3 then
    some (p0, 0)
  else
  idx p0.kids (W ((p0.kids.length : Int) - 1)) >>= fun v1 =>
  if p0.kind = 3 then
    ((if p0.fn = 3 then
      m_ref29_monad (v1, 3) >>= fun (v4 : Bool) =>
      some v4
    else
    some false
    ) >>= fun (v3 : Bool) =>
    if v3 = true then
      some (v1.axis == p0.axis)
    else
    some false
    ) >>= fun (v2 : Bool) =>
    if v2 = true then
      idx v1.kids 0 >>= fun v5 =>
      some (v5, 1)
    else
    (if p0.fn = 4 then
      m_ref29_monad (v1, 4) >>= fun (v7 : Bool) =>
      some v7
    else
    some false
    ) >>= fun (v6 : Bool) =>
    if v6 = true then
      idx v1.kids 0 >>= fun v8 =>
      some (v8, 2)
    else
    (if p0.fn = 6 then
      m_ref29_monad (v1, 6) >>= fun (v10 : Bool) =>
      some v10
    else
    some false
    ) >>= fun (v9 : Bool) =>
    if v9 = true then
      some (v1, 3)
    else
    some (p0, 0)
  else
  idx p0.kids 0 >>= fun v11 =>
  (if p0.fn = 5 then
    m_ref29_monad (v1, 6) >>= fun (v13 : Bool) =>
    some v13
  else
  some false
  ) >>= fun (v12 : Bool) =>
  if v12 = true then
    idx v1.kids 0 >>= fun v14 =>
    some ((⟨4, 5, p0.axis, ByteArray.empty, ([] : (List Int)), ([(⟨v11.kind, v11.fn, v11.axis, v11.name, v11.nums, v11.kids⟩ : T_api_Tree), (⟨v14.kind, v14.fn, v14.axis, v14.name, v14.nums, v14.kids⟩ : T_api_Tree)] : (List T_api_Tree))⟩ : T_api_Tree), 4)
  else
  ((if p0.fn = 3 then
    some (v11.kind == 1)
  else
  some false
  ) >>= fun (v16 : Bool) =>
  (if v16 = true then
    some ((v11.nums.length : Int) == 1)
  else
  some false
  ) >>= fun (v17 : Bool) =>
  if v17 = true then
    idx v11.nums 0 >>= fun v18 =>
    some (v18 == 0)
  else
  some false
  ) >>= fun (v15 : Bool) =>
  if v15 = true then
    some (v1, 5)
  else
  ((if p0.fn = 2 then
    some (v11.kind == 1)
  else
  some false
  ) >>= fun (v20 : Bool) =>
  if v20 = true then
    some ((v11.nums.length : Int) == 0)
  else
  some false
  ) >>= fun (v19 : Bool) =>
  if v19 = true then
    some (v1, 6)
  else
  some (p0, 0)
def P_ref29_Rule : T_api_Tree → (T_api_Tree × Int) → Prop := fun x r => match x, r with
  | p0, (r0, r1) => ∀ H, PC prog env 10 ([(T_api_Tree.ex p0)].map .dat) H (.tup [(.dat (T_api_Tree.ex r0)), (intPV r1)]) H
theorem w_ref29_Rule : ∀ x r, m_ref29_Rule x = some r → P_ref29_Rule x r := by
  intro p0 r hm
  unfold m_ref29_Rule at hm
  unfold P_ref29_Rule
  obtain ⟨r0, r1⟩ := r
  intro H
  refine PC_sx (ds := [(T_api_Tree.ex p0)]) (fn := f10) (by kernel_rfl) (by kernel_rfl) rfl ?_ (by kernel_rfl)
  refine R_seq ?_
  refine R_G ?_
  refine G_run 3 ?_
  refine G_end ?_
  refine R_seq ?_
  refine R_seq ?_
  refine R_G ?_
  refine G_run 3 ?_
  refine G_end ?_
  refine R_ifp (p := p0.kind < 3) (rfl) (fun hc => ?_) (fun hc => ?_)
  · replace hm := pos_inv hc hm
    refine R_seq ?_
    refine R_G ?_
    refine G_run 3 ?_
    refine G_end ?_
    refine R_ret ?_
    obtain ⟨rfl, rfl⟩ := inj2 hm
    exact ⟨trivial, fin_pure (by kernel_rfl)⟩
  replace hm := neg_inv hc hm
  refine R_skip ?_
  refine R_seq ?_
  refine R_G ?_
  refine G_run 4 ?_
  refine I_len T_api_Tree.toD p0.kids (es := T_api_Tree.toDs p0.kids) (T_api_Tree.toDs_eq _) ?_
  refine G_run 1 ?_
  obtain ⟨v1, hx, hm⟩ := bind_inv hm
  refine I_idx 6 T_api_Tree.toD p0.kids (W ((p0.kids.length : Int) - 1)) v1 (es := T_api_Tree.toDs p0.kids) (d := (T_api_Tree.ex v1)) (T_api_Tree.toDs_eq _) hx (T_api_Tree.toD_eq v1) rfl ?_
  refine G_run 3 ?_
  refine G_end ?_
  refine R_seq ?_
  refine R_seq ?_
  refine R_G ?_
  refine G_run 3 ?_
  refine G_end ?_
  refine R_ifp (p := p0.kind = 3) (eq_dec _ _) (fun hc => ?_) (fun hc => ?_)
  · replace hm := pos_inv hc hm
    refine R_seq ?_
    refine R_seq ?_
    obtain ⟨v2, hs, hm⟩ := bind_inv hm
    refine R_cut (fun d => ⟨sl d 117 [(1, (.ptr 0 0)), (2, (.ptr 1 0)), (4, (.ptr 2 0)), (34, (boolPV v2))], [(.box [(intPV p0.kind), (intPV p0.fn), (intPV p0.axis), (.dat (strD p0.name)), (.dat (.lst ((List.map intD) p0.nums))), (.dat (.lst (T_api_Tree.toDs p0.kids)))]), (.box [(intPV 0), (intPV 0), (intPV 0), (.dat (strD ByteArray.empty)), (.dat (.lst ((List.map intD) []))), (.dat (.lst (T_api_Tree.toDs [])))]), (.box [(intPV v1.kind), (intPV v1.fn), (intPV v1.axis), (.dat (strD v1.name)), (.dat (.lst ((List.map intD) v1.nums))), (.dat (.lst (T_api_Tree.toDs v1.kids)))])]⟩) ?_ (fun d => ?_)
    · replace hm := hs
      clear hs
      refine R_GN ?_
      refine G_run 4 ?_
      obtain ⟨v3, hs, hm⟩ := bind_inv hm
      refine G_cut (j := 7) (fun d => ⟨sl d 117 [(0, (.dat (.agg [(intD p0.kind), (intD p0.fn), (intD p0.axis), (strD p0.name), (.lst ((List.map intD) p0.nums)), (.lst (T_api_Tree.toDs p0.kids))]))), (1, (.ptr 0 0)), (2, (.ptr 1 0)), (3, (intPV 0)), (4, (.ptr 2 0)), (6, (.ptr 0 0)), (7, (intPV p0.kind)), (8, (boolPV (decide (p0.kind < 3)))), (10, (.ptr 0 5)), (11, (.dat (.lst (T_api_Tree.toDs p0.kids)))), (12, (.ptr 0 5)), (13, (.dat (.lst (T_api_Tree.toDs p0.kids)))), (14, (intPV (p0.kids.length : Int))), (15, (intPV (W ((p0.kids.length : Int) - 1)))), (16, (.iptr [(intD v1.kind), (intD v1.fn), (intD v1.axis), (strD v1.name), (.lst ((List.map intD) v1.nums)), (.lst (T_api_Tree.toDs v1.kids))])), (17, (.dat (.agg [(intD v1.kind), (intD v1.fn), (intD v1.axis), (strD v1.name), (.lst ((List.map intD) v1.nums)), (.lst (T_api_Tree.toDs v1.kids))]))), (18, (.ptr 0 0)), (19, (intPV p0.kind)), (20, (boolPV (p0.kind == 3))), (21, (.ptr 0 1)), (22, (intPV p0.fn)), (23, (boolPV (p0.fn == 3))), (27, (boolPV v3))], [(.box [(intPV p0.kind), (intPV p0.fn), (intPV p0.axis), (.dat (strD p0.name)), (.dat (.lst ((List.map intD) p0.nums))), (.dat (.lst (T_api_Tree.toDs p0.kids)))]), (.box [(intPV 0), (intPV 0), (intPV 0), (.dat (strD ByteArray.empty)), (.dat (.lst ((List.map intD) []))), (.dat (.lst (T_api_Tree.toDs [])))]), (.box [(intPV v1.kind), (intPV v1.fn), (intPV v1.axis), (.dat (strD v1.name)), (.dat (.lst ((List.map intD) v1.nums))), (.dat (.lst (T_api_Tree.toDs v1.kids)))])]⟩) (fun d => ?_) (fun hJ => ?_)
      · clear hs
        refine G_run 1 ?_
        refine G_split (p := v3 = true) 28 (bool_dec _) (fun hc => ?_) (fun hc => ?_)
        · replace hm := pos_inv hc hm
          refine G_run 6 ?_
          refine G_end ⟨by kernel_rfl, ?_⟩
          obtain rfl := inj1 hm
          exact cut_leaf (by kernel_rfl)
        replace hm := neg_inv hc hm
        refine G_run 6 ?_
        refine G_end ⟨by kernel_rfl, ?_⟩
        obtain rfl := inj1 hm
        exact cut_leaf (by kernel_rfl)
      replace hm := hs
      clear hs
      refine G_split (p := p0.fn = 3) 24 (eq_dec _ _) (fun hc => ?_) (fun hc => ?_)
      · replace hm := pos_inv hc hm
        refine G_run 1 ?_
        obtain ⟨v4, hx, hm⟩ := bind_inv hm
        have hq := w_ref29_monad _ _ hx []
        refine G_callP hq ?_
        refine G_run 1 ?_
        obtain rfl := inj1 hm
        exact hJ _ _ (by kernel_rfl) (by kernel_rfl)
      replace hm := neg_inv hc hm
      refine G_run 3 ?_
      obtain rfl := inj1 hm
      exact hJ _ _ (by kernel_rfl) (by kernel_rfl)
    clear hs
    refine R_ifp (p := v2 = true) (bool_dec _) (fun hc => ?_) (fun hc => ?_)
    · replace hm := pos_inv hc hm
      refine R_seq ?_
      refine R_G ?_
      refine G_run 2 ?_
      obtain ⟨v5, hx, hm⟩ := bind_inv hm
      refine I_idx 6 T_api_Tree.toD v1.kids 0 v5 (es := T_api_Tree.toDs v1.kids) (d := (T_api_Tree.ex v5)) (T_api_Tree.toDs_eq _) hx (T_api_Tree.toD_eq v5) rfl ?_
      refine G_run 3 ?_
      refine G_end ?_
      refine R_ret ?_
      obtain ⟨rfl, rfl⟩ := inj2 hm
      exact ⟨trivial, fin_pure (by kernel_rfl)⟩
    replace hm := neg_inv hc hm
    refine R_skip ?_
    refine R_seq ?_
    refine R_seq ?_
    obtain ⟨v6, hs, hm⟩ := bind_inv hm
    refine R_cut (fun d => ⟨sl d 117 [(1, (.ptr 0 0)), (2, (.ptr 1 0)), (4, (.ptr 2 0)), (45, (boolPV v6))], [(.box [(intPV p0.kind), (intPV p0.fn), (intPV p0.axis), (.dat (strD p0.name)), (.dat (.lst ((List.map intD) p0.nums))), (.dat (.lst (T_api_Tree.toDs p0.kids)))]), (.box [(intPV 0), (intPV 0), (intPV 0), (.dat (strD ByteArray.empty)), (.dat (.lst ((List.map intD) []))), (.dat (.lst (T_api_Tree.toDs [])))]), (.box [(intPV v1.kind), (intPV v1.fn), (intPV v1.axis), (.dat (strD v1.name)), (.dat (.lst ((List.map intD) v1.nums))), (.dat (.lst (T_api_Tree.toDs v1.kids)))])]⟩) ?_ (fun d => ?_)
    · replace hm := hs
      clear hs
      refine R_G ?_
      refine G_run 4 ?_
      refine G_split (p := p0.fn = 4) 42 (eq_dec _ _) (fun hc => ?_) (fun hc => ?_)
      · replace hm := pos_inv hc hm
        refine G_run 1 ?_
        obtain ⟨v7, hx, hm⟩ := bind_inv hm
        have hq := w_ref29_monad _ _ hx []
        refine G_callP hq ?_
        refine G_run 1 ?_
        refine G_end ?_
        obtain rfl := inj1 hm
        exact cut_leaf (by kernel_rfl)
      replace hm := neg_inv hc hm
      refine G_run 3 ?_
      refine G_end ?_
      obtain rfl := inj1 hm
      exact cut_leaf (by kernel_rfl)
    clear hs
    refine R_ifp (p := v6 = true) (bool_dec _) (fun hc => ?_) (fun hc => ?_)
    · replace hm := pos_inv hc hm
      refine R_seq ?_
      refine R_G ?_
      refine G_run 2 ?_
      obtain ⟨v8, hx, hm⟩ := bind_inv hm
      refine I_idx 6 T_api_Tree.toD v1.kids 0 v8 (es := T_api_Tree.toDs v1.kids) (d := (T_api_Tree.ex v8)) (T_api_Tree.toDs_eq _) hx (T_api_Tree.toD_eq v8) rfl ?_
      refine G_run 3 ?_
      refine G_end ?_
      refine R_ret ?_
      obtain ⟨rfl, rfl⟩ := inj2 hm
      exact ⟨trivial, fin_pure (by kernel_rfl)⟩
    replace hm := neg_inv hc hm
    refine R_skip ?_
    refine R_seq ?_
    refine R_seq ?_
    obtain ⟨v9, hs, hm⟩ := bind_inv hm
    refine R_cut (fun d => ⟨sl d 117 [(1, (.ptr 0 0)), (2, (.ptr 1 0)), (4, (.ptr 2 0)), (56, (boolPV v9))], [(.box [(intPV p0.kind), (intPV p0.fn), (intPV p0.axis), (.dat (strD p0.name)), (.dat (.lst ((List.map intD) p0.nums))), (.dat (.lst (T_api_Tree.toDs p0.kids)))]), (.box [(intPV 0), (intPV 0), (intPV 0), (.dat (strD ByteArray.empty)), (.dat (.lst ((List.map intD) []))), (.dat (.lst (T_api_Tree.toDs [])))]), (.box [(intPV v1.kind), (intPV v1.fn), (intPV v1.axis), (.dat (strD v1.name)), (.dat (.lst ((List.map intD) v1.nums))), (.dat (.lst (T_api_Tree.toDs v1.kids)))])]⟩) ?_ (fun d => ?_)
    · replace hm := hs
      clear hs
      refine R_G ?_
      refine G_run 4 ?_
      refine G_split (p := p0.fn = 6) 53 (eq_dec _ _) (fun hc => ?_) (fun hc => ?_)
      · replace hm := pos_inv hc hm
        refine G_run 1 ?_
        obtain ⟨v10, hx, hm⟩ := bind_inv hm
        have hq := w_ref29_monad _ _ hx []
        refine G_callP hq ?_
        refine G_run 1 ?_
        refine G_end ?_
        obtain rfl := inj1 hm
        exact cut_leaf (by kernel_rfl)
      replace hm := neg_inv hc hm
      refine G_run 3 ?_
      refine G_end ?_
      obtain rfl := inj1 hm
      exact cut_leaf (by kernel_rfl)
    clear hs
    refine R_ifp (p := v9 = true) (bool_dec _) (fun hc => ?_) (fun hc => ?_)
    · replace hm := pos_inv hc hm
      refine R_seq ?_
      refine R_G ?_
      refine G_run 3 ?_
      refine G_end ?_
      refine R_ret ?_
      obtain ⟨rfl, rfl⟩ := inj2 hm
      exact ⟨trivial, fin_pure (by kernel_rfl)⟩
    replace hm := neg_inv hc hm
    refine R_skip ?_
    refine R_seq ?_
    refine R_G ?_
    refine G_run 3 ?_
    refine G_end ?_
    refine R_ret ?_
    obtain ⟨rfl, rfl⟩ := inj2 hm
    exact ⟨trivial, fin_pure (by kernel_rfl)⟩
  replace hm := neg_inv hc hm
  refine R_skip ?_
  refine R_seq ?_
  refine R_G ?_
  refine G_run 2 ?_
  obtain ⟨v11, hx, hm⟩ := bind_inv hm
  refine I_idx 6 T_api_Tree.toD p0.kids 0 v11 (es := T_api_Tree.toDs p0.kids) (d := (T_api_Tree.ex v11)) (T_api_Tree.toDs_eq _) hx (T_api_Tree.toD_eq v11) rfl ?_
  refine G_run 3 ?_
  refine G_end ?_
  refine R_seq ?_
  refine R_seq ?_
  obtain ⟨v12, hs, hm⟩ := bind_inv hm
  refine R_cut (fun d => ⟨sl d 117 [(1, (.ptr 0 0)), (2, (.ptr 1 0)), (4, (.ptr 2 0)), (5, (.ptr 3 0)), (69, (boolPV v12))], [(.box [(intPV p0.kind), (intPV p0.fn), (intPV p0.axis), (.dat (strD p0.name)), (.dat (.lst ((List.map intD) p0.nums))), (.dat (.lst (T_api_Tree.toDs p0.kids)))]), (.box [(intPV 0), (intPV 0), (intPV 0), (.dat (strD ByteArray.empty)), (.dat (.lst ((List.map intD) []))), (.dat (.lst (T_api_Tree.toDs [])))]), (.box [(intPV v1.kind), (intPV v1.fn), (intPV v1.axis), (.dat (strD v1.name)), (.dat (.lst ((List.map intD) v1.nums))), (.dat (.lst (T_api_Tree.toDs v1.kids)))]), (.box [(intPV v11.kind), (intPV v11.fn), (intPV v11.axis), (.dat (strD v11.name)), (.dat (.lst ((List.map intD) v11.nums))), (.dat (.lst (T_api_Tree.toDs v11.kids)))])]⟩) ?_ (fun d => ?_)
  · replace hm := hs
    clear hs
    refine R_G ?_
    refine G_run 4 ?_
    refine G_split (p := p0.fn = 5) 66 (eq_dec _ _) (fun hc => ?_) (fun hc => ?_)
    · replace hm := pos_inv hc hm
      refine G_run 1 ?_
      obtain ⟨v13, hx, hm⟩ := bind_inv hm
      have hq := w_ref29_monad _ _ hx []
      refine G_callP hq ?_
      refine G_run 1 ?_
      refine G_end ?_
      obtain rfl := inj1 hm
      exact cut_leaf (by kernel_rfl)
    replace hm := neg_inv hc hm
    refine G_run 3 ?_
    refine G_end ?_
    obtain rfl := inj1 hm
    exact cut_leaf (by kernel_rfl)
  clear hs
  refine R_ifp (p := v12 = true) (bool_dec _) (fun hc => ?_) (fun hc => ?_)
  · replace hm := pos_inv hc hm
    refine R_seq ?_
    refine R_GD ?_
    refine G_run 5 ?_
    obtain ⟨v14, hx, hm⟩ := bind_inv hm
    refine I_idx 6 T_api_Tree.toD v1.kids 0 v14 (es := T_api_Tree.toDs v1.kids) (d := (T_api_Tree.ex v14)) (T_api_Tree.toDs_eq _) hx (T_api_Tree.toD_eq v14) rfl ?_
    refine G_run 5 ?_
    refine G_end ⟨by kernel_rfl, ?_⟩
    refine R_ret ?_
    obtain ⟨rfl, rfl⟩ := inj2 hm
    exact ⟨trivial, fin_pure (by kernel_rfl)⟩
  replace hm := neg_inv hc hm
  refine R_skip ?_
  refine R_seq ?_
  refine R_seq ?_
  obtain ⟨v15, hs, hm⟩ := bind_inv hm
  refine R_cut (fun d => ⟨sl d 117 [(1, (.ptr 0 0)), (2, (.ptr 1 0)), (4, (.ptr 2 0)), (5, (.ptr 3 0)), (99, (boolPV v15))], [(.box [(intPV p0.kind), (intPV p0.fn), (intPV p0.axis), (.dat (strD p0.name)), (.dat (.lst ((List.map intD) p0.nums))), (.dat (.lst (T_api_Tree.toDs p0.kids)))]), (.box [(intPV 0), (intPV 0), (intPV 0), (.dat (strD ByteArray.empty)), (.dat (.lst ((List.map intD) []))), (.dat (.lst (T_api_Tree.toDs [])))]), (.box [(intPV v1.kind), (intPV v1.fn), (intPV v1.axis), (.dat (strD v1.name)), (.dat (.lst ((List.map intD) v1.nums))), (.dat (.lst (T_api_Tree.toDs v1.kids)))]), (.box [(intPV v11.kind), (intPV v11.fn), (intPV v11.axis), (.dat (strD v11.name)), (.dat (.lst ((List.map intD) v11.nums))), (.dat (.lst (T_api_Tree.toDs v11.kids)))])]⟩) ?_ (fun d => ?_)
  · replace hm := hs
    clear hs
    refine R_GN ?_
    refine G_run 4 ?_
    obtain ⟨v16, hs, hm⟩ := bind_inv hm
    refine G_cut (j := 8) (fun d => ⟨sl d 117 [(1, (.ptr 0 0)), (2, (.ptr 1 0)), (4, (.ptr 2 0)), (5, (.ptr 3 0)), (69, (boolPV v12)), (79, (.ptr 0 1)), (80, (intPV p0.fn)), (81, (boolPV (p0.fn == 3))), (86, (boolPV v16))], [(.box [(intPV p0.kind), (intPV p0.fn), (intPV p0.axis), (.dat (strD p0.name)), (.dat (.lst ((List.map intD) p0.nums))), (.dat (.lst (T_api_Tree.toDs p0.kids)))]), (.box [(intPV 0), (intPV 0), (intPV 0), (.dat (strD ByteArray.empty)), (.dat (.lst ((List.map intD) []))), (.dat (.lst (T_api_Tree.toDs [])))]), (.box [(intPV v1.kind), (intPV v1.fn), (intPV v1.axis), (.dat (strD v1.name)), (.dat (.lst ((List.map intD) v1.nums))), (.dat (.lst (T_api_Tree.toDs v1.kids)))]), (.box [(intPV v11.kind), (intPV v11.fn), (intPV v11.axis), (.dat (strD v11.name)), (.dat (.lst ((List.map intD) v11.nums))), (.dat (.lst (T_api_Tree.toDs v11.kids)))])]⟩) (fun d => ?_) (fun hJ => ?_)
    · clear hs
      refine G_run 1 ?_
      obtain ⟨v17, hs, hm⟩ := bind_inv hm
      refine G_cut (j := 14) (fun d => ⟨sl d 117 [(1, (.ptr 0 0)), (2, (.ptr 1 0)), (4, (.ptr 2 0)), (5, (.ptr 3 0)), (69, (boolPV v12)), (79, (.ptr 0 1)), (80, (intPV p0.fn)), (81, (boolPV (p0.fn == 3))), (86, (boolPV v16)), (92, (boolPV v17))], [(.box [(intPV p0.kind), (intPV p0.fn), (intPV p0.axis), (.dat (strD p0.name)), (.dat (.lst ((List.map intD) p0.nums))), (.dat (.lst (T_api_Tree.toDs p0.kids)))]), (.box [(intPV 0), (intPV 0), (intPV 0), (.dat (strD ByteArray.empty)), (.dat (.lst ((List.map intD) []))), (.dat (.lst (T_api_Tree.toDs [])))]), (.box [(intPV v1.kind), (intPV v1.fn), (intPV v1.axis), (.dat (strD v1.name)), (.dat (.lst ((List.map intD) v1.nums))), (.dat (.lst (T_api_Tree.toDs v1.kids)))]), (.box [(intPV v11.kind), (intPV v11.fn), (intPV v11.axis), (.dat (strD v11.name)), (.dat (.lst ((List.map intD) v11.nums))), (.dat (.lst (T_api_Tree.toDs v11.kids)))])]⟩) (fun d => ?_) (fun hJ => ?_)
      · clear hs
        refine G_run 1 ?_
        refine G_split (p := v17 = true) 93 (bool_dec _) (fun hc => ?_) (fun hc => ?_)
        · replace hm := pos_inv hc hm
          refine G_run 2 ?_
          obtain ⟨v18, hx, hm⟩ := bind_inv hm
          refine I_idx 1 intD v11.nums 0 v18 (es := (List.map intD) v11.nums) (d := (intD v18)) rfl hx rfl rfl ?_
          refine G_run 3 ?_
          refine G_end ⟨by kernel_rfl, ?_⟩
          obtain rfl := inj1 hm
          exact cut_leaf (by kernel_rfl)
        replace hm := neg_inv hc hm
        refine G_run 6 ?_
        refine G_end ⟨by kernel_rfl, ?_⟩
        obtain rfl := inj1 hm
        exact cut_leaf (by kernel_rfl)
      replace hm := hs
      clear hs
      refine G_split (p := v16 = true) 87 (bool_dec _) (fun hc => ?_) (fun hc => ?_)
      · replace hm := pos_inv hc hm
        refine G_run 2 ?_
        refine I_len intD v11.nums (es := (List.map intD) v11.nums) rfl ?_
        refine G_run 2 ?_
        obtain rfl := inj1 hm
        exact hJ _ _ (by kernel_rfl) (by kernel_rfl)
      replace hm := neg_inv hc hm
      refine G_run 5 ?_
      obtain rfl := inj1 hm
      exact hJ _ _ (by kernel_rfl) (by kernel_rfl)
    replace hm := hs
    clear hs
    refine G_split (p := p0.fn = 3) 82 (eq_dec _ _) (fun hc => ?_) (fun hc => ?_)
    · replace hm := pos_inv hc hm
      refine G_run 4 ?_
      obtain rfl := inj1 hm
      exact hJ _ _ (by kernel_rfl) (by kernel_rfl)
    replace hm := neg_inv hc hm
    refine G_run 4 ?_
    obtain rfl := inj1 hm
    exact hJ _ _ (by kernel_rfl) (by kernel_rfl)
  clear hs
  refine R_ifp (p := v15 = true) (bool_dec _) (fun hc => ?_) (fun hc => ?_)
  · replace hm := pos_inv hc hm
    refine R_seq ?_
    refine R_G ?_
    refine G_run 3 ?_
    refine G_end ?_
    refine R_ret ?_
    obtain ⟨rfl, rfl⟩ := inj2 hm
    exact ⟨trivial, fin_pure (by kernel_rfl)⟩
  replace hm := neg_inv hc hm
  refine R_skip ?_
  refine R_seq ?_
  refine R_seq ?_
  obtain ⟨v19, hs, hm⟩ := bind_inv hm
  refine R_cut (fun d => ⟨sl d 117 [(1, (.ptr 0 0)), (2, (.ptr 1 0)), (4, (.ptr 2 0)), (114, (boolPV v19))], [(.box [(intPV p0.kind), (intPV p0.fn), (intPV p0.axis), (.dat (strD p0.name)), (.dat (.lst ((List.map intD) p0.nums))), (.dat (.lst (T_api_Tree.toDs p0.kids)))]), (.box [(intPV 0), (intPV 0), (intPV 0), (.dat (strD ByteArray.empty)), (.dat (.lst ((List.map intD) []))), (.dat (.lst (T_api_Tree.toDs [])))]), (.box [(intPV v1.kind), (intPV v1.fn), (intPV v1.axis), (.dat (strD v1.name)), (.dat (.lst ((List.map intD) v1.nums))), (.dat (.lst (T_api_Tree.toDs v1.kids)))]), (.box [(intPV v11.kind), (intPV v11.fn), (intPV v11.axis), (.dat (strD v11.name)), (.dat (.lst ((List.map intD) v11.nums))), (.dat (.lst (T_api_Tree.toDs v11.kids)))])]⟩) ?_ (fun d => ?_)
  · replace hm := hs
    clear hs
    refine R_GN ?_
    refine G_run 4 ?_
    obtain ⟨v20, hs, hm⟩ := bind_inv hm
    refine G_cut (j := 8) (fun d => ⟨sl d 117 [(1, (.ptr 0 0)), (2, (.ptr 1 0)), (4, (.ptr 2 0)), (5, (.ptr 3 0)), (99, (boolPV v15)), (101, (.ptr 0 1)), (102, (intPV p0.fn)), (103, (boolPV (p0.fn == 2))), (108, (boolPV v20))], [(.box [(intPV p0.kind), (intPV p0.fn), (intPV p0.axis), (.dat (strD p0.name)), (.dat (.lst ((List.map intD) p0.nums))), (.dat (.lst (T_api_Tree.toDs p0.kids)))]), (.box [(intPV 0), (intPV 0), (intPV 0), (.dat (strD ByteArray.empty)), (.dat (.lst ((List.map intD) []))), (.dat (.lst (T_api_Tree.toDs [])))]), (.box [(intPV v1.kind), (intPV v1.fn), (intPV v1.axis), (.dat (strD v1.name)), (.dat (.lst ((List.map intD) v1.nums))), (.dat (.lst (T_api_Tree.toDs v1.kids)))]), (.box [(intPV v11.kind), (intPV v11.fn), (intPV v11.axis), (.dat (strD v11.name)), (.dat (.lst ((List.map intD) v11.nums))), (.dat (.lst (T_api_Tree.toDs v11.kids)))])]⟩) (fun d => ?_) (fun hJ => ?_)
    · clear hs
      refine G_run 1 ?_
      refine G_split (p := v20 = true) 109 (bool_dec _) (fun hc => ?_) (fun hc => ?_)
      · replace hm := pos_inv hc hm
        refine G_run 2 ?_
        refine I_len intD v11.nums (es := (List.map intD) v11.nums) rfl ?_
        refine G_run 2 ?_
        refine G_end ⟨by kernel_rfl, ?_⟩
        obtain rfl := inj1 hm
        exact cut_leaf (by kernel_rfl)
      replace hm := neg_inv hc hm
      refine G_run 5 ?_
      refine G_end ⟨by kernel_rfl, ?_⟩
      obtain rfl := inj1 hm
      exact cut_leaf (by kernel_rfl)
    replace hm := hs
    clear hs
    refine G_split (p := p0.fn = 2) 104 (eq_dec _ _) (fun hc => ?_) (fun hc => ?_)
    · replace hm := pos_inv hc hm
      refine G_run 4 ?_
      obtain rfl := inj1 hm
      exact hJ _ _ (by kernel_rfl) (by kernel_rfl)
    replace hm := neg_inv hc hm
    refine G_run 4 ?_
    obtain rfl := inj1 hm
    exact hJ _ _ (by kernel_rfl) (by kernel_rfl)
  clear hs
  refine R_ifp (p := v19 = true) (bool_dec _) (fun hc => ?_) (fun hc => ?_)
  · replace hm := pos_inv hc hm
    refine R_seq ?_
    refine R_G ?_
    refine G_run 3 ?_
    refine G_end ?_
    refine R_ret ?_
    obtain ⟨rfl, rfl⟩ := inj2 hm
    exact ⟨trivial, fin_pure (by kernel_rfl)⟩
  replace hm := neg_inv hc hm
  refine R_skip ?_
  refine R_seq ?_
  refine R_G ?_
  refine G_run 3 ?_
  refine G_end ?_
  refine R_ret ?_
  obtain ⟨rfl, rfl⟩ := inj2 hm
  exact ⟨trivial, fin_pure (by kernel_rfl)⟩
end Go.Proofs.Tryd
namespace Go.Proofs.Tryd
open Go Go.Pm
set_option linter.unusedVariables false
set_option maxHeartbeats 2000000
set_option maxRecDepth 2000
def m_ref29_Simplify_L2 (x : (T_api_Tree × (List T_api_Tree) × Int × Int × Int × ByteArray × (List Int) × (List T_api_Tree) × Int × Int × Int × ByteArray × (List Int) × (List T_api_Tree) × Int × Int)) : Option ((Int × Int × Int × ByteArray × (List Int) × (List T_api_Tree) × Int × Int × Int × ByteArray × (List Int) × (List T_api_Tree) × Int)) :=
  match x with
  | (p0, v601, v914, v915, v916, v917, v918, v919, v920, v921, v922, v923, v924, v925, v926, v927) =>
  if v927 > 0 then
    m_ref29_Rule (⟨v920, v921, v922, v923, v924, v925⟩ : T_api_Tree) >>= fun ((v1327, v1328) : (T_api_Tree × Int)) =>
    m_ref29_Simplify_L2 (p0, v601, v920, v921, v922, v923, v924, v925, v1327.kind, v1327.fn, v1327.axis, v1327.name, v1327.nums, v1327.kids, (W (v926 + 1)), v1328)
  else
  some (v914, v915, v916, v917, v918, v919, v920, v921, v922, v923, v924, v925, v926)
  partial_fixpoint
def P_ref29_Simplify_L2 : (T_api_Tree × (List T_api_Tree) × Int × Int × Int × ByteArray × (List Int) × (List T_api_Tree) × Int × Int × Int × ByteArray × (List Int) × (List T_api_Tree) × Int × Int) → (Int × Int × Int × ByteArray × (List Int) × (List T_api_Tree) × Int × Int × Int × ByteArray × (List Int) × (List T_api_Tree) × Int) → Prop := fun x r => match x with
  | (p0, v601, v914, v915, v916, v917, v918, v919, v920, v921, v922, v923, v924, v925, v926, v927) => ∀ st, prune 7 ((firstRegion (codeAt [1, 1, 1, 1, 1, 1, 0, 0, 0] (bodyOf f11))).bind (env.hint 11).keepAt) st = ⟨kp 55 [(2, (.ptr 1 0)), (4, (.ptr 2 0)), (5, (intPV v926)), (9, (.ptr 5 0)), (10, (intPV v927))], [(.box [(intPV p0.kind), (intPV p0.fn), (intPV p0.axis), (.dat (strD p0.name)), (.dat (.lst ((List.map intD) p0.nums))), (.dat (.lst (T_api_Tree.toDs p0.kids)))]), (.box [(intPV 0), (intPV 0), (intPV 0), (.dat (strD ByteArray.empty)), (.dat (.lst ((List.map intD) []))), (.dat (.lst (T_api_Tree.toDs [])))]), (.box [(intPV v914), (intPV v915), (intPV v916), (.dat (strD v917)), (.dat (.lst ((List.map intD) v918))), (.dat (.lst (T_api_Tree.toDs v919)))]), (.tok 25 (([] : List T_api_Tree).length)), (.tok 25 v601.length), (.box [(intPV v920), (intPV v921), (intPV v922), (.dat (strD v923)), (.dat (.lst ((List.map intD) v924))), (.dat (.lst (T_api_Tree.toDs v925)))]), (.tok 25 (([] : List T_api_Tree).length))]⟩ →
    RL prog env (env.hint 11) true (codeAt [1, 1, 1, 1, 1, 1, 0, 0, 0] (bodyOf f11)) 7 st (fun e s => match r with | (v1314, v1315, v1316, v1317, v1318, v1319, v1320, v1321, v1322, v1323, v1324, v1325, v1326) => e = .exit 2 ∧ ∃ d, s = ⟨sl d 55 [(2, (.ptr 1 0)), (4, (.ptr 2 0)), (5, (intPV v1326))], [(.box [(intPV p0.kind), (intPV p0.fn), (intPV p0.axis), (.dat (strD p0.name)), (.dat (.lst ((List.map intD) p0.nums))), (.dat (.lst (T_api_Tree.toDs p0.kids)))]), (.box [(intPV 0), (intPV 0), (intPV 0), (.dat (strD ByteArray.empty)), (.dat (.lst ((List.map intD) []))), (.dat (.lst (T_api_Tree.toDs [])))]), (.box [(intPV v1314), (intPV v1315), (intPV v1316), (.dat (strD v1317)), (.dat (.lst ((List.map intD) v1318))), (.dat (.lst (T_api_Tree.toDs v1319)))]), (.tok 25 (([] : List T_api_Tree).length)), (.tok 25 v601.length), (.box [(intPV v1320), (intPV v1321), (intPV v1322), (.dat (strD v1323)), (.dat (.lst ((List.map intD) v1324))), (.dat (.lst (T_api_Tree.toDs v1325)))]), (.tok 25 (([] : List T_api_Tree).length))]⟩)
theorem w_ref29_Simplify_L2 : ∀ x r, m_ref29_Simplify_L2 x = some r → P_ref29_Simplify_L2 x r := by
  refine m_ref29_Simplify_L2.partial_correctness _ (fun m_ref29_Simplify_L2 w_ref29_Simplify_L2 x r hm => ?_)
  unfold P_ref29_Simplify_L2
  obtain ⟨p0, v601, v914, v915, v916, v917, v918, v919, v920, v921, v922, v923, v924, v925, v926, v927⟩ := x
  intro st hst
  refine RL_at hst ?_
  clear hst
  refine R_seq ?_
  refine R_seq ?_
  refine R_G ?_
  refine G_run 2 ?_
  refine G_end ?_
  refine R_ifp (p := v927 > 0) (rfl) (fun hc => ?_) (fun hc => ?_)
  · replace hm := pos_inv hc hm
    refine R_skip ?_
    refine R_block ?_
    refine R_seq ?_
    refine R_G ?_
    refine G_run 3 ?_
    refine G_end ?_
    refine R_seq ?_
    refine R_G ?_
    refine G_run 2 ?_
    refine G_end ?_
    refine R_G ?_
    refine G_run 1 ?_
    obtain ⟨⟨v1327, v1328⟩, hx, hm⟩ := bind_inv hm
    have hq := w_ref29_Rule _ _ hx []
    refine G_callP hq ?_
    refine G_run 5 ?_
    refine G_end ?_
    exact w_ref29_Simplify_L2 _ _ hm _ (by kernel_rfl)
  replace hm := neg_inv hc hm
  refine R_exit ?_
  obtain rfl := inj1 hm
  exact ⟨rfl, cut_leaf (by kernel_rfl)⟩
mutual
def m_ref29_Simplify_L1 (x : (T_api_Tree × (List T_api_Tree) × Int × Int)) : Option (((List T_api_Tree) × Int)) :=
  match x with
  | (p0, v201, v202, v203) =>
  if v203 < (p0.kids.length : Int) then
    idx p0.kids v203 >>= fun v603 =>
    m_ref29_Simplify v603 >>= fun ((v604, v605) : (T_api_Tree × Int)) =>
    app 88 v201 ([v604] : List T_api_Tree) >>= fun v606 =>
    m_ref29_Simplify_L1 (p0, v606, (W (v202 + v605)), (W (v203 + 1)))
  else
  some (v201, v202)
  partial_fixpoint
def m_ref29_Simplify (x : T_api_Tree) : Option (T_api_Tree × Int) :=
  match x with
  | p0 =>
  m_ref29_Simplify_L1 (p0, ([] : List T_api_Tree), 0, 0) >>= fun ((v601, v602) : ((List T_api_Tree) × Int)) =>
  m_ref29_Rule (⟨p0.kind, p0.fn, p0.axis, p0.name, p0.nums, v601⟩ : T_api_Tree) >>= fun ((v607, v608) : (T_api_Tree × Int)) =>
  m_ref29_Simplify_L2 (p0, v601, p0.kind, p0.fn, p0.axis, p0.name, p0.nums, v601, v607.kind, v607.fn, v607.axis, v607.name, v607.nums, v607.kids, v602, v608) >>= fun ((v1314, v1315, v1316, v1317, v1318, v1319, v1320, v1321, v1322, v1323, v1324, v1325, v1326) : (Int × Int × Int × ByteArray × (List Int) × (List T_api_Tree) × Int × Int × Int × ByteArray × (List Int) × (List T_api_Tree) × Int)) =>
  some ((⟨v1314, v1315, v1316, v1317, v1318, v1319⟩ : T_api_Tree), v1326)
  partial_fixpoint
end
def P_ref29_Simplify_L1 : (T_api_Tree × (List T_api_Tree) × Int × Int) → ((List T_api_Tree) × Int) → Prop := fun x r => match x with
  | (p0, v201, v202, v203) => ∀ st, prune 5 ((firstRegion (codeAt [1, 1, 1, 1, 0, 1, 0, 0] (bodyOf f11))).bind (env.hint 11).keepAt) st = ⟨kp 55 [(1, (.ptr 0 0)), (2, (.ptr 1 0)), (4, (.ptr 2 0)), (5, (intPV v202)), (6, (intPV v203))], [(.box [(intPV p0.kind), (intPV p0.fn), (intPV p0.axis), (.dat (strD p0.name)), (.dat (.lst ((List.map intD) p0.nums))), (.dat (.lst (T_api_Tree.toDs p0.kids)))]), (.box [(intPV 0), (intPV 0), (intPV 0), (.dat (strD ByteArray.empty)), (.dat (.lst ((List.map intD) []))), (.dat (.lst (T_api_Tree.toDs [])))]), (.box [(intPV p0.kind), (intPV p0.fn), (intPV p0.axis), (.dat (strD p0.name)), (.dat (.lst ((List.map intD) p0.nums))), (.vec 4 (T_api_Tree.toDs v201))]), (.tok 25 (([] : List T_api_Tree).length)), (.tok 25 v201.length)]⟩ →
    RL prog env (env.hint 11) true (codeAt [1, 1, 1, 1, 0, 1, 0, 0] (bodyOf f11)) 5 st (fun e s => match r with | (v601, v602) => e = .exit 0 ∧ ∃ d, s = ⟨sl d 55 [(2, (.ptr 1 0)), (4, (.ptr 2 0)), (5, (intPV v602))], [(.box [(intPV p0.kind), (intPV p0.fn), (intPV p0.axis), (.dat (strD p0.name)), (.dat (.lst ((List.map intD) p0.nums))), (.dat (.lst (T_api_Tree.toDs p0.kids)))]), (.box [(intPV 0), (intPV 0), (intPV 0), (.dat (strD ByteArray.empty)), (.dat (.lst ((List.map intD) []))), (.dat (.lst (T_api_Tree.toDs [])))]), (.box [(intPV p0.kind), (intPV p0.fn), (intPV p0.axis), (.dat (strD p0.name)), (.dat (.lst ((List.map intD) p0.nums))), (.vec 4 (T_api_Tree.toDs v601))]), (.tok 25 (([] : List T_api_Tree).length)), (.tok 25 v601.length)]⟩)
def P_ref29_Simplify : T_api_Tree → (T_api_Tree × Int) → Prop := fun x r => match x, r with
  | p0, (r0, r1) => ∀ H, PC prog env 11 ([(T_api_Tree.ex p0)].map .dat) H (.tup [(.dat (T_api_Tree.ex r0)), (intPV r1)]) H
theorem g_ref29_Simplify_L1 : (∀ x r, m_ref29_Simplify_L1 x = some r → P_ref29_Simplify_L1 x r) ∧ (∀ x r, m_ref29_Simplify x = some r → P_ref29_Simplify x r) := by
  refine m_ref29_Simplify_L1.mutual_partial_correctness P_ref29_Simplify_L1 P_ref29_Simplify ?_ ?_
  · intro m_ref29_Simplify_L1 m_ref29_Simplify w_ref29_Simplify_L1 w_ref29_Simplify x r hm
    unfold P_ref29_Simplify_L1
    obtain ⟨p0, v201, v202, v203⟩ := x
    intro st hst
    refine RL_at hst ?_
    clear hst
    refine R_seq ?_
    refine R_seq ?_
    refine R_G ?_
    refine G_run 3 ?_
    refine I_len T_api_Tree.toD p0.kids (es := T_api_Tree.toDs p0.kids) (T_api_Tree.toDs_eq _) ?_
    refine G_run 1 ?_
    refine G_end ?_
    refine R_ifp (p := v203 < (p0.kids.length : Int)) (rfl) (fun hc => ?_) (fun hc => ?_)
    · replace hm := pos_inv hc hm
      refine R_skip ?_
      refine R_seq ?_
      refine R_block ?_
      refine R_seq ?_
      refine R_G ?_
      refine G_run 3 ?_
      obtain ⟨v603, hx, hm⟩ := bind_inv hm
      refine I_idx 6 T_api_Tree.toD p0.kids v203 v603 (es := T_api_Tree.toDs p0.kids) (d := (T_api_Tree.ex v603)) (T_api_Tree.toDs_eq _) hx (T_api_Tree.toD_eq v603) rfl ?_
      refine G_run 1 ?_
      obtain ⟨⟨v604, v605⟩, hx, hm⟩ := bind_inv hm
      have hq := w_ref29_Simplify _ _ hx []
      refine G_callP hq ?_
      refine G_run 6 ?_
      refine G_end ?_
      refine R_seq ?_
      refine R_G ?_
      refine G_run 4 ?_
      obtain ⟨v606, hx, hm⟩ := bind_inv hm
      refine I_app 25 6 88 4 T_api_Tree.toD v201 ([v604] : List T_api_Tree) v606 (xs := T_api_Tree.toDs v201) (es := [(T_api_Tree.ex v604)]) (L := T_api_Tree.toDs) T_api_Tree.toDs_eq rfl (by simp only [T_api_Tree.toDs, T_api_Tree.toD_eq]) T_api_Tree.fit hx ?_
      refine G_run 2 ?_
      refine G_end ?_
      refine R_G ?_
      refine G_run 4 ?_
      refine G_end ?_
      refine R_G ?_
      refine G_run 3 ?_
      refine G_end ?_
      exact w_ref29_Simplify_L1 _ _ hm _ (by kernel_rfl)
    replace hm := neg_inv hc hm
    refine R_exit ?_
    obtain rfl := inj1 hm
    exact ⟨rfl, cut_leaf (by kernel_rfl)⟩
  · intro m_ref29_Simplify_L1 w_ref29_Simplify_L1 p0 r hm
    unfold P_ref29_Simplify
    obtain ⟨r0, r1⟩ := r
    intro H
    refine PC_sx (ds := [(T_api_Tree.ex p0)]) (fn := f11) (by kernel_rfl) (by kernel_rfl) rfl ?_ (by kernel_rfl)
    refine R_seq ?_
    refine R_G ?_
    refine G_run 3 ?_
    refine G_end ?_
    refine R_seq ?_
    refine R_G ?_
    refine G_run 3 ?_
    refine G_end ?_
    refine R_seq ?_
    refine R_G ?_
    refine G_run 2 ?_
    refine G_end ?_
    refine R_seq ?_
    refine R_G ?_
    refine G_run 1 ?_
    refine G_end ?_
    refine R_seq ?_
    refine R_seq ?_
    refine R_G ?_
    refine G_run 1 ?_
    refine G_end ?_
    refine R_block ?_
    obtain ⟨⟨v601, v602⟩, hs, hm⟩ := bind_inv hm
    refine R_loop ?_
    refine RL_use (w_ref29_Simplify_L1 _ _ hs) (by kernel_rfl) ?_
    clear hs
    intro e s hp
    obtain ⟨rfl, d, rfl⟩ := hp
    refine R_seq ?_
    refine R_G ?_
    refine G_run 1 ?_
    obtain ⟨⟨v607, v608⟩, hx, hm⟩ := bind_inv hm
    have hq := w_ref29_Rule _ _ hx []
    refine G_callP hq ?_
    refine G_run 6 ?_
    refine G_end ?_
    refine R_seq ?_
    refine R_block ?_
    obtain ⟨⟨v1314, v1315, v1316, v1317, v1318, v1319, v1320, v1321, v1322, v1323, v1324, v1325, v1326⟩, hs, hm⟩ := bind_inv hm
    refine R_loop ?_
    refine RL_use (w_ref29_Simplify_L2 _ _ hs) (by kernel_rfl) ?_
    clear hs
    intro e s hp
    obtain ⟨rfl, d, rfl⟩ := hp
    refine R_seq ?_
    refine R_G ?_
    refine G_run 4 ?_
    refine G_end ?_
    refine R_ret ?_
    obtain ⟨rfl, rfl⟩ := inj2 hm
    exact ⟨trivial, fin_pure (by kernel_rfl)⟩
theorem w_ref29_Simplify_L1 : ∀ x r, m_ref29_Simplify_L1 x = some r → P_ref29_Simplify_L1 x r := g_ref29_Simplify_L1.1
theorem w_ref29_Simplify : ∀ x r, m_ref29_Simplify x = some r → P_ref29_Simplify x r := g_ref29_Simplify_L1.2
end Go.Proofs.Tryd
namespace Go.Proofs.Tryd
open Go Go.Pm
set_option linter.unusedVariables false
set_option maxHeartbeats 2000000
set_option maxRecDepth 2000
def m_law29_SimplifyMatchesReference (x : T_api_Tree) : Option Bool :=
  match x with
  | p0 =>
  (m_law29_awake () >>= fun (v2 : Bool) =>
  if v2 = false then
    some true
  else
  m_ref08_Small ((⟨p0.kind, p0.fn, p0.axis, p0.name, p0.nums, p0.kids⟩ : T_api_Tree), 300) >>= fun (v3 : Bool) =>
  some (!v3)
  ) >>= fun (v1 : Bool) =>
  if v1 = true then
    m_law29_awake () >>= fun (v4 : Bool) =>
    some v4
  else
  m_simplify_Rule (⟨p0.kind, p0.fn, p0.axis, p0.name, p0.nums, p0.kids⟩ : T_api_Tree) >>= fun ((v5, v6) : (T_api_Tree × Int)) =>
  m_ref29_Rule p0 >>= fun ((v7, v8) : (T_api_Tree × Int)) =>
  m_ref29_Simplify p0 >>= fun ((v9, v10) : (T_api_Tree × Int)) =>
  (if v6 = v8 then
    m_ref08_Same (v5, v7) >>= fun (v12 : Bool) =>
    some v12
  else
  some false
  ) >>= fun (v11 : Bool) =>
  (if v11 = true then
    m_simplify_Simplify p0 >>= fun (v14 : T_api_Tree) =>
    m_ref08_Same (v14, v9) >>= fun (v15 : Bool) =>
    some v15
  else
  some false
  ) >>= fun (v13 : Bool) =>
  if v13 = true then
    m_simplify_Count p0 >>= fun (v16 : Int) =>
    some (v16 == v10)
  else
  some false
def P_law29_SimplifyMatchesReference : T_api_Tree → Bool → Prop := fun x r => match x, r with
  | p0, r0 => ∀ H, PC prog env 3 ([(T_api_Tree.ex p0)].map .dat) H (boolPV r0) H
theorem w_law29_SimplifyMatchesReference : ∀ x r, m_law29_SimplifyMatchesReference x = some r → P_law29_SimplifyMatchesReference x r := by
  intro p0 r0 hm
  unfold m_law29_SimplifyMatchesReference at hm
  unfold P_law29_SimplifyMatchesReference
  intro H
  refine PC_sx (ds := [(T_api_Tree.ex p0)]) (fn := f3) (by kernel_rfl) (by kernel_rfl) rfl ?_ (by kernel_rfl)
  refine R_seq ?_
  refine R_G ?_
  refine G_run 2 ?_
  refine G_end ?_
  refine R_seq ?_
  refine R_seq ?_
  obtain ⟨v1, hs, hm⟩ := bind_inv hm
  refine R_cut (fun d => ⟨sl d 52 [(1, (.ptr 0 0)), (15, (boolPV v1))], [(.box [(intPV p0.kind), (intPV p0.fn), (intPV p0.axis), (.dat (strD p0.name)), (.dat (.lst ((List.map intD) p0.nums))), (.dat (.lst (T_api_Tree.toDs p0.kids)))])]⟩) ?_ (fun d => ?_)
  · replace hm := hs
    clear hs
    refine R_G ?_
    obtain ⟨v2, hx, hm⟩ := bind_inv hm
    have hq := w_law29_awake _ _ hx []
    refine G_callP hq ?_
    refine G_run 2 ?_
    refine G_split (p := v2 = false) 11 (not_dec _) (fun hc => ?_) (fun hc => ?_)
    · replace hm := pos_inv hc hm
      refine G_run 4 ?_
      refine G_end ?_
      obtain rfl := inj1 hm
      exact cut_leaf (by kernel_rfl)
    replace hm := neg_inv hc hm
    refine G_run 1 ?_
    obtain ⟨v3, hx, hm⟩ := bind_inv hm
    have hq := w_ref08_Small _ _ hx []
    refine G_callP hq ?_
    refine G_run 2 ?_
    refine G_end ?_
    obtain rfl := inj1 hm
    exact cut_leaf (by kernel_rfl)
  clear hs
  refine R_ifp (p := v1 = true) (bool_dec _) (fun hc => ?_) (fun hc => ?_)
  · replace hm := pos_inv hc hm
    refine R_seq ?_
    refine R_G ?_
    obtain ⟨v4, hx, hm⟩ := bind_inv hm
    have hq := w_law29_awake _ _ hx []
    refine G_callP hq ?_
    refine G_run 1 ?_
    refine G_end ?_
    refine R_ret ?_
    obtain rfl := inj1 hm
    exact ⟨trivial, fin_pure (by kernel_rfl)⟩
  replace hm := neg_inv hc hm
  refine R_skip ?_
  refine R_seq ?_
  refine R_G ?_
  refine G_run 1 ?_
  obtain ⟨⟨v5, v6⟩, hx, hm⟩ := bind_inv hm
  have hq := w_simplify_Rule _ _ hx []
  refine G_callP hq ?_
  refine G_run 6 ?_
  refine G_end ?_
  refine R_seq ?_
  refine R_G ?_
  refine G_run 1 ?_
  obtain ⟨⟨v7, v8⟩, hx, hm⟩ := bind_inv hm
  have hq := w_ref29_Rule _ _ hx []
  refine G_callP hq ?_
  refine G_run 6 ?_
  refine G_end ?_
  refine R_seq ?_
  refine R_G ?_
  refine G_run 1 ?_
  obtain ⟨⟨v9, v10⟩, hx, hm⟩ := bind_inv hm
  have hq := w_ref29_Simplify _ _ hx []
  refine G_callP hq ?_
  refine G_run 6 ?_
  refine G_end ?_
  refine R_seq ?_
  refine R_GW ?_
  refine G_run 4 ?_
  obtain ⟨v11, hs, hm⟩ := bind_inv hm
  refine G_cut (j := 8) (fun d => ⟨sl d 52 [(1, (.ptr 0 0)), (3, (.ptr 1 0)), (4, (intPV v6)), (5, (.ptr 2 0)), (6, (intPV v8)), (7, (.ptr 3 0)), (8, (intPV v10)), (15, (boolPV v1)), (17, (.tup [(.dat (.agg [(intD v5.kind), (intD v5.fn), (intD v5.axis), (strD v5.name), (.lst ((List.map intD) v5.nums)), (.lst (T_api_Tree.toDs v5.kids))])), (intPV v6)])), (18, (.dat (.agg [(intD p0.kind), (intD p0.fn), (intD p0.axis), (strD p0.name), (.lst ((List.map intD) p0.nums)), (.lst (T_api_Tree.toDs p0.kids))]))), (19, (.tup [(.dat (.agg [(intD v5.kind), (intD v5.fn), (intD v5.axis), (strD v5.name), (.lst ((List.map intD) v5.nums)), (.lst (T_api_Tree.toDs v5.kids))])), (intPV v6)])), (20, (.dat (.agg [(intD v5.kind), (intD v5.fn), (intD v5.axis), (strD v5.name), (.lst ((List.map intD) v5.nums)), (.lst (T_api_Tree.toDs v5.kids))]))), (21, (intPV v6)), (22, (.tup [(.dat (.agg [(intD v7.kind), (intD v7.fn), (intD v7.axis), (strD v7.name), (.lst ((List.map intD) v7.nums)), (.lst (T_api_Tree.toDs v7.kids))])), (intPV v8)])), (23, (.dat (.agg [(intD p0.kind), (intD p0.fn), (intD p0.axis), (strD p0.name), (.lst ((List.map intD) p0.nums)), (.lst (T_api_Tree.toDs p0.kids))]))), (24, (.tup [(.dat (.agg [(intD v7.kind), (intD v7.fn), (intD v7.axis), (strD v7.name), (.lst ((List.map intD) v7.nums)), (.lst (T_api_Tree.toDs v7.kids))])), (intPV v8)])), (25, (.dat (.agg [(intD v7.kind), (intD v7.fn), (intD v7.axis), (strD v7.name), (.lst ((List.map intD) v7.nums)), (.lst (T_api_Tree.toDs v7.kids))]))), (26, (intPV v8)), (27, (.tup [(.dat (.agg [(intD v9.kind), (intD v9.fn), (intD v9.axis), (strD v9.name), (.lst ((List.map intD) v9.nums)), (.lst (T_api_Tree.toDs v9.kids))])), (intPV v10)])), (28, (.dat (.agg [(intD p0.kind), (intD p0.fn), (intD p0.axis), (strD p0.name), (.lst ((List.map intD) p0.nums)), (.lst (T_api_Tree.toDs p0.kids))]))), (29, (.tup [(.dat (.agg [(intD v9.kind), (intD v9.fn), (intD v9.axis), (strD v9.name), (.lst ((List.map intD) v9.nums)), (.lst (T_api_Tree.toDs v9.kids))])), (intPV v10)])), (30, (.dat (.agg [(intD v9.kind), (intD v9.fn), (intD v9.axis), (strD v9.name), (.lst ((List.map intD) v9.nums)), (.lst (T_api_Tree.toDs v9.kids))]))), (31, (intPV v10)), (32, (intPV v6)), (33, (intPV v8)), (34, (boolPV (v6 == v8))), (39, (boolPV v11))], [(.box [(intPV p0.kind), (intPV p0.fn), (intPV p0.axis), (.dat (strD p0.name)), (.dat (.lst ((List.map intD) p0.nums))), (.dat (.lst (T_api_Tree.toDs p0.kids)))]), (.box [(intPV v5.kind), (intPV v5.fn), (intPV v5.axis), (.dat (strD v5.name)), (.dat (.lst ((List.map intD) v5.nums))), (.dat (.lst (T_api_Tree.toDs v5.kids)))]), (.box [(intPV v7.kind), (intPV v7.fn), (intPV v7.axis), (.dat (strD v7.name)), (.dat (.lst ((List.map intD) v7.nums))), (.dat (.lst (T_api_Tree.toDs v7.kids)))]), (.box [(intPV v9.kind), (intPV v9.fn), (intPV v9.axis), (.dat (strD v9.name)), (.dat (.lst ((List.map intD) v9.nums))), (.dat (.lst (T_api_Tree.toDs v9.kids)))])]⟩) (fun d => ?_) (fun hJ => ?_)
  · clear hs
    refine G_run 1 ?_
    obtain ⟨v13, hs, hm⟩ := bind_inv hm
    refine G_cut (j := 14) (fun d => ⟨sl d 52 [(1, (.ptr 0 0)), (3, (.ptr 1 0)), (4, (intPV v6)), (5, (.ptr 2 0)), (6, (intPV v8)), (7, (.ptr 3 0)), (8, (intPV v10)), (15, (boolPV v1)), (17, (.tup [(.dat (.agg [(intD v5.kind), (intD v5.fn), (intD v5.axis), (strD v5.name), (.lst ((List.map intD) v5.nums)), (.lst (T_api_Tree.toDs v5.kids))])), (intPV v6)])), (18, (.dat (.agg [(intD p0.kind), (intD p0.fn), (intD p0.axis), (strD p0.name), (.lst ((List.map intD) p0.nums)), (.lst (T_api_Tree.toDs p0.kids))]))), (19, (.tup [(.dat (.agg [(intD v5.kind), (intD v5.fn), (intD v5.axis), (strD v5.name), (.lst ((List.map intD) v5.nums)), (.lst (T_api_Tree.toDs v5.kids))])), (intPV v6)])), (20, (.dat (.agg [(intD v5.kind), (intD v5.fn), (intD v5.axis), (strD v5.name), (.lst ((List.map intD) v5.nums)), (.lst (T_api_Tree.toDs v5.kids))]))), (21, (intPV v6)), (22, (.tup [(.dat (.agg [(intD v7.kind), (intD v7.fn), (intD v7.axis), (strD v7.name), (.lst ((List.map intD) v7.nums)), (.lst (T_api_Tree.toDs v7.kids))])), (intPV v8)])), (23, (.dat (.agg [(intD p0.kind), (intD p0.fn), (intD p0.axis), (strD p0.name), (.lst ((List.map intD) p0.nums)), (.lst (T_api_Tree.toDs p0.kids))]))), (24, (.tup [(.dat (.agg [(intD v7.kind), (intD v7.fn), (intD v7.axis), (strD v7.name), (.lst ((List.map intD) v7.nums)), (.lst (T_api_Tree.toDs v7.kids))])), (intPV v8)])), (25, (.dat (.agg [(intD v7.kind), (intD v7.fn), (intD v7.axis), (strD v7.name), (.lst ((List.map intD) v7.nums)), (.lst (T_api_Tree.toDs v7.kids))]))), (26, (intPV v8)), (27, (.tup [(.dat (.agg [(intD v9.kind), (intD v9.fn), (intD v9.axis), (strD v9.name), (.lst ((List.map intD) v9.nums)), (.lst (T_api_Tree.toDs v9.kids))])), (intPV v10)])), (28, (.dat (.agg [(intD p0.kind), (intD p0.fn), (intD p0.axis), (strD p0.name), (.lst ((List.map intD) p0.nums)), (.lst (T_api_Tree.toDs p0.kids))]))), (29, (.tup [(.dat (.agg [(intD v9.kind), (intD v9.fn), (intD v9.axis), (strD v9.name), (.lst ((List.map intD) v9.nums)), (.lst (T_api_Tree.toDs v9.kids))])), (intPV v10)])), (30, (.dat (.agg [(intD v9.kind), (intD v9.fn), (intD v9.axis), (strD v9.name), (.lst ((List.map intD) v9.nums)), (.lst (T_api_Tree.toDs v9.kids))]))), (31, (intPV v10)), (32, (intPV v6)), (33, (intPV v8)), (34, (boolPV (v6 == v8))), (39, (boolPV v11)), (45, (boolPV v13))], [(.box [(intPV p0.kind), (intPV p0.fn), (intPV p0.axis), (.dat (strD p0.name)), (.dat (.lst ((List.map intD) p0.nums))), (.dat (.lst (T_api_Tree.toDs p0.kids)))]), (.box [(intPV v5.kind), (intPV v5.fn), (intPV v5.axis), (.dat (strD v5.name)), (.dat (.lst ((List.map intD) v5.nums))), (.dat (.lst (T_api_Tree.toDs v5.kids)))]), (.box [(intPV v7.kind), (intPV v7.fn), (intPV v7.axis), (.dat (strD v7.name)), (.dat (.lst ((List.map intD) v7.nums))), (.dat (.lst (T_api_Tree.toDs v7.kids)))]), (.box [(intPV v9.kind), (intPV v9.fn), (intPV v9.axis), (.dat (strD v9.name)), (.dat (.lst ((List.map intD) v9.nums))), (.dat (.lst (T_api_Tree.toDs v9.kids)))])]⟩) (fun d => ?_) (fun hJ => ?_)
    · clear hs
      refine G_run 1 ?_
      refine G_split (p := v13 = true) 46 (bool_dec _) (fun hc => ?_) (fun hc => ?_)
      · replace hm := pos_inv hc hm
        refine G_run 1 ?_
        obtain ⟨v16, hx, hm⟩ := bind_inv hm
        have hq := w_simplify_Count _ _ hx []
        refine G_callP hq ?_
        refine G_run 4 ?_
        refine G_end ⟨by kernel_rfl, ?_⟩
        refine R_ret ?_
        obtain rfl := inj1 hm
        exact ⟨trivial, fin_pure (by kernel_rfl)⟩
      replace hm := neg_inv hc hm
      refine G_run 6 ?_
      refine G_end ⟨by kernel_rfl, ?_⟩
      refine R_ret ?_
      obtain rfl := inj1 hm
      exact ⟨trivial, fin_pure (by kernel_rfl)⟩
    replace hm := hs
    clear hs
    refine G_split (p := v11 = true) 40 (bool_dec _) (fun hc => ?_) (fun hc => ?_)
    · replace hm := pos_inv hc hm
      refine G_run 1 ?_
      obtain ⟨v14, hx, hm⟩ := bind_inv hm
      have hq := w_simplify_Simplify _ _ hx []
      refine G_callP hq ?_
      refine G_run 1 ?_
      obtain ⟨v15, hx, hm⟩ := bind_inv hm
      have hq := w_ref08_Same _ _ hx []
      refine G_callP hq ?_
      refine G_run 1 ?_
      obtain rfl := inj1 hm
      exact hJ _ _ (by kernel_rfl) (by kernel_rfl)
    replace hm := neg_inv hc hm
    refine G_run 5 ?_
    obtain rfl := inj1 hm
    exact hJ _ _ (by kernel_rfl) (by kernel_rfl)
  replace hm := hs
  clear hs
  refine G_split (p := v6 = v8) 35 (eq_dec _ _) (fun hc => ?_) (fun hc => ?_)
  · replace hm := pos_inv hc hm
    refine G_run 2 ?_
    obtain ⟨v12, hx, hm⟩ := bind_inv hm
    have hq := w_ref08_Same _ _ hx []
    refine G_callP hq ?_
    refine G_run 1 ?_
    obtain rfl := inj1 hm
    exact hJ _ _ (by kernel_rfl) (by kernel_rfl)
  replace hm := neg_inv hc hm
  refine G_run 4 ?_
  obtain rfl := inj1 hm
  exact hJ _ _ (by kernel_rfl) (by kernel_rfl)
end Go.Proofs.Tryd
namespace Go.Proofs.Tryd
open Go Go.Pm
set_option linter.unusedVariables false
set_option maxHeartbeats 2000000
set_option maxRecDepth 2000
mutual
def m_ref08_Size_L1 (x : (T_api_Tree × Int × Int)) : Option (Int) :=
  match x with
  | (p0, v201, v202) =>
  if v202 < (p0.kids.length : Int) then
    idx p0.kids v202 >>= fun v602 =>
    m_ref08_Size v602 >>= fun (v603 : Int) =>
    m_ref08_Size_L1 (p0, (W (v201 + v603)), (W (v202 + 1)))
  else
  some v201
  partial_fixpoint
def m_ref08_Size (x : T_api_Tree) : Option Int :=
  match x with
  | p0 =>
  m_ref08_Size_L1 (p0, 1, 0) >>= fun (v601 : Int) =>
  some v601
  partial_fixpoint
end
def P_ref08_Size_L1 : (T_api_Tree × Int × Int) → Int → Prop := fun x r => match x with
  | (p0, v201, v202) => ∀ st, prune 1 ((firstRegion (codeAt [1, 1, 0, 1, 0, 0] (bodyOf f17))).bind (env.hint 17).keepAt) st = ⟨kp 21 [(1, (.ptr 0 0)), (3, (intPV v201)), (4, (intPV v202))], [(.box [(intPV p0.kind), (intPV p0.fn), (intPV p0.axis), (.dat (strD p0.name)), (.dat (.lst ((List.map intD) p0.nums))), (.dat (.lst (T_api_Tree.toDs p0.kids)))])]⟩ →
    RL prog env (env.hint 17) true (codeAt [1, 1, 0, 1, 0, 0] (bodyOf f17)) 1 st (fun e s => match r with | v601 => e = .exit 0 ∧ ∃ d, s = ⟨sl d 21 [(3, (intPV v601))], [(.box [(intPV p0.kind), (intPV p0.fn), (intPV p0.axis), (.dat (strD p0.name)), (.dat (.lst ((List.map intD) p0.nums))), (.dat (.lst (T_api_Tree.toDs p0.kids)))])]⟩)
def P_ref08_Size : T_api_Tree → Int → Prop := fun x r => match x, r with
  | p0, r0 => ∀ H, PC prog env 17 ([(T_api_Tree.ex p0)].map .dat) H (intPV r0) H
theorem g_ref08_Size_L1 : (∀ x r, m_ref08_Size_L1 x = some r → P_ref08_Size_L1 x r) ∧ (∀ x r, m_ref08_Size x = some r → P_ref08_Size x r) := by
  refine m_ref08_Size_L1.mutual_partial_correctness P_ref08_Size_L1 P_ref08_Size ?_ ?_
  · intro m_ref08_Size_L1 m_ref08_Size w_ref08_Size_L1 w_ref08_Size x r hm
    unfold P_ref08_Size_L1
    obtain ⟨p0, v201, v202⟩ := x
    intro st hst
    refine RL_at hst ?_
    clear hst
    refine R_seq ?_
    refine R_seq ?_
    refine R_G ?_
    refine G_run 3 ?_
    refine I_len T_api_Tree.toD p0.kids (es := T_api_Tree.toDs p0.kids) (T_api_Tree.toDs_eq _) ?_
    refine G_run 1 ?_
    refine G_end ?_
    refine R_ifp (p := v202 < (p0.kids.length : Int)) (rfl) (fun hc => ?_) (fun hc => ?_)
    · replace hm := pos_inv hc hm
      refine R_skip ?_
      refine R_seq ?_
      refine R_block ?_
      refine R_G ?_
      refine G_run 4 ?_
      obtain ⟨v602, hx, hm⟩ := bind_inv hm
      refine I_idx 6 T_api_Tree.toD p0.kids v202 v602 (es := T_api_Tree.toDs p0.kids) (d := (T_api_Tree.ex v602)) (T_api_Tree.toDs_eq _) hx (T_api_Tree.toD_eq v602) rfl ?_
      refine G_run 1 ?_
      obtain ⟨v603, hx, hm⟩ := bind_inv hm
      have hq := w_ref08_Size _ _ hx []
      refine G_callP hq ?_
      refine G_run 2 ?_
      refine G_end ?_
      refine R_G ?_
      refine G_run 3 ?_
      refine G_end ?_
      exact w_ref08_Size_L1 _ _ hm _ (by kernel_rfl)
    replace hm := neg_inv hc hm
    refine R_exit ?_
    obtain rfl := inj1 hm
    exact ⟨rfl, cut_leaf (by kernel_rfl)⟩
  · intro m_ref08_Size_L1 w_ref08_Size_L1 p0 r0 hm
    unfold P_ref08_Size
    intro H
    refine PC_sx (ds := [(T_api_Tree.ex p0)]) (fn := f17) (by kernel_rfl) (by kernel_rfl) rfl ?_ (by kernel_rfl)
    refine R_seq ?_
    refine R_G ?_
    refine G_run 2 ?_
    refine G_end ?_
    refine R_seq ?_
    refine R_G ?_
    refine G_run 1 ?_
    refine G_end ?_
    refine R_seq ?_
    refine R_seq ?_
    refine R_G ?_
    refine G_run 1 ?_
    refine G_end ?_
    refine R_block ?_
    obtain ⟨v601, hs, hm⟩ := bind_inv hm
    refine R_loop ?_
    refine RL_use (w_ref08_Size_L1 _ _ hs) (by kernel_rfl) ?_
    clear hs
    intro e s hp
    obtain ⟨rfl, d, rfl⟩ := hp
    refine R_seq ?_
    refine R_G ?_
    refine G_run 2 ?_
    refine G_end ?_
    refine R_ret ?_
    obtain rfl := inj1 hm
    exact ⟨trivial, fin_pure (by kernel_rfl)⟩
theorem w_ref08_Size_L1 : ∀ x r, m_ref08_Size_L1 x = some r → P_ref08_Size_L1 x r := g_ref08_Size_L1.1
theorem w_ref08_Size : ∀ x r, m_ref08_Size x = some r → P_ref08_Size x r := g_ref08_Size_L1.2
end Go.Proofs.Tryd
namespace Go.Proofs.Tryd
open Go Go.Pm
set_option linter.unusedVariables false
set_option maxHeartbeats 2000000
set_option maxRecDepth 2000
def m_law29_SimplifyEnds (x : T_api_Tree) : Option Bool :=
  match x with
  | p0 =>
  (m_law29_awake () >>= fun (v2 : Bool) =>
  if v2 = false then
    some true
  else
  m_ref08_Small (p0, 300) >>= fun (v3 : Bool) =>
  some (!v3)
  ) >>= fun (v1 : Bool) =>
  if v1 = true then
    m_law29_awake () >>= fun (v4 : Bool) =>
    some v4
  else
  m_simplify_Simplify p0 >>= fun (v5 : T_api_Tree) =>
  (m_ref08_Few (v5, 300) >>= fun (v7 : Bool) =>
  if v7 = false then
    some true
  else
  m_ref08_Right v5 >>= fun (v8 : Bool) =>
  some (!v8)
  ) >>= fun (v6 : Bool) =>
  if v6 = true then
    some false
  else
  m_ref08_Size v5 >>= fun (v9 : Int) =>
  m_simplify_Count p0 >>= fun (v10 : Int) =>
  m_ref08_Size p0 >>= fun (v11 : Int) =>
  (if (W (v9 + v10)) ≤ v11 then
    m_simplify_Simplify v5 >>= fun (v13 : T_api_Tree) =>
    m_ref08_Same (v13, v5) >>= fun (v14 : Bool) =>
    some v14
  else
  some false
  ) >>= fun (v12 : Bool) =>
  if v12 = true then
    m_simplify_Count v5 >>= fun (v15 : Int) =>
    some (v15 == 0)
  else
  some false
def P_law29_SimplifyEnds : T_api_Tree → Bool → Prop := fun x r => match x, r with
  | p0, r0 => ∀ H, PC prog env 4 ([(T_api_Tree.ex p0)].map .dat) H (boolPV r0) H
theorem w_law29_SimplifyEnds : ∀ x r, m_law29_SimplifyEnds x = some r → P_law29_SimplifyEnds x r := by
  intro p0 r0 hm
  unfold m_law29_SimplifyEnds at hm
  unfold P_law29_SimplifyEnds
  intro H
  refine PC_sx (ds := [(T_api_Tree.ex p0)]) (fn := f4) (by kernel_rfl) (by kernel_rfl) rfl ?_ (by kernel_rfl)
  refine R_seq ?_
  refine R_G ?_
  refine G_run 2 ?_
  refine G_end ?_
  refine R_seq ?_
  refine R_seq ?_
  obtain ⟨v1, hs, hm⟩ := bind_inv hm
  refine R_cut (fun d => ⟨sl d 41 [(1, (.ptr 0 0)), (10, (boolPV v1))], [(.box [(intPV p0.kind), (intPV p0.fn), (intPV p0.axis), (.dat (strD p0.name)), (.dat (.lst ((List.map intD) p0.nums))), (.dat (.lst (T_api_Tree.toDs p0.kids)))])]⟩) ?_ (fun d => ?_)
  · replace hm := hs
    clear hs
    refine R_G ?_
    obtain ⟨v2, hx, hm⟩ := bind_inv hm
    have hq := w_law29_awake _ _ hx []
    refine G_callP hq ?_
    refine G_run 2 ?_
    refine G_split (p := v2 = false) 6 (not_dec _) (fun hc => ?_) (fun hc => ?_)
    · replace hm := pos_inv hc hm
      refine G_run 4 ?_
      refine G_end ?_
      obtain rfl := inj1 hm
      exact cut_leaf (by kernel_rfl)
    replace hm := neg_inv hc hm
    refine G_run 1 ?_
    obtain ⟨v3, hx, hm⟩ := bind_inv hm
    have hq := w_ref08_Small _ _ hx []
    refine G_callP hq ?_
    refine G_run 2 ?_
    refine G_end ?_
    obtain rfl := inj1 hm
    exact cut_leaf (by kernel_rfl)
  clear hs
  refine R_ifp (p := v1 = true) (bool_dec _) (fun hc => ?_) (fun hc => ?_)
  · replace hm := pos_inv hc hm
    refine R_seq ?_
    refine R_G ?_
    obtain ⟨v4, hx, hm⟩ := bind_inv hm
    have hq := w_law29_awake _ _ hx []
    refine G_callP hq ?_
    refine G_run 1 ?_
    refine G_end ?_
    refine R_ret ?_
    obtain rfl := inj1 hm
    exact ⟨trivial, fin_pure (by kernel_rfl)⟩
  replace hm := neg_inv hc hm
  refine R_skip ?_
  refine R_seq ?_
  refine R_G ?_
  refine G_run 1 ?_
  obtain ⟨v5, hx, hm⟩ := bind_inv hm
  have hq := w_simplify_Simplify _ _ hx []
  refine G_callP hq ?_
  refine G_run 2 ?_
  refine G_end ?_
  refine R_seq ?_
  refine R_seq ?_
  obtain ⟨v6, hs, hm⟩ := bind_inv hm
  refine R_cut (fun d => ⟨sl d 41 [(1, (.ptr 0 0)), (3, (.ptr 1 0)), (21, (boolPV v6))], [(.box [(intPV p0.kind), (intPV p0.fn), (intPV p0.axis), (.dat (strD p0.name)), (.dat (.lst ((List.map intD) p0.nums))), (.dat (.lst (T_api_Tree.toDs p0.kids)))]), (.box [(intPV v5.kind), (intPV v5.fn), (intPV v5.axis), (.dat (strD v5.name)), (.dat (.lst ((List.map intD) v5.nums))), (.dat (.lst (T_api_Tree.toDs v5.kids)))])]⟩) ?_ (fun d => ?_)
  · replace hm := hs
    clear hs
    refine R_G ?_
    refine G_run 1 ?_
    obtain ⟨v7, hx, hm⟩ := bind_inv hm
    have hq := w_ref08_Few _ _ hx []
    refine G_callP hq ?_
    refine G_run 2 ?_
    refine G_split (p := v7 = false) 17 (not_dec _) (fun hc => ?_) (fun hc => ?_)
    · replace hm := pos_inv hc hm
      refine G_run 4 ?_
      refine G_end ?_
      obtain rfl := inj1 hm
      exact cut_leaf (by kernel_rfl)
    replace hm := neg_inv hc hm
    refine G_run 1 ?_
    obtain ⟨v8, hx, hm⟩ := bind_inv hm
    have hq := w_ref08_Right _ _ hx []
    refine G_callP hq ?_
    refine G_run 2 ?_
    refine G_end ?_
    obtain rfl := inj1 hm
    exact cut_leaf (by kernel_rfl)
  clear hs
  refine R_ifp (p := v6 = true) (bool_dec _) (fun hc => ?_) (fun hc => ?_)
  · replace hm := pos_inv hc hm
    refine R_seq ?_
    refine R_G ?_
    refine G_run 1 ?_
    refine G_end ?_
    refine R_ret ?_
    obtain rfl := inj1 hm
    exact ⟨trivial, fin_pure (by kernel_rfl)⟩
  replace hm := neg_inv hc hm
  refine R_skip ?_
  refine R_seq ?_
  refine R_GW ?_
  refine G_run 1 ?_
  obtain ⟨v9, hx, hm⟩ := bind_inv hm
  have hq := w_ref08_Size _ _ hx []
  refine G_callP hq ?_
  refine G_run 1 ?_
  obtain ⟨v10, hx, hm⟩ := bind_inv hm
  have hq := w_simplify_Count _ _ hx []
  refine G_callP hq ?_
  refine G_run 2 ?_
  obtain ⟨v11, hx, hm⟩ := bind_inv hm
  have hq := w_ref08_Size _ _ hx []
  refine G_callP hq ?_
  refine G_run 2 ?_
  obtain ⟨v12, hs, hm⟩ := bind_inv hm
  refine G_cut (j := 14) (fun d => ⟨sl d 41 [(1, (.ptr 0 0)), (3, (.ptr 1 0)), (21, (boolPV v6)), (22, (.dat (.agg [(intD v5.kind), (intD v5.fn), (intD v5.axis), (strD v5.name), (.lst ((List.map intD) v5.nums)), (.lst (T_api_Tree.toDs v5.kids))]))), (23, (intPV v9)), (24, (.dat (.agg [(intD p0.kind), (intD p0.fn), (intD p0.axis), (strD p0.name), (.lst ((List.map intD) p0.nums)), (.lst (T_api_Tree.toDs p0.kids))]))), (25, (intPV v10)), (26, (intPV (W (v9 + v10)))), (27, (.dat (.agg [(intD p0.kind), (intD p0.fn), (intD p0.axis), (strD p0.name), (.lst ((List.map intD) p0.nums)), (.lst (T_api_Tree.toDs p0.kids))]))), (28, (intPV v11)), (29, (boolPV (decide ((W (v9 + v10)) ≤ v11)))), (35, (boolPV v12))], [(.box [(intPV p0.kind), (intPV p0.fn), (intPV p0.axis), (.dat (strD p0.name)), (.dat (.lst ((List.map intD) p0.nums))), (.dat (.lst (T_api_Tree.toDs p0.kids)))]), (.box [(intPV v5.kind), (intPV v5.fn), (intPV v5.axis), (.dat (strD v5.name)), (.dat (.lst ((List.map intD) v5.nums))), (.dat (.lst (T_api_Tree.toDs v5.kids)))])]⟩) (fun d => ?_) (fun hJ => ?_)
  · clear hs
    refine G_run 1 ?_
    refine G_split (p := v12 = true) 36 (bool_dec _) (fun hc => ?_) (fun hc => ?_)
    · replace hm := pos_inv hc hm
      refine G_run 1 ?_
      obtain ⟨v15, hx, hm⟩ := bind_inv hm
      have hq := w_simplify_Count _ _ hx []
      refine G_callP hq ?_
      refine G_run 3 ?_
      refine G_end ⟨by kernel_rfl, ?_⟩
      refine R_ret ?_
      obtain rfl := inj1 hm
      exact ⟨trivial, fin_pure (by kernel_rfl)⟩
    replace hm := neg_inv hc hm
    refine G_run 5 ?_
    refine G_end ⟨by kernel_rfl, ?_⟩
    refine R_ret ?_
    obtain rfl := inj1 hm
    exact ⟨trivial, fin_pure (by kernel_rfl)⟩
  replace hm := hs
  clear hs
  refine G_split (p := (W (v9 + v10)) ≤ v11) 30 (rfl) (fun hc => ?_) (fun hc => ?_)
  · replace hm := pos_inv hc hm
    refine G_run 1 ?_
    obtain ⟨v13, hx, hm⟩ := bind_inv hm
    have hq := w_simplify_Simplify _ _ hx []
    refine G_callP hq ?_
    refine G_run 1 ?_
    obtain ⟨v14, hx, hm⟩ := bind_inv hm
    have hq := w_ref08_Same _ _ hx []
    refine G_callP hq ?_
    refine G_run 1 ?_
    obtain rfl := inj1 hm
    exact hJ _ _ (by kernel_rfl) (by kernel_rfl)
  replace hm := neg_inv hc hm
  refine G_run 5 ?_
  obtain rfl := inj1 hm
  exact hJ _ _ (by kernel_rfl) (by kernel_rfl)
end Go.Proofs.Tryd
namespace Go.Proofs.Tryd
open Go Go.Pm
set_option linter.unusedVariables false
set_option linter.unusedSimpArgs false
set_option maxRecDepth 2000
mutual
def szT : T_api_Tree → Nat
  | ⟨_, _, _, _, _, kids⟩ => 1 + szTs kids
def szTs : List T_api_Tree → Nat
  | [] => 0
  | k :: ks => szT k + szTs ks
end
mutual
def numT : T_api_Tree → Nat
  | ⟨_, _, _, _, nums, kids⟩ => nums.length + numTs kids
def numTs : List T_api_Tree → Nat
  | [] => 0
  | k :: ks => numT k + numTs ks
end
mutual
def depT : T_api_Tree → Nat
  | ⟨_, _, _, _, _, kids⟩ => depTs kids + 1
def depTs : List T_api_Tree → Nat
  | [] => 0
  | k :: ks => max (depT k) (depTs ks)
end
theorem szT_pos : ∀ t : T_api_Tree, 1 ≤ szT t
  | ⟨_, _, _, _, _, kids⟩ => by rw [szT]; omega
theorem szTs_len : ∀ l : List T_api_Tree, l.length ≤ szTs l
  | [] => Nat.zero_le _
  | k :: ks => by have := szTs_len ks; have := szT_pos k; rw [szTs]; simp only [List.length_cons]; omega
theorem szTs_app : ∀ a b : List T_api_Tree, szTs (a ++ b) = szTs a + szTs b
  | [], b => by simp [szTs]
  | k :: ks, b => by rw [List.cons_append, szTs, szTs, szTs_app ks b]; omega
theorem numTs_app : ∀ a b : List T_api_Tree, numTs (a ++ b) = numTs a + numTs b
  | [], b => by simp [numTs]
  | k :: ks, b => by rw [List.cons_append, numTs, numTs, numTs_app ks b]; omega
mutual
theorem depT_le : ∀ t : T_api_Tree, depT t ≤ szT t
  | ⟨_, _, _, _, _, kids⟩ => by have := depTs_le kids; rw [depT, szT]; omega
theorem depTs_le : ∀ l : List T_api_Tree, depTs l ≤ szTs l
  | [] => Nat.le_refl _
  | k :: ks => by have := depT_le k; have := depTs_le ks; rw [depTs, szTs]; omega
end
mutual
theorem numT_le (B : Nat) : ∀ t : T_api_Tree, ok25 B t → numT t ≤ szT t * B
  | ⟨_, _, _, _, nums, kids⟩, h => by
    rw [ok25] at h
    have := numTs_le B kids h.2.2.2.2.2.2
    have := h.2.2.2.2.1.1
    rw [numT, szT, Nat.add_mul, Nat.one_mul]; omega
theorem numTs_le (B : Nat) : ∀ l : List T_api_Tree, okl25 B l → numTs l ≤ szTs l * B
  | [], _ => Nat.zero_le _
  | k :: ks, h => by
    rw [okl25] at h
    have := numT_le B k h.1
    have := numTs_le B ks h.2
    rw [numTs, szTs, Nat.add_mul]; omega
end
mutual
theorem tleft_ok : ∀ (t : T_api_Tree) (n : Int), 0 ≤ n → n ≤ 600 → m_ref08_left (t, n) = some (max (n - (szT t : Int)) (-1))
  | ⟨k, f, a, nm, nu, ks⟩, n, h1, h2 => by
    rw [m_ref08_left]
    have w : W (n - 1) = n - 1 := W_ok (by omega) (by omega)
    have e := tleft_loop ks [] (n - 1) k f a nm nu (by omega) (by simp; omega)
    simp only [List.nil_append, List.length_nil, Int.natCast_zero] at e
    rw [w, e, bind_ok, szT]
    congr 1; omega
theorem tleft_loop : ∀ (s p : List T_api_Tree) (n : Int) (k f a : Int) (nm : ByteArray) (nu : List Int), -1 ≤ n → (p.length : Int) + n ≤ 600 →
    m_ref08_left_L1 (⟨k, f, a, nm, nu, p ++ s⟩, n, (p.length : Int)) = some (max (n - (szTs s : Int)) (-1))
  | [], p, n, k, f, a, nm, nu, h1, h2 => by
    rw [m_ref08_left_L1]
    simp only [end_lt, if_false, bind_ok, Bool.false_eq_true, szTs]
    congr 1; omega
  | x :: s, p, n, k, f, a, nm, nu, h1, h2 => by
    rw [m_ref08_left_L1]
    simp only [mid_lt, if_true, bind_ok]
    by_cases hn : n ≥ 0
    · rw [decide_eq_true hn]
      have e := tleft_ok x n hn (by omega)
      have e' := tleft_loop s (p ++ [x]) (max (n - (szT x : Int)) (-1)) k f a nm nu (by omega) (by have := szT_pos x; simp; omega)
      rw [← mid_app] at e'
      have w : W ((p.length : Int) + 1) = ((p ++ [x]).length : Int) := by rw [W_ok (by omega) (by omega)]; simp
      simp only [if_true, mid_idx, bind_ok, e, w, e', szTs]
      congr 1; omega
    · rw [decide_eq_false hn]
      simp only [Bool.false_eq_true, if_false, szTs]
      congr 1; omega
end
mutual
theorem tdep_ok : ∀ (t : T_api_Tree), szT t ≤ 600 → m_ref08_Depth t = some (depT t : Int)
  | ⟨k, f, a, nm, nu, ks⟩, h => by
    rw [m_ref08_Depth]
    rw [szT] at h
    have e := tdep_loop ks [] 0 k f a nm nu (by have := szTs_len ks; simp; omega) (by omega) (by omega)
    simp only [List.nil_append, List.length_nil, Int.natCast_zero] at e
    have := depTs_le ks
    simp only [e, bind_ok, depT]
    rw [W_ok (by omega) (by omega)]
    congr 1
    first | done | omega
theorem tdep_loop : ∀ (s p : List T_api_Tree) (m : Nat) (k f a : Int) (nm : ByteArray) (nu : List Int), (p ++ s).length ≤ 600 → szTs s ≤ 600 → m ≤ 600 →
    m_ref08_Depth_L1 (⟨k, f, a, nm, nu, p ++ s⟩, (m : Int), (p.length : Int)) = some ((max m (depTs s) : Nat) : Int)
  | [], p, m, k, f, a, nm, nu, h1, h2, h3 => by
    rw [m_ref08_Depth_L1]
    simp only [end_lt, if_false, depTs, Nat.max_zero]
  | x :: s, p, m, k, f, a, nm, nu, h1, h2, h3 => by
    rw [m_ref08_Depth_L1]
    rw [szTs] at h2
    have e := tdep_ok x (by omega)
    have hd := depT_le x
    have e' := tdep_loop s (p ++ [x]) (max m (depT x)) k f a nm nu (by simpa using h1) (by omega) (by omega)
    rw [← mid_app] at e'
    have w : W ((p.length : Int) + 1) = ((p ++ [x]).length : Int) := mid_W (Sm_of h1)
    have hx : (if (m : Int) < (depT x : Int) then (depT x : Int) else (m : Int)) = ((max m (depT x) : Nat) : Int) := by split <;> omega
    simp only [mid_lt, if_true, mid_idx, bind_ok, e, w, hx, e', depTs]
    congr 1; omega
end
mutual
theorem tnum_ok : ∀ (t : T_api_Tree), szT t ≤ 600 → numT t ≤ 1000000000000000000 → m_ref08_numbers t = some (numT t : Int)
  | ⟨k, f, a, nm, nu, ks⟩, h, h2 => by
    rw [m_ref08_numbers]
    rw [szT] at h
    rw [numT] at h2
    have e := tnum_loop ks [] nu.length k f a nm nu (by have := szTs_len ks; simp; omega) (by omega) (by omega)
    simp only [List.nil_append, List.length_nil, Int.natCast_zero] at e
    simp only [e, bind_ok, numT]
theorem tnum_loop : ∀ (s p : List T_api_Tree) (m : Nat) (k f a : Int) (nm : ByteArray) (nu : List Int), (p ++ s).length ≤ 600 → szTs s ≤ 600 → m + numTs s ≤ 1000000000000000000 →
    m_ref08_numbers_L1 (⟨k, f, a, nm, nu, p ++ s⟩, (m : Int), (p.length : Int)) = some ((m + numTs s : Nat) : Int)
  | [], p, m, k, f, a, nm, nu, h1, h2, h3 => by
    rw [m_ref08_numbers_L1]
    simp only [end_lt, if_false, numTs, Nat.add_zero]
  | x :: s, p, m, k, f, a, nm, nu, h1, h2, h3 => by
    rw [m_ref08_numbers_L1]
    rw [szTs] at h2
    rw [numTs] at h3
    have e := tnum_ok x (by omega) (by omega)
    have e' := tnum_loop s (p ++ [x]) (m + numT x) k f a nm nu (by simpa using h1) (by omega) (by omega)
    rw [← mid_app] at e'
    have w : W ((p.length : Int) + 1) = ((p ++ [x]).length : Int) := mid_W (Sm_of h1)
    have hx : W ((m : Int) + (numT x : Int)) = ((m + numT x : Nat) : Int) := by rw [W_ok (by omega) (by omega)]; omega
    simp only [mid_lt, if_true, mid_idx, bind_ok, e, w, hx, e', numTs, Nat.add_assoc]
end
/-- few nodes and numbers -/
def fewT (t : T_api_Tree) : Prop := szT t ≤ 300 ∧ depT t ≤ 150 ∧ numT t ≤ 3000
theorem Few_ok (t : T_api_Tree) (hb : numT t ≤ szT t * 140737488351232) : ∃ b, m_ref08_Few (t, 300) = some b ∧ (b = true ↔ fewT t) := by
  unfold m_ref08_Few
  simp only [tleft_ok t 300 (by omega) (by omega), bind_ok]
  by_cases h : szT t ≤ 300
  · have h0 : max ((300 : Int) - (szT t : Int)) (-1) ≥ 0 := by omega
    have hn : numT t ≤ 1000000000000000000 := Nat.le_trans hb (Nat.le_trans (Nat.mul_le_mul_right _ h) (by decide))
    have w : W (10 * 300) = 3000 := by decide
    simp only [h0, if_true, tdep_ok t (by omega), tnum_ok t (by omega) hn, bind_ok, w]
    by_cases hd : (depT t : Int) ≤ 150
    · rw [decide_eq_true hd]
      simp only [if_true]
      refine ⟨_, rfl, ?_⟩
      unfold fewT
      simp only [decide_eq_true_eq]
      omega
    · rw [decide_eq_false hd]
      simp only [Bool.false_eq_true, if_false]
      exact ⟨_, rfl, fun h => (by cases h), fun h => by unfold fewT at h; omega⟩
  · have h0 : ¬ max ((300 : Int) - (szT t : Int)) (-1) ≥ 0 := by omega
    simp only [h0, if_false, bind_ok, Bool.false_eq_true]
    exact ⟨_, rfl, fun h => (by cases h), fun h' => by unfold fewT at h'; omega⟩
end Go.Proofs.Tryd
namespace Go.Proofs.Tryd
open Go Go.Pm
set_option linter.unusedVariables false
set_option linter.unusedSimpArgs false
set_option maxRecDepth 2000
theorem ite_some {c : Prop} [Decidable c] {α : Type} (a b : α) : (if c then some a else some b) = some (if c then a else b) := by split <;> rfl
theorem letter_tot (v : Int) : ∃ b, m_ref07_letter v = some b := by
  unfold m_ref07_letter
  simp only [ite_some, bind_ok]
  exact ⟨_, rfl⟩
theorem digit_tot (v : Int) : ∃ b, m_ref07_digit v = some b := by
  unfold m_ref07_digit
  simp only [ite_some, bind_ok]
  exact ⟨_, rfl⟩
theorem sidx_ok {b : ByteArray} {i : Nat} (h : i < b.size) : ∃ v, sidx b (i : Int) = some v := by
  unfold sidx
  rw [if_pos (by omega)]
  have h2 : ((i : Int)).toNat < b.data.size := by have : b.data.size = b.size := rfl; omega
  rw [Array.getElem?_eq_getElem h2]
  exact ⟨_, rfl⟩
theorem end_tot (s : ByteArray) (hs : s.size ≤ 1000000000000000000) : ∀ m i : Nat, i + m = s.size → ∃ r, m_ref07_end_L1 (s, (i : Int)) = some r
  | 0, i, h => by
    rw [m_ref07_end_L1]
    have : ¬ ((i : Int) < (s.size : Int)) := by omega
    simp only [this, if_false, bind_ok, Bool.false_eq_true]
    exact ⟨_, rfl⟩
  | m + 1, i, h => by
    rw [m_ref07_end_L1]
    have h1 : ((i : Int) < (s.size : Int)) := by omega
    obtain ⟨v, e⟩ := sidx_ok (b := s) (i := i) (by omega)
    obtain ⟨b, eb⟩ := letter_tot v
    obtain ⟨c, ec⟩ := digit_tot v
    obtain ⟨r, er⟩ := end_tot s hs m (i + 1) (by omega)
    have w : W ((i : Int) + 1) = ((i + 1 : Nat) : Int) := W_succ (by omega)
    simp only [h1, if_true, e, eb, ec, bind_ok, w, er, ite_some]
    split
    · exact ⟨_, rfl⟩
    · exact ⟨_, rfl⟩
theorem name_tot (s : ByteArray) (hs : s.size ≤ 1000000000000000000) : ∃ b, m_ref07_Name s = some b := by
  unfold m_ref07_Name
  simp only []
  by_cases h : (s.size : Int) > 0
  · obtain ⟨v, e⟩ := sidx_ok (b := s) (i := 0) (by omega)
    simp only [Int.natCast_zero] at e
    obtain ⟨b, eb⟩ := letter_tot v
    obtain ⟨r, er⟩ := end_tot s hs s.size 0 (by omega)
    simp only [Int.natCast_zero] at er
    simp only [h, if_true, e, eb, bind_ok]
    cases b
    · simp only [Bool.false_eq_true, if_false]; exact ⟨_, rfl⟩
    · simp only [if_true, m_ref07_end, er, bind_ok]; exact ⟨_, rfl⟩
  · simp only [h, if_false, bind_ok, Bool.false_eq_true]; exact ⟨_, rfl⟩
def noT : T_api_Tree := ⟨0, 0, 0, ByteArray.empty, [], []⟩
def axF (a : Int) : Prop := 0 ≤ a ∧ a ≤ 15
/-- a node as the chapter permits -/
def formF (t : T_api_Tree) : Prop :=
  (t.kind = 1 ∧ t.fn = 0 ∧ t.axis = -1 ∧ t.name = ByteArray.empty ∧ t.kids.length = 0) ∨
  (t.kind = 2 ∧ t.fn = 0 ∧ t.axis = -1 ∧ m_ref07_Name t.name = some true ∧ t.nums.length = 0 ∧ t.kids.length = 0) ∨
  (t.kind = 3 ∧ t.name = ByteArray.empty ∧ t.nums.length = 0 ∧ t.kids.length = 1 ∧ ((t.fn = 3 ∧ (t.axis = -1 ∨ axF t.axis)) ∨ ((t.fn = 4 ∨ t.fn = 6) ∧ t.axis = -1))) ∨
  (t.kind = 4 ∧ t.name = ByteArray.empty ∧ t.nums.length = 0 ∧ t.kids.length = 2 ∧ 1 ≤ t.fn ∧ t.fn ≤ 6 ∧ (t.axis = -1 ∨ (axF t.axis ∧ (t.fn = 3 ∨ t.fn = 6))) ∧ (t.fn = 6 ∨ (t.kids.getD 0 noT).kind = 1 ∨ (t.kids.getD 0 noT).kind = 2))
set_option maxHeartbeats 4000000 in
theorem node_ok (t : T_api_Tree) (hs : t.name.size ≤ 1000000000000000000) : ∃ b, m_ref08_node t = some b ∧ (b = true ↔ formF t) := by
  obtain ⟨k, f, a, nm, nu, ks⟩ := t
  obtain ⟨nb, en⟩ := name_tot nm hs
  unfold m_ref08_node
  simp only [ite_some, bind_ok]
  by_cases h1 : k = 1
  · subst h1
    simp only [if_true, ite_some, bind_ok]
    refine ⟨_, rfl, ?_⟩
    simp only [formF, axF]
    by_cases c1 : f = 0 <;> by_cases c2 : a = -1 <;> by_cases c3 : nm = ByteArray.empty <;> simp [c1, c2, c3] <;> omega
  · by_cases h2 : k = 2
    · subst h2
      simp only [if_neg h1, if_true, ite_some, bind_ok, en]
      refine ⟨_, rfl, ?_⟩
      simp only [formF, axF, en]
      cases nb <;> by_cases c1 : f = 0 <;> by_cases c2 : a = -1 <;> by_cases c3 : nu = [] <;> simp [c1, c2, c3]
    · by_cases h3 : k = 3
      · subst h3
        simp only [if_neg h1, if_neg h2, if_true, ite_some, bind_ok]
        refine ⟨_, rfl, ?_⟩
        simp only [formF, axF]
        by_cases c1 : nm = ByteArray.empty <;> by_cases c2 : nu = [] <;> by_cases c3 : ks.length = 1 <;> by_cases c4 : f = 3 <;> by_cases c5 : a = -1 <;> simp [c1, c2, c3, c4, c5] <;> (try omega)
      · by_cases h4 : k = 4
        · subst h4
          simp only [if_neg h1, if_neg h2, if_neg h3, if_true, ite_some, bind_ok]
          match ks with
          | [x, y] =>
            have i0 : idx [x, y] 0 = some x := rfl
            simp only [i0, ite_some, bind_ok]
            refine ⟨_, rfl, ?_⟩
            simp only [formF, axF]
            by_cases c1 : nm = ByteArray.empty <;> by_cases c2 : nu = [] <;> by_cases c3 : f = 6 <;> by_cases c4 : f = 3 <;> by_cases c5 : a = -1 <;> simp [c1, c2, c3, c4, c5] <;> (try omega)
          | [] =>
            simp [formF]
          | [x] => 
            simp [formF]
          | x :: y :: z :: r =>
            simp [formF]
            intro _ _ h
            omega
        · simp only [if_neg h1, if_neg h2, if_neg h3, if_neg h4]
          exact ⟨_, rfl, fun h => (by cases h), fun h => by simp only [formF] at h; omega⟩
mutual
def good : T_api_Tree → Prop
  | ⟨k, f, a, nm, nu, ks⟩ => formF ⟨k, f, a, nm, nu, ks⟩ ∧ goods ks
def goods : List T_api_Tree → Prop
  | [] => True
  | k :: ks => good k ∧ goods ks
end
/-- names are no longer than a machine can hold -/
def nmOk (n : Nat) : Prop := n ≤ 1000000000000000000
mutual
def namesOk : T_api_Tree → Prop
  | ⟨_, _, _, nm, _, ks⟩ => nmOk nm.size ∧ namesOks ks
def namesOks : List T_api_Tree → Prop
  | [] => True
  | k :: ks => namesOk k ∧ namesOks ks
end
mutual
theorem namesOk_of : ∀ t : T_api_Tree, ok25 140737488351232 t → namesOk t
  | ⟨_, _, _, nm, _, ks⟩, h => by
    rw [ok25] at h
    rw [namesOk]
    exact ⟨by have := h.2.2.2.1; unfold nmOk; omega, namesOks_of ks h.2.2.2.2.2.2⟩
theorem namesOks_of : ∀ l : List T_api_Tree, okl25 140737488351232 l → namesOks l
  | [], _ => by rw [namesOks]; trivial
  | k :: ks, h => by
    rw [okl25] at h
    rw [namesOks]
    exact ⟨namesOk_of k h.1, namesOks_of ks h.2⟩
end
mutual
theorem nodes_ok : ∀ (t : T_api_Tree), szT t ≤ 600 → namesOk t → ∃ b, m_ref08_nodes t = some b ∧ (b = true ↔ good t)
  | ⟨k, f, a, nm, nu, ks⟩, h, hn => by
    rw [szT] at h
    rw [namesOk] at hn
    obtain ⟨b, e, hb⟩ := node_ok ⟨k, f, a, nm, nu, ks⟩ hn.1
    have hl := szTs_len ks
    obtain ⟨r, e2, hr⟩ := nodes_loop ks [] k f a nm nu (by simp; omega) (by omega) hn.2
    simp only [List.nil_append, List.length_nil, Int.natCast_zero] at e2
    rw [m_ref08_nodes]
    simp only [e, bind_ok, good, ← hb, ← hr]
    cases b with
    | false => exact ⟨_, rfl, fun h => (by cases h), fun h => (by cases h.1)⟩
    | true =>
      simp only [Bool.true_eq_false, if_false, e2, bind_ok, true_and]
      cases r with
      | inl u => exact ⟨_, rfl, fun h => (by cases h), fun h => (by cases h)⟩
      | inr u => exact ⟨_, rfl, fun _ => rfl, fun _ => rfl⟩
theorem nodes_loop : ∀ (s p : List T_api_Tree) (k f a : Int) (nm : ByteArray) (nu : List Int), (p ++ s).length ≤ 600 → szTs s ≤ 600 → namesOks s →
    ∃ r, m_ref08_nodes_L1 (⟨k, f, a, nm, nu, p ++ s⟩, (p.length : Int)) = some r ∧ (r = .inr () ↔ goods s)
  | [], p, k, f, a, nm, nu, h1, h2, h3 => by
    rw [m_ref08_nodes_L1]
    simp only [end_lt, if_false, goods]
    exact ⟨_, rfl, fun _ => trivial, fun _ => rfl⟩
  | x :: s, p, k, f, a, nm, nu, h1, h2, h3 => by
    rw [m_ref08_nodes_L1]
    rw [szTs] at h2
    rw [namesOks] at h3
    obtain ⟨b, e, hb⟩ := nodes_ok x (by omega) h3.1
    obtain ⟨r, e', hr⟩ := nodes_loop s (p ++ [x]) k f a nm nu (by simpa using h1) (by omega) h3.2
    rw [← mid_app] at e'
    have w : W ((p.length : Int) + 1) = ((p ++ [x]).length : Int) := mid_W (Sm_of h1)
    simp only [mid_lt, if_true, mid_idx, bind_ok, e, w, goods, ← hb, ← hr]
    cases b with
    | false => exact ⟨_, rfl, fun h => (by cases h), fun h => (by cases h.1)⟩
    | true => exact ⟨r, e', fun h => ⟨rfl, h⟩, fun h => h.2⟩
end
theorem etaT (t : T_api_Tree) : (⟨t.kind, t.fn, t.axis, t.name, t.nums, t.kids⟩ : T_api_Tree) = t := by cases t; rfl
theorem Right_ok (t : T_api_Tree) (h : szT t ≤ 300) (hn : namesOk t) : ∃ b, m_ref08_Right t = some b ∧ (b = true ↔ depT t ≤ 100 ∧ good t) := by
  obtain ⟨b, e, hb⟩ := nodes_ok t (by omega) hn
  unfold m_ref08_Right
  simp only [tdep_ok t (by omega), bind_ok]
  by_cases hd : (depT t : Int) ≤ 100
  · simp only [hd, if_true, etaT, e, bind_ok]
    exact ⟨_, rfl, by rw [hb]; exact ⟨fun h => ⟨by omega, h⟩, fun h => h.2⟩⟩
  · simp only [hd, if_false]
    exact ⟨_, rfl, fun h => (by cases h), fun h => (by omega)⟩
theorem Small_ok (t : T_api_Tree) (hb : numT t ≤ szT t * 140737488351232) (hn : namesOk t) : ∃ b, m_ref08_Small (t, 300) = some b ∧ (b = true ↔ fewT t ∧ depT t ≤ 100 ∧ good t) := by
  obtain ⟨b, e, h⟩ := Few_ok t hb
  unfold m_ref08_Small
  simp only [e, bind_ok]
  cases b with
  | false => 
    simp only [Bool.false_eq_true, if_false]
    exact ⟨_, rfl, fun h => (by cases h), fun h' => h.2 h'.1⟩
  | true =>
    obtain ⟨c, e2, h2⟩ := Right_ok t (h.1 rfl).1 hn
    simp only [if_true, etaT, e2, bind_ok]
    exact ⟨_, rfl, by rw [h2]; exact ⟨fun h' => ⟨h.1 rfl, h'⟩, fun h' => h'.2⟩⟩
end Go.Proofs.Tryd
