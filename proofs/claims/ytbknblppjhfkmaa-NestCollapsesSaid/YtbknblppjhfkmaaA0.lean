/-
  Seat a: the hints of its functions, its data as Lean values.
-/
import Derived.Test.YtbknblppjhfkmaaProg
import Derived.Test.YtbknblppjhfkmaaPmMs
import Derived.KernelRfl
namespace Go.Proofs.Try
open Go Go.Pm
set_option linter.unusedVariables false
set_option linter.unusedSimpArgs false

def hintOf : FuncId → Hint
  | 3 => { own := [], keep := [(15, [0, 3, 4, 5, 6, 8, 9])] }   -- intarsia/intarsialaw23.NestEvents
  | 4 => { own := [((4, 0), [(0, 44)]), ((10, 1), [(0, 2)])], keep := [(6, [0, 1, 7, 8, 9]), (13, [0, 1, 7, 8, 10, 11])] }   -- intarsia/intarsialaw23.NestRuns
  | 5 => { own := [((7, 0), [(0, 36)])], keep := [(9, [0, 9, 10])] }   -- intarsia/intarsialaw23.NestSingles
  | 6 => { own := [((3, 0), [(0, 53)])], keep := [(5, [0, 3, 4])] }   -- intarsia/intarsialaw23.NestCollapses
  | 8 => { own := [], keep := [(7, [0, 5, 6])] }   -- intarsia/intarsialaw24.AuditUsed
  | 9 => { own := [((4, 0), [(0, 3)])], keep := [(6, [0, 1, 7, 8, 9])] }   -- intarsia/intarsialaw24.AuditRuns
  | 11 => { own := [], keep := [(5, [0, 1, 5, 6])] }   -- intarsia/intarsiaref23.Small
  | 12 => { own := [((1, 0), [(0, 37)])], keep := [(3, [0, 3, 4])] }   -- intarsia/intarsiaref23.Events
  | 13 => { own := [], keep := [(4, [0, 1, 5])] }   -- intarsia/intarsialaw23.same
  | 14 => { own := [((1, 0), [(0, 36)])], keep := [] }   -- intarsia/intarsialaw23.events
  | 15 => { own := [((1, 0), [(0, 53)])], keep := [(3, [0, 3, 4])] }   -- intarsia/intarsialaw23.Nests
  | 17 => { own := [], keep := [(2, [2, 3, 6, 7, 8])] }   -- intarsia/nest.Count
  | 18 => { own := [], keep := [(3, [1, 2, 7, 8])] }   -- intarsia/intarsiaref23.Fits
  | 20 => { own := [], keep := [(4, [0, 1, 5])] }   -- intarsia/intarsiaref23.Numbers
  | 21 => { own := [], keep := [(4, [1, 7, 8, 9])] }   -- intarsia/intarsiaref23.Run
  | 22 => { own := [((2, 4), [(0, 3)]), ((2, 9), [(0, 3)]), ((2, 15), [(0, 3)])], keep := [(5, [2, 3, 4, 5])] }   -- intarsia/onf.Collapse
  | 25 => { own := [], keep := [(2, [0, 1, 5])] }   -- intarsia/intarsialaw24.sizes
  | 27 => { own := [], keep := [(4, [1, 2, 6, 7, 8, 9]), (12, [2, 6, 7, 8, 10]), (16, [2, 6, 7, 8, 10, 11, 12])] }   -- intarsia/intarsiaref24.Check
  | 30 => { own := [], keep := [(3, [1, 5, 6])] }   -- intarsia/intarsiaref24.Used
  | 31 => { own := [], keep := [(5, [1, 2, 5, 6])] }   -- intarsia/intarsiaref21.Small
  | 32 => { own := [], keep := [(3, [1, 3, 4])] }   -- intarsia/intarsiaref21.Cells
  | 33 => { own := [((1, 0), [(0, 37)])], keep := [(4, [1, 3, 4, 5])] }   -- intarsia/intarsiaref21.Events
  | 34 => { own := [], keep := [(1, [0, 7, 8, 9]), (4, [0, 5, 6, 7, 8, 9])] }   -- intarsia/nest.Events$1
  | 36 => { own := [], keep := [(6, [0, 3, 5]), (12, [0, 6])] }   -- (*intarsia/nest.counter).advance
  | 38 => { own := [], keep := [(3, [3, 7, 8, 9])] }   -- intarsia/onf.Cells
  | 39 => { own := [((1, 0), [(1000, 3)])], keep := [(3, [1, 5, 8, 9, 10])] }   -- intarsia/onf.selected[int]
  | 46 => { own := [], keep := [(5, [0, 1, 2, 9, 10])] }   -- intarsia/intarsiaref24.bad
  | 48 => { own := [], keep := [(2, [1, 2, 5])] }   -- intarsia/intarsiaref17.Bounded
  | 49 => { own := [((5, 0), [(0, 49)]), ((12, 1), [(0, 3)])], keep := [(3, [0, 3, 4]), (7, [0, 3, 4, 5, 6]), (10, [0, 3, 4, 5, 6, 7])] }   -- intarsia/intarsiaref03.All
  | 50 => { own := [], keep := [(3, [0, 1, 5, 6])] }   -- intarsia/intarsiaref03.Dot
  | 26 => { own := [((2, 7), [(0, 83)])], keep := [] }   -- intarsia/audit.Check
  | 52 => { own := [], keep := [(2, [0, 4])] }   -- (*intarsia/nest.rounds).next
  | 58 => { own := [], keep := [(2, [0, 1, 7, 8])] }   -- slices.Index[[]bool,bool]
  | 60 => { own := [], keep := [(2, [0, 1, 7, 8])] }   -- slices.IndexFunc[[]intarsia/audit.rule,intarsia/audit.rule]
  | _ => {}

def env : Env := { summ := fun _ => none, pure := fun f => f != 52 && f != 36 && f != 37 && f != 35 && f != 34 && f != 43 && f != 44 && f != 54 && f != 60 && f != 55 && f != 56 && f != 57 && f != 42 && f != 39 && f != 40 && f != 41 && f != 53, hint := hintOf }

theorem wrap_i64 {n : Int} (h1 : -9223372036854775808 ≤ n) (h2 : n < 9223372036854775808) : IntKind.i64.wrap n = n := by
  simp only [IntKind.wrap, IntKind.bits, IntKind.signed]; simp; split <;> omega
theorem wrap_succ {j : Nat} (h : j < 9223372036854775807) : IntKind.i64.wrap ((j : Int) + 1) = ((j + 1 : Nat) : Int) := by rw [wrap_i64 (by omega) (by omega)]; omega

def intD (n : Int) : Dat := .raw (.int .i64 n)
def intsD (l : List Int) : Dat := .lst (l.map intD)
theorem ints_get {l : List Int} {j : Nat} (h : j < l.length) : (l.map intD)[j]? = some (intD l[j]) := by simp [h]

/-- an access: Kind, Buffer, Base, Strides, Start, Step, Mod -/
structure Acc where
  kind : Int
  buffer : Int
  base : Int
  strides : List Int
  start : Int
  step : Int
  mod : Int
def Acc.cells (a : Acc) : List Dat := [intD a.kind, intD a.buffer, intD a.base, intsD a.strides, intD a.start, intD a.step, intD a.mod]
def Acc.toD (a : Acc) : Dat := .agg [intD a.kind, intD a.buffer, intD a.base, intsD a.strides, intD a.start, intD a.step, intD a.mod]
/-- a nest: Dims, Write, Steps, Read -/
structure Nst where
  dims : List Int
  write : Int
  steps : List Int
  read : Acc
def Nst.toD (n : Nst) : Dat := .agg [intsD n.dims, intD n.write, intsD n.steps, intD n.read.kind, intD n.read.buffer, intD n.read.base, intsD n.read.strides, intD n.read.start, intD n.read.step, intD n.read.mod]
structure Evt where
  write : Int
  fill : Bool
  buffer : Int
  offset : Int
  deriving DecidableEq
def Evt.toD (e : Evt) : Dat := .agg [intD e.write, .raw (.bool e.fill), intD e.buffer, intD e.offset]
def nestsD (l : List Nst) : Dat := .lst (l.map Nst.toD)
def evtsD (l : List Evt) : Dat := .lst (l.map Evt.toD)
theorem nests_get {l : List Nst} {j : Nat} (h : j < l.length) : (l.map Nst.toD)[j]? = some l[j].toD := by simp [h]
theorem evts_get {l : List Evt} {j : Nat} (h : j < l.length) : (l.map Evt.toD)[j]? = some l[j].toD := by simp [h]

/-- the product of dimensions, as the program computes it -/
def cellsW (l : List Int) : Int := l.foldl (fun a d => IntKind.i64.wrap (a * d)) 1
theorem cellsW_succ {l : List Int} {j : Nat} (h : j < l.length) : IntKind.i64.wrap (cellsW (l.take j) * l[j]) = cellsW (l.take (j + 1)) := by
  rw [cellsW, cellsW, List.take_succ_eq_append_getElem h, List.foldl_append]; rfl
/-- the sum of products -/
def dotW (a b : List Int) : Int := (a.zip b).foldl (fun n (x : Int × Int) => IntKind.i64.wrap (n + IntKind.i64.wrap (x.1 * x.2))) 0
theorem dotW_succ {a b : List Int} {j : Nat} (ha : j < a.length) (hb : j < b.length) : IntKind.i64.wrap (dotW (a.take j) (b.take j) + IntKind.i64.wrap (a[j] * b[j])) = dotW (a.take (j + 1)) (b.take (j + 1)) := by
  have h : ((a.take (j + 1)).zip (b.take (j + 1))) = (a.take j).zip (b.take j) ++ [(a[j], b[j])] := by
    rw [List.take_succ_eq_append_getElem ha, List.take_succ_eq_append_getElem hb, List.zip_append (by simp; omega)]; rfl
  rw [dotW, dotW, h, List.foldl_append]; rfl
theorem dotW_full {a b : List Int} {j : Nat} (h : (j = a.length ∧ j ≤ b.length) ∨ (j = b.length ∧ j ≤ a.length)) : dotW (a.take j) (b.take j) = dotW a b := by
  have : (a.take j).zip (b.take j) = a.zip b := (List.take_zipWith (f := Prod.mk) (l := a) (l' := b) (i := j)).symm.trans (List.take_of_length_le (by simp; omega))
  rw [dotW, dotW, this]

end Go.Proofs.Try
