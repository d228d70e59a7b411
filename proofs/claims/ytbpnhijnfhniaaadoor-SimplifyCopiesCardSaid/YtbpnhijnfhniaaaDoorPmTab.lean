/-
  The pure machine: what a row says of a package variable gives its cells.
-/
import Derived.Test.YtbpnhijnfhniaaaDoorPmLaw
import Derived.LaidMore
import Derived.OpenShut
import Derived.FnData
namespace Go.Pm
open Go Go.RowKit Go.ChangeShapes
set_option linter.unusedVariables false

section
variable (P : Program)
/-- the one function of a name -/
def funcOf (b : List UInt8) : Option FuncId := match (List.range P.funcs.size).filter fun f => (P.funcs[f]?).any (·.name.toUTF8.data.toList == b) with
  | [f] => some f
  | _ => none
def partsOf (F : TypeId → DataW (List UInt8) → Option (List Value)) : List (Nat × TypeId) → Nat → List (DataW (List UInt8)) → Option (List Value)
  | [], n, [] => some []
  | (o, t) :: fs, n, d :: ds => if o = n then (F t d).bind fun c => if c.length = P.cellsOf t then (partsOf F fs (n + P.cellsOf t) ds).map (c ++ ·) else none else none
  | _, _, _ => none
def sizeOf' : List (Nat × TypeId) → Nat
  | [] => 0
  | (_, t) :: fs => P.cellsOf t + sizeOf' fs
/-- the cells that read as a datum -/
def cellsD : Nat → TypeId → DataW (List UInt8) → Option (List Value)
  | 0, _, _ => none
  | k + 1, t, d => match P.underlying t, d with
    | some .bool, .lit (.bool b) => some [.bool b]
    | some (.int i), .lit (.int j n) => if i = j then some [.int i n] else none
    | some .string, .lit (.string b) => some [.string ⟨b.toArray⟩]
    | some (.func ..), .nil => some [.nilFunc]
    | some (.func ..), .held (b :: r) => (funcOf P (b :: r)).map fun f => [.func (.func f) #[] #[]]
    | some (.struct fs), .agg ds => let l := fs.toList.map fun f => (f.offset, f.type)
      if sizeOf' P l = P.cellsOf t then partsOf P (cellsD k) l 0 ds else none
    | some (.array n e), .agg ds => let l := (List.range n).map fun i => (i * P.cellsOf e, e)
      if sizeOf' P l = P.cellsOf t then partsOf P (cellsD k) l 0 ds else none
    | _, _ => none
end

section
variable {P : Program} {w : World} {sp : Nat → Bool}

theorem parts_sound {F : TypeId → DataW (List UInt8) → Option (List Value)} {m : Nat}
    (hF : ∀ t d cs vs p, F t d = some vs → DataW.trod (funcToken P) P w 0 sp true m t cs = some (d, p) → cs = vs) {cs : List Value} :
    ∀ (l : List (Nat × TypeId)) (n : Nat) (xs : List (DataW (List UInt8) × List MemPlace)) (vs : List Value), cs.length = n + sizeOf' P l → xs.length = l.length →
      (∀ (i : Nat) o t, l[i]? = some (o, t) → DataW.trod (funcToken P) P w 0 sp true m t ((cs.drop o).take (P.cellsOf t)) = xs[i]?) →
      partsOf P F l n (xs.map (·.1)) = some vs → cs.drop n = vs
  | [], n, xs, vs, hl, hx, h, hp => by
    match xs, hx with
    | [], _ =>
      simp only [List.map_nil, partsOf, Option.some.injEq] at hp
      subst hp
      rw [List.drop_eq_nil_of_le (by simp [sizeOf'] at hl; omega)]
  | (o, t) :: fs, n, xs, vs, hl, hx, h, hp => by
    match xs, hx with
    | x :: xs, hx =>
      simp only [List.map_cons, partsOf] at hp
      split at hp
      · rename_i ho
        subst ho
        simp only [Option.bind_eq_some_iff] at hp
        obtain ⟨c, h1, h2⟩ := hp
        split at h2
        · rename_i hc
          simp only [Option.map_eq_some_iff] at h2
          obtain ⟨r, h3, rfl⟩ := h2
          have e := hF t x.1 _ c x.2 h1 (by have := h 0 o t rfl; simpa using this)
          have e2 := parts_sound (cs := cs) hF fs (o + P.cellsOf t) xs r (by simp [sizeOf'] at hl; omega) (by simpa using hx) (fun i o' t' hi => by have := h (i + 1) o' t' (by simpa using hi); simpa using this) h3
          rw [← List.take_append_drop (P.cellsOf t) (cs.drop o), e, List.drop_drop, e2]
        · cases h2
      · cases hp

theorem funcOf_ok {b : List UInt8} {f : FuncId} (h : funcOf P b = some f) : ((List.range P.funcs.size).filter fun f => (P.funcs[f]?).any (·.name.toUTF8.data.toList == b)) = [f] := by
  unfold funcOf at h
  split at h
  · rename_i g hg; rw [hg]; cases h; rfl
  · cases h

theorem cellsD_sound : ∀ (k n : Nat) (t : TypeId) (d : DataW (List UInt8)) (cs vs : List Value) (p : List MemPlace), cellsD P k t d = some vs → DataW.trod (funcToken P) P w 0 sp true n t cs = some (d, p) → cs = vs
  | 0, _, _, _, _, _, _, h, _ => by cases h
  | k + 1, n, t, d, cs, vs, p, h, ht => by
    unfold cellsD at h
    split at h
    · rename_i b hu
      obtain ⟨b', rfl, e⟩ := DataW.trod_bool hu ht
      cases e; cases h; rfl
    · rename_i i j m hu
      obtain ⟨m', rfl, e, _⟩ := DataW.trod_int hu ht
      cases e
      rw [if_pos rfl] at h
      cases h; rfl
    · rename_i b hu
      obtain ⟨s, rfl, e, _⟩ := DataW.trod_string hu ht
      cases e; cases h; simp
    · rename_i hu
      cases n with
      | zero => simp [DataW.trod] at ht
      | succ n =>
        cases h
        unfold DataW.trod at ht
        rw [hu] at ht
        split at ht <;> simp_all
    · rename_i b r hu
      simp only [Option.map_eq_some_iff] at h
      obtain ⟨f, hf, rfl⟩ := h
      have hv : ∃ v, cs = [v] := by
        cases n with
        | zero => simp [DataW.trod] at ht
        | succ n =>
          unfold DataW.trod at ht
          rw [hu] at ht
          split at ht <;> simp_all
      obtain ⟨v, rfl⟩ := hv
      rw [func_of_trod hu (funcOf_ok hf) ht]
    · rename_i fs ds hu
      simp only [] at h
      split at h
      · rename_i hs
        obtain ⟨xs, m, _, e, hl, hlen, hf⟩ := DataW.trod_struct hu ht
        simp only [Prod.mk.injEq, DataW.agg.injEq] at e
        rw [e.1] at h
        have := parts_sound (cs := cs) (fun t d cs vs p h1 h2 => cellsD_sound k m t d cs vs p h1 h2) _ 0 xs vs (by rw [hs]; omega) (by simp [hlen]) (fun i o t' hi => by
          simp only [List.getElem?_map, Option.map_eq_some_iff] at hi
          obtain ⟨f, hf1, hf2⟩ := hi
          cases hf2
          exact hf i f (by simpa using hf1)) h
        simpa using this
      · cases h
    · rename_i n' e' ds hu
      simp only [] at h
      split at h
      · rename_i hs
        obtain ⟨xs, m, _, e, hl, hlen, hf⟩ := DataW.trod_array hu ht
        simp only [Prod.mk.injEq, DataW.agg.injEq] at e
        rw [e.1] at h
        have := parts_sound (cs := cs) (fun t d cs vs p h1 h2 => cellsD_sound k m t d cs vs p h1 h2) _ 0 xs vs (by rw [hs]; omega) (by simp [hlen]) (fun i o t' hi => by
          simp only [List.getElem?_map, Option.map_eq_some_iff] at hi
          obtain ⟨j, hj1, hj2⟩ := hi
          cases hj2
          have hj : j = i ∧ i < n' := by
            rw [List.getElem?_eq_some_iff] at hj1
            obtain ⟨q1, q2⟩ := hj1
            simp at q1 q2
            exact ⟨q2.symm, q1⟩
          obtain ⟨rfl, hi'⟩ := hj
          exact hf j hi') h
        simpa using this
      · cases h
    · cases h

/-- a package variable of functions by name, as the machine has it -/
theorem glob_of_funcs {name : String} {d : DataW Unit} {gl : Nat} {t : TypeId} {k : Nat} {vs : List Value} (h : funcsAt P w name d) (hg : P.globalNamed name = some gl)
    (ht : (P.globals[gl]?).map (·.type) = some t) (hu : cellsD P k t d.funcsOut = some vs) (hr : vs.all isRaw = true) :
    RepV (gS fun b _ => b < w.heap.size) 0 w (.pointer (some ⟨gl, 0, none⟩)) (.iptr (vs.map .raw)) := by
  obtain ⟨g, t', cs, fuel, p, h1, h2, h3, h4⟩ := h
  rw [hg] at h1; cases h1
  rw [ht] at h2; cases h2
  have e := cellsD_sound k fuel t _ _ _ p hu h4
  have hc : ∀ i, w.cell? ⟨gl, i, none⟩ = vs[i]? := fun i => by rw [World.var?_cell hg h3 i, ← e]; simp
  refine .iptr gl 0 _ (fun i => vs.getD i undef) (fun i hi => ?_) fun i u hu => ?_
  · simp only [List.length_map] at hi
    have := hc i
    rw [List.getElem?_eq_getElem hi] at this
    refine ⟨by rw [Nat.zero_add, this, List.getD_eq_getElem?_getD, List.getElem?_eq_getElem hi]; rfl, World.block_lt_of_cell? w ⟨gl, i, none⟩ this⟩
  · simp only [List.getElem?_map, Option.map_eq_some_iff] at hu
    obtain ⟨v, hv, rfl⟩ := hu
    rw [List.getD_eq_getElem?_getD, hv]
    exact .raw v (List.all_eq_true.1 hr v (List.mem_of_getElem? hv))
/-- the same, by the data that the machine holds -/
theorem glob_of_funcs' {name : String} {d : DataW Unit} {gl : Nat} {t : TypeId} {k : Nat} {es : List Dat} (h : funcsAt P w name d) (hg : P.globalNamed name = some gl)
    (ht : (P.globals[gl]?).map (·.type) = some t) (hu : (cellsD P k t d.funcsOut).map (fun vs => (vs.map Dat.raw, vs.all isRaw)) = some (es, true)) :
    RepV (gS fun b _ => b < w.heap.size) 0 w (.pointer (some ⟨gl, 0, none⟩)) (.iptr es) := by
  simp only [Option.map_eq_some_iff] at hu
  obtain ⟨vs, h1, h2⟩ := hu
  simp only [Prod.mk.injEq] at h2
  rw [← h2.1]
  exact glob_of_funcs h hg ht h1 h2.2
end
end Go.Pm
