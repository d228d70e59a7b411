/-
  Seat a: the counter runs through all indices in order, and its sums are those of each index.
-/
import Derived.Test.YtbknblppjhfkmaaA12
namespace Go.Proofs.Try
open Go Go.Pm
set_option linter.unusedVariables false
set_option linter.unusedSimpArgs false

theorem W_emod (n : Int) : (IntKind.i64.wrap n) % 18446744073709551616 = n % 18446744073709551616 := by
  simp only [IntKind.wrap, IntKind.bits, IntKind.signed]; simp; split <;> omega
theorem W_eq {a b : Int} (h : a % 18446744073709551616 = b % 18446744073709551616) : IntKind.i64.wrap a = IntKind.i64.wrap b := by
  simp only [IntKind.wrap, IntKind.bits, IntKind.signed]; simp; rw [h]
theorem W_W (a b : Int) : IntKind.i64.wrap (a + IntKind.i64.wrap b) = IntKind.i64.wrap (a + b) := W_eq (by have := W_emod b; omega)

/-- the sum of products, exactly -/
def dotI : List Int → List Int → Int
  | a :: u, b :: v => a * b + dotI u v
  | _, _ => 0
theorem dotI_snoc : ∀ {a b : List Int} (x y : Int), a.length = b.length → dotI (a ++ [x]) (b ++ [y]) = dotI a b + x * y
  | [], [], x, y, _ => by simp [dotI]
  | a :: u, b :: v, x, y, h => by
    simp only [List.cons_append, dotI]
    rw [dotI_snoc x y (by simpa using h)]; omega
theorem dotI_zero : ∀ (a : List Int) (k : Nat), dotI a (List.replicate k 0) = 0
  | [], k => by cases k <;> rfl
  | a :: u, 0 => rfl
  | a :: u, k + 1 => by rw [List.replicate_succ, dotI, dotI_zero u k]; simp
theorem dotW_I (c : Int) : ∀ (a b : List Int) (n : Int), IntKind.i64.wrap (c + (a.zip b).foldl (fun n (x : Int × Int) => IntKind.i64.wrap (n + IntKind.i64.wrap (x.1 * x.2))) n) = IntKind.i64.wrap (c + (n + dotI a b))
  | [], b, n => by simp [dotI]
  | a :: u, [], n => by simp [dotI]
  | a :: u, b :: v, n => by
    simp only [List.zip_cons_cons, List.foldl_cons, dotI]
    rw [dotW_I c u v]
    have h1 := W_emod (n + IntKind.i64.wrap (a * b)); have h2 := W_emod (a * b)
    exact W_eq (by omega)
theorem W_dotW (c : Int) (a b : List Int) : IntKind.i64.wrap (c + dotW a b) = IntKind.i64.wrap (c + dotI a b) := by
  rw [dotW, dotW_I]; simp

/-- a run: from x, all of l -/
inductive Run {α : Type} (R : α → α → Prop) (Z : α → Prop) : α → List α → Prop
  | last {x : α} : Z x → Run R Z x []
  | more {x y : α} {l : List α} : R x y → Run R Z y l → Run R Z x (y :: l)

/-- y comes next behind x, among the first m loops -/
def Succ (dims : List Int) (m : Nat) (x y : List Int) : Prop :=
  ∃ q, q < m ∧ x.length = m ∧ y.length = m ∧ (∀ tl, nextFrom dims m (x ++ tl) = (y ++ tl, (q : Int), true)) ∧
    ∀ st w, st.length = dims.length → subW dims st (IntKind.i64.wrap (w + st.getD q 0)) (q + 1) m = IntKind.i64.wrap (w + (dotI (st.take m) y - dotI (st.take m) x))
/-- nothing comes behind x -/
def Last (dims : List Int) (m : Nat) (x : List Int) : Prop := x.length = m ∧ ∀ tl, (nextFrom dims m (x ++ tl)).2.2 = false

theorem getD_snoc {x : List Int} {m : Nat} (h : x.length = m) (v : Int) (tl : List Int) : (x ++ [v] ++ tl).getD m 0 = v := by
  subst h; simp
theorem set_snoc {x : List Int} {m : Nat} (h : x.length = m) (v u : Int) (tl : List Int) : (x ++ [v] ++ tl).set m u = x ++ [u] ++ tl := by
  subst h; simp

section
variable {dims : List Int} {m : Nat}
theorem succ_in (hm : m < dims.length) (h1 : 1 ≤ dims.getD m 0) (h2 : dims.getD m 0 ≤ 1000000) {x : List Int} {r : Int} (hx : x.length = m) (h0 : 0 ≤ r) (hr : r + 1 < dims.getD m 0) : Succ dims (m + 1) (x ++ [r]) (x ++ [r + 1]) := by
  refine ⟨m, Nat.lt_succ_self m, by simp [hx], by simp [hx], fun tl => ?_, fun st w hst => ?_⟩
  · rw [nextFrom, getD_snoc hx, wrap_i64 (by omega) (by omega), if_pos hr, set_snoc hx]
  · rw [subW_self]
    have hs : m < st.length := by omega
    have e : st.take (m + 1) = st.take m ++ [st.getD m 0] := by rw [List.take_succ_eq_append_getElem hs]; simp [hs]
    rw [e, dotI_snoc _ _ (by simp [hx]; omega), dotI_snoc _ _ (by simp [hx]; omega)]
    congr 1
    rw [Int.mul_add]; omega
theorem succ_carry (hm : m < dims.length) (h1 : 1 ≤ dims.getD m 0) (h2 : dims.getD m 0 ≤ 1000000) {x y : List Int} (h : Succ dims m x y) : Succ dims (m + 1) (x ++ [dims.getD m 0 - 1]) (y ++ [0]) := by
  obtain ⟨q, hq, hx, hy, hn, hs⟩ := h
  refine ⟨q, by omega, by simp [hx], by simp [hy], fun tl => ?_, fun st w hst => ?_⟩
  · rw [nextFrom, getD_snoc hx, wrap_i64 (by omega) (by omega), if_neg (by omega), set_snoc hx, List.append_assoc, hn, ← List.append_assoc]
  · rw [subW_succ (by omega), hs st w hst, wrap_i64 (n := dims.getD m 0 - 1) (by omega) (by omega)]
    have hsl : m < st.length := by omega
    have e : st.take (m + 1) = st.take m ++ [st.getD m 0] := by rw [List.take_succ_eq_append_getElem hsl]; simp [hsl]
    rw [e, dotI_snoc _ _ (by simp [hx]; omega), dotI_snoc _ _ (by simp [hy]; omega)]
    rw [Int.mul_comm (st.getD m 0) (dims.getD m 0 - 1)]
    generalize (dims.getD m 0 - 1) * st.getD m 0 = p
    have e1 := W_emod (w + (dotI (st.take m) y - dotI (st.take m) x)); have e2 := W_emod p
    exact W_eq (by simp only [Int.mul_zero]; omega)
theorem last_carry (h1 : 1 ≤ dims.getD m 0) (h2 : dims.getD m 0 ≤ 1000000) {x : List Int} (h : Last dims m x) : Last dims (m + 1) (x ++ [dims.getD m 0 - 1]) := by
  obtain ⟨hx, hn⟩ := h
  refine ⟨by simp [hx], fun tl => ?_⟩
  rw [nextFrom, getD_snoc hx, wrap_i64 (by omega) (by omega), if_neg (by omega), set_snoc hx, List.append_assoc]
  exact hn _
/-- the innermost loop, from r on -/
theorem runIn (hm : m < dims.length) (h1 : 1 ≤ dims.getD m 0) (h2 : dims.getD m 0 ≤ 1000000) {x : List Int} (hx : x.length = m) {l : List (List Int)} (hl : (l = [] ∧ Last dims m x) ∨ ∃ y l', l = (y ++ [0]) :: l' ∧ Succ dims m x y ∧ Run (Succ dims (m + 1)) (Last dims (m + 1)) (y ++ [0]) l') :
    ∀ (k : Nat) (r : Nat), (r : Int) + k + 1 = dims.getD m 0 → Run (Succ dims (m + 1)) (Last dims (m + 1)) (x ++ [(r : Int)]) (((List.range' (r + 1) k).map fun (n : Nat) => x ++ [(n : Int)]) ++ l)
  | 0, r, hr => by
    have e : (r : Int) = dims.getD m 0 - 1 := by omega
    rw [e]
    rcases hl with ⟨rfl, hl⟩ | ⟨y, l', rfl, hs, hr'⟩
    · exact .last (last_carry h1 h2 hl)
    · exact .more (succ_carry hm h1 h2 hs) hr'
  | k + 1, r, hr => by
    rw [List.range'_succ, List.map_cons, List.cons_append]
    exact .more (by have := succ_in hm h1 h2 hx (r := (r : Int)) (by omega) (by omega); rwa [show ((r : Int) + 1) = ((r + 1 : Nat) : Int) by omega] at this) (runIn hm h1 h2 hx hl k (r + 1) (by omega))
theorem run_step (hm : m < dims.length) (h1 : 1 ≤ dims.getD m 0) (h2 : dims.getD m 0 ≤ 1000000) {x : List Int} {l : List (List Int)} (h : Run (Succ dims m) (Last dims m) x l) : ∃ l', (extL (dims.getD m 0) x ++ l.flatMap (extL (dims.getD m 0))) = (x ++ [0]) :: l' ∧ Run (Succ dims (m + 1)) (Last dims (m + 1)) (x ++ [0]) l' := by
  have hd : ∃ k : Nat, ((0 : Nat) : Int) + k + 1 = dims.getD m 0 := ⟨(dims.getD m 0 - 1).toNat, by omega⟩
  obtain ⟨k, hk⟩ := hd
  have ex : ∀ x : List Int, extL (dims.getD m 0) x = (x ++ [0]) :: (List.range' 1 k).map fun (n : Nat) => x ++ [(n : Int)] := fun x => by
    rw [extL, show (dims.getD m 0).toNat = k + 1 by omega, List.range_eq_range', List.range'_succ, List.map_cons]; rfl
  induction h with
  | last hz =>
    rename_i x
    refine ⟨(List.range' 1 k).map fun (n : Nat) => x ++ [(n : Int)], by rw [ex]; simp, ?_⟩
    have := runIn hm h1 h2 hz.1 (Or.inl ⟨rfl, hz⟩) k 0 hk
    rw [List.append_nil] at this
    exact this
  | more hs hr ih =>
    obtain ⟨l', h3, h4⟩ := ih
    rename_i x y l
    have hxl : x.length = m := by obtain ⟨_, _, h, _⟩ := hs; exact h
    refine ⟨((List.range' 1 k).map fun (n : Nat) => x ++ [(n : Int)]) ++ (y ++ [0]) :: l', by rw [List.flatMap_cons, h3, ex]; simp, ?_⟩
    exact runIn hm h1 h2 hxl (Or.inr ⟨y, l', rfl, hs, h4⟩) k 0 hk
end
theorem run_all (dims : List Int) (h : ∀ d ∈ dims, 1 ≤ d ∧ d ≤ 1000000) : ∀ m, m ≤ dims.length → ∃ l, allL (dims.take m) = List.replicate m 0 :: l ∧ Run (Succ dims m) (Last dims m) (List.replicate m 0) l
  | 0, _ => ⟨[], rfl, .last ⟨rfl, fun tl => rfl⟩⟩
  | m + 1, hm => by
    obtain ⟨l, h1, h2⟩ := run_all dims h m (by omega)
    have hmem := h _ (List.getElem_mem (show m < dims.length by omega))
    have hg : dims.getD m 0 = dims[m] := by simp [show m < dims.length by omega]
    obtain ⟨l', h3, h4⟩ := run_step (by omega) (by rw [hg]; exact hmem.1) (by rw [hg]; exact hmem.2) h2
    rw [← List.replicate_succ'] at h3 h4
    exact ⟨l', by rw [← allL_succ (by omega), h1, List.flatMap_cons, ← hg, h3], h4⟩

theorem boundedB_of {a : Acc} {most : Int} (h0 : 0 ≤ most) (h1 : most ≤ 1000000000000000) (h : boundedB a most = true) :
    (∀ s ∈ a.strides, -most ≤ s ∧ s ≤ most) ∧ (-most ≤ a.buffer ∧ a.buffer ≤ most) ∧ (-most ≤ a.base ∧ a.base ≤ most) ∧ (-most ≤ a.start ∧ a.start ≤ most) ∧ (-most ≤ a.step ∧ a.step ≤ most) ∧ (-most ≤ a.mod ∧ a.mod ≤ most) := by
  have hw : IntKind.i64.wrap (0 - most) = -most := by rw [wrap_i64 (by omega) (by omega)]; omega
  simp only [boundedB, nearB, hw, Bool.and_eq_true, List.all_eq_true, decide_eq_true_eq] at h
  obtain ⟨h1, ⟨⟨⟨h2, h3⟩, h4⟩, h5⟩, h6⟩ := h
  exact ⟨fun s hs => ⟨(h1 s hs).1, (h1 s hs).2⟩, h2, h3, h4, h5, h6⟩

/-- a nest that is small: its shape and its numbers -/
structure SmallN (n : Nst) : Prop where
  dims : n.dims.length ≤ 6
  steps : n.steps.length = n.dims.length
  kind : n.read.kind = 1 ∨ n.read.kind = 2 ∨ n.read.kind = 3
  fill : n.read.kind = 1 → n.read.strides.length = 0
  strides : n.read.kind ≠ 1 → n.read.strides.length = n.dims.length
  modp : n.read.kind = 3 → 0 < n.read.mod
  modl : n.read.mod ≤ 1000000
  stridesb : ∀ s ∈ n.read.strides, -1000000 ≤ s ∧ s ≤ 1000000
  bufferb : 0 ≤ n.read.buffer ∧ n.read.buffer ≤ 1000000
  baseb : -1000000 ≤ n.read.base ∧ n.read.base ≤ 1000000
  startb : -1000000 ≤ n.read.start ∧ n.read.start ≤ 1000000
  stepb : -1000000 ≤ n.read.step ∧ n.read.step ≤ 1000000
  writeb : -1000000 ≤ n.write ∧ n.write ≤ 1000000
  dim : ∀ d ∈ n.dims, 1 ≤ d ∧ d ≤ 100
  stepsb : ∀ s ∈ n.steps, -1000000 ≤ s ∧ s ≤ 1000000
  cells : ∀ j, j ≤ n.dims.length → cellsW (n.dims.take j) = ((allL (n.dims.take j)).length : Int) ∧ 1 ≤ (allL (n.dims.take j)).length ∧ (allL (n.dims.take j)).length ≤ 100

theorem rightB_of {a : Acc} {r : Int} (h : rightB a r = true) : 0 ≤ a.buffer ∧ ((a.kind = 1 ∧ a.strides.length = 0) ∨ (a.kind = 2 ∧ (a.strides.length : Int) = r) ∨ (a.kind = 3 ∧ (a.strides.length : Int) = r ∧ 0 < a.mod)) := by
  unfold rightB at h
  split at h
  · cases h
  · rename_i h0
    refine ⟨by simp at h0; omega, ?_⟩
    split at h
    · rename_i h1
      simp at h1 h
      exact Or.inl ⟨h1, by simp [h]⟩
    · split at h
      · rename_i h1
        simp at h1 h
        exact Or.inr (Or.inl ⟨h1, by omega⟩)
      · split at h
        · rename_i h1
          simp at h1 h
          exact Or.inr (Or.inr ⟨h1, by omega, by omega⟩)
        · cases h

theorem extL_len (d : Int) (p : List Int) : (extL d p).length = d.toNat := by simp [extL]
theorem flat_len (d : Int) : ∀ L : List (List Int), (L.flatMap (extL d)).length = L.length * d.toNat
  | [] => by simp
  | p :: L => by rw [List.flatMap_cons, List.length_append, extL_len, flat_len d L, List.length_cons, Nat.succ_mul]; omega

theorem smallB_of {n : Nst} (h : smallB n 100 = true) : SmallN n := by
  rw [smallB, Bool.and_eq_true] at h
  obtain ⟨hh, hs⟩ := h
  simp only [headB, Bool.not_eq_true', Bool.or_eq_false_iff, Bool.not_eq_false', decide_eq_false_iff_not, List.length_map, bne_eq_false_iff_eq] at hh
  obtain ⟨⟨⟨⟨⟨a1, a2⟩, a3⟩, a4⟩, a5⟩, a6⟩ := hh
  obtain ⟨r0, r1⟩ := rightB_of a3
  obtain ⟨b1, b2, b3, b4, b5, b6⟩ := boundedB_of (by omega) (by omega) a4
  simp only [List.all_eq_true, List.mem_range, stepB, Bool.and_eq_true, Bool.not_eq_true', Bool.or_eq_false_iff, decide_eq_false_iff_not] at hs
  have hsl : n.steps.length = n.dims.length := by omega
  have hcells : ∀ j, j ≤ n.dims.length → cellsW (n.dims.take j) = ((allL (n.dims.take j)).length : Int) ∧ 1 ≤ (allL (n.dims.take j)).length ∧ (allL (n.dims.take j)).length ≤ 100 := by
    intro j
    induction j with
    | zero => intro _; exact ⟨rfl, by simp [allL], by simp [allL]⟩
    | succ j ih =>
      intro hj
      obtain ⟨i1, i2, i3⟩ := ih (by omega)
      have hj' : j < n.dims.length := by omega
      obtain ⟨⟨⟨⟨s1, s2⟩, s3⟩, s4⟩, s5⟩ := hs j hj'
      have hg : n.dims.getD j 0 = n.dims[j] := by simp [hj']
      rw [hg] at s1 s2
      rw [← cellsW_succ hj', i1] at s5 ⊢
      rw [← allL_succ hj', flat_len]
      generalize (allL (n.dims.take j)).length = L at *
      obtain ⟨d, hd⟩ : ∃ d : Nat, n.dims[j] = (d : Int) := ⟨n.dims[j].toNat, by omega⟩
      rw [hd] at s1 s2 s5 ⊢
      rw [Int.toNat_natCast]
      have hle : L * d ≤ 100 * 100 := Nat.mul_le_mul i3 (by omega)
      have hge : 1 * 1 ≤ L * d := Nat.mul_le_mul i2 (by omega)
      rw [← Int.natCast_mul, wrap_i64 (by omega) (by omega)] at s5 ⊢
      exact ⟨rfl, by omega, by omega⟩
  refine ⟨by omega, hsl, ?_, ?_, ?_, ?_, b6.2, b1, ⟨r0, b2.2⟩, b3, b4, b5, ⟨by omega, by omega⟩, ?_, ?_, hcells⟩
  · rcases r1 with h | h | h
    · exact Or.inl h.1
    · exact Or.inr (Or.inl h.1)
    · exact Or.inr (Or.inr h.1)
  · intro hk; rcases r1 with h | h | h <;> omega
  · intro hk; rcases r1 with h | h | h <;> omega
  · intro hk; rcases r1 with h | h | h <;> omega
  · intro d hd
    obtain ⟨j, hj, rfl⟩ := List.getElem_of_mem hd
    obtain ⟨⟨⟨⟨s1, s2⟩, s3⟩, s4⟩, s5⟩ := hs j hj
    have hg : n.dims.getD j 0 = n.dims[j] := by simp [hj]
    omega
  · intro d hd
    obtain ⟨j, hj, rfl⟩ := List.getElem_of_mem hd
    obtain ⟨⟨⟨⟨s1, s2⟩, s3⟩, s4⟩, s5⟩ := hs j (by omega)
    have hg : n.steps.getD j 0 = n.steps[j] := by simp [hj]
    omega

/-- the sum of the access behind an index -/
def aOf (n : Nst) (x : List Int) : Int := if n.read.kind = 1 then at0 n else IntKind.i64.wrap (at0 n + dotI n.read.strides x)

theorem eventC_M {n : Nst} (h : SmallN n) (x : List Int) : eventC n (IntKind.i64.wrap (n.write + dotI n.steps x)) (aOf n x) = eventM n x := by
  rw [← W_dotW]
  rcases h.kind with hk | hk | hk
  · simp [eventC, eventM, atM, hk]
  · have e : aOf n x = IntKind.i64.wrap (n.read.base + dotW n.read.strides x) := by rw [aOf, if_neg (by omega), at0, if_neg (by omega), W_dotW]
    simp [eventC, eventM, atM, hk, e]
  · have e : aOf n x = IntKind.i64.wrap (n.read.start + dotW n.read.strides x) := by rw [aOf, if_neg (by omega), at0, if_pos hk, W_dotW]
    simp only [eventC, eventM, atM, hk, e]
    have hm := h.modp hk
    have hl := h.modl
    generalize IntKind.i64.wrap (n.read.start + dotW n.read.strides x) = r
    have key : (IntKind.i64.wrap (r.tmod n.read.mod + n.read.mod)).tmod n.read.mod = if r.tmod n.read.mod < 0 then IntKind.i64.wrap (r.tmod n.read.mod + n.read.mod) else r.tmod n.read.mod := by
      generalize n.read.mod = m at *
      have t1 : r.tmod m < m := Int.tmod_lt_of_pos r hm
      have t2 : -m < r.tmod m := by
        have := Int.lt_tmod_of_pos r hm
        omega
      generalize r.tmod m = t at *
      rw [wrap_i64 (by omega) (by omega)]
      split
      · exact Int.tmod_eq_of_lt (by omega) (by omega)
      · have : t + m = t + 1 * m := by omega
        rw [Int.tmod_eq_emod_of_nonneg (by omega), this, Int.add_mul_emod_self_right, Int.emod_eq_of_lt (by omega) (by omega)]
    simp [key]

theorem rounds_of {n : Nst} (h : SmallN n) {x : List Int} {l : List (List Int)} (hr : Run (Succ n.dims n.dims.length) (Last n.dims n.dims.length) x l) :
    Rounds n x (IntKind.i64.wrap (n.write + dotI n.steps x)) (aOf n x) ((x :: l).map (eventM n)) := by
  induction hr with
  | last hz =>
    rename_i x
    rw [List.map_cons, List.map_nil, ← eventC_M h]
    have := hz.2 []
    rw [List.append_nil] at this
    exact .last this
  | more hs hr ih =>
    rename_i x y l
    obtain ⟨q, hq, hx, hy, hn, hm⟩ := hs
    have hn := hn []
    rw [List.append_nil, List.append_nil] at hn
    rw [List.map_cons, ← eventC_M h]
    refine .more hq (by rw [hn]) (by rw [hn]) ?_
    rw [hn]
    have e1 : moved n.dims n.steps (IntKind.i64.wrap (n.write + dotI n.steps x)) q = IntKind.i64.wrap (n.write + dotI n.steps y) := by
      rw [moved, hm _ _ h.steps, List.take_of_length_le (by have := h.steps; omega)]
      have := W_emod (n.write + dotI n.steps x)
      exact W_eq (by omega)
    have e2 : accW n (aOf n x) q = aOf n y := by
      rw [accW, aOf, aOf]
      split
      · rfl
      · rename_i hk
        rw [moved, hm _ _ (h.strides hk), List.take_of_length_le (by have := h.strides hk; omega)]
        have := W_emod (at0 n + dotI n.read.strides x)
        exact W_eq (by omega)
    rw [e1, e2]
    exact ih
theorem goes_of {n : Nst} (h : SmallN n) : GoesTo n (eventsN n) := by
  refine ⟨by have := h.dims; omega, h.steps, h.strides, fun hk => by have := h.modp hk; omega, ?_⟩
  obtain ⟨l, h1, h2⟩ := run_all n.dims (fun d hd => by have := h.dim d hd; omega) n.dims.length (Nat.le_refl _)
  rw [List.take_length] at h1
  have := rounds_of h h2
  have hb := h.writeb; have hb2 := h.baseb; have hb3 := h.startb
  have e2 : aOf n (List.replicate n.dims.length 0) = at0 n := by
    rw [aOf]
    split
    · rfl
    · rw [dotI_zero, at0]; split <;> exact wrap_i64 (by omega) (by omega) |>.trans (by omega)
  rw [dotI_zero, wrap_i64 (by omega) (by omega), Int.add_zero, e2, ← h1] at this
  exact this
theorem nestOK_of {n : Nst} (h : SmallN n) : NestOK n := by
  refine ⟨by have := h.dims; omega, by have := h.dims; have := h.steps; omega, ?_, ?_, fun j hj => by have := (h.cells j hj).2.2; omega⟩
  · have := h.dims
    by_cases hk : n.read.kind = 1
    · have := h.fill hk; omega
    · have := h.strides hk; omega
  · rcases h.kind with hk | hk | hk
    · exact Or.inl hk
    · exact Or.inr (Or.inl hk)
    · exact Or.inr (Or.inr (by have := h.modp hk; omega))
theorem eventsN_len {n : Nst} (h : SmallN n) : ((eventsN n).length : Int) = cellsW n.dims ∧ (eventsN n).length ≤ 100 := by
  have := h.cells n.dims.length (Nat.le_refl _)
  rw [List.take_length] at this
  rw [eventsN, List.length_map]
  exact ⟨this.1.symm, this.2.2⟩
theorem eventsL_len {l : List Nst} (h : ∀ n ∈ l, SmallN n) : (eventsL l).length ≤ 100 * l.length := by
  induction l with
  | nil => simp [eventsL]
  | cons n l ih =>
    have h1 := (eventsN_len (h n (List.mem_cons_self ..))).2
    have h2 := ih (fun m hm => h m (List.mem_cons_of_mem _ hm))
    rw [eventsL, List.flatMap_cons, List.length_append, ← eventsL, List.length_cons]
    omega
theorem fillsN (n : Nst) : fillsE (eventsN n) = if n.read.kind = 1 then (eventsN n).length else 0 := by
  have e : ∀ x, (eventM n x).fill = decide (n.read.kind = 1) := fun x => by
    simp only [eventM, atM]
    by_cases h1 : n.read.kind = 1
    · simp [h1]
    · by_cases h2 : n.read.kind = 2 <;> simp [h1, h2]
  rw [fillsE, eventsN, List.filter_map, List.length_map, List.length_map]
  by_cases h1 : n.read.kind = 1
  · rw [if_pos h1, List.filter_eq_self.mpr (fun x _ => by simp [e, h1])]
  · rw [if_neg h1, List.filter_eq_nil_iff.mpr (fun x _ => by simp [e, h1])]; rfl
theorem fillsE_append (a b : List Evt) : fillsE (a ++ b) = fillsE a + fillsE b := by simp [fillsE]
theorem fillsE_le (a : List Evt) : fillsE a ≤ a.length := List.length_filter_le _ _
theorem countM_of {l : List Nst} (h : ∀ n ∈ l, SmallN n) (hl : l.length ≤ 1000) : countM l = (((eventsL l).length : Int) - (fillsE (eventsL l) : Int), (fillsE (eventsL l) : Int)) := by
  have key : ∀ j, j ≤ l.length → countM (l.take j) = (((eventsL (l.take j)).length : Int) - (fillsE (eventsL (l.take j)) : Int), (fillsE (eventsL (l.take j)) : Int)) := by
    intro j
    induction j with
    | zero => intro _; rfl
    | succ j ih =>
      intro hj
      have hj' : j < l.length := by omega
      have hs := h _ (List.getElem_mem hj')
      obtain ⟨c1, c2⟩ := eventsN_len hs
      have hlen := eventsL_len (l := l.take j) (fun n hn => h n (List.mem_of_mem_take hn))
      rw [List.length_take] at hlen
      have e : eventsL (l.take (j + 1)) = eventsL (l.take j) ++ eventsN l[j] := by rw [eventsL, eventsL, List.take_succ_eq_append_getElem hj', List.flatMap_append]; simp
      have hf := fillsE_le (eventsL (l.take j))
      rw [countM_succ hj', ih (by omega), e, fillsE_append, fillsN, List.length_append, ← c1]
      have c2' : 100 * min j l.length ≤ 100000 := by omega
      split
      · rw [wrap_i64 (by omega) (by omega)]; simp only [Prod.mk.injEq]; omega
      · rw [wrap_i64 (by omega) (by omega)]; simp only [Prod.mk.injEq]; omega
  have := key l.length (Nat.le_refl _)
  rwa [List.take_length] at this

theorem smalls_of {l : List Nst} (h : smallsB l 100 = true) : l.length ≤ 100 ∧ ∀ n ∈ l, SmallN n := by
  simp only [smallsB, Bool.and_eq_true, List.all_eq_true, Bool.not_eq_true', decide_eq_false_iff_not, List.length_map] at h
  exact ⟨by omega, fun n hn => smallB_of (h.2.1 n hn)⟩
theorem small_of {l : List Nst} (h : smallsB l 100 = true) : Small l := by
  obtain ⟨h1, h2⟩ := smalls_of h
  exact ⟨fun n hn => nestOK_of (h2 n hn), fun j hj => goes_of (h2 _ (List.getElem_mem hj)), by have := eventsL_len h2; omega⟩

/-- the law of the events, on the machine -/
theorem c3 (l : List Nst) (stop : Int) (h0 : 0 ≤ stop) (h1 : stop ≤ 255) (hl : lensOk l) : PC prog env 3 [.dat (nestsD l), .dat (.raw (.int .u8 stop))] [] (boolPV true) [] := by
  cases hs : smallsB l 100 with
  | false => exact c3_big l stop hl hs
  | true =>
    have hS := smalls_of hs
    exact c3_small l stop h0 h1 hl hs (small_of hs) (fun n hn => by have := (hS.2 n hn).dims; omega) (countM_of hS.2 (by omega))
end Go.Proofs.Try
