/-
  Seat a: the counter runs through all indices in order, and its sums are those of each index.
-/
import Derived.Test.YtbknblppjhfkmaaA12
namespace Go.Proofs.Try
open Go Go.Pm
set_option linter.unusedVariables false
set_option linter.unusedSimpArgs false

theorem W_emod (n : Int) : (IntKind.i64.wrap n) % 18446744073709551616 = n % 18446744073709551616 := by
  simp only [IntKind.wrap, IntKind.bits, IntKind.signed]; simp; split <;> omega
theorem W_eq {a b : Int} (h : a % 18446744073709551616 = b % 18446744073709551616) : IntKind.i64.wrap a = IntKind.i64.wrap b := by
  simp only [IntKind.wrap, IntKind.bits, IntKind.signed]; simp; rw [h]
theorem W_W (a b : Int) : IntKind.i64.wrap (a + IntKind.i64.wrap b) = IntKind.i64.wrap (a + b) := W_eq (by have := W_emod b; omega)

/-- the sum of products, exactly -/
def dotI : List Int → List Int → Int
  | a :: u, b :: v => a * b + dotI u v
  | _, _ => 0
theorem dotI_snoc : ∀ {a b : List Int} (x y : Int), a.length = b.length → dotI (a ++ [x]) (b ++ [y]) = dotI a b + x * y
  | [], [], x, y, _ => by simp [dotI]
  | a :: u, b :: v, x, y, h => by
    simp only [List.cons_append, dotI]
    rw [dotI_snoc x y (by simpa using h)]; omega
theorem dotI_zero : ∀ (a : List Int) (k : Nat), dotI a (List.replicate k 0) = 0
  | [], k => by cases k <;> rfl
  | a :: u, 0 => rfl
  | a :: u, k + 1 => by rw [List.replicate_succ, dotI, dotI_zero u k]; simp
theorem dotW_I (c : Int) : ∀ (a b : List Int) (n : Int), IntKind.i64.wrap (c + (a.zip b).foldl (fun n (x : Int × Int) => IntKind.i64.wrap (n + IntKind.i64.wrap (x.1 * x.2))) n) = IntKind.i64.wrap (c + (n + dotI a b))
  | [], b, n => by simp [dotI]
  | a :: u, [], n => by simp [dotI]
  | a :: u, b :: v, n => by
    simp only [List.zip_cons_cons, List.foldl_cons, dotI]
    rw [dotW_I c u v]
    have h1 := W_emod (n + IntKind.i64.wrap (a * b)); have h2 := W_emod (a * b)
    exact W_eq (by omega)
theorem W_dotW (c : Int) (a b : List Int) : IntKind.i64.wrap (c + dotW a b) = IntKind.i64.wrap (c + dotI a b) := by
  rw [dotW, dotW_I]; simp

/-- a run: from x, all of l -/
inductive Run {α : Type} (R : α → α → Prop) (Z : α → Prop) : α → List α → Prop
  | last {x : α} : Z x → Run R Z x []
  | more {x y : α} {l : List α} : R x y → Run R Z y l → Run R Z x (y :: l)

/-- y comes next behind x, among the first m loops -/
def Succ (dims : List Int) (m : Nat) (x y : List Int) : Prop :=
  ∃ q, q < m ∧ x.length = m ∧ y.length = m ∧ (∀ tl, nextFrom dims m (x ++ tl) = (y ++ tl, (q : Int), true)) ∧
    ∀ st w, st.length = dims.length → subW dims st (IntKind.i64.wrap (w + st.getD q 0)) (q + 1) m = IntKind.i64.wrap (w + (dotI (st.take m) y - dotI (st.take m) x))
/-- nothing comes behind x -/
def Last (dims : List Int) (m : Nat) (x : List Int) : Prop := x.length = m ∧ ∀ tl, (nextFrom dims m (x ++ tl)).2.2 = false

theorem getD_snoc {x : List Int} {m : Nat} (h : x.length = m) (v : Int) (tl : List Int) : (x ++ [v] ++ tl).getD m 0 = v := by
  subst h; simp
theorem set_snoc {x : List Int} {m : Nat} (h : x.length = m) (v u : Int) (tl : List Int) : (x ++ [v] ++ tl).set m u = x ++ [u] ++ tl := by
  subst h; simp

section
variable {dims : List Int} {m : Nat}
theorem succ_in (hm : m < dims.length) (h1 : 1 ≤ dims.getD m 0) (h2 : dims.getD m 0 ≤ 1000000) {x : List Int} {r : Int} (hx : x.length = m) (h0 : 0 ≤ r) (hr : r + 1 < dims.getD m 0) : Succ dims (m + 1) (x ++ [r]) (x ++ [r + 1]) := by
  refine ⟨m, Nat.lt_succ_self m, by simp [hx], by simp [hx], fun tl => ?_, fun st w hst => ?_⟩
  · rw [nextFrom, getD_snoc hx, wrap_i64 (by omega) (by omega), if_pos hr, set_snoc hx]
  · rw [subW_self]
    have hs : m < st.length := by omega
    have e : st.take (m + 1) = st.take m ++ [st.getD m 0] := by rw [List.take_succ_eq_append_getElem hs]; simp [hs]
    rw [e, dotI_snoc _ _ (by simp [hx]; omega), dotI_snoc _ _ (by simp [hx]; omega)]
    congr 1
    rw [Int.mul_add]; omega
theorem succ_carry (hm : m < dims.length) (h1 : 1 ≤ dims.getD m 0) (h2 : dims.getD m 0 ≤ 1000000) {x y : List Int} (h : Succ dims m x y) : Succ dims (m + 1) (x ++ [dims.getD m 0 - 1]) (y ++ [0]) := by
  obtain ⟨q, hq, hx, hy, hn, hs⟩ := h
  refine ⟨q, by omega, by simp [hx], by simp [hy], fun tl => ?_, fun st w hst => ?_⟩
  · rw [nextFrom, getD_snoc hx, wrap_i64 (by omega) (by omega), if_neg (by omega), set_snoc hx, List.append_assoc, hn, ← List.append_assoc]
  · rw [subW_succ (by omega), hs st w hst, wrap_i64 (n := dims.getD m 0 - 1) (by omega) (by omega)]
    have hsl : m < st.length := by omega
    have e : st.take (m + 1) = st.take m ++ [st.getD m 0] := by rw [List.take_succ_eq_append_getElem hsl]; simp [hsl]
    rw [e, dotI_snoc _ _ (by simp [hx]; omega), dotI_snoc _ _ (by simp [hy]; omega)]
    rw [Int.mul_comm (st.getD m 0) (dims.getD m 0 - 1)]
    generalize (dims.getD m 0 - 1) * st.getD m 0 = p
    have e1 := W_emod (w + (dotI (st.take m) y - dotI (st.take m) x)); have e2 := W_emod p
    exact W_eq (by simp only [Int.mul_zero]; omega)
theorem last_carry (h1 : 1 ≤ dims.getD m 0) (h2 : dims.getD m 0 ≤ 1000000) {x : List Int} (h : Last dims m x) : Last dims (m + 1) (x ++ [dims.getD m 0 - 1]) := by
  obtain ⟨hx, hn⟩ := h
  refine ⟨by simp [hx], fun tl => ?_⟩
  rw [nextFrom, getD_snoc hx, wrap_i64 (by omega) (by omega), if_neg (by omega), set_snoc hx, List.append_assoc]
  exact hn _
/-- the innermost loop, from r on -/
theorem runIn (hm : m < dims.length) (h1 : 1 ≤ dims.getD m 0) (h2 : dims.getD m 0 ≤ 1000000) {x : List Int} (hx : x.length = m) {l : List (List Int)} (hl : (l = [] ∧ Last dims m x) ∨ ∃ y l', l = (y ++ [0]) :: l' ∧ Succ dims m x y ∧ Run (Succ dims (m + 1)) (Last dims (m + 1)) (y ++ [0]) l') :
    ∀ (k : Nat) (r : Nat), (r : Int) + k + 1 = dims.getD m 0 → Run (Succ dims (m + 1)) (Last dims (m + 1)) (x ++ [(r : Int)]) (((List.range' (r + 1) k).map fun (n : Nat) => x ++ [(n : Int)]) ++ l)
  | 0, r, hr => by
    have e : (r : Int) = dims.getD m 0 - 1 := by omega
    rw [e]
    rcases hl with ⟨rfl, hl⟩ | ⟨y, l', rfl, hs, hr'⟩
    · exact .last (last_carry h1 h2 hl)
    · exact .more (succ_carry hm h1 h2 hs) hr'
  | k + 1, r, hr => by
    rw [List.range'_succ, List.map_cons, List.cons_append]
    exact .more (by have := succ_in hm h1 h2 hx (r := (r : Int)) (by omega) (by omega); rwa [show ((r : Int) + 1) = ((r + 1 : Nat) : Int) by omega] at this) (runIn hm h1 h2 hx hl k (r + 1) (by omega))
theorem run_step (hm : m < dims.length) (h1 : 1 ≤ dims.getD m 0) (h2 : dims.getD m 0 ≤ 1000000) {x : List Int} {l : List (List Int)} (h : Run (Succ dims m) (Last dims m) x l) : ∃ l', (extL (dims.getD m 0) x ++ l.flatMap (extL (dims.getD m 0))) = (x ++ [0]) :: l' ∧ Run (Succ dims (m + 1)) (Last dims (m + 1)) (x ++ [0]) l' := by
  have hd : ∃ k : Nat, ((0 : Nat) : Int) + k + 1 = dims.getD m 0 := ⟨(dims.getD m 0 - 1).toNat, by omega⟩
  obtain ⟨k, hk⟩ := hd
  have ex : ∀ x : List Int, extL (dims.getD m 0) x = (x ++ [0]) :: (List.range' 1 k).map fun (n : Nat) => x ++ [(n : Int)] := fun x => by
    rw [extL, show (dims.getD m 0).toNat = k + 1 by omega, List.range_eq_range', List.range'_succ, List.map_cons]; rfl
  induction h with
  | last hz =>
    rename_i x
    refine ⟨(List.range' 1 k).map fun (n : Nat) => x ++ [(n : Int)], by rw [ex]; simp, ?_⟩
    have := runIn hm h1 h2 hz.1 (Or.inl ⟨rfl, hz⟩) k 0 hk
    rw [List.append_nil] at this
    exact this
  | more hs hr ih =>
    obtain ⟨l', h3, h4⟩ := ih
    rename_i x y l
    have hxl : x.length = m := by obtain ⟨_, _, h, _⟩ := hs; exact h
    refine ⟨((List.range' 1 k).map fun (n : Nat) => x ++ [(n : Int)]) ++ (y ++ [0]) :: l', by rw [List.flatMap_cons, h3, ex]; simp, ?_⟩
    exact runIn hm h1 h2 hxl (Or.inr ⟨y, l', rfl, hs, h4⟩) k 0 hk
end
theorem run_all (dims : List Int) (h : ∀ d ∈ dims, 1 ≤ d ∧ d ≤ 1000000) : ∀ m, m ≤ dims.length → ∃ l, allL (dims.take m) = List.replicate m 0 :: l ∧ Run (Succ dims m) (Last dims m) (List.replicate m 0) l
  | 0, _ => ⟨[], rfl, .last ⟨rfl, fun tl => rfl⟩⟩
  | m + 1, hm => by
    obtain ⟨l, h1, h2⟩ := run_all dims h m (by omega)
    have hmem := h _ (List.getElem_mem (show m < dims.length by omega))
    have hg : dims.getD m 0 = dims[m] := by simp [show m < dims.length by omega]
    obtain ⟨l', h3, h4⟩ := run_step (by omega) (by rw [hg]; exact hmem.1) (by rw [hg]; exact hmem.2) h2
    rw [← List.replicate_succ'] at h3 h4
    exact ⟨l', by rw [← allL_succ (by omega), h1, List.flatMap_cons, ← hg, h3], h4⟩
end Go.Proofs.Try
