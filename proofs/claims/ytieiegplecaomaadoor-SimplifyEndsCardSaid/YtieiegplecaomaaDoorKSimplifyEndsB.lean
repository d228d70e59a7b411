/-
  Models of functions, their walks, and plain laws.
-/
import Derived.Test.YtieiegplecaomaaDoorKSimplifyEndsA
namespace Go.Proofs.Tryd
open Go Go.Pm
set_option linter.unusedVariables false
set_option linter.unusedSimpArgs false
set_option maxRecDepth 2000
theorem szT_f (t : T_api_Tree) : szT t = 1 + szTs t.kids := by cases t; rw [szT]
theorem numT_f (t : T_api_Tree) : numT t = t.nums.length + numTs t.kids := by cases t; rw [numT]
theorem depT_f (t : T_api_Tree) : depT t = depTs t.kids + 1 := by cases t; rw [depT]
theorem good_f {t : T_api_Tree} : good t ↔ formF t ∧ goods t.kids := by cases t; rw [good]
theorem namesOk_f {t : T_api_Tree} : namesOk t ↔ nmOk t.name.size ∧ namesOks t.kids := by cases t; rw [namesOk]
theorem kids1 {t : T_api_Tree} (h : t.kids.length = 1) : ∃ k, t.kids = [k] := by
  match e : t.kids, h with
  | [k], _ => exact ⟨k, rfl⟩
theorem kids2 {t : T_api_Tree} (h : t.kids.length = 2) : ∃ l k, t.kids = [l, k] := by
  match e : t.kids, h with
  | [l, k], _ => exact ⟨l, k, rfl⟩
theorem is_ok (t : T_api_Tree) (a b : Int) : m_simplify_is (t, a, b) = some (decide (t.kind = a) && decide (t.fn = b)) := by
  unfold m_simplify_is
  simp only []
  by_cases h : t.kind = a
  · simp only [h, if_true, decide_true, Bool.true_and]; congr 1
  · simp only [h, if_false, decide_false, Bool.false_and]
theorem monad_ok (t : T_api_Tree) (b : Int) : m_ref29_monad (t, b) = some (decide (t.kind = 3) && decide (t.fn = b)) := by
  unfold m_ref29_monad
  simp only []
  by_cases h : t.kind = 3
  · simp only [h, if_true, decide_true, Bool.true_and]; congr 1
  · simp only [h, if_false, decide_false, Bool.false_and]
/-- what is left of a size when a rule has been applied -/
structure less (u t : T_api_Tree) : Prop where
  sz : szT u < szT t
  num : numT u ≤ numT t
  dep : depT u ≤ depT t
  gd : good u
  nm : namesOk u
theorem idx0 {α : Type} {l : List α} {a : α} (h : l = [a]) : idx l 0 = some a := by subst h; rfl
theorem idx20 {α : Type} {l : List α} {a b : α} (h : l = [a, b]) : idx l 0 = some a := by subst h; rfl
theorem idx21 {α : Type} {l : List α} {a b : α} (h : l = [a, b]) : idx l 1 = some b := by subst h; rfl
theorem twice_no {t : T_api_Tree} {f : Int} (h : t.kind ≠ 3 ∨ t.fn ≠ f) : m_simplify_twice (t, f) = some (t, false) := by
  unfold m_simplify_twice
  have : (decide (t.kind = 3) && decide (t.fn = f)) = false := by
    rcases h with h | h
    · rw [decide_eq_false h]; rfl
    · rw [decide_eq_false h, Bool.and_false]
  simp only [is_ok, this, bind_ok, if_true]
theorem twice_ok {t k : T_api_Tree} {f : Int} (h3 : t.kind = 3) (hf : t.fn = f) (hk : t.kids = [k]) : m_simplify_twice (t, f) =
    if k.kind = 3 ∧ k.fn = f ∧ t.axis = k.axis then idx k.kids 0 >>= fun v => some (v, true) else some (t, false) := by
  unfold m_simplify_twice
  simp only [is_ok, h3, hf, idx0 hk, bind_ok, decide_true, Bool.and_self, Bool.true_eq_false, if_false]
  by_cases c1 : k.kind = 3 <;> by_cases c2 : k.fn = f <;> by_cases c3 : t.axis = k.axis <;> simp [c1, c2, c3]
theorem plain_no {t : T_api_Tree} {f : Int} {l : List Int} (h : t.kind ≠ 4 ∨ t.fn ≠ f) : m_simplify_plain (t, f, l) = some (t, false) := by
  unfold m_simplify_plain
  have : (decide (t.kind = 4) && decide (t.fn = f)) = false := by
    rcases h with h | h
    · rw [decide_eq_false h]; rfl
    · rw [decide_eq_false h, Bool.and_false]
  simp only [is_ok, this, bind_ok, if_true]
theorem plain_zero {t l k : T_api_Tree} {f : Int} (h4 : t.kind = 4) (hf : t.fn = f) (hk : t.kids = [l, k]) : m_simplify_plain (t, f, [0]) = some (if l.kind = 1 ∧ l.nums = [0] then (k, true) else (t, false)) := by
  unfold m_simplify_plain
  simp only [is_ok, h4, hf, idx20 hk, idx21 hk, bind_ok, decide_true, Bool.and_self, Bool.true_eq_false, if_false]
  by_cases c1 : l.kind = 1
  · match e : l.nums with
    | [n] =>
      have e1 : m_simplify_plain_L1 ([0], t, 1) = some (.inr ()) := by rw [m_simplify_plain_L1]; rfl
      have e0 : m_simplify_plain_L1 ([0], t, 0) = some (if n = 0 then .inr () else .inl ()) := by
        rw [m_simplify_plain_L1]
        have w : W (0 + 1) = 1 := by decide
        have i1 : idx ([0] : List Int) 0 = some 0 := rfl
        have i2 : idx ([n] : List Int) 0 = some n := rfl
        have h1 : (0 : Int) < (([0] : List Int).length : Int) := by decide
        simp only [h1, if_true, i1, idx20 hk, e, i2, bind_ok, w, e1]
        by_cases hn : n = 0 <;> simp [hn]
      simp only [c1, e, e0, bind_ok]
      by_cases hn : n = 0 <;> simp [hn]
    | [] => simp [c1]
    | a :: b :: r =>
      have : ¬ ((r.length : Int) + 1 + 1 = 1) := by omega
      simp [c1, this]
  · simp [c1]
theorem plain_nil {t l k : T_api_Tree} {f : Int} (h4 : t.kind = 4) (hf : t.fn = f) (hk : t.kids = [l, k]) : m_simplify_plain (t, f, []) = some (if l.kind = 1 ∧ l.nums = [] then (k, true) else (t, false)) := by
  unfold m_simplify_plain
  simp only [is_ok, h4, hf, idx20 hk, idx21 hk, bind_ok, decide_true, Bool.and_self, Bool.true_eq_false, if_false]
  have e0 : m_simplify_plain_L1 ([], t, 0) = some (.inr ()) := by rw [m_simplify_plain_L1]; rfl
  by_cases c1 : l.kind = 1
  · match e : l.nums with
    | [] => simp [c1, e0]
    | a :: r =>
      have : ¬ ((r.length : Int) + 1 = 0) := by omega
      simp [c1, this]
  · simp [c1]
mutual
def nf : T_api_Tree → Prop
  | ⟨k, f, a, nm, nu, ks⟩ => m_simplify_once ⟨k, f, a, nm, nu, ks⟩ = some (⟨k, f, a, nm, nu, ks⟩, 0) ∧ nfs ks
def nfs : List T_api_Tree → Prop
  | [] => True
  | k :: ks => nf k ∧ nfs ks
end
theorem nf_f {t : T_api_Tree} : nf t ↔ m_simplify_once t = some (t, 0) ∧ nfs t.kids := by cases t; rw [nf]
theorem goods1 {k : T_api_Tree} : goods [k] ↔ good k := by rw [goods, goods]; simp
theorem goods2 {l k : T_api_Tree} : goods [l, k] ↔ good l ∧ good k := by rw [goods, goods, goods]; simp
theorem nfs1 {k : T_api_Tree} : nfs [k] ↔ nf k := by rw [nfs, nfs]; simp
theorem nfs2 {l k : T_api_Tree} : nfs [l, k] ↔ nf l ∧ nf k := by rw [nfs, nfs, nfs]; simp
theorem nms1 {k : T_api_Tree} : namesOks [k] ↔ namesOk k := by rw [namesOks, namesOks]; simp
theorem nms2 {l k : T_api_Tree} : namesOks [l, k] ↔ namesOk l ∧ namesOk k := by rw [namesOks, namesOks, namesOks]; simp
theorem sz1 (k : T_api_Tree) : szTs [k] = szT k ∧ numTs [k] = numT k ∧ depTs [k] = depT k := by simp [szTs, numTs, depTs]
theorem sz2 (l k : T_api_Tree) : szTs [l, k] = szT l + szT k ∧ numTs [l, k] = numT l + numT k ∧ depTs [l, k] = max (depT l) (depT k) := by simp [szTs, numTs, depTs]
theorem empty_size : ByteArray.empty.size = 0 := rfl
/-- one step: the program's rule and the reference's -/
def stepT (t u : T_api_Tree) (n : Int) : Prop :=
  m_simplify_once t = some (u, n) ∧ m_ref29_Rule t = some (u, n) ∧ 0 ≤ n ∧ (n = 0 → u = t) ∧ (n ≠ 0 → less u t) ∧ (nfs t.kids → nfs u.kids)
theorem step_low {t : T_api_Tree} (h : t.kind < 3) : stepT t t 0 := by
  have k3 : t.kind ≠ 3 := by omega
  have k4 : t.kind ≠ 4 := by omega
  refine ⟨?_, ?_, by omega, fun _ => rfl, fun h => absurd rfl h, fun h => h⟩
  · unfold m_simplify_once m_simplify_reversed m_simplify_transposed m_simplify_raveled m_simplify_reshaped m_simplify_rotated m_simplify_dropped
    simp only [twice_no (Or.inl k3), plain_no (Or.inl k4), bind_ok, is_ok, decide_eq_false k4, Bool.false_and, if_true, if_false, Bool.false_eq_true]
  · unfold m_ref29_Rule
    simp only [h, if_true]
theorem less_kid1 {t k : T_api_Tree} (hk : t.kids = [k]) (hg : good t) (hn : namesOk t) : less k t := by
  have a := szT_f t; have b := numT_f t; have c := depT_f t
  rw [hk] at a b c
  obtain ⟨s1, s2, s3⟩ := sz1 k
  have hg2 := (good_f.1 hg).2; rw [hk] at hg2
  have hn2 := (namesOk_f.1 hn).2; rw [hk] at hn2
  exact ⟨by omega, by omega, by omega, goods1.1 hg2, nms1.1 hn2⟩
theorem less_kid2 {t l k : T_api_Tree} (hk : t.kids = [l, k]) (hg : good t) (hn : namesOk t) : less k t := by
  have a := szT_f t; have b := numT_f t; have c := depT_f t
  rw [hk] at a b c
  obtain ⟨s1, s2, s3⟩ := sz2 l k
  have hg2 := (good_f.1 hg).2; rw [hk] at hg2
  have hn2 := (namesOk_f.1 hn).2; rw [hk] at hn2
  exact ⟨by omega, by omega, by omega, (goods2.1 hg2).2, (nms2.1 hn2).2⟩
theorem less.trans {a b c : T_api_Tree} (h : less a b) (h2 : less b c) : less a c :=
  ⟨Nat.lt_trans h.sz h2.sz, Nat.le_trans h.num h2.num, Nat.le_trans h.dep h2.dep, h.gd, h.nm⟩
theorem form_monad {t : T_api_Tree} (hg : good t) (h : t.kind = 3) : ∃ k, t.kids = [k] ∧ t.name = ByteArray.empty ∧ t.nums = [] ∧ ((t.fn = 3 ∧ (t.axis = -1 ∨ axF t.axis)) ∨ ((t.fn = 4 ∨ t.fn = 6) ∧ t.axis = -1)) := by
  rcases (good_f.1 hg).1 with c | c | c | c
  · omega
  · omega
  · obtain ⟨k, e⟩ := kids1 c.2.2.2.1
    exact ⟨k, e, c.2.1, List.length_eq_zero_iff.1 c.2.2.1, c.2.2.2.2⟩
  · omega
theorem form_dyad {t : T_api_Tree} (hg : good t) (h : t.kind = 4) : ∃ l k, t.kids = [l, k] ∧ t.name = ByteArray.empty ∧ t.nums = [] ∧ 1 ≤ t.fn ∧ t.fn ≤ 6 ∧ (t.axis = -1 ∨ (axF t.axis ∧ (t.fn = 3 ∨ t.fn = 6))) ∧ (t.fn = 6 ∨ l.kind = 1 ∨ l.kind = 2) := by
  rcases (good_f.1 hg).1 with c | c | c | c
  · omega
  · omega
  · omega
  · obtain ⟨l, k, e⟩ := kids2 c.2.2.2.1
    have q := c.2.2.2.2
    rw [e] at q
    exact ⟨l, k, e, c.2.1, List.length_eq_zero_iff.1 c.2.2.1, q⟩
theorem step_monad {t : T_api_Tree} (hg : good t) (hn : namesOk t) (h3 : t.kind = 3) : ∃ u n, stepT t u n := by
  obtain ⟨k, hk, hnm, hnu, hf⟩ := form_monad hg h3
  have hgk : good k := (less_kid1 hk hg hn).gd
  have hlk := less_kid1 hk hg hn
  have k4 : t.kind ≠ 4 := by omega
  have d4 : (decide (t.kind = 4)) = false := decide_eq_false k4
  have n3 : ¬ t.kind < 3 := by omega
  have hW : W ((t.kids.length : Int) - 1) = 0 := by
    rw [hk, show (([k] : List T_api_Tree).length : Int) - 1 = 0 by simp]; decide
  by_cases hc : k.kind = 3 ∧ k.fn = t.fn ∧ t.axis = k.axis
  · obtain ⟨c1, c2, c3⟩ := hc
    obtain ⟨k0, hk0, _, _, hf0⟩ := form_monad hgk c1
    have hl0 := (less_kid1 hk0 hgk hlk.nm)
    by_cases f3 : t.fn = 3
    · refine ⟨k0, 1, ?_, ?_, by omega, fun h => (by cases h), fun _ => hl0.trans hlk, fun h => ?_⟩
      · unfold m_simplify_once m_simplify_reversed
        simp [twice_ok h3 f3 hk, c1, c2, c3, f3, idx0 hk0, bind_ok]
      · unfold m_ref29_Rule
        simp [n3, hW, idx0 hk, h3, f3, monad_ok, c1, c2, c3, idx0 hk0]
      · rw [hk] at h
        have h2 := (nf_f.1 (nfs1.1 h)).2
        rw [hk0] at h2
        exact (nf_f.1 (nfs1.1 h2)).2
    · by_cases f4 : t.fn = 4
      · refine ⟨k0, 2, ?_, ?_, by omega, fun h => (by cases h), fun _ => hl0.trans hlk, fun h => ?_⟩
        · unfold m_simplify_once m_simplify_reversed m_simplify_transposed
          simp [twice_no (f := 3) (Or.inr f3), twice_ok h3 f4 hk, c1, c2, c3, f4, idx0 hk0, bind_ok]
        · unfold m_ref29_Rule
          simp [n3, hW, idx0 hk, h3, f4, monad_ok, c1, c2, idx0 hk0]
        · rw [hk] at h
          have h2 := (nf_f.1 (nfs1.1 h)).2
          rw [hk0] at h2
          exact (nf_f.1 (nfs1.1 h2)).2
      · have f6 : t.fn = 6 := by omega
        refine ⟨k, 3, ?_, ?_, by omega, fun h => (by cases h), fun _ => hlk, fun h => ?_⟩
        · unfold m_simplify_once m_simplify_reversed m_simplify_transposed m_simplify_raveled
          simp [twice_no (f := 3) (Or.inr f3), twice_no (f := 4) (Or.inr f4), twice_ok h3 f6 hk, c1, c2, c3, f6, idx0 hk0, idx0 hk, bind_ok]
        · unfold m_ref29_Rule
          simp [n3, hW, idx0 hk, h3, f6, monad_ok, c1, c2]
        · rw [hk] at h
          exact (nf_f.1 (nfs1.1 h)).2
  · refine ⟨t, 0, ?_, ?_, by omega, fun _ => rfl, fun h => absurd rfl h, fun h => h⟩
    · have e3 : m_simplify_twice (t, 3) = some (t, false) := by
        by_cases f : t.fn = 3
        · rw [twice_ok h3 f hk, if_neg (fun h => hc ⟨h.1, by omega, h.2.2⟩)]
        · exact twice_no (Or.inr f)
      have e4 : m_simplify_twice (t, 4) = some (t, false) := by
        by_cases f : t.fn = 4
        · rw [twice_ok h3 f hk, if_neg (fun h => hc ⟨h.1, by omega, h.2.2⟩)]
        · exact twice_no (Or.inr f)
      have e6 : m_simplify_twice (t, 6) = some (t, false) := by
        by_cases f : t.fn = 6
        · rw [twice_ok h3 f hk, if_neg (fun h => hc ⟨h.1, by omega, h.2.2⟩)]
        · exact twice_no (Or.inr f)
      unfold m_simplify_once m_simplify_reversed m_simplify_transposed m_simplify_raveled m_simplify_reshaped m_simplify_rotated m_simplify_dropped
      simp only [e3, e4, e6, plain_no (Or.inl k4), bind_ok, is_ok, d4, Bool.false_and, if_true, if_false, Bool.false_eq_true]
    · have q : k.kind = 3 → k.fn = t.fn → t.axis ≠ k.axis := fun a b c => hc ⟨a, b, c⟩
      have q4 : t.fn ≠ 3 → ¬ (k.kind = 3 ∧ k.fn = t.fn) := fun hn3 ⟨a, b⟩ => by
        obtain ⟨_, _, _, _, hf0⟩ := form_monad hgk a
        exact q a b (by omega)
      unfold m_ref29_Rule
      by_cases f3 : t.fn = 3
      · by_cases c1 : k.kind = 3 <;> by_cases c2 : k.fn = 3
        · have c3 : ¬ (k.axis = t.axis) := fun e => q c1 (by omega) e.symm
          simp [n3, hW, idx0 hk, h3, f3, monad_ok, c1, c2, c3]
        · simp [n3, hW, idx0 hk, h3, f3, monad_ok, c1, c2]
        · simp [n3, hW, idx0 hk, h3, f3, monad_ok, c1, c2]
        · simp [n3, hW, idx0 hk, h3, f3, monad_ok, c1, c2]
      · have q5 := q4 f3
        by_cases f4 : t.fn = 4
        · rw [f4] at q5
          simp [n3, hW, idx0 hk, h3, f4, monad_ok]
          exact fun a b => absurd ⟨a, b⟩ q5
        · have f6 : t.fn = 6 := by omega
          rw [f6] at q5
          simp [n3, hW, idx0 hk, h3, f6, monad_ok]
          exact fun a b => absurd ⟨a, b⟩ q5
theorem reshaped_no {t : T_api_Tree} (h : t.fn ≠ 5) : m_simplify_reshaped t = some (t, false) := by
  unfold m_simplify_reshaped
  simp only [is_ok, decide_eq_false h, Bool.and_false, bind_ok, if_true]
theorem step_dyad {t : T_api_Tree} (hg : good t) (hn : namesOk t) (h4 : t.kind = 4) : ∃ u n, stepT t u n := by
  obtain ⟨l, k, hk, hnm, hnu, hf1, hf6, hax, hfl⟩ := form_dyad hg h4
  have hlk := less_kid2 hk hg hn
  have hgk : good k := hlk.gd
  have k3 : t.kind ≠ 3 := by omega
  have n3 : ¬ t.kind < 3 := by omega
  have hW : W ((t.kids.length : Int) - 1) = 1 := by
    rw [hk, show (([l, k] : List T_api_Tree).length : Int) - 1 = 1 by simp]; decide
  have hnfk : nfs t.kids → nfs k.kids := fun h => by
    rw [hk] at h
    exact (nf_f.1 (nfs2.1 h).2).2
  by_cases f5 : t.fn = 5
  · by_cases hc : k.kind = 3 ∧ k.fn = 6
    · obtain ⟨c1, c2⟩ := hc
      obtain ⟨k0, hk0, _, _, hf0⟩ := form_monad hgk c1
      have hl0 := (less_kid1 hk0 hgk hlk.nm)
      refine ⟨⟨4, 5, t.axis, ByteArray.empty, [], [l, k0]⟩, 4, ?_, ?_, by omega, fun h => (by cases h), fun _ => ?_, fun h => ?_⟩
      · unfold m_simplify_once m_simplify_reversed m_simplify_transposed m_simplify_raveled m_simplify_reshaped
        simp [twice_no (f := 3) (Or.inl k3), twice_no (f := 4) (Or.inl k3), twice_no (f := 6) (Or.inl k3), is_ok, h4, f5, idx20 hk, idx21 hk, idx0 hk0, c1, c2, etaT, hnm, hnu]
      · unfold m_ref29_Rule
        simp [n3, hW, idx20 hk, idx21 hk, idx0 hk0, h4, f5, monad_ok, c1, c2, etaT]
      · have a := szT_f t; have b := numT_f t; have c := depT_f t
        rw [hk] at a b c
        obtain ⟨s1, s2, s3⟩ := sz2 l k
        obtain ⟨s4, s5, s6⟩ := sz2 l k0
        have := hl0.sz; have := hl0.num; have := hl0.dep
        have hg2 := (good_f.1 hg).2; rw [hk] at hg2
        have hn2 := (namesOk_f.1 hn).2; rw [hk] at hn2
        refine ⟨by rw [szT]; omega, by rw [numT]; simp only [List.length_nil]; omega, by rw [depT]; omega, ?_, ?_⟩
        · rw [good]
          refine ⟨Or.inr (Or.inr (Or.inr ⟨rfl, rfl, rfl, rfl, (show (1 : Int) ≤ 5 by omega), (show (5 : Int) ≤ 6 by omega), ?_, ?_⟩)), goods2.2 ⟨(goods2.1 hg2).1, hl0.gd⟩⟩
          · rcases hax with h | h
            · exact Or.inl h
            · omega
          · rcases hfl with h | h
            · omega
            · exact Or.inr h
        · rw [namesOk]
          exact ⟨by unfold nmOk; rw [empty_size]; omega, nms2.2 ⟨(nms2.1 hn2).1, hl0.nm⟩⟩
      · have h2 := hnfk h
        rw [hk] at h
        rw [hk0] at h2
        exact nfs2.2 ⟨(nfs2.1 h).1, nfs1.1 h2⟩
    · refine ⟨t, 0, ?_, ?_, by omega, fun _ => rfl, fun h => absurd rfl h, fun h => h⟩
      · have e : m_simplify_reshaped t = some (t, false) := by
          unfold m_simplify_reshaped
          have q : (decide (k.kind = 3) && decide (k.fn = 6)) = false := by
            by_cases c1 : k.kind = 3
            · rw [decide_eq_false (fun c2 => hc ⟨c1, c2⟩), Bool.and_false]
            · rw [decide_eq_false c1, Bool.false_and]
          simp only [is_ok, h4, f5, idx21 hk, decide_true, Bool.and_self, Bool.true_eq_false, if_false, bind_ok, q, Bool.not_false, if_true]
        unfold m_simplify_once m_simplify_reversed m_simplify_transposed m_simplify_raveled m_simplify_rotated m_simplify_dropped
        simp only [twice_no (Or.inl k3), plain_no (t := t) (f := 3) (l := [0]) (Or.inr (by omega)), plain_no (t := t) (f := 2) (l := []) (Or.inr (by omega)), e, bind_ok, if_true, if_false, Bool.false_eq_true]
      · unfold m_ref29_Rule
        by_cases c1 : k.kind = 3
        · have c2 : k.fn ≠ 6 := fun c2 => hc ⟨c1, c2⟩
          simp [n3, hW, idx20 hk, idx21 hk, h4, f5, monad_ok, c1, c2]
        · simp [n3, hW, idx20 hk, idx21 hk, h4, f5, monad_ok, c1]
  · by_cases f3 : t.fn = 3
    · have e0 : m_simplify_plain (t, 2, []) = some (t, false) := plain_no (Or.inr (by omega))
      by_cases hc : l.kind = 1 ∧ l.nums = [0]
      · refine ⟨k, 5, ?_, ?_, by omega, fun h => (by cases h), fun _ => hlk, hnfk⟩
        · unfold m_simplify_once m_simplify_reversed m_simplify_transposed m_simplify_raveled m_simplify_rotated
          simp only [twice_no (Or.inl k3), plain_zero h4 f3 hk, reshaped_no f5, if_pos hc, bind_ok, if_true, if_false, Bool.false_eq_true]
        · unfold m_ref29_Rule
          have i : idx ([0] : List Int) 0 = some 0 := rfl
          simp [n3, hW, idx20 hk, idx21 hk, h4, f3, hc.1, hc.2, i]
      · refine ⟨t, 0, ?_, ?_, by omega, fun _ => rfl, fun h => absurd rfl h, fun h => h⟩
        · unfold m_simplify_once m_simplify_reversed m_simplify_transposed m_simplify_raveled m_simplify_rotated m_simplify_dropped
          simp only [twice_no (Or.inl k3), plain_zero h4 f3 hk, e0, reshaped_no f5, if_neg hc, bind_ok, if_true, if_false, Bool.false_eq_true]
        · unfold m_ref29_Rule
          by_cases c1 : l.kind = 1
          · match e : l.nums with
            | [] => simp [n3, hW, idx20 hk, idx21 hk, h4, f3, c1, e]
            | [x] =>
              have i : idx [x] 0 = some x := rfl
              have hx : x ≠ 0 := fun hx => hc ⟨c1, by rw [e, hx]⟩
              simp [n3, hW, idx20 hk, idx21 hk, h4, f3, c1, e, i, hx]
            | x :: y :: r =>
              have : ¬ ((r.length : Int) + 1 + 1 = 1) := by omega
              simp [n3, hW, idx20 hk, idx21 hk, h4, f3, c1, e, this]
          · simp [n3, hW, idx20 hk, idx21 hk, h4, f3, c1]
    · have e3 : m_simplify_plain (t, 3, [0]) = some (t, false) := plain_no (Or.inr f3)
      by_cases hc : t.fn = 2 ∧ l.kind = 1 ∧ l.nums = []
      · refine ⟨k, 6, ?_, ?_, by omega, fun h => (by cases h), fun _ => hlk, hnfk⟩
        · unfold m_simplify_once m_simplify_reversed m_simplify_transposed m_simplify_raveled m_simplify_rotated m_simplify_dropped
          simp only [twice_no (Or.inl k3), plain_nil h4 hc.1 hk, e3, reshaped_no f5, if_pos hc.2, bind_ok, if_true, if_false, Bool.false_eq_true]
        · unfold m_ref29_Rule
          simp [n3, hW, idx20 hk, idx21 hk, h4, hc.1, hc.2.1, hc.2.2]
      · refine ⟨t, 0, ?_, ?_, by omega, fun _ => rfl, fun h => absurd rfl h, fun h => h⟩
        · have e2 : m_simplify_plain (t, 2, []) = some (t, false) := by
            by_cases f2 : t.fn = 2
            · rw [plain_nil h4 f2 hk, if_neg (fun h => hc ⟨f2, h⟩)]
            · exact plain_no (Or.inr f2)
          unfold m_simplify_once m_simplify_reversed m_simplify_transposed m_simplify_raveled m_simplify_rotated m_simplify_dropped
          simp only [twice_no (Or.inl k3), e2, e3, reshaped_no f5, bind_ok, if_true, if_false, Bool.false_eq_true]
        · unfold m_ref29_Rule
          by_cases f2 : t.fn = 2
          · by_cases c1 : l.kind = 1
            · match e : l.nums with
              | [] => exact absurd ⟨f2, c1, e⟩ hc
              | x :: r =>
                have : ¬ ((r.length : Int) + 1 = 0) := by omega
                simp [n3, hW, idx20 hk, idx21 hk, h4, f2, c1, e, this]
            · simp [n3, hW, idx20 hk, idx21 hk, h4, f2, c1]
          · simp [n3, hW, idx20 hk, idx21 hk, h4, f2, f3, f5]
theorem step_ok {t : T_api_Tree} (hg : good t) (hn : namesOk t) : ∃ u n, stepT t u n := by
  by_cases h : t.kind < 3
  · exact ⟨t, 0, step_low h⟩
  · by_cases h3 : t.kind = 3
    · exact step_monad hg hn h3
    · refine step_dyad hg hn ?_
      rcases (good_f.1 hg).1 with c | c | c | c <;> omega
end Go.Proofs.Tryd
namespace Go.Proofs.Tryd
open Go Go.Pm
set_option linter.unusedVariables false
set_option linter.unusedSimpArgs false
set_option maxRecDepth 2000
theorem room_app {α : Type} {b : Nat} {l es : List α} (h : l.length + es.length ≤ 1000000) (hb : b ≤ 1000) : app b l es = some (l ++ es) := app_ok (by
  have h1 : (l.length + es.length) * b ≤ 1000000 * 1000 := Nat.mul_le_mul h hb
  have h2 : 1000000 * 1000 ≤ room := by decide +kernel
  omega)
mutual
theorem copy_ok : ∀ (t : T_api_Tree), szT t ≤ 600 → numT t ≤ 100000 → m_tree_Copy t = some t
  | ⟨k, f, a, nm, nu, ks⟩, h, h2 => by
    rw [szT] at h
    rw [numT] at h2
    have hl := szTs_len ks
    have e := copy_loop ks [] k f a nm nu nu (by simp; omega) (by omega) (by omega)
    simp only [List.nil_append, List.length_nil, Int.natCast_zero] at e
    rw [m_tree_Copy]
    have ec : m_slices_Clone_int64_int64 nu = some nu := by rw [m_slices_Clone_int64_int64, room_app (by simp; omega) (by omega)]; rfl
    simp only [ec, e, bind_ok]
theorem copy_loop : ∀ (s p : List T_api_Tree) (k f a : Int) (nm : ByteArray) (nu v : List Int), (p ++ s).length ≤ 600 → szTs s ≤ 600 → numTs s ≤ 100000 →
    m_tree_Copy_L1 (⟨k, f, a, nm, nu, p ++ s⟩, v, p, (p.length : Int)) = some (p ++ s)
  | [], p, k, f, a, nm, nu, v, h1, h2, h3 => by
    rw [m_tree_Copy_L1]
    simp only [List.append_nil, Int.lt_irrefl, if_false]
  | x :: s, p, k, f, a, nm, nu, v, h1, h2, h3 => by
    rw [m_tree_Copy_L1]
    rw [szTs] at h2
    rw [numTs] at h3
    have e := copy_ok x (by omega) (by omega)
    have e' := copy_loop s (p ++ [x]) k f a nm nu v (by simpa using h1) (by omega) (by omega)
    rw [← mid_app] at e'
    have w : W ((p.length : Int) + 1) = ((p ++ [x]).length : Int) := mid_W (Sm_of h1)
    have ea : app 88 p [x] = some (p ++ [x]) := room_app (by simp at h1 ⊢; omega) (by omega)
    simp only [mid_lt, if_true, mid_idx, bind_ok, e, ea, w, e']
end
theorem same_L1 (t : T_api_Tree) (hs : t.nums.length ≤ 1000000) : ∀ m i : Nat, i + m = t.nums.length → m_ref08_Same_L1 (t, t, (i : Int)) = some (.inr ())
  | 0, i, h => by
    rw [m_ref08_Same_L1]
    have : ¬ ((i : Int) < (t.nums.length : Int)) := by omega
    simp only [this, if_false]
  | m + 1, i, h => by
    rw [m_ref08_Same_L1]
    have h1 : ((i : Int) < (t.nums.length : Int)) := by omega
    have e := same_L1 t hs m (i + 1) (by omega)
    have w : W ((i : Int) + 1) = ((i + 1 : Nat) : Int) := W_succ (by omega)
    have hi : idx t.nums (i : Int) = some t.nums[i] := idx_ok (by omega)
    simp only [h1, if_true, hi, bind_ok, ne_eq, not_true_eq_false, if_false, w, e]
mutual
theorem same_self : ∀ (t : T_api_Tree), szT t ≤ 600 → numT t ≤ 100000 → m_ref08_Same (t, t) = some true
  | ⟨k, f, a, nm, nu, ks⟩, h, h2 => by
    rw [szT] at h
    rw [numT] at h2
    have hl := szTs_len ks
    have e := same_loop ks [] k f a nm nu (by simp; omega) (by omega) (by omega)
    simp only [List.nil_append, List.length_nil, Int.natCast_zero] at e
    have e1 := same_L1 ⟨k, f, a, nm, nu, ks⟩ (by show nu.length ≤ _; omega) nu.length 0 (by show 0 + nu.length = nu.length; omega)
    simp only [Int.natCast_zero] at e1
    rw [m_ref08_Same]
    simp [e1, e]
theorem same_loop : ∀ (s p : List T_api_Tree) (k f a : Int) (nm : ByteArray) (nu : List Int), (p ++ s).length ≤ 600 → szTs s ≤ 600 → numTs s ≤ 100000 →
    m_ref08_Same_L2 (⟨k, f, a, nm, nu, p ++ s⟩, ⟨k, f, a, nm, nu, p ++ s⟩, (p.length : Int)) = some (.inr ())
  | [], p, k, f, a, nm, nu, h1, h2, h3 => by
    rw [m_ref08_Same_L2]
    simp only [end_lt, if_false]
  | x :: s, p, k, f, a, nm, nu, h1, h2, h3 => by
    rw [m_ref08_Same_L2]
    rw [szTs] at h2
    rw [numTs] at h3
    have e := same_self x (by omega) (by omega)
    have e' := same_loop s (p ++ [x]) k f a nm nu (by simpa using h1) (by omega) (by omega)
    rw [← mid_app] at e'
    have w : W ((p.length : Int) + 1) = ((p ++ [x]).length : Int) := mid_W (Sm_of h1)
    simp only [mid_lt, if_true, mid_idx, bind_ok, e, w, e', Bool.true_eq_false, if_false]
end
/-- what repeated steps come to -/
structure fin (u s : T_api_Tree) (c c' : Nat) : Prop where
  gd : good s
  nm : namesOk s
  nf : nf s
  sz : szT s + c' ≤ szT u + c
  num : numT s ≤ numT u
  dep : depT s ≤ depT u
  still : m_simplify_once u = some (u, 0) → s = u ∧ c' = c
theorem rounds : ∀ (m : Nat) (u : T_api_Tree) (c : Nat), szT u ≤ m → good u → namesOk u → nfs u.kids → c + szT u ≤ 1000000 → ∃ s c', fin u s c c' ∧
    (∀ ks, m_simplify_simplified_L2 (ks, u.kind, u.fn, u.axis, u.name, u.nums, u.kids, (c : Int)) = some (s.kind, s.fn, s.axis, s.name, s.nums, s.kids, s.kind, s.fn, s.axis, s.name, s.nums, s.kids, (c' : Int))) ∧
    (∀ t ks u1 n1, m_ref29_Rule u = some (u1, n1) → m_ref29_Simplify_L2 (t, ks, u.kind, u.fn, u.axis, u.name, u.nums, u.kids, u1.kind, u1.fn, u1.axis, u1.name, u1.nums, u1.kids, (c : Int), n1) = some (s.kind, s.fn, s.axis, s.name, s.nums, s.kids, s.kind, s.fn, s.axis, s.name, s.nums, s.kids, (c' : Int)))
  | 0, u, c, h, _, _, _, _ => by have := szT_pos u; omega
  | m + 1, u, c, h, hg, hn, hk, hc => by
    obtain ⟨v, n, e1, e2, n0, hz, hl, hf⟩ := step_ok hg hn
    by_cases hn0 : n = 0
    · subst hn0
      obtain rfl := hz rfl
      refine ⟨v, c, ⟨hg, hn, nf_f.2 ⟨e1, hk⟩, Nat.le_refl _, Nat.le_refl _, Nat.le_refl _, fun _ => ⟨rfl, rfl⟩⟩, fun ks => ?_, fun t ks u1 n1 hr => ?_⟩
      · rw [m_simplify_simplified_L2]
        simp only [etaT, e1, bind_ok, if_true]
      · rw [e2] at hr
        cases hr
        rw [m_ref29_Simplify_L2]
        simp only [Int.lt_irrefl, gt_iff_lt, if_false]
    · have hl' := hl hn0
      have hlt := hl'.sz
      obtain ⟨s, c', hfin, g1, g2⟩ := rounds m v (c + 1) (by omega) hl'.gd hl'.nm (hf hk) (by omega)
      have w : W ((c : Int) + 1) = ((c + 1 : Nat) : Int) := W_succ (by omega)
      refine ⟨s, c', ⟨hfin.gd, hfin.nm, hfin.nf, by have := hfin.sz; omega, Nat.le_trans hfin.num hl'.num, Nat.le_trans hfin.dep hl'.dep, fun q => ?_⟩, fun ks => ?_, fun t ks u1 n1 hr => ?_⟩
      · rw [e1] at q
        cases q
        exact absurd rfl hn0
      · rw [m_simplify_simplified_L2]
        simp only [etaT, e1, bind_ok, hn0, if_false, w, g1]
      · rw [e2] at hr
        cases hr
        obtain ⟨v2, n2, e3, e4, _⟩ := step_ok hl'.gd hl'.nm
        have hpos : n > 0 := by omega
        rw [m_ref29_Simplify_L2]
        simp only [hpos, if_true, etaT, e4, bind_ok, w, g2 t ks v2 n2 e4]
/-- what simplifying comes to -/
structure simpR (t s : T_api_Tree) (c : Nat) : Prop where
  e1 : m_simplify_simplified t = some (s, (c : Int))
  e2 : m_ref29_Simplify t = some (s, (c : Int))
  gd : good s
  nm : namesOk s
  nrm : nf s
  sz : szT s + c ≤ szT t
  num : numT s ≤ numT t
  dep : depT s ≤ depT t
  low : t.kind < 3 → s = t
  still : nf t → s = t ∧ c = 0
theorem simp_of {t : T_api_Tree} {ks : List T_api_Tree} {c : Nat} (hg : good ⟨t.kind, t.fn, t.axis, t.name, t.nums, ks⟩) (hn : namesOk ⟨t.kind, t.fn, t.axis, t.name, t.nums, ks⟩) (hk : nfs ks)
    (hsz : szTs ks + c ≤ szTs t.kids) (hnum : numTs ks ≤ numTs t.kids) (hdep : depTs ks ≤ depTs t.kids) (hs : szT t ≤ 600)
    (l1 : m_simplify_simplified_L1 (t, 0, [], 0) = some ((c : Int), ks)) (l2 : m_ref29_Simplify_L1 (t, [], 0, 0) = some (ks, (c : Int)))
    (hlow : t.kind < 3 → ks = t.kids) (hst : nfs t.kids → ks = t.kids ∧ c = 0) : ∃ s c, simpR t s c := by
  have a1 : szT ⟨t.kind, t.fn, t.axis, t.name, t.nums, ks⟩ = 1 + szTs ks := by rw [szT]
  have a2 : numT ⟨t.kind, t.fn, t.axis, t.name, t.nums, ks⟩ = t.nums.length + numTs ks := by rw [numT]
  have a3 : depT ⟨t.kind, t.fn, t.axis, t.name, t.nums, ks⟩ = depTs ks + 1 := by rw [depT]
  have b1 := szT_f t; have b2 := numT_f t; have b3 := depT_f t
  obtain ⟨s, c', hf, g1, g2⟩ := rounds (szT ⟨t.kind, t.fn, t.axis, t.name, t.nums, ks⟩) _ c (Nat.le_refl _) hg hn hk (by omega)
  obtain ⟨u1, n1, _, e2, _⟩ := step_ok hg hn
  have := hf.sz
  have := hf.num
  have := hf.dep
  refine ⟨s, c', ?_, ?_, hf.gd, hf.nm, hf.nf, by omega, by omega, by omega, fun h => ?_, fun h => ?_⟩
  · rw [m_simplify_simplified]
    simp only [l1, bind_ok, g1, etaT]
  · rw [m_ref29_Simplify]
    simp only [l2, bind_ok, e2, g2 t ks u1 n1 e2, etaT]
  · have hk' := hlow h
    subst hk'
    rw [etaT] at hf
    exact (hf.still (step_low h).1).1
  · obtain ⟨h1, h2⟩ := nf_f.1 h
    obtain ⟨rfl, rfl⟩ := hst h2
    rw [etaT] at hf
    exact hf.still h1
theorem W_add {a b : Nat} (h : a + b ≤ 1000000) : W ((a : Int) + (b : Int)) = ((a + b : Nat) : Int) := by rw [W_ok (by omega) (by omega)]; omega
theorem simp_ok : ∀ (m : Nat) (t : T_api_Tree), szT t ≤ m → m ≤ 600 → good t → namesOk t → ∃ s c, simpR t s c
  | 0, t, h, _, _, _ => by have := szT_pos t; omega
  | m + 1, t, h, hm, hg, hn => by
    obtain ⟨hF, hG⟩ := good_f.1 hg
    obtain ⟨hN, hN2⟩ := namesOk_f.1 hn
    have hz := szT_f t
    have b2 := numT_f t; have b3 := depT_f t
    match ek : t.kids with
    | [] =>
      have et : (⟨t.kind, t.fn, t.axis, t.name, t.nums, []⟩ : T_api_Tree) = t := by rw [← ek]; exact etaT t
      refine simp_of (ks := []) (c := 0) (by rw [et]; exact hg) (by rw [et]; exact hn) (by rw [nfs]; trivial) (by rw [ek]; omega) (by rw [ek]; omega) (by rw [ek]; omega) (by omega) ?_ ?_ (fun _ => ek.symm) (fun _ => ⟨ek.symm, rfl⟩)
      · rw [m_simplify_simplified_L1]
        simp [ek]
      · rw [m_ref29_Simplify_L1]
        simp [ek]
    | [k] =>
      rw [ek] at hG hN2 hz b2 b3
      obtain ⟨s1, s2, s3⟩ := sz1 k
      obtain ⟨s, c, r⟩ := simp_ok m k (by omega) (by omega) (goods1.1 hG) (nms1.1 hN2)
      obtain ⟨q1, q2, q3⟩ := sz1 s
      have := r.sz; have := r.num; have := r.dep
      have w1 : W (0 + (c : Int)) = (c : Int) := by rw [W_ok (by omega) (by omega)]; omega
      have w2 : W (0 + 1) = 1 := by decide
      have ea : app 88 ([] : List T_api_Tree) [s] = some [s] := room_app (by simp) (by omega)
      refine simp_of (ks := [s]) (c := c) ?_ ?_ (nfs1.2 r.nrm) (by rw [ek]; omega) (by rw [ek]; omega) (by rw [ek]; omega) (by omega) ?_ ?_ (fun h => ?_) (fun h => ?_)
      · rw [good]
        refine ⟨?_, goods1.2 r.gd⟩
        unfold formF at hF ⊢
        rw [ek] at hF
        rcases hF with f | f | f | f
        · exact absurd f.2.2.2.2 (by simp)
        · exact absurd f.2.2.2.2.2 (by simp)
        · exact Or.inr (Or.inr (Or.inl f))
        · exact absurd f.2.2.2.1 (by simp)
      · rw [namesOk]
        exact ⟨hN, nms1.2 r.nm⟩
      · rw [m_simplify_simplified_L1]
        simp only [ek, show (0 : Int) < (([k] : List T_api_Tree).length : Int) by simp, if_true, idx0 rfl, bind_ok, r.e1, ea, w1, w2]
        rw [m_simplify_simplified_L1]
        simp [ek]
      · rw [m_ref29_Simplify_L1]
        simp only [ek, show (0 : Int) < (([k] : List T_api_Tree).length : Int) by simp, if_true, idx0 rfl, bind_ok, r.e2, ea, w1, w2]
        rw [m_ref29_Simplify_L1]
        simp [ek]
      · rcases hF with f | f | f | f
        · rw [ek] at f; exact absurd f.2.2.2.2 (by simp)
        · rw [ek] at f; exact absurd f.2.2.2.2.2 (by simp)
        · omega
        · omega
      · rw [ek] at h ⊢
        obtain ⟨rfl, rfl⟩ := r.still (nfs1.1 h)
        exact ⟨rfl, rfl⟩
    | [l, k] =>
      rw [ek] at hG hN2 hz b2 b3
      obtain ⟨s1, s2, s3⟩ := sz2 l k
      have p1 := szT_pos l; have p2 := szT_pos k
      obtain ⟨sl, cl, rl⟩ := simp_ok m l (by omega) (by omega) (goods2.1 hG).1 (nms2.1 hN2).1
      obtain ⟨s, c, r⟩ := simp_ok m k (by omega) (by omega) (goods2.1 hG).2 (nms2.1 hN2).2
      obtain ⟨q1, q2, q3⟩ := sz2 sl s
      have := r.sz; have := r.num; have := r.dep
      have := rl.sz; have := rl.num; have := rl.dep
      have w1 : W (0 + (cl : Int)) = (cl : Int) := by rw [W_ok (by omega) (by omega)]; omega
      have w2 : W (0 + 1) = 1 := by decide
      have w3 : W (1 + 1) = 2 := by decide
      have w4 : W ((cl : Int) + (c : Int)) = ((cl + c : Nat) : Int) := W_add (by omega)
      have ea : app 88 ([] : List T_api_Tree) [sl] = some [sl] := room_app (by simp) (by omega)
      have eb : app 88 [sl] [s] = some [sl, s] := room_app (by simp) (by omega)
      refine simp_of (ks := [sl, s]) (c := cl + c) ?_ ?_ (nfs2.2 ⟨rl.nrm, r.nrm⟩) (by rw [ek]; omega) (by rw [ek]; omega) (by rw [ek]; omega) (by omega) ?_ ?_ (fun h => ?_) (fun h => ?_)
      · rw [good]
        refine ⟨?_, goods2.2 ⟨rl.gd, r.gd⟩⟩
        unfold formF at hF ⊢
        rw [ek] at hF
        rcases hF with f | f | f | f
        · exact absurd f.2.2.2.2 (by simp)
        · exact absurd f.2.2.2.2.2 (by simp)
        · exact absurd f.2.2.2.1 (by simp)
        · refine Or.inr (Or.inr (Or.inr ⟨f.1, f.2.1, f.2.2.1, rfl, f.2.2.2.2.1, f.2.2.2.2.2.1, f.2.2.2.2.2.2.1, ?_⟩))
          rcases f.2.2.2.2.2.2.2 with g | g | g
          · exact Or.inl g
          · have g' : l.kind = 1 := g
            have := rl.low (by omega)
            subst this
            exact Or.inr (Or.inl g)
          · have g' : l.kind = 2 := g
            have := rl.low (by omega)
            subst this
            exact Or.inr (Or.inr g)
      · rw [namesOk]
        exact ⟨hN, nms2.2 ⟨rl.nm, r.nm⟩⟩
      · rw [m_simplify_simplified_L1]
        simp only [ek, show (0 : Int) < (([l, k] : List T_api_Tree).length : Int) by simp, if_true, idx20 rfl, bind_ok, rl.e1, ea, w1, w2]
        rw [m_simplify_simplified_L1]
        simp only [ek, show (1 : Int) < (([l, k] : List T_api_Tree).length : Int) by simp, if_true, idx21 rfl, bind_ok, r.e1, eb, w3, w4]
        rw [m_simplify_simplified_L1]
        simp [ek]
      · rw [m_ref29_Simplify_L1]
        simp only [ek, show (0 : Int) < (([l, k] : List T_api_Tree).length : Int) by simp, if_true, idx20 rfl, bind_ok, rl.e2, ea, w1, w2]
        rw [m_ref29_Simplify_L1]
        simp only [ek, show (1 : Int) < (([l, k] : List T_api_Tree).length : Int) by simp, if_true, idx21 rfl, bind_ok, r.e2, eb, w3, w4]
        rw [m_ref29_Simplify_L1]
        simp [ek]
      · rcases hF with f | f | f | f
        · rw [ek] at f; exact absurd f.2.2.2.2 (by simp)
        · rw [ek] at f; exact absurd f.2.2.2.2.2 (by simp)
        · omega
        · omega
      · rw [ek] at h ⊢
        obtain ⟨rfl, rfl⟩ := r.still (nfs2.1 h).2
        obtain ⟨rfl, rfl⟩ := rl.still (nfs2.1 h).1
        exact ⟨rfl, rfl⟩
    | x :: y :: z :: r =>
      rcases hF with f | f | f | f
      · rw [ek] at f; exact absurd f.2.2.2.2 (by simp)
      · rw [ek] at f; exact absurd f.2.2.2.2.2 (by simp)
      · rw [ek] at f; exact absurd f.2.2.2.1 (by simp)
      · rw [ek] at f; exact absurd f.2.2.2.1 (by simp)
end Go.Proofs.Tryd
namespace Go.Proofs.Tryd
open Go Go.Pm
set_option linter.unusedVariables false
set_option linter.unusedSimpArgs false
set_option maxRecDepth 2000
theorem run0 {t : T_api_Tree} (hk : t.kids = []) : m_simplify_simplified_L1 (t, 0, [], 0) = some (0, []) := by
  rw [m_simplify_simplified_L1]
  simp [hk]
theorem run1 {t k s : T_api_Tree} {c : Nat} (hc : c ≤ 1000) (hk : t.kids = [k]) (e : m_simplify_simplified k = some (s, (c : Int))) : m_simplify_simplified_L1 (t, 0, [], 0) = some ((c : Int), [s]) := by
  have w1 : W (0 + (c : Int)) = (c : Int) := by rw [W_ok (by omega) (by omega)]; omega
  have w2 : W (0 + 1) = 1 := by decide
  have ea : app 88 ([] : List T_api_Tree) [s] = some [s] := room_app (by simp) (by omega)
  rw [m_simplify_simplified_L1]
  simp only [hk, show (0 : Int) < (([k] : List T_api_Tree).length : Int) by simp, if_true, idx0 rfl, bind_ok, e, ea, w1, w2]
  rw [m_simplify_simplified_L1]
  simp [hk]
theorem run2 {t l k sl s : T_api_Tree} {cl c : Nat} (hc : c ≤ 1000) (hcl : cl ≤ 1000) (hk : t.kids = [l, k]) (el : m_simplify_simplified l = some (sl, (cl : Int))) (e : m_simplify_simplified k = some (s, (c : Int))) : m_simplify_simplified_L1 (t, 0, [], 0) = some (((cl + c : Nat) : Int), [sl, s]) := by
  have w1 : W (0 + (cl : Int)) = (cl : Int) := by rw [W_ok (by omega) (by omega)]; omega
  have w2 : W (0 + 1) = 1 := by decide
  have w3 : W (1 + 1) = 2 := by decide
  have w4 : W ((cl : Int) + (c : Int)) = ((cl + c : Nat) : Int) := W_add (by omega)
  have ea : app 88 ([] : List T_api_Tree) [sl] = some [sl] := room_app (by simp) (by omega)
  have eb : app 88 [sl] [s] = some [sl, s] := room_app (by simp) (by omega)
  rw [m_simplify_simplified_L1]
  simp only [hk, show (0 : Int) < (([l, k] : List T_api_Tree).length : Int) by simp, if_true, idx20 rfl, bind_ok, el, ea, w1, w2]
  rw [m_simplify_simplified_L1]
  simp only [hk, show (1 : Int) < (([l, k] : List T_api_Tree).length : Int) by simp, if_true, idx21 rfl, bind_ok, e, eb, w3, w4]
  rw [m_simplify_simplified_L1]
  simp [hk]
def out12 (s : T_api_Tree) (c : Int) : Option (Int × Int × Int × ByteArray × (List Int) × (List T_api_Tree) × Int × Int × Int × ByteArray × (List Int) × (List T_api_Tree) × Int) :=
  some (s.kind, s.fn, s.axis, s.name, s.nums, s.kids, s.kind, s.fn, s.axis, s.name, s.nums, s.kids, c)
theorem stop2 {u : T_api_Tree} {ks : List T_api_Tree} {c : Int} (e : m_simplify_once u = some (u, 0)) : m_simplify_simplified_L2 (ks, u.kind, u.fn, u.axis, u.name, u.nums, u.kids, c) = out12 u c := by
  rw [m_simplify_simplified_L2]
  simp only [etaT, e, bind_ok, if_true, out12]
theorem go2 {u v : T_api_Tree} {n : Int} {ks : List T_api_Tree} {c : Int} (e : m_simplify_once u = some (v, n)) (h : n ≠ 0) : m_simplify_simplified_L2 (ks, u.kind, u.fn, u.axis, u.name, u.nums, u.kids, c) = m_simplify_simplified_L2 (ks, v.kind, v.fn, v.axis, v.name, v.nums, v.kids, W (c + 1)) := by
  rw [m_simplify_simplified_L2]
  simp only [etaT, e, bind_ok, h, if_false]
theorem simp_run {t s : T_api_Tree} {ks : List T_api_Tree} {c c' : Int} (l1 : m_simplify_simplified_L1 (t, 0, [], 0) = some (c, ks)) (l2 : m_simplify_simplified_L2 (ks, t.kind, t.fn, t.axis, t.name, t.nums, ks, c) = out12 s c') : m_simplify_simplified t = some (s, c') := by
  rw [m_simplify_simplified]
  simp only [l1, bind_ok, l2, out12, etaT]
def aX : T_api_Tree := ⟨2, 0, -1, ⟨#[120]⟩, [], []⟩
def aL : T_api_Tree := ⟨1, 0, -1, ByteArray.empty, [2, 3], []⟩
def aRV : T_api_Tree := ⟨3, 6, -1, ByteArray.empty, [], [aX]⟩
def aRS : T_api_Tree := ⟨4, 5, -1, ByteArray.empty, [], [aL, aRV]⟩
def aRS' : T_api_Tree := ⟨4, 5, -1, ByteArray.empty, [], [aL, aX]⟩
def aM2 : T_api_Tree := ⟨3, 3, -1, ByteArray.empty, [], [aRS]⟩
def aM2' : T_api_Tree := ⟨3, 3, -1, ByteArray.empty, [], [aRS']⟩
def aM1 : T_api_Tree := ⟨3, 3, -1, ByteArray.empty, [], [aM2]⟩
def aM1' : T_api_Tree := ⟨3, 3, -1, ByteArray.empty, [], [aM2']⟩
theorem oX : m_simplify_once aX = some (aX, 0) := by kernel_rfl
theorem oL : m_simplify_once aL = some (aL, 0) := by kernel_rfl
theorem oRV : m_simplify_once aRV = some (aRV, 0) := by kernel_rfl
theorem oRS : m_simplify_once aRS = some (aRS', 4) := by kernel_rfl
theorem oRS' : m_simplify_once aRS' = some (aRS', 0) := by kernel_rfl
theorem oM2 : m_simplify_once aM2' = some (aM2', 0) := by kernel_rfl
theorem oM1 : m_simplify_once aM1 = some (aRS, 1) := by kernel_rfl
theorem oM1' : m_simplify_once aM1' = some (aRS', 1) := by kernel_rfl
theorem sX : m_simplify_simplified aX = some (aX, ((0 : Nat) : Int)) := simp_run (t := aX) (run0 rfl) (stop2 oX)
theorem sL : m_simplify_simplified aL = some (aL, ((0 : Nat) : Int)) := simp_run (t := aL) (run0 rfl) (stop2 oL)
theorem sRV : m_simplify_simplified aRV = some (aRV, ((0 : Nat) : Int)) := simp_run (t := aRV) (run1 (by omega) rfl sX) (stop2 oRV)
theorem sRS : m_simplify_simplified aRS = some (aRS', ((1 : Nat) : Int)) := simp_run (t := aRS) (run2 (by omega) (by omega) rfl sL sRV) ((go2 (u := aRS) oRS (by decide)).trans (stop2 (u := aRS') oRS'))
theorem sRS' : m_simplify_simplified aRS' = some (aRS', ((0 : Nat) : Int)) := simp_run (t := aRS') (run2 (by omega) (by omega) rfl sL sX) (stop2 (u := aRS') oRS')
theorem sM2 : m_simplify_simplified aM2 = some (aM2', ((1 : Nat) : Int)) := simp_run (t := aM2) (run1 (by omega) rfl sRS) (stop2 (u := aM2') oM2)
theorem sM1 : m_simplify_simplified aM1 = some (aRS', ((2 : Nat) : Int)) := simp_run (t := aM1) (run1 (by omega) rfl sM2) ((go2 (u := aM1') oM1' (by decide)).trans (stop2 (u := aRS') oRS'))
theorem text1 : m_ref09_Text (⟨#[226, 140, 189, 226, 140, 189, 50, 32, 51, 226, 141, 180, 44, 120]⟩ : ByteArray) = some (aM1, 0) := by
  unfold m_ref09_Text
  exact (if_pos rfl).trans rfl
theorem text2 : m_ref09_Text (⟨#[50, 32, 51, 226, 141, 180, 120]⟩ : ByteArray) = some (aRS', 0) := by
  unfold m_ref09_Text
  exact (if_neg (by decide)).trans ((if_pos rfl).trans rfl)
theorem awake_ok : m_law29_awake () = some true := by
  have c1 : m_tree_Copy aRS = some aRS := copy_ok aRS (by simp [aRS, aL, aRV, aX, szT, szTs]) (by simp [aRS, aL, aRV, aX, numT, numTs])
  have c2 : m_tree_Copy aRS' = some aRS' := copy_ok aRS' (by simp [aRS', aL, aRV, aX, szT, szTs]) (by simp [aRS', aL, aRV, aX, numT, numTs])
  have c3 : m_ref08_Same (aRS', aRS') = some true := same_self aRS' (by simp [aRS', aL, aRV, aX, szT, szTs]) (by simp [aRS', aL, aRV, aX, numT, numTs])
  have k : aRS.kind = 4 := rfl
  unfold m_law29_awake m_simplify_Rule m_simplify_Simplify m_simplify_Count
  simp only [text1, text2, bind_ok, etaT, oM1, c1, sM1, c2, c3, sRS', k, if_true, beq_self_eq_true]
  rfl
mutual
theorem tsize_ok : ∀ (t : T_api_Tree), szT t ≤ 600 → m_ref08_Size t = some (szT t : Int)
  | ⟨k, f, a, nm, nu, ks⟩, h => by
    rw [m_ref08_Size]
    rw [szT] at h
    have e := tsize_loop ks [] 1 k f a nm nu (by have := szTs_len ks; simp; omega) (by omega) (by omega)
    simp only [List.nil_append, List.length_nil, Int.natCast_zero, Int.natCast_one] at e
    simp only [e, bind_ok, szT]
theorem tsize_loop : ∀ (s p : List T_api_Tree) (m : Nat) (k f a : Int) (nm : ByteArray) (nu : List Int), (p ++ s).length ≤ 600 → m + szTs s ≤ 601 → 1 ≤ m →
    m_ref08_Size_L1 (⟨k, f, a, nm, nu, p ++ s⟩, (m : Int), (p.length : Int)) = some ((m + szTs s : Nat) : Int)
  | [], p, m, k, f, a, nm, nu, h1, h2, h3 => by
    rw [m_ref08_Size_L1]
    simp only [end_lt, if_false, szTs, Nat.add_zero]
  | x :: s, p, m, k, f, a, nm, nu, h1, h2, h3 => by
    rw [m_ref08_Size_L1]
    rw [szTs] at h2
    have hl := szTs_len s
    have e := tsize_ok x (by omega)
    have e' := tsize_loop s (p ++ [x]) (m + szT x) k f a nm nu (by simpa using h1) (by omega) (by omega)
    rw [← mid_app] at e'
    have w : W ((p.length : Int) + 1) = ((p ++ [x]).length : Int) := mid_W (Sm_of h1)
    have hx : W ((m : Int) + (szT x : Int)) = ((m + szT x : Nat) : Int) := W_add (by omega)
    simp only [mid_lt, if_true, mid_idx, bind_ok, e, w, hx, e', szTs, Nat.add_assoc]
end
theorem few_of {s t : T_api_Tree} {c : Nat} (h : fewT t) (h1 : szT s + c ≤ szT t) (h2 : numT s ≤ numT t) (h3 : depT s ≤ depT t) : fewT s := by
  unfold fewT at h ⊢
  omega
/-- what the laws need of a tree that is right, with few nodes -/
theorem ends {t : T_api_Tree} (h : fewT t) (hg : good t) (hn : namesOk t) : ∃ s c, simpR t s c ∧ m_simplify_Simplify t = some s ∧ m_simplify_Count t = some (c : Int) ∧ m_ref08_Same (s, s) = some true ∧ fewT s := by
  obtain ⟨s, c, r⟩ := simp_ok 300 t h.1 (by omega) hg hn
  have hs := few_of h r.sz r.num r.dep
  have e1 := copy_ok s (by have := hs.1; omega) (by have := hs.2.2; omega)
  refine ⟨s, c, r, ?_, ?_, same_self s (by have := hs.1; omega) (by have := hs.2.2; omega), hs⟩
  · unfold m_simplify_Simplify
    simp only [r.e1, bind_ok, e1]
  · unfold m_simplify_Count
    simp only [r.e1, bind_ok]
theorem SimplifyMatches_ok (t : T_api_Tree) (h : ok25 140737488351232 t) : m_law29_SimplifyMatchesReference t = some true := by
  have hn := namesOk_of t h
  obtain ⟨b, e, hb⟩ := Small_ok t (numT_le _ t h) hn
  unfold m_law29_SimplifyMatchesReference
  simp only [awake_ok, bind_ok, Bool.true_eq_false, if_false, etaT, e]
  cases b with
  | false => rfl
  | true =>
    obtain ⟨hf, hd, hg⟩ := hb.1 rfl
    obtain ⟨s, c, r, e1, e2, e3, hs⟩ := ends hf hg hn
    obtain ⟨u, n, q1, q2, n0, hz, hl, _⟩ := step_ok hg hn
    have hu : szT u ≤ 300 ∧ numT u ≤ 3000 := by
      by_cases hn0 : n = 0
      · rw [hz hn0]; exact ⟨hf.1, hf.2.2⟩
      · have := (hl hn0).sz; have := (hl hn0).num; have := hf.1; have := hf.2.2; omega
    have c1 := copy_ok u (by omega) (by omega)
    have c2 := same_self u (by omega) (by omega)
    unfold m_simplify_Rule
    simp only [q1, q2, r.e2, e1, e2, e3, c1, c2, etaT, bind_ok, Bool.not_true, Bool.false_eq_true, if_false, if_true, beq_self_eq_true]
theorem SimplifyEnds_ok (t : T_api_Tree) (h : ok25 140737488351232 t) : m_law29_SimplifyEnds t = some true := by
  have hn := namesOk_of t h
  obtain ⟨b, e, hb⟩ := Small_ok t (numT_le _ t h) hn
  unfold m_law29_SimplifyEnds
  simp only [awake_ok, bind_ok, Bool.true_eq_false, if_false, etaT, e]
  cases b with
  | false => rfl
  | true =>
    obtain ⟨hf, hd, hg⟩ := hb.1 rfl
    obtain ⟨s, c, r, e1, e2, e3, hs⟩ := ends hf hg hn
    obtain ⟨s', c', r', e1', e2', e3', hs'⟩ := ends hs r.gd r.nm
    obtain ⟨rfl, rfl⟩ := r'.still r.nrm
    have hnum : numT s' ≤ szT s' * 140737488351232 := by
      have := szT_pos s'
      have := hs.2.2
      have : 1 * 140737488351232 ≤ szT s' * 140737488351232 := Nat.mul_le_mul_right _ (by omega)
      omega
    obtain ⟨b1, f1, hb1⟩ := Few_ok s' hnum
    obtain ⟨b2, f2, hb2⟩ := Right_ok s' hs.1 r.nm
    have hb1' := hb1.2 hs
    have hb2' := hb2.2 ⟨by have := r.dep; omega, r.gd⟩
    subst hb1' hb2'
    have z1 := tsize_ok s' (by have := hs.1; omega)
    have z2 := tsize_ok t (by have := hf.1; omega)
    have hsz := r.sz
    have hle : W ((szT s' : Int) + (c : Int)) ≤ (szT t : Int) := by
      rw [W_add (by have := hf.1; omega)]; omega
    simp only [e1, e2, f1, f2, z1, z2, hle, e1', e2', e3', bind_ok, Bool.not_true, Bool.true_eq_false, Bool.false_eq_true, if_false, if_true]
    rfl
end Go.Proofs.Tryd
