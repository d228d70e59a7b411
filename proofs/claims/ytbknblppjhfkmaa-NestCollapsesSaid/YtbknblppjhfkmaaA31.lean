/-
  Seat a: a collapsed nest has the same events in the same order (plain law).
-/
import Derived.Test.YtbknblppjhfkmaaA30
namespace Go.Proofs.Try
open Go Go.Pm
set_option linter.unusedVariables false
set_option linter.unusedSimpArgs false

/-- the two sums of all rounds, loop by loop -/
def ext2 (t : Int × Int × Int) (v : Int × Int) : List (Int × Int) := (List.range t.1.toNat).map fun (i : Nat) => (v.1 + t.2.1 * (i : Int), v.2 + t.2.2 * (i : Int))
def valsFrom (L : List (Int × Int)) (l : List (Int × Int × Int)) : List (Int × Int) := l.foldl (fun L t => L.flatMap (ext2 t)) L
def vals (l : List (Int × Int × Int)) : List (Int × Int) := valsFrom [(0, 0)] l
theorem valsFrom_append (L : List (Int × Int)) (a b : List (Int × Int × Int)) : valsFrom L (a ++ b) = valsFrom (valsFrom L a) b := by rw [valsFrom, List.foldl_append]; rfl

/-- triples without their ones -/
theorem ext2_one (s r : Int) (v : Int × Int) : ext2 (1, s, r) v = [v] := by simp [ext2]
theorem valsFrom_filter : ∀ (l : List (Int × Int × Int)) (L : List (Int × Int)), valsFrom L (l.filter fun t => t.1 != 1) = valsFrom L l
  | [], L => rfl
  | (d, s, r) :: l, L => by
    by_cases h : d = 1
    · subst h
      have e : L.flatMap (ext2 (1, s, r)) = L := by
        rw [show ext2 (1, s, r) = fun v => [v] from funext (ext2_one s r)]; simp
      rw [List.filter_cons_of_neg (by simp), valsFrom_filter l L]
      show _ = valsFrom (L.flatMap (ext2 (1, s, r))) l
      rw [e]
    · rw [List.filter_cons_of_pos (by simp [h])]
      exact valsFrom_filter l (L.flatMap (ext2 (d, s, r)))

theorem ext2_join (m d : Nat) (s r : Int) (v : Int × Int) : (ext2 ((m : Int), (d : Int) * s, (d : Int) * r) v).flatMap (ext2 ((d : Int), s, r)) = ext2 (((d * m : Nat) : Int), s, r) v := by
  induction m with
  | zero => simp [ext2]
  | succ m ih =>
    have e1 : ext2 (((m + 1 : Nat) : Int), (d : Int) * s, (d : Int) * r) v = ext2 ((m : Int), (d : Int) * s, (d : Int) * r) v ++ [(v.1 + (d : Int) * s * (m : Int), v.2 + (d : Int) * r * (m : Int))] := by
      simp only [ext2, Int.toNat_natCast, List.range_succ, List.map_append, List.map_cons, List.map_nil]
    rw [e1, List.flatMap_append, ih]
    simp only [List.flatMap_cons, List.flatMap_nil, List.append_nil, ext2, Int.toNat_natCast, Nat.mul_succ, List.range_add, List.map_append, List.map_map]
    congr 1
    refine List.map_congr_left fun j _ => ?_
    simp only [Function.comp_apply, Prod.mk.injEq]
    constructor
    · rw [Int.natCast_add, Int.natCast_mul, Int.mul_add]
      have : (d : Int) * s * (m : Int) = s * ((d : Int) * (m : Int)) := by rw [Int.mul_comm (d : Int) s, Int.mul_assoc]
      omega
    · rw [Int.natCast_add, Int.natCast_mul, Int.mul_add]
      have : (d : Int) * r * (m : Int) = r * ((d : Int) * (m : Int)) := by rw [Int.mul_comm (d : Int) r, Int.mul_assoc]
      omega
theorem valsFrom_join {m d s1 s r1 r : Int} (hm : 0 ≤ m) (hd : 0 ≤ d) (hs : s1 = d * s) (hr : r1 = d * r) (L : List (Int × Int)) (B : List (Int × Int × Int)) :
    valsFrom L ((m, s1, r1) :: (d, s, r) :: B) = valsFrom L ((d * m, s, r) :: B) := by
  obtain ⟨m, rfl⟩ := Int.eq_ofNat_of_zero_le hm
  obtain ⟨d, rfl⟩ := Int.eq_ofNat_of_zero_le hd
  subst hs hr
  show valsFrom ((L.flatMap (ext2 ((m : Int), (d : Int) * s, (d : Int) * r))).flatMap (ext2 ((d : Int), s, r))) B = valsFrom (L.flatMap (ext2 ((d : Int) * (m : Int), s, r))) B
  rw [List.flatMap_assoc]
  congr 2
  funext v
  rw [ext2_join, Int.natCast_mul]

/-- the triples of a nest's loops -/
def zip3 (a b c : List Int) : List (Int × Int × Int) := a.zip (b.zip c)
theorem zip3_append {a a' b b' c c' : List Int} (h1 : a.length = b.length) (h2 : b.length = c.length) : zip3 (a ++ a') (b ++ b') (c ++ c') = zip3 a b c ++ zip3 a' b' c' := by
  rw [zip3, List.zip_append h2, List.zip_append (by simp; omega)]; rfl
theorem zip3_take (a b c : List Int) (n : Nat) : (zip3 a b c).take n = zip3 (a.take n) (b.take n) (c.take n) := by
  simp [zip3, List.take_zipWith, List.zip]

theorem allL_vals (dims s r : List Int) (hs : s.length = dims.length) (hr : r.length = dims.length) : ∀ m, m ≤ dims.length →
    (allL (dims.take m)).map (fun x => (dotI (s.take m) x, dotI (r.take m) x)) = vals (zip3 (dims.take m) (s.take m) (r.take m))
  | 0, _ => by simp [allL, vals, valsFrom, zip3, dotI]
  | m + 1, hm => by
    have ih := allL_vals dims s r hs hr m (by omega)
    have h1 : m < dims.length := hm
    have h2 : m < s.length := by omega
    have h3 : m < r.length := by omega
    rw [← allL_succ h1, List.take_succ_eq_append_getElem h1, List.take_succ_eq_append_getElem h2, List.take_succ_eq_append_getElem h3,
      zip3_append (by simp; omega) (by simp; omega), vals, valsFrom_append]
    rw [vals] at ih
    rw [← ih]
    show _ = List.flatMap (ext2 (dims[m], s[m], r[m])) (List.map _ (allL (dims.take m)))
    rw [List.map_flatMap, List.flatMap_map]
    have hL := allL_len (dims.take m)
    generalize allL (dims.take m) = L at hL
    rw [List.flatMap_def, List.flatMap_def]
    congr 1
    refine List.map_congr_left fun p hp => ?_
    have hpl := hL p hp
    rw [List.length_take] at hpl
    simp only [extL, List.map_map, ext2]
    refine List.map_congr_left fun i _ => ?_
    simp only [Function.comp_apply]
    rw [dotI_snoc _ _ (by simp; omega), dotI_snoc _ _ (by simp; omega)]

/-- the steps of the access, none for a fill -/
def rOf (n : Nst) : List Int := if n.read.kind = 1 then List.replicate n.dims.length 0 else n.read.strides
def EV (n : Nst) (v : Int × Int) : Evt := eventC n (IntKind.i64.wrap (n.write + v.1)) (if n.read.kind = 1 then at0 n else IntKind.i64.wrap (at0 n + v.2))
theorem rOf_len {n : Nst} (h : SmallN n) : (rOf n).length = n.dims.length := by
  rw [rOf]; split
  · simp
  · rename_i hk; exact h.strides hk
theorem eventsN_vals {n : Nst} (h : SmallN n) : eventsN n = (vals (zip3 n.dims n.steps (rOf n))).map (EV n) := by
  have := allL_vals n.dims n.steps (rOf n) h.steps (rOf_len h) n.dims.length (Nat.le_refl _)
  rw [List.take_length, List.take_of_length_le (Nat.le_of_eq h.steps), List.take_of_length_le (Nat.le_of_eq (rOf_len h))] at this
  rw [← this, List.map_map, eventsN]
  refine List.map_congr_left fun x _ => ?_
  rw [← eventC_M h, Function.comp_apply, EV, aOf]
  by_cases hk : n.read.kind = 1
  · rw [if_pos hk, if_pos hk]
  · rw [if_neg hk, if_neg hk, rOf, if_neg hk]

/-- the product of dimensions -/
def prodN (l : List Int) : Nat := l.foldr (fun d a => d.toNat * a) 1
theorem prodN_append (a b : List Int) : prodN (a ++ b) = prodN a * prodN b := by
  induction a with
  | nil => simp [prodN]
  | cons d a ih =>
    show d.toNat * prodN (a ++ b) = d.toNat * prodN a * prodN b
    rw [ih, Nat.mul_assoc]
theorem prodN_pos {l : List Int} (h : ∀ d ∈ l, 1 ≤ d) : 1 ≤ prodN l := by
  induction l with
  | nil => simp [prodN]
  | cons d l ih =>
    have h1 := ih (fun x hx => h x (List.mem_cons_of_mem _ hx))
    have h2 := h d (List.mem_cons_self ..)
    show 1 ≤ d.toNat * prodN l
    exact Nat.mul_le_mul (show 1 ≤ d.toNat by omega) h1
theorem allL_prod (l : List Int) : (allL l).length = prodN l := by
  have : ∀ (l : List Int) (L : List (List Int)), (l.foldl (fun out d => out.flatMap (extL d)) L).length = L.length * prodN l := by
    intro l
    induction l with
    | nil => intro L; simp [prodN]
    | cons d l ih =>
      intro L
      show (l.foldl _ (L.flatMap (extL d))).length = L.length * (d.toNat * prodN l)
      rw [ih, flat_len, Nat.mul_assoc]
  rw [allL, this]; simp
theorem cells_of {l : List Int} (h : ∀ d ∈ l, 1 ≤ d) (hp : prodN l ≤ 100) : (∀ d ∈ l, d ≤ 100) ∧ ∀ j, j ≤ l.length → cellsW (l.take j) = ((allL (l.take j)).length : Int) ∧ 1 ≤ (allL (l.take j)).length ∧ (allL (l.take j)).length ≤ 100 := by
  have hpre : ∀ j, 1 ≤ prodN (l.take j) ∧ prodN (l.take j) ≤ 100 := fun j => by
    have e : prodN l = prodN (l.take j) * prodN (l.drop j) := by rw [← prodN_append, List.take_append_drop]
    have h1 := prodN_pos (l := l.take j) (fun d hd => h d (List.mem_of_mem_take hd))
    have h2 := prodN_pos (l := l.drop j) (fun d hd => h d (List.mem_of_mem_drop hd))
    exact ⟨h1, Nat.le_trans (by rw [e]; exact Nat.le_mul_of_pos_right _ h2) hp⟩
  refine ⟨fun d hd => ?_, fun j hj => ?_⟩
  · obtain ⟨j, hj, rfl⟩ := List.getElem_of_mem hd
    have h1 := (hpre (j + 1)).2
    have h2 := (hpre j).1
    have h3 := h _ hd
    rw [List.take_succ_eq_append_getElem hj, prodN_append] at h1
    have e : prodN [l[j]] = l[j].toNat := by simp [prodN]
    rw [e] at h1
    have := Nat.le_trans (Nat.le_mul_of_pos_left (l[j].toNat) h2) h1
    omega
  · rw [allL_prod]
    refine ⟨?_, hpre j⟩
    induction j with
    | zero => rfl
    | succ j ih =>
      have hj' : j < l.length := hj
      have h1 := (hpre (j + 1)).2
      have h3 := h _ (List.getElem_mem hj')
      rw [← cellsW_succ hj', ih (by omega)]
      rw [List.take_succ_eq_append_getElem hj', prodN_append] at h1 ⊢
      have e : prodN [l[j]] = l[j].toNat := by simp [prodN]
      rw [e] at h1 ⊢
      obtain ⟨d, hd⟩ : ∃ d : Nat, l[j] = (d : Int) := ⟨l[j].toNat, by omega⟩
      rw [hd, Int.toNat_natCast] at h1 ⊢
      rw [← Int.natCast_mul, wrap_i64 (by omega) (by omega)]

theorem prod_small {n : Nst} (h : SmallN n) : prodN n.dims ≤ 100 := by
  have := (h.cells n.dims.length (Nat.le_refl _)).2.2
  rwa [List.take_length, allL_prod] at this

/-! ### the ones left out -/
theorem sel_zip : ∀ (d s r : List Int), s.length = d.length → r.length = d.length → zip3 (selM d d) (selM s d) (selM r d) = (zip3 d s r).filter fun t => t.1 != 1
  | [], s, r, _, _ => by simp [zip3, selM]
  | x :: d, s, r, hs, hr => by
    match s, r, hs, hr with
    | y :: s, z :: r, hs, hr =>
      have ih := sel_zip d s r (by simpa using hs) (by simpa using hr)
      by_cases h : x = 1
      · have e : ∀ (y : Int) (l : List Int), selM (y :: l) (x :: d) = selM l d := fun y l => by simp [selM, h]
        rw [e, e, e, ih]
        show _ = (((x, y, z) :: zip3 d s r).filter fun t => t.1 != 1)
        rw [List.filter_cons_of_neg (by simp [h])]
      · have e : ∀ (y : Int) (l : List Int), selM (y :: l) (x :: d) = y :: selM l d := fun y l => by simp [selM, h]
        rw [e, e, e]
        show (x, y, z) :: zip3 _ _ _ = (((x, y, z) :: zip3 d s r).filter fun t => t.1 != 1)
        rw [ih, List.filter_cons_of_pos (by simp [h])]
theorem selM_mem {l d : List Int} {x : Int} (h : x ∈ selM l d) : x ∈ l := by
  simp only [selM, List.mem_map, List.mem_filter] at h
  obtain ⟨⟨a, b⟩, ⟨h1, _⟩, rfl⟩ := h
  exact (List.of_mem_zip h1).1
theorem selM_prod (d : List Int) : prodN (selM d d) = prodN d := by
  induction d with
  | nil => rfl
  | cons x d ih =>
    by_cases h : x = 1
    · subst h
      have e : selM (1 :: d) (1 :: d) = selM d d := by simp [selM]
      rw [e, ih]; show prodN d = (1 : Int).toNat * prodN d; simp
    · have e : selM (x :: d) (x :: d) = x :: selM d d := by simp [selM, h]
      rw [e]; show x.toNat * prodN (selM d d) = x.toNat * prodN d; rw [ih]
theorem sel_zeros (d : List Int) : selM (List.replicate d.length 0) d = List.replicate (selM d d).length 0 := by
  induction d with
  | nil => simp [selM]
  | cons x d ih =>
    by_cases h : x = 1
    · have e : ∀ (y : Int) (l : List Int), selM (y :: l) (x :: d) = selM l d := fun y l => by simp [selM, h]
      rw [List.length_cons, List.replicate_succ, e, e, ih]
    · have e : ∀ (y : Int) (l : List Int), selM (y :: l) (x :: d) = y :: selM l d := fun y l => by simp [selM, h]
      rw [List.length_cons, List.replicate_succ, e, e, ih, List.length_cons, List.replicate_succ]
theorem small_sel {n : Nst} (h : SmallN n) : SmallN (selN n) := by
  have c := cells_of (l := selM n.dims n.dims) (fun d hd => (h.dim d (selM_mem hd)).1) (by rw [selM_prod]; exact prod_small h)
  have l0 := selM_len n.dims n.dims
  refine ⟨Nat.le_trans l0 h.dims, selM_same h.steps, h.kind, fun hk => ?_, fun hk => selM_same (h.strides hk), h.modp, h.modl, fun s hs => h.stridesb s (selM_mem hs), h.bufferb, h.baseb, h.startb, h.stepb, h.writeb, fun d hd => ⟨(h.dim d (selM_mem hd)).1, c.1 d hd⟩, fun s hs => h.stepsb s (selM_mem hs), c.2⟩
  have := selM_len n.read.strides n.dims
  have := h.fill hk
  show (selM n.read.strides n.dims).length = 0
  omega
theorem events_sel {n : Nst} (h : SmallN n) : eventsN (selN n) = eventsN n := by
  have e : rOf (selN n) = selM (rOf n) n.dims := by
    by_cases hk : n.read.kind = 1
    · have e1 : rOf n = List.replicate n.dims.length 0 := if_pos hk
      have e2 : rOf (selN n) = List.replicate (selN n).dims.length 0 := if_pos hk
      rw [e1, e2]; exact (sel_zeros n.dims).symm
    · have e1 : rOf n = n.read.strides := if_neg hk
      have e2 : rOf (selN n) = (selN n).read.strides := if_neg hk
      rw [e1, e2]; rfl
  rw [eventsN_vals (small_sel h), eventsN_vals h, e]
  show (vals (zip3 (selM n.dims n.dims) (selM n.steps n.dims) _)).map (EV n) = _
  rw [sel_zip _ _ _ h.steps (rOf_len h), vals, vals, valsFrom_filter]

/-! ### two loops joined -/
theorem split2 (l : List Int) (k : Nat) (hk : k + 1 < l.length) : l = l.take k ++ l[k] :: l[k + 1] :: l.drop (k + 2) := by
  rw [← List.drop_eq_getElem_cons (i := k + 1) hk, ← List.drop_eq_getElem_cons (i := k) (by omega), List.take_append_drop]
theorem erase2 (l : List Int) (k : Nat) (hk : k + 1 < l.length) : l.eraseIdx k = l.take k ++ l[k + 1] :: l.drop (k + 2) := by
  rw [List.eraseIdx_eq_take_drop_succ, List.drop_eq_getElem_cons (i := k + 1) hk]
theorem set2 (l : List Int) (k : Nat) (v : Int) (hk : k + 1 < l.length) : (l.set (k + 1) v).eraseIdx k = l.take k ++ v :: l.drop (k + 2) := by
  rw [erase2 _ _ (by simpa using hk)]
  simp [List.take_set, List.drop_set]
  exact List.set_eq_of_length_le (by simp; omega)
theorem small_join {n : Nst} {k : Nat} (h : SmallN n) (hk : k + 1 < n.dims.length) : SmallN (joinN n k) ∧ (joinN n k).dims = n.dims.take k ++ (n.dims[k + 1] * n.dims[k]) :: n.dims.drop (k + 2) := by
  have hk' : k < n.dims.length := by omega
  have d1 := h.dim _ (List.getElem_mem hk)
  have d2 := h.dim _ (List.getElem_mem hk')
  have hb : n.dims[k + 1] * n.dims[k] ≤ 100 * 100 := Int.mul_le_mul d1.2 d2.2 (by omega) (by omega)
  have hb' : 1 * 1 ≤ n.dims[k + 1] * n.dims[k] := Int.mul_le_mul d1.1 d2.1 (by omega) (by omega)
  have e : (joinN n k).dims = n.dims.take k ++ (n.dims[k + 1] * n.dims[k]) :: n.dims.drop (k + 2) := by
    simp only [joinN]
    rw [set2 _ _ _ hk]
    simp only [List.getD_eq_getElem?_getD, List.getElem?_eq_getElem hk, List.getElem?_eq_getElem hk', Option.getD_some]
    rw [wrap_i64 (by omega) (by omega)]
  have hpr : prodN (joinN n k).dims = prodN n.dims := by
    rw [e]
    have e2 := congrArg prodN (split2 n.dims k hk)
    rw [e2, prodN_append, prodN_append]
    congr 1
    show (n.dims[k + 1] * n.dims[k]).toNat * prodN _ = n.dims[k].toNat * (n.dims[k + 1].toNat * prodN _)
    rw [Int.toNat_mul (by omega) (by omega), Nat.mul_comm (n.dims[k + 1].toNat), Nat.mul_assoc]
  have hge : ∀ d ∈ (joinN n k).dims, 1 ≤ d := fun d hd => by
    rw [e] at hd
    rcases List.mem_append.1 hd with hd | hd
    · exact (h.dim d (List.mem_of_mem_take hd)).1
    · rcases List.mem_cons.1 hd with rfl | hd
      · omega
      · exact (h.dim d (List.mem_of_mem_drop hd)).1
  have c := cells_of hge (by rw [hpr]; exact prod_small h)
  have l1 := joinN_len hk
  have l2 := joinN_steps hk h.steps
  refine ⟨⟨by have := h.dims; omega, by omega, h.kind, fun hk1 => ?_, fun hk1 => ?_, h.modp, h.modl, fun s hs => h.stridesb s (List.mem_of_mem_eraseIdx hs), h.bufferb, h.baseb, h.startb, h.stepb, h.writeb, fun d hd => ⟨hge d hd, c.1 d hd⟩, fun s hs => h.stepsb s (List.mem_of_mem_eraseIdx hs), c.2⟩, e⟩
  · have := joinN_le (n := n) (k := k); have := h.fill hk1; omega
  · have hl := h.strides hk1
    simp only [joinN]
    rw [erase_len _ _ (by omega)]
    show _ = (joinN n k).dims.length
    omega
theorem fits_of {dims l : List Int} {k : Nat} (hk : k + 1 < dims.length) (hl : l.length = dims.length) (h : fitsB dims l k = true) (hd : ∀ d ∈ dims, 1 ≤ d ∧ d ≤ 100) (hb : ∀ s ∈ l, -1000000 ≤ s ∧ s ≤ 1000000) :
    l[k] = dims[k + 1] * l[k + 1] := by
  have hne : ((((l.length : Nat) : Int) == 0)) = false := by rw [beq_eq_false_iff_ne]; omega
  have hk1 : k + 1 < l.length := by omega
  have hk2 : k < l.length := by omega
  rw [fitsB, hne, Bool.false_or, beq_iff_eq] at h
  simp only [List.getD_eq_getElem?_getD, List.getElem?_eq_getElem hk, List.getElem?_eq_getElem hk1, List.getElem?_eq_getElem hk2, Option.getD_some] at h
  have h1 := hd _ (List.getElem_mem hk)
  have h2 := hb _ (List.getElem_mem hk1)
  rw [h]
  have b1 : dims[k + 1] * l[k + 1] ≤ dims[k + 1] * 1000000 := Int.mul_le_mul_of_nonneg_left h2.2 (by omega)
  have b2 : dims[k + 1] * (-1000000) ≤ dims[k + 1] * l[k + 1] := Int.mul_le_mul_of_nonneg_left h2.1 (by omega)
  exact wrap_i64 (by omega) (by omega)
theorem events_join {n : Nst} {k : Nat} (h : SmallN n) (hk : k + 1 < n.dims.length) (h1 : fitsB n.dims n.steps k = true) (h2 : fitsB n.dims n.read.strides k = true) : eventsN (joinN n k) = eventsN n := by
  obtain ⟨hj, hjd⟩ := small_join h hk
  have hs : k + 1 < n.steps.length := by have := h.steps; omega
  have hr : k + 1 < (rOf n).length := by rw [rOf_len h]; exact hk
  have f1 := fits_of hk h.steps h1 h.dim h.stepsb
  have f2 : (rOf n)[k] = n.dims[k + 1] * (rOf n)[k + 1] := by
    by_cases hk1 : n.read.kind = 1
    · have : rOf n = List.replicate n.dims.length 0 := if_pos hk1
      simp [this]
    · have e : rOf n = n.read.strides := if_neg hk1
      have := fits_of hk (h.strides hk1) h2 h.dim h.stridesb
      simpa [e] using this
  have er : rOf (joinN n k) = (rOf n).eraseIdx k := by
    by_cases hk1 : n.read.kind = 1
    · have e1 : rOf n = List.replicate n.dims.length 0 := if_pos hk1
      have e2 : rOf (joinN n k) = List.replicate (joinN n k).dims.length 0 := if_pos hk1
      rw [e1, e2, joinN_len hk]
      apply List.ext_getElem
      · rw [List.length_replicate, erase_len _ _ (by simp; omega), List.length_replicate]
      · intro i a b
        rw [List.getElem_replicate, List.getElem_eraseIdx]
        split <;> rw [List.getElem_replicate]
    · have e1 : rOf n = n.read.strides := if_neg hk1
      have e2 : rOf (joinN n k) = (joinN n k).read.strides := if_neg hk1
      rw [e1, e2]; rfl
  rw [eventsN_vals hj, eventsN_vals h, er, hjd]
  show (vals (zip3 _ (n.steps.eraseIdx k) _)).map (EV n) = _
  congr 1
  rw [erase2 _ _ hs, erase2 _ _ hr]
  have z : zip3 n.dims n.steps (rOf n) = zip3 (n.dims.take k) (n.steps.take k) ((rOf n).take k) ++ (n.dims[k], n.steps[k], (rOf n)[k]) :: (n.dims[k + 1], n.steps[k + 1], (rOf n)[k + 1]) :: zip3 (n.dims.drop (k + 2)) (n.steps.drop (k + 2)) ((rOf n).drop (k + 2)) := by
    have := congr (congr (congrArg zip3 (split2 n.dims k hk)) (split2 n.steps k hs)) (split2 (rOf n) k hr)
    refine this.trans ?_
    rw [zip3_append (by simp; omega) (by simp; omega)]
    rfl
  rw [z, zip3_append (by simp; omega) (by simp; omega), vals, vals, valsFrom_append, valsFrom_append]
  have d1 := h.dim _ (List.getElem_mem hk)
  have d2 := h.dim _ (List.getElem_mem (show k < n.dims.length by omega))
  rw [valsFrom_join (by omega) (by omega) f1 f2]
  rfl
theorem loop_small : ∀ (j : Nat) (n : Nst), SmallN n → (j = 0 ∨ j + 1 ≤ n.dims.length) → SmallN (loopN j n) ∧ eventsN (loopN j n) = eventsN n
  | 0, n, h, _ => ⟨h, rfl⟩
  | k + 1, n, h, hj => by
    have hk : k + 1 < n.dims.length := by omega
    rw [loopN]
    split
    · rename_i hc
      simp only [Bool.and_eq_true] at hc
      have hs := small_join h hk
      obtain ⟨i1, i2⟩ := loop_small k (joinN n k) hs.1 (by rw [joinN_len hk]; omega)
      exact ⟨i1, i2.trans (events_join h hk hc.1 hc.2)⟩
    · exact loop_small k n h (by omega)
theorem collapse_small {n : Nst} (h : SmallN n) : SmallN (collapseM n) ∧ eventsN (collapseM n) = eventsN n := by
  have hs := small_sel h
  obtain ⟨i1, i2⟩ := loop_small ((selN n).dims.length - 1) (selN n) hs (by omega)
  exact ⟨i1, i2.trans (events_sel h)⟩
end Go.Proofs.Try
