/-
  The pure machine: its operations, one law each.
-/
import Derived.Test.YtbpnhijnfhniaaaDoorPmWp
namespace Go.Pm
open Go
set_option linter.unusedVariables false

section
variable {P : Program} {E : Env} {ow : List (Nat × TypeId)} {o : Oper} {ρ : Operand → PV} {H : List Blk} {K : PV → List Blk → Prop}

/-- where a field lies, and what it is -/
def fieldOff (P : Program) (s : TypeId) (f : Nat) : Option Nat := (fieldsOf P s).bind fun fs => (fs[f]?).bind fun fd => match szOf P fd.type with | some (_ + 1) => some fd.offset | _ => none
def fieldPart (P : Program) (s : TypeId) (f : Nat) : Option (Nat × Nat × Bool) := (fieldsOf P s).bind fun fs => (fs[f]?).bind fun fd => (szOf P fd.type).bind fun n => (aggT P fd.type).map fun g => (fd.offset, n, g)
theorem fieldOff_some {s : TypeId} {f off : Nat} (h : fieldOff P s f = some off) : ∃ fs fd k, fieldsOf P s = some fs ∧ fs[f]? = some fd ∧ szOf P fd.type = some (k + 1) ∧ off = fd.offset := by
  unfold fieldOff at h
  simp only [Option.bind_eq_some_iff] at h
  obtain ⟨fs, h1, fd, h2, h3⟩ := h
  split at h3
  · rename_i k hk; cases h3; exact ⟨fs, fd, k, h1, h2, hk, rfl⟩
  · cases h3
theorem fieldPart_some {s : TypeId} {f : Nat} {x : Nat × Nat × Bool} (h : fieldPart P s f = some x) : ∃ fs fd, fieldsOf P s = some fs ∧ fs[f]? = some fd ∧ szOf P fd.type = some x.2.1 ∧ aggT P fd.type = some x.2.2 ∧ x.1 = fd.offset := by
  unfold fieldPart at h
  simp only [Option.bind_eq_some_iff, Option.map_eq_some_iff] at h
  obtain ⟨fs, h1, fd, h2, n, h3, g, h4, rfl⟩ := h
  exact ⟨fs, fd, h1, h2, h3, h4, rfl⟩

theorem cut_one {cs : List PV} {off : Nat} {v : PV} (h : cs[off]? = some v) : cut cs off 1 = some [v] := by
  obtain ⟨hlt, rfl⟩ := List.getElem?_eq_some_iff.1 h
  unfold cut
  rw [if_pos (by omega), List.drop_eq_getElem_cons hlt]; rfl
theorem E_move {x : Operand} (ho : o.op = .move x) (hk : K (ρ x) H) (hg : giveHint ow = false := by kernel_rfl) : SemE P E ow o ρ H K := SemE_of (fun call => by simp only [sem, ho, hg, Bool.false_eq_true, if_false]) hk
theorem E_assign {x : Operand} (ho : o.op = .assign x) (hw : ow = []) (hk : K (ρ x) H) : SemE P E ow o ρ H K := SemE_of (fun call => by simp only [sem, ho, hw]) hk
theorem E_own {j : Nat} {e : TypeId} {os : List (Nat × TypeId)} (ho : o.op = .assign (.const (.slice none 0 0))) (hw : ow = (j, e) :: os) (hk : K (.vec H.length []) (H ++ [.tok e 0])) (hj : (j == 1000) = false := by rfl) : SemE P E ow o ρ H K :=
  SemE_of (fun call => by simp only [sem, ho, hw]; exact if_neg (by simpa using hj)) hk
/-! lists that are appended to and written -/
theorem E_ownMt {e : TypeId} {os : List (Nat × TypeId)} (ho : o.op = .assign (.const (.slice none 0 0))) (hw : ow = (1000, e) :: os) (hk : K (.ms H.length 0 0 0 0) (H ++ [.mt e 0 []])) : SemE P E ow o ρ H K :=
  SemE_of (fun call => by simp only [sem, ho, hw]; rfl) hk
theorem E_slice3 {t e : TypeId} {x : Operand} {lo : Option Operand} {hi mx : Operand} {n l h m size : Nat} (he : elemOfSlice P t = some e) (hs : szOf P e = some size) (ho : o.op = .slice t x lo (some hi) (some mx)) (hx : lenPV (ρ x) = some n) (hl : bndOf ρ 0 lo = some l) (hh : natOf (ρ hi) = some h) (hm : natOf (ρ mx) = some m)
    (h1 : l < h) (h2 : h ≤ m) (h3 : m ≤ n) (hk : K .undef H) : SemE P E ow o ρ H K :=
  SemE_of (fun call => by
    have c : l ≤ h ∧ h ≤ m ∧ m ≤ n ∧ (szOf P e).isSome = true := ⟨by omega, h2, h3, by rw [hs]; rfl⟩
    simp only [sem, ho, he, hx, hl, hh, hm, if_pos c]; exact if_neg (by omega)) hk
theorem E_ownAt {t e e' j : TypeId} {os : List (Nat × TypeId)} {x : Operand} {lo : Option Operand} {hi mx : Operand} {n size : Nat} (he : elemOfSlice P t = some e) (hs : szOf P e = some size) (ho : o.op = .slice t x lo (some hi) (some mx)) (hw : ow = (j, e') :: os) (hx : lenPV (ρ x) = some n) (hl : bndOf ρ 0 lo = some 0) (hh : natOf (ρ hi) = some 0) (hm : natOf (ρ mx) = some 0)
    (hk : K (.ms H.length 0 0 0 0) (H ++ [.mt e' 0 []])) : SemE P E ow o ρ H K :=
  SemE_of (fun call => by
    have c : 0 ≤ 0 ∧ 0 ≤ 0 ∧ 0 ≤ n ∧ (szOf P e).isSome = true := ⟨by omega, by omega, by omega, by rw [hs]; rfl⟩
    simp only [sem, ho, he, hx, hl, hh, hm, hw]; rw [if_pos c]; rfl) hk
theorem E_sliceMs {t e : TypeId} {x : Operand} {lo hi : Option Operand} {tt g l0 len cap : Nat} {v : PV} (he : elemOfSlice P t = some e) (hs : szOf P e = some 1) (ho : o.op = .slice t x lo hi none) (hx : ρ x = .ms tt g l0 len cap) (hc : cutMs ρ lo hi tt g l0 len cap = some v) (hk : K v H) : SemE P E ow o ρ H K :=
  SemE_of (fun call => by simp only [sem, ho, hx, he, hs, true_or, if_true, hc, Option.map_some]) hk
theorem cutMs_of {lo hi : Option Operand} {tt g l0 len cap l h : Nat} (hl : bndOf ρ 0 lo = some l) (hh : bndOf ρ len hi = some h) (h1 : l ≤ h) (h2 : h ≤ max len cap) (h3 : l = 0 ∨ l < h) : cutMs ρ lo hi tt g l0 len cap = some (.ms tt g (l0 + l) (h - l) (max len cap - l)) := by
  simp only [cutMs, hl, hh]; rw [if_pos ⟨h1, h2⟩, if_pos h3]
theorem cutMs_nil {lo hi : Option Operand} {tt g l0 len cap l : Nat} (hl : bndOf ρ 0 lo = some l) (hh : bndOf ρ len hi = some l) (h2 : l ≤ max len cap) (h3 : 0 < l) : cutMs ρ lo hi tt g l0 len cap = some (.dat (.lst [])) := by
  simp only [cutMs, hl, hh]; rw [if_pos ⟨Nat.le_refl _, h2⟩, if_neg (by omega)]
theorem E_indexMs {t e : TypeId} {x ix : Operand} {n : Int} {j tt g lo len cap : Nat} {k : IntKind} (he : elemOfSlice P t = some e) (hs : szOf P e = some 1) (ho : o.op = .indexAddr t x ix) (hi : ρ ix = .dat (.raw (.int k n))) (hx : ρ x = .ms tt g lo len cap)
    (hn : n = (j : Int)) (hj : j < len) (hk : K (.mp tt g (lo + j)) H) : SemE P E ow o ρ H K := by
  subst hn
  have h0 : (0 : Int) ≤ (j : Int) := Int.natCast_nonneg j
  exact SemE_of (fun call => by simp [sem, ho, hi, he, hs, h0, hx, hj, stepN]) hk
theorem E_loadMs {t e : TypeId} {x : Operand} {tt g j : Nat} {cs : List PV} {v : PV} (hg : aggT P t = some false) (hn : szOf P t = some 1) (ho : o.op = .load t x) (hx : ρ x = .mp tt g j) (hb : mtOf H tt = some (e, g, cs)) (hv : cs[j]? = some v) (hk : K v H) (hw : ow = [] := by kernel_rfl) (hfl : v.flat = true := by rfl) : SemE P E ow o ρ H K :=
  SemE_of (fun call => by simp [sem, loadSem, hw, ho, hg, hn, hx, hb, cut_one hv, ofCells, hv, hfl]) hk
theorem E_storeMs {t e : TypeId} {x y : Operand} {tt g j : Nat} {cs : List PV} {v : PV} (hn : szOf P t = some 1) (ho : o.op = .store t x y) (hx : ρ x = .mp tt g j) (hb : mtOf H tt = some (e, g, cs)) (hy : ρ y = v) (hc : v.cell = true) (hl : j < cs.length) (hw : ow = [])
    (hk : K (.tup []) (H.set tt (.mt e g (cs.set j v)))) (hfl : cs.all PV.flat = true) : SemE P E ow o ρ H K :=
  SemE_of (fun call => by simp [sem, storeSem, hw, ho, hn, hx, hb, hy, hc, hl, List.all_eq_true.1 hfl _ (List.getElem_mem hl)]) hk
theorem E_appendMs {ts e : TypeId} {x s : Operand} {bytes tt g lo len cap : Nat} {es : List PV} {v : PV} {H' : List Blk} (he : elemOfSlice P ts = some e) (hs : szOf P e = some 1) (hb : bytesOf P e = some bytes) (hz : (zeroOf P e).map Dat.num = some 1) (h0 : 0 < bytes)
    (ho : o.op = .call { callee := .builtin .append, args := #[s, x], argTypes := #[ts, ts] }) (hsv : ρ s = .ms tt g lo len cap) (hx : sourceOf H (ρ x) = some es) (ha : appendMs H e bytes tt g lo len cap es = some (v, H')) (hk : K v H') : SemE P E ow o ρ H K :=
  SemE_of (fun call => by
    have : builtinSem P .append #[ts, ts] [ρ s, ρ x] H = some (v, H') := by
      rw [hsv]
      cases hρ : ρ x with
      | dat d => cases d with
        | raw u => rw [hρ] at hx; cases u <;> simp [sourceOf, appended] at hx
        | _ => rw [hρ] at hx; simp [builtinSem, he, hb, hx, hs, h0, hz, ha]
      | _ => rw [hρ] at hx; simp [builtinSem, he, hb, hx, hs, h0, hz, ha]
    simp only [sem, ho, List.map_cons, List.map_nil, this]) hk
/-! maps, copies, what lists that are built at once need -/
theorem E_makeMap {t kt e : TypeId} (ht : P.underlying t = some (.map kt e)) (ho : o.op = .makeMap t none) (hk : K (.mapv H.length) (H ++ [.map []])) : SemE P E ow o ρ H K :=
  SemE_of (fun call => by simp only [sem, ho, ht]) hk
theorem E_mapAdd {t e : TypeId} {m k x : Operand} {i : Nat} {es : List (Value × PV)} {kv : Value} (ho : o.op = .mapUpdate t m k x) (hm : ρ m = .mapv i) (hb : mapOf H i = some es) (hf : findIn P ρ k t es = some (kv, e, none))
    (hk : K (.tup []) (H.set i (.map (es ++ [(kv, ρ x)])))) : SemE P E ow o ρ H K :=
  SemE_of (fun call => by simp only [sem, ho, hm, hb, hf]) hk
theorem E_mapSet {t e : TypeId} {m k x : Operand} {i j : Nat} {es : List (Value × PV)} {kv : Value} {v : PV} (ho : o.op = .mapUpdate t m k x) (hm : ρ m = .mapv i) (hb : mapOf H i = some es) (hf : findIn P ρ k t es = some (kv, e, some (j, v)))
    (hk : K (.tup []) (H.set i (.map (es.set j (kv, ρ x))))) : SemE P E ow o ρ H K :=
  SemE_of (fun call => by simp only [sem, ho, hm, hb, hf]) hk
theorem E_lookup {t e : TypeId} {m k : Operand} {ok : Bool} {i j : Nat} {es : List (Value × PV)} {kv : Value} {v : PV} (ho : o.op = .lookup t m k ok) (hm : ρ m = .mapv i) (hb : mapOf H i = some es) (hf : findIn P ρ k t es = some (kv, e, some (j, v)))
    (hk : K (if ok then .tup [v, boolPV true] else v) H) : SemE P E ow o ρ H K :=
  SemE_of (fun call => by simp only [sem, ho, hm, hb, hf]) hk
theorem E_lookupNo {t e : TypeId} {m k : Operand} {ok : Bool} {i : Nat} {es : List (Value × PV)} {kv : Value} {z : Dat} (hz : zeroOf P e = some z) (ho : o.op = .lookup t m k ok) (hm : ρ m = .mapv i) (hb : mapOf H i = some es) (hf : findIn P ρ k t es = some (kv, e, none))
    (hk : K (if ok then .tup [.dat z, boolPV false] else .dat z) H) : SemE P E ow o ρ H K :=
  SemE_of (fun call => by simp only [sem, ho, hm, hb, hf, hz, Option.map_some]) hk
theorem E_lenMap {t kt e : TypeId} {x : Operand} {i : Nat} {es : List (Value × PV)} (ht : P.underlying t = some (.map kt e)) (ho : o.op = .call { callee := .builtin .len, args := #[x], argTypes := #[t] }) (hx : ρ x = .mapv i) (hb : mapOf H i = some es) (hk : K (intPV es.length) H) : SemE P E ow o ρ H K :=
  SemE_of (fun call => by simp [sem, ho, builtinSem, ht, hx, hb]) hk
theorem E_cap {t u e : TypeId} {x : Operand} {tt cap : Nat} (ht : P.underlying t = some (.slice u)) (ho : o.op = .call { callee := .builtin .cap, args := #[x], argTypes := #[t] }) (hx : ρ x = .ms tt 0 0 0 cap) (hb : mtOf H tt = some (e, 0, [])) (hk : K (intPV 0) H) : SemE P E ow o ρ H K :=
  SemE_of (fun call => by simp [sem, ho, builtinSem, ht, hx, hb]) hk
theorem E_appendZeros {ts tn e : TypeId} {kn k : IntKind} {x s : Operand} {bytes tt cap n : Nat} {z : Dat} (he : elemOfSlice P ts = some e) (hn : P.underlying tn = some (.int kn)) (hs : szOf P e = some 1) (hb : bytesOf P e = some bytes) (hz : zeroOf P e = some z) (hzc : z.isCell = true) (h0 : 0 < bytes)
    (ho : o.op = .call { callee := .builtin .append, args := #[s, x], argTypes := #[ts, tn] }) (hsv : ρ s = .ms tt 0 0 0 cap) (hx : ρ x = .dat (.raw (.int k (n : Int)))) (hm : mtOf H tt = some (e, 0, [])) (h1 : 0 < n) (hr : n * bytes ≤ room)
    (hk : K (.ms tt 1 0 n n) (H.set tt (.mt e 1 (List.replicate n (.dat z))))) : SemE P E ow o ρ H K :=
  SemE_of (fun call => by
    have hl : (n : Int) ≤ 9223372036854775807 := by
      have : n ≤ n * bytes := Nat.le_mul_of_pos_right _ h0
      simp only [room] at hr; omega
    have : builtinSem P .append #[ts, tn] [ρ s, ρ x] H = some (.ms tt 1 0 n n, H.set tt (.mt e 1 (List.replicate n (.dat z)))) := by
      simp [builtinSem, hsv, hx, he, hn, hs, hb, hz, h0, hl, appendZeros, hm, hzc, h1, hr, Int.toNat_natCast]
    simp only [sem, ho, List.map_cons, List.map_nil, this]) hk
theorem E_copy {t t' e : TypeId} {x y : Operand} {i off len cap : Nat} {cs es ds : List PV} (he : elemOfSlice P t = some e) (hs : szOf P e = some 1) (ho : o.op = .call { callee := .builtin .copy, args := #[x, y], argTypes := #[t, t'] }) (hx : ρ x = .arr i off len cap) (hb : H[i]? = some (.box cs))
    (hy : copied H (ρ y) = some es) (hc : es.all PV.cell = true) (hp : paste cs off (es.take (min es.length len)) = some ds) (hk : K (intPV ((min es.length len : Nat) : Int)) (H.set i (.box ds))) : SemE P E ow o ρ H K :=
  SemE_of (fun call => by
    have : builtinSem P .copy #[t, t'] [ρ x, ρ y] H = some (intPV ((min es.length len : Nat) : Int), H.set i (.box ds)) := by
      rw [hx]; simp only [builtinSem]; simp [he, hs, hb, hy]; simp only [hp]; simpa using hc
    simp only [sem, ho, List.map_cons, List.map_nil, this]) hk
theorem E_sliceArr {t e : TypeId} {x : Operand} {lo hi : Option Operand} {size i off len cap : Nat} {v : PV} (he : elemOfSlice P t = some e) (hs : szOf P e = some size) (ho : o.op = .slice t x lo hi none) (hx : ρ x = .arr i off len cap) (hc : cutArr ρ lo hi size i off len cap = some v) (hk : K v H) : SemE P E ow o ρ H K :=
  SemE_of (fun call => by simp only [sem, ho, hx, he, hs, hc, Option.map_some]) hk
theorem appendMs_nil {e bytes tt g len cap : Nat} : appendMs H e bytes tt g 0 len cap [] = some (.ms tt g 0 len cap, H) := by simp [appendMs]
theorem appendMs_in {e bytes tt g len cap : Nat} {es cs : List PV} (hm : mtOf H tt = some (e, g, cs)) (hc : es.all PV.cell = true) (h0 : 0 < es.length) (h : len + es.length ≤ cs.length) :
    appendMs H e bytes tt g 0 len cap es = some (.ms tt g 0 (len + es.length) (max cap (len + es.length)), H.set tt (.mt e g (cs.take len ++ es ++ cs.drop (len + es.length)))) := by
  have hn : es.isEmpty = false := by cases es with | nil => simp at h0 | cons => rfl
  simp [appendMs, hm, hc, hn, h]
theorem appendMs_grow {e bytes tt g len cap : Nat} {es cs : List PV} (hm : mtOf H tt = some (e, g, cs)) (hc : es.all PV.cell = true) (h0 : 0 < es.length) (hl : len = cs.length) (h : (len + es.length) * bytes ≤ room) :
    appendMs H e bytes tt g 0 len cap es = some (.ms tt (g + 1) 0 (len + es.length) (len + es.length), H.set tt (.mt e (g + 1) (cs ++ es))) := by
  have hn : es.isEmpty = false := by cases es with | nil => simp at h0 | cons => rfl
  subst hl
  have hne : ¬ (cs.length + es.length ≤ cs.length) := by omega
  simp only [appendMs, hm, hc, hn, and_self, if_true, Bool.false_eq_true, if_false, if_neg hne, true_and, if_pos h]
theorem E_clearMs {ts e : TypeId} {x : Operand} {tt g lo len cap : Nat} {cs : List PV} {z : Dat} (he : elemOfSlice P ts = some e) (hs : szOf P e = some 1) (hz : zeroOf P e = some z) (hzc : z.isCell = true) (ho : o.op = .call { callee := .builtin .clear, args := #[x], argTypes := #[ts] }) (hx : ρ x = .ms tt g lo len cap) (hm : mtOf H tt = some (e, g, cs))
    (h0 : 0 < len) (h : lo + len ≤ cs.length) (hk : K (.tup []) (H.set tt (.mt e g (cs.take lo ++ List.replicate len (.dat z) ++ cs.drop (lo + len))))) : SemE P E ow o ρ H K :=
  SemE_of (fun call => by simp [sem, ho, builtinSem, hx, he, hz, hm, hzc, hs, h0, h]) hk
theorem E_alloc {e : TypeId} {z : Dat} {cs : List PV} {bs : List Blk} (hz : zeroOf P e = some z) (ho : o.op = .alloc e) (ht : tokCells (H.length + 1) (z.cells.map .dat) ow = some (cs, bs)) (hk : K (.ptr H.length 0) (H ++ .box cs :: bs)) : SemE P E ow o ρ H K :=
  SemE_of (fun call => by simp only [sem, ho, hz, ht]) hk
theorem E_box {e : TypeId} {x : Operand} {cs : List PV} (ho : o.op = .box e x) (hx : (ρ x).cells = cs) (hc : cs.all PV.cell = true) (hk : K (.ptr H.length 0) (H ++ [.box cs])) (hw : ow = [] := by kernel_rfl) : SemE P E ow o ρ H K := by
  subst hw; exact
  SemE_of (fun call => by simp only [sem, ho, hx, hc, if_true]) hk
theorem E_loadp {t : TypeId} {x : Operand} {g : Bool} {n i off : Nat} {cs ds : List PV} {v : PV} (hg : aggT P t = some g) (hn : szOf P t = some n) (ho : o.op = .load t x) (hx : ρ x = .ptr i off) (hb : H[i]? = some (.box cs))
    (hc : cut cs off n = some ds) (hv : ofCells g ds = some v) (hk : K v H) (hw : ow = [] := by kernel_rfl) : SemE P E ow o ρ H K :=
  SemE_of (fun call => by simp only [sem, loadSem, hw, ho, hg, hn, hx, hb, hc, Option.bind_some, hv, Option.map_some]) hk
theorem E_loadi {t : TypeId} {x : Operand} {g : Bool} {n : Nat} {cs ds : List Dat} {d : Dat} (hg : aggT P t = some g) (hn : szOf P t = some n) (ho : o.op = .load t x) (hx : ρ x = .iptr cs)
    (hc : cut cs 0 n = some ds) (hv : ofCellsD g ds = some d) (hk : K (.dat d) H) (hw : ow = [] := by kernel_rfl) : SemE P E ow o ρ H K :=
  SemE_of (fun call => by simp only [sem, loadSem, hw, ho, hg, hn, hx, hc, Option.bind_some, hv, Option.map_some]) hk
theorem paste_one {cs : List PV} {off : Nat} {v : PV} (h : off < cs.length) : paste cs off [v] = some (cs.set off v) := by
  unfold paste
  rw [if_pos (by simp; omega)]
  congr 1
  rw [List.set_eq_take_append_cons_drop, if_pos h]
  simp
theorem E_loadArr {t : TypeId} {x : Operand} {i off : Nat} {cs : List PV} {v : PV} (hg : aggT P t = some false) (hn : szOf P t = some 1) (ho : o.op = .load t x) (hx : ρ x = .ptr i off) (hb : H[i]? = some (.box cs)) (hv : cs[off]? = some v) (hk : K v H) (hw : ow = [] := by kernel_rfl) : SemE P E ow o ρ H K :=
  E_loadp (ds := [v]) hg hn ho hx hb (cut_one hv) rfl hk hw
theorem E_store {t : TypeId} {x y : Operand} {n i off : Nat} {cs ds vs : List PV} (hn : szOf P t = some n) (ho : o.op = .store t x y) (hx : ρ x = .ptr i off) (hb : H[i]? = some (.box cs)) (hy : (ρ y).cells = vs)
    (hl : vs.length = n) (hc : vs.all PV.cell = true) (hp : paste cs off vs = some ds) (hw : ow = []) (hk : K (.tup []) (H.set i (.box ds))) : SemE P E ow o ρ H K :=
  SemE_of (fun call => by simp only [sem, storeSem, hw, ho, hn, hx, hb, hy, hl, hc, hp, and_self, if_true, Option.map_some]) hk
theorem E_storeArr {t : TypeId} {x y : Operand} {i off : Nat} {cs : List PV} {v : PV} (hn : szOf P t = some 1) (ho : o.op = .store t x y) (hx : ρ x = .ptr i off) (hb : H[i]? = some (.box cs)) (hy : (ρ y).cells = [v]) (hc : v.cell = true) (hl : off < cs.length) (hw : ow = [])
    (hk : K (.tup []) (H.set i (.box (cs.set off v)))) : SemE P E ow o ρ H K :=
  E_store (vs := [v]) hn ho hx hb hy rfl (by simp [hc]) (paste_one hl) hw hk
theorem E_fieldp {s : TypeId} {x : Operand} {f i off fo : Nat} (hf : fieldOff P s f = some fo) (ho : o.op = .fieldAddr s x f) (hx : ρ x = .ptr i off) (hk : K (.ptr i (off + fo)) H) : SemE P E ow o ρ H K := by
  obtain ⟨fs, fd, k, h1, h2, h3, rfl⟩ := fieldOff_some hf
  exact SemE_of (fun call => by simp only [sem, ho, h1, h2, h3, hx]) hk
theorem E_fieldi {s : TypeId} {x : Operand} {f fo : Nat} {cs : List Dat} (hf : fieldOff P s f = some fo) (ho : o.op = .fieldAddr s x f) (hx : ρ x = .iptr cs) (hk : K (.iptr (cs.drop fo)) H) : SemE P E ow o ρ H K := by
  obtain ⟨fs, fd, k, h1, h2, h3, rfl⟩ := fieldOff_some hf
  exact SemE_of (fun call => by simp only [sem, ho, h1, h2, h3, hx]) hk
theorem E_len {t : TypeId} {e : TypeId} {x : Operand} {n : Nat} (ht : P.underlying t = some (.slice e)) (ho : o.op = .call { callee := .builtin .len, args := #[x], argTypes := #[t] }) (hx : lenPV (ρ x) = some n) (hk : K (intPV n) H) : SemE P E ow o ρ H K :=
  SemE_of (fun call => by simp [sem, ho, builtinSem, ht, hx]) hk
theorem E_index {t e : TypeId} {x ix : Operand} {k : IntKind} {n : Int} {j size : Nat} {es : List Dat} {d : Dat} (he : elemOfSlice P t = some e) (hs : szOf P e = some size) (ho : o.op = .indexAddr t x ix) (hi : ρ ix = .dat (.raw (.int k n))) (hx : asLst (ρ x) = some es)
    (hn : n = (j : Int)) (hd : es[j]? = some d) (hz : d.num = size) (hk : K (.iptr d.cells) H) : SemE P E ow o ρ H K := by
  refine SemE_of (fun call => ?_) hk
  subst hn
  have h0 : (0 : Int) ≤ (j : Int) := Int.natCast_nonneg j
  simp only [sem, ho, hi, he, hs, h0, if_true, Int.toNat_natCast]
  cases hρ : ρ x with
  | dat d' => cases d' with
    | lst es' => rw [hρ] at hx; cases hx; simp [hd, hz]
    | _ => rw [hρ] at hx; cases hx
  | vec t' es' => rw [hρ] at hx; cases hx; simp [hd, hz]
  | _ => rw [hρ] at hx; cases hx

/-- an operation on plain values -/
theorem E_plain {p : PV} (hp : ∀ call, sem P call ow o ρ H = plainSem P o ρ H) (hv : plainSem P o ρ H = some (p, H)) (hk : K p H) : SemE P E ow o ρ H K :=
  SemE_of (fun call => (hp call).trans hv) hk

theorem evalP_bind {P : Program} {α β : Type} : ∀ (s : Sem α) (f : α → Sem β), evalP P (s >>= f) = (evalP P s).bind fun a => evalP P (f a)
  | .pure a, f => rfl
  | .program k, f => evalP_bind (k P) f
  | .load .., f => rfl
  | .store .., f => rfl
  | .new .., f => rfl
  | .shape .., f => rfl
  | .freeze .., f => rfl
  | .frozen .., f => rfl
  | .getObj .., f => rfl
  | .setObj .., f => rfl
  | .choose .., f => rfl
  | .sys .., f => rfl
  | .mark .., f => rfl
  | .halt .., f => rfl

/-- what an operator makes of two ints -/
def intBin (op : BinOp) (k : IntKind) (a b : Int) : Option Value :=
  match op with
  | .add => some (.int k (k.wrap (a + b)))
  | .sub => some (.int k (k.wrap (a - b)))
  | .mul => some (.int k (k.wrap (a * b)))
  | .quo => if b = 0 then none else some (.int k (k.wrap (a.tdiv b)))
  | .rem => if b = 0 then none else some (.int k (a.tmod b))
  | .eql => some (.bool (a == b))
  | .neq => some (.bool (a != b))
  | .lss => some (.bool (decide (a < b)))
  | .leq => some (.bool (decide (a ≤ b)))
  | .gtr => some (.bool (decide (a > b)))
  | .geq => some (.bool (decide (a ≥ b)))
  | _ => none

theorem exec_int {op : BinOp} {t yt : TypeId} {x y : Operand} {k : IntKind} {a b : Int} {r : Value} {ρ' : Operand → Value} (ho : o.op = .binOp op t x y yt) (hx : ρ' x = .int k a) (hy : ρ' y = .int k b) (hr : intBin op k a b = some r) :
    evalP P (execOp ρ' o) = some (.value r) ∧ isRaw r = true ∧ backOf r = some (.dat (.raw r)) := by
  simp only [execOp, ho, hx, hy]
  cases op <;> simp only [intBin, Option.some.injEq, reduceCtorEq] at hr <;> try (subst hr; cases k <;> exact ⟨rfl, rfl, rfl⟩)
  all_goals
    split at hr
    · cases hr
    · rename_i hb
      cases hr
      cases k <;> simp [eqGuard, binOp, Op.intDiv, hb, evalP, Pure.pure, Bind.bind, Sem.bind, isRaw, backOf, rawOf]

theorem intBin_back {op : BinOp} {k : IntKind} {a b : Int} {r : Value} (hr : intBin op k a b = some r) : backOf r = some (.dat (.raw r)) := by
  cases op <;> simp only [intBin, Option.some.injEq, reduceCtorEq] at hr <;> try (subst hr; rfl)
  all_goals
    split at hr
    · cases hr
    · cases hr; rfl

theorem rem_ok {k : IntKind} {a b : Int} (h : b ≠ 0) : intBin .rem k a b = some (.int k (a.tmod b)) := if_neg h
theorem quo_ok {k : IntKind} {a b : Int} (h : b ≠ 0) : intBin .quo k a b = some (.int k (k.wrap (a.tdiv b))) := if_neg h

theorem plain_bin {op : BinOp} {t yt : TypeId} {x y : Operand} {u v r : Value} (ho : o.op = .binOp op t x y yt) (hx : (ρ x).toVal = some u) (hy : (ρ y).toVal = some v) {p : PV} (he : ∀ ρ' : Operand → Value, ρ' x = u → ρ' y = v → evalP P (execOp ρ' o) = some (.value r))
    (hb : backOf r = some p) : plainSem P o ρ H = some (p, H) := by
  have := he (fun z => ((ρ z).toVal).getD undef) (by simp [hx]) (by simp [hy])
  simp only [plainSem, ho, Op.operands]
  simp [hx, hy, this, hb]

theorem toVal_fnNil {op : BinOp} {t : TypeId} {p q : PV} {u : Value} (h : p.toVal = some u) : fnNil P op t p q = none := by
  cases p <;> first | rfl | (simp [PV.toVal] at h)

theorem toVal_lstNil {op : BinOp} {t : TypeId} {p : PV} {y : Operand} {u : Value} (h : p.toVal = some u) : lstNil P op t p y = none := by
  unfold lstNil
  split
  · cases p with
    | dat d => cases d with
      | lst es => simp [PV.toVal] at h
      | raw v => rfl
      | agg cs => rfl
    | _ => simp [PV.toVal] at h
  · rfl

theorem E_int {op : BinOp} {t yt : TypeId} {x y : Operand} {k : IntKind} {a b : Int} {r : Value} (ho : o.op = .binOp op t x y yt) (hx : ρ x = .dat (.raw (.int k a))) (hy : ρ y = .dat (.raw (.int k b))) (hr : intBin op k a b = some r)
    (hk : K (.dat (.raw r)) H) : SemE P E ow o ρ H K := by
  have hx' : (ρ x).toVal = some (.int k a) := by rw [hx]; rfl
  have hy' : (ρ y).toVal = some (.int k b) := by rw [hy]; rfl
  exact E_plain (fun call => by simp only [sem, ho, toVal_fnNil hx', toVal_lstNil hx']) (plain_bin ho hx' hy' (fun ρ' h1 h2 => (exec_int ho h1 h2 hr).1) (intBin_back hr)) hk

theorem E_not {t : TypeId} {x : Operand} {b : Bool} (ho : o.op = .unOp .not t x) (hx : ρ x = .dat (.raw (.bool b))) (hk : K (.dat (.raw (.bool !b))) H) : SemE P E ow o ρ H K := by
  refine E_plain (fun call => by simp only [sem, ho]) ?_ hk
  simp only [plainSem, ho, Op.operands]
  simp [hx, PV.toVal, execOp, ho]
  rfl
theorem plain_un {op : UnOp} {t : TypeId} {x : Operand} {u r : Value} (ho : o.op = .unOp op t x) (hx : (ρ x).toVal = some u) {p : PV} (he : ∀ ρ' : Operand → Value, ρ' x = u → evalP P (execOp ρ' o) = some (.value r))
    (hb : backOf r = some p) : plainSem P o ρ H = some (p, H) := by
  have := he (fun z => ((ρ z).toVal).getD undef) (by simp [hx])
  simp only [plainSem, ho, Op.operands]
  simp [hx, this, hb]
theorem E_neg {t : TypeId} {x : Operand} {k : IntKind} {n : Int} (ho : o.op = .unOp .neg t x) (hx : ρ x = .dat (.raw (.int k n))) (hk : K (.dat (.raw (.int k (k.wrap (0 - n))))) H) : SemE P E ow o ρ H K :=
  E_plain (fun call => by simp only [sem, ho]) (plain_un ho (u := .int k n) (r := .int k (k.wrap (0 - n))) (by rw [hx]; rfl) (fun ρ' h => by simp only [execOp, ho, h]; rfl) rfl) hk
theorem E_pick {c x y : Operand} {t : Bool} (ho : o.op = .pick c x y) (ht : ρ c = .dat (.raw (.bool t))) (hk : K (if t then ρ x else ρ y) H) : SemE P E ow o ρ H K :=
  SemE_of (fun call => by simp only [sem, ho, ht, boolOf, Option.map_some]) hk
theorem E_extract {x : Operand} {n : Nat} {vs : List PV} {p : PV} (ho : o.op = .extract x n) (hx : ρ x = .tup vs) (hp : vs[n]? = some p) (hk : K p H) : SemE P E ow o ρ H K :=
  SemE_of (fun call => by simp only [sem, ho, hx, hp, Option.map_some]) hk
theorem E_field {t : TypeId} {x : Operand} {f off size : Nat} {g : Bool} {cs ds : List Dat} {d : Dat} (hf : fieldPart P t f = some (off, size, g))
    (ho : o.op = .field t x f) (hx : ρ x = .dat (.agg cs)) (hc : cut cs off size = some ds) (hd : ofCellsD g ds = some d) (hk : K (.dat d) H) : SemE P E ow o ρ H K := by
  obtain ⟨fs, fd, h1, h2, h3, h4, rfl⟩ := fieldPart_some hf
  exact SemE_of (fun call => by simp [sem, ho, hx, h1, h2, h3, h4, hc, hd]) hk
theorem E_func {f : FuncId} (ho : o.op = .makeFunc (.func f) #[] #[]) (hk : K (.dat (.raw (.func (.func f) #[] #[]))) H) : SemE P E ow o ρ H K :=
  SemE_of (fun call => by simp [sem, ho]) hk
theorem E_closure {f : FuncId} {cap : Array Operand} {cs : List PV} (ho : o.op = .makeFunc (.func f) #[] cap) (hne : cap.isEmpty = false) (hc : cap.toList.map ρ = cs) (hk : K (.fn f cs) H) : SemE P E ow o ρ H K :=
  SemE_of (fun call => by simp only [sem, ho, hne, hc]; rfl) hk
theorem E_nilp {x : Operand} {i off : Nat} (ho : o.op = .nilCheck x) (hx : ρ x = .ptr i off) (hk : K (.ptr i off) H) : SemE P E ow o ρ H K :=
  SemE_of (fun call => by simp only [sem, ho, hx]) hk
theorem E_append {x s : Operand} {ts e : TypeId} {size bytes t n : Nat} {xs es : List Dat} (he : elemOfSlice P ts = some e) (hs : szOf P e = some size) (hb : bytesOf P e = some bytes) (hz : (zeroOf P e).map Dat.num = some size) (h0 : 0 < size ∧ 0 < bytes)
    (ho : o.op = .call { callee := .builtin .append, args := #[s, x], argTypes := #[ts, ts] }) (hx : appended H (ρ x) = some es) (hv : ρ s = .vec t xs) (ht : H[t]? = some (.tok e n)) (hn : n = xs.length) (hf : xs.all (Dat.fits size) = true) (hg : es.all (Dat.fits size) = true)
    (hr : (xs.length + es.length) * bytes ≤ room) (hk : K (.vec t (xs ++ es)) (H.set t (.tok e (xs.length + es.length)))) : SemE P E ow o ρ H K := by
  subst hn
  refine SemE_of (fun call => ?_) hk
  simp only [sem, ho, List.map_cons, List.map_nil]
  have : builtinSem P .append #[ts, ts] [ρ s, ρ x] H = some (.vec t (xs ++ es), H.set t (.tok e (xs.length + es.length))) := by
    unfold builtinSem
    simp [he, hs, hb, hx, h0, hz, appendTo, hg, hv, ht, hf, hr]
  rw [this]
/-- where the fields of a struct lie -/
def placesL (P : Program) (t : TypeId) : Option (List (Nat × Nat)) := (fieldsOf P t).bind fun fs => fs.mapM fun f => (P.info? f.type).map fun i => (f.offset, i.size)
theorem places_of {t : TypeId} {l : List (Nat × Nat)} (h : placesL P t = some l) : places P t = some fun i => l[i]? := by
  unfold placesL fieldsOf at h
  unfold places
  split at h
  · rename_i fs hu
    simp only [Option.bind_some] at h
    simp [hu, h]
  · cases h
theorem E_build {t : TypeId} {parts : Array (Nat × Operand)} {z : Dat} {pl : List (Nat × Nat)} {cs cs' : List PV} {bs : List Blk} (hz : zeroOf P t = some z) (hp : placesL P t = some pl) (ho : o.op = .build t parts)
    (hf : fillA (fun i => pl[i]?) (z.cells.map PV.dat) (parts.toList.map fun (i, x) => (i, (ρ x).cells)) = some cs) (hc : parts.toList.all (fun (_, x) => (ρ x).cells.all PV.cell) = true) (hu : (ow.all fun (j, _) => uncovered (fun i => pl[i]?) j parts.toList) = true)
    (ht : tokCells H.length cs ow = some (cs', bs)) {v : PV} (hv : mkAgg cs' = v) (hk : K v (H ++ bs)) (hg : giveHint ow = false := by kernel_rfl) : SemE P E ow o ρ H K :=
  SemE_of (fun call => by simp only [sem, ho, buildSem, hg, Bool.false_eq_true, if_false, hz, places_of hp, hf, hc, hu, ht, if_true, hv]) hk
theorem fnParts_pures {ow : List (Nat × TypeId)} {ρ : Operand → PV} {H : List Blk} : ∀ {ps : List (Nat × Operand)} {ds : List Dat}, pures H (ps.map fun (_, x) => ρ x) = some ds → fnParts ow ρ ps = false
  | [], _, _ => by simp [fnParts]
  | q :: ps, ds, h => by
    cases hq : ρ q.2 with
    | fn f cs => simp [pures, hq, pure1, pureC] at h
    | _ => simp [fnParts, hq, PV.isFn]
theorem E_list {t e : TypeId} {len size : Nat} {parts : Array (Nat × Operand)} {ds : List Dat} (he : elemOfSlice P t = some e) (hs : szOf P e = some size) (hz : (zeroOf P e).isSome = true) (ho : o.op = .buildSlice t len parts) (hw : ow = [])
    (hp : pures H (parts.toList.map fun (_, x) => ρ x) = some ds) (hc : parts.size = len ∧ dense 0 parts.toList = true) (hf : ds.all (Dat.fits size) = true) (hl : 0 < size ∧ len * size ≤ 16777216) (hnl : (parts.toList.any fun (_, x) => (ρ x).lends) = false) (hk : K (.dat (.lst ds)) H) : SemE P E ow o ρ H K :=
  SemE_of (fun call => by simp only [sem, ho, he, fnParts_pures hp, hs, hp, hz, hc, hf, hl, hnl, hw]; simp) hk
theorem E_listOwn {t e j : Nat} {len size : Nat} {parts : Array (Nat × Operand)} {ds : List Dat} {os : List (Nat × TypeId)} (he : elemOfSlice P t = some e) (hs : szOf P e = some size) (hz : (zeroOf P e).isSome = true) (ho : o.op = .buildSlice t len parts) (hw : ow = (j, e) :: os)
    (hp : pures H (parts.toList.map fun (_, x) => ρ x) = some ds) (hc : parts.size = len ∧ dense 0 parts.toList = true) (hf : ds.all (Dat.fits size) = true) (hl : 0 < size ∧ len * size ≤ 16777216) (hnl : (parts.toList.any fun (_, x) => (ρ x).lends) = false) (hk : K (.vec H.length ds) (H ++ [.tok e ds.length])) (hj : (j == 1000) = false := by rfl) : SemE P E ow o ρ H K :=
  SemE_of (fun call => by simp only [sem, ho, he, fnParts_pures hp, hs, hp, hz, hc, hf, hl, hnl, hw, show (j = 1000) = False from eq_false (by simpa using hj)]; simp) hk
/-- an empty list of one's own -/
theorem E_listMt {t e : TypeId} {len size : Nat} {parts : Array (Nat × Operand)} {os : List (Nat × TypeId)} (he : elemOfSlice P t = some e) (hs : szOf P e = some size) (hz : (zeroOf P e).isSome = true) (ho : o.op = .buildSlice t len parts) (hw : ow = (1000, e) :: os)
    (hp : parts = #[]) (hc : len = 0) (hl : 0 < size) (hk : K (.ms H.length 0 0 0 0) (H ++ [.mt e 0 []])) : SemE P E ow o ρ H K :=
  SemE_of (fun call => by
    subst hp; subst hc
    have h1 : pures H (([] : List (Nat × Operand)).map fun (_, x) => ρ x) = some [] := rfl
    simp only [sem, ho, he, fnParts_pures h1, hs, h1, hz, hw]; simp [hl, dense]) hk
/-- a list against nil -/
theorem E_lstNil {op : BinOp} {t yt : TypeId} {x y : Operand} {p : PV} {b : Bool} (ho : o.op = .binOp op t x y yt) (hx : ρ x = p) (hf : fnNil P op t p (ρ y) = none) (hb : lstNil P op t p y = some b) (hk : K (boolPV b) H) : SemE P E ow o ρ H K :=
  SemE_of (fun call => by simp only [sem, ho, hx, hf, hb]) hk
theorem E_slice {t e : TypeId} {x : Operand} {lo hi : Option Operand} {size l h : Nat} {es : List Dat} (he : elemOfSlice P t = some e) (hs : szOf P e = some size) (ho : o.op = .slice t x lo hi none) (hx : ρ x = .dat (.lst es)) (hl : bndOf ρ 0 lo = some l) (hh : bndOf ρ es.length hi = some h)
    (hlh : l ≤ h ∧ h ≤ es.length) (hz : (l == 0 || es.all fun d => d.num == size) = true) (hk : K (.dat (.lst ((es.take h).drop l))) H) : SemE P E ow o ρ H K :=
  SemE_of (fun call => by simp only [sem, ho, hx, he, hs, hl, hh, hlh, hz]; simp) hk
theorem E_make {t e : TypeId} {xl xc : Operand} {z : Dat} {bytes : Nat} {l c : Int} (he : elemOfSlice P t = some e) (hz : zeroOf P e = some z) (hs : szOf P e = some 1) (hb : bytesOf P e = some bytes) (ho : o.op = .makeSlice t xl xc) (hl : ρ xl = .dat (.raw (.int .i64 l))) (hc : ρ xc = .dat (.raw (.int .i64 c)))
    (h : 0 ≤ l ∧ l ≤ c ∧ c * bytes ≤ room ∧ c ≤ 9223372036854775807 ∧ z.isCell = true) (hk : K (.arr H.length 0 l.toNat c.toNat) (H ++ [.box (List.replicate c.toNat (.dat z))])) (hw : ow = [] := by rfl) : SemE P E ow o ρ H K :=
  SemE_of (fun call => by simp only [sem, ho, hw, he, hz, hs, hb, hl, hc, h]; simp) hk
theorem E_indexArr {t e : TypeId} {x ix : Operand} {n : Int} {j size i off len cap : Nat} {k : IntKind} (he : elemOfSlice P t = some e) (hs : szOf P e = some size) (ho : o.op = .indexAddr t x ix) (hi : ρ ix = .dat (.raw (.int k n))) (hx : ρ x = .arr i off len cap)
    (hn : n = (j : Int)) (hj : j < len) (hk : K (.ptr i (off + j * size)) H) : SemE P E ow o ρ H K := by
  subst hn
  have h0 : (0 : Int) ≤ (j : Int) := Int.natCast_nonneg j
  exact SemE_of (fun call => by simp only [sem, ho, hi, he, hs, h0, if_true, Int.toNat_natCast, hx, hj]) hk
theorem E_index0 {t e : TypeId} {x ix : Operand} {n : Int} {j i len cap : Nat} {k : IntKind} (he : elemOfSlice P t = some e) (hs : szOf P e = some 1) (ho : o.op = .indexAddr t x ix) (hi : ρ ix = .dat (.raw (.int k n))) (hx : ρ x = .arr i 0 len cap)
    (hn : n = (j : Int)) (hj : j < len) (hk : K (.ptr i j) H) : SemE P E ow o ρ H K :=
  E_indexArr he hs ho hi hx hn hj (by rw [Nat.zero_add, Nat.mul_one]; exact hk)
theorem constOf_int (k : IntKind) (n : Int) : constOf (.int k n) = .dat (.raw (.int k n)) := rfl
theorem constOf_bool (b : Bool) : constOf (.bool b) = .dat (.raw (.bool b)) := rfl
theorem constOf_str (b : ByteArray) : constOf (.string b) = .dat (.raw (.string b)) := rfl
theorem constOf_nil : constOf (.slice none 0 0) = .dat (.lst []) := rfl
theorem constOf_nilFunc : constOf .nilFunc = .dat (.raw .nilFunc) := rfl
theorem ev_zero (a : PV) (s : List PV) : ev (a :: s) (.tmp 0) = a := rfl
theorem ev_succ (a : PV) (s : List PV) (n : Nat) : ev (a :: s) (.tmp (n + 1)) = ev s (.tmp n) := rfl
theorem ev_const (s : List PV) (v : Value) : ev s (.const v) = constOf v := rfl
theorem ev_func (s : List PV) (f : FuncId) : ev s (.func f) = .dat (.raw (.func (.func f) #[] #[])) := rfl
theorem putS_some (s : List PV) (d : Nat) (v : PV) : putS s (some d) v = s.set d v := rfl
theorem putS_none (s : List PV) (v : PV) : putS s none v = s := rfl

/-! the same, by short names: each operation's line names them all -/
section
variable {α β : Type}
theorem n0 (s : List PV) (d : Nat) (v : PV) : putS s (some d) v = s.set d v := rfl
theorem n1 (s : List PV) (v : PV) : putS s none v = s := rfl
theorem n2 (a : α) (s : List α) (v : α) : (a :: s).set 0 v = v :: s := rfl
theorem n3 (a : α) (s : List α) (n : Nat) (v : α) : (a :: s).set (n + 1) v = a :: s.set n v := rfl
theorem n4 (a : PV) (s : List PV) : ev (a :: s) (.tmp 0) = a := rfl
theorem n5 (a : PV) (s : List PV) (n : Nat) : ev (a :: s) (.tmp (n + 1)) = ev s (.tmp n) := rfl
theorem n6 (s : List PV) (v : Value) : ev s (.const v) = constOf v := rfl
theorem n7 (s : List PV) (f : FuncId) : ev s (.func f) = .dat (.raw (.func (.func f) #[] #[])) := rfl
theorem n8 (k : IntKind) (n : Int) : constOf (.int k n) = .dat (.raw (.int k n)) := rfl
theorem n9 (b : Bool) : constOf (.bool b) = .dat (.raw (.bool b)) := rfl
theorem m0 : constOf (.slice none 0 0) = .dat (.lst []) := rfl
theorem m1 : constOf .nilFunc = .dat (.raw .nilFunc) := rfl
theorem m2 : ([] : List α).length = 0 := rfl
theorem m3 (a : α) (s : List α) : (a :: s).length = s.length + 1 := rfl
theorem m4 (s : List α) : [] ++ s = s := rfl
theorem m5 (a : α) (s t : List α) : (a :: s) ++ t = a :: (s ++ t) := rfl
theorem m6 (f : α → β) (a : α) (s : List α) : (a :: s).map f = f a :: s.map f := rfl
theorem m7 (f : α → β) : ([] : List α).map f = [] := rfl
theorem m8 (s : List α) : s.drop 0 = s := rfl
theorem m9 (a : α) (s : List α) (n : Nat) : (a :: s).drop (n + 1) = s.drop n := rfl
theorem o0 (s : List α) : s.take 0 = [] := rfl
theorem o1 (a : α) (s : List α) (n : Nat) : (a :: s).take (n + 1) = a :: s.take n := rfl
theorem o2 (n : Nat) : n + 0 = n := rfl
theorem o3 : (false = true) = False := Bool.false_eq_true
theorem o4 (b : ByteArray) : constOf (.string b) = .dat (.raw (.string b)) := rfl
end

theorem OpsE_eq {hn : Hint} {r i : Nat} {ops : Array Oper} {os : List Oper} {Q : St → Prop} {st st' : St} (h : st = st') (k : OpsE P E hn r ops i os st' Q) : OpsE P E hn r ops i os st Q := h ▸ k
theorem DrawE_eq {hn : Hint} {r i : Nat} {ops : Array Oper} {os : List Oper} {fl : List Nat} {Q : List Nat → St → Prop} {st st' : St} (h : st = st') (k : DrawE P E hn r ops i os st' fl Q) : DrawE P E hn r ops i os st fl Q := h ▸ k
theorem R_eq {hn : Hint} {rg : Bool} {c : Code} {Q : Ex → St → Prop} {st st' : St} (h : st = st') (k : R P E hn rg c st' Q) : R P E hn rg c st Q := h ▸ k
theorem RL_eq {hn : Hint} {rg : Bool} {b : Code} {h0 : Nat} {Q : Ex → St → Prop} {st st' : St} (h : st = st') (k : RL P E hn rg b h0 st' Q) : RL P E hn rg b h0 st Q := h ▸ k
end
end Go.Pm
