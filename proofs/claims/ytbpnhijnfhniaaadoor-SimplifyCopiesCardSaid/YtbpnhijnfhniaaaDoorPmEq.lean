/-
  The pure machine: comparing structs without lists, and closures with nil.
-/
import Derived.Test.YtbpnhijnfhniaaaDoorPmOp
import Derived.Laws.StructEq
namespace Go.Pm
open Go
set_option linter.unusedVariables false

theorem evalP_pure {P : Program} {α : Type} (a : α) : evalP P (pure a : Sem α) = some a := rfl
theorem evalP_program {P : Program} : evalP P program = some P := rfl
theorem evalP_underlying {P : Program} {t : TypeId} {u : TypeDesc} (h : P.underlying t = some u) : evalP P (underlying t) = some u := by
  unfold underlying
  rw [evalP_bind, evalP_program]
  simp only [Option.bind_some, h]; rfl

/-- the comparison of two plain cells of type t -/
def scalarEq (P : Program) (t : TypeId) (x y : Value) : Option Bool :=
  match P.underlying t, x, y with
  | some .bool, .bool a, .bool b => some (a == b)
  | some (.int _), .int k a, .int k' b => if k = k' then some (a == b) else none
  | some .string, .string a, .string b => some (a == b)
  | _, _, _ => none
theorem scalarEq_ok {P : Program} {t : TypeId} {x y : Value} {b : Bool} (d : Nat) (h : scalarEq P t x y = some b) : evalP P (Op.equalIn (d + 1) t x y) = some b := by
  unfold scalarEq at h
  split at h
  · rename_i hu; cases h; simp only [Op.equalIn, evalP_bind, evalP_underlying hu, Option.bind_some]; rfl
  · rename_i hu
    split at h
    · rename_i hk; subst hk; cases h; simp only [Op.equalIn, evalP_bind, evalP_underlying hu, Option.bind_some, if_true]; rfl
    · cases h
  · rename_i hu; cases h; simp only [Op.equalIn, evalP_bind, evalP_underlying hu, Option.bind_some]; rfl
  · cases h
theorem scalarEq_type {P : Program} {t : TypeId} {x y : Value} {b : Bool} (h : scalarEq P t x y = some b) : evalP P (isAgg t) = some false := by
  unfold scalarEq at h
  unfold isAgg
  split at h <;> first | (rename_i hu; rw [evalP_bind, evalP_underlying hu]; rfl) | cases h
theorem part_ok {P : Program} {t : TypeId} {xs : Array Value} {off : Nat} {v : Value} (ht : evalP P (isAgg t) = some false) (hx : xs[off]? = some v) : evalP P (part t xs off) = some v := by
  unfold part
  rw [evalP_bind, ht]
  simp only [Option.bind_some, Bool.false_eq_true, if_false, hx]; rfl
/-- field by field -/
def eqFields (P : Program) (xs ys : Array Value) : List Field → Option Bool
  | [] => some true
  | f :: fs => if f.name = "_" then eqFields P xs ys fs else
    match xs[f.offset]?, ys[f.offset]?, eqFields P xs ys fs with
    | some x, some y, some r => (scalarEq P f.type x y).map fun b => b && r
    | _, _, _ => none

theorem equalIn_struct {P : Program} {t : TypeId} {xs ys : Array Value} {fs : Array Field} {b : Bool} (d : Nat) (hd : ∀ (t : TypeId) (x y : Value) (b : Bool), scalarEq P t x y = some b → evalP P (Op.equalIn d t x y) = some b) (hu : P.underlying t = some (.struct fs)) (hs : P.stoodInHeld t = false) (he : eqFields P xs ys fs.toList = some b) :
    evalP P (Op.equalIn (d + 1) t (.agg xs) (.agg ys)) = some b := by
  simp only [Op.equalIn, evalP_bind, evalP_underlying hu, evalP_program, hs, Option.bind_some, Bool.false_eq_true, if_false]
  rw [← Array.forIn_toList]
  generalize fs.toList = l at he ⊢
  clear hu
  induction l generalizing b with
  | nil => simp only [eqFields, Option.some.injEq] at he; subst he; simp only [List.forIn_nil]; rfl
  | cons f l ih =>
    simp only [List.forIn_cons]
    by_cases hf : f.name = "_"
    · simp only [eqFields, hf, if_true] at he
      simp only [hf, ne_eq, not_true_eq_false, if_false, evalP_bind, evalP_pure, Option.bind_some]
      exact ih he
    · simp only [eqFields, hf, if_false] at he
      split at he
      · rename_i x y r hx hy hr
        cases hc : scalarEq P f.type x y with
        | none => rw [hc] at he; cases he
        | some c =>
          rw [hc] at he
          simp only [Option.map_some, Option.some.injEq] at he
          simp only [ne_eq, hf, not_false_eq_true, if_true, evalP_bind, part_ok (scalarEq_type hc) hx, part_ok (scalarEq_type hc) hy, hd _ _ _ _ hc, Option.bind_some]
          cases c with
          | false => subst he; rfl
          | true =>
            subst he
            simpa [evalP_pure] using ih hr
      · cases he

/-- two structs compare as b -/
structure SEq (P : Program) (t : TypeId) (xs ys : Array Value) (b : Bool) : Prop where
  eq : evalP P (Op.equal t (.agg xs) (.agg ys)) = some b
  guard : P.eqGuardType P.depth t = false
theorem SEq_of {P : Program} {t : TypeId} {xs ys : Array Value} {fs : Array Field} {b : Bool} (hu : P.underlying t = some (.struct fs)) (hs : P.stoodInHeld t = false) (hg : P.eqGuardType P.depth t = false) (he : eqFields P xs ys fs.toList = some b) : SEq P t xs ys b :=
  ⟨equalIn_struct 9999 (fun _ _ _ _ h => scalarEq_ok 9998 h) hu hs he, hg⟩

section
variable {P : Program} {E : Env} {ow : List (Nat × TypeId)} {o : Oper} {ρ : Operand → PV} {H : List Blk} {K : PV → List Blk → Prop}
theorem eqGuard_ok {op : BinOp} {t : TypeId} {x y : Operand} {xs ys : Array Value} (h : P.eqGuardType P.depth t = false) : evalP P (eqGuard op t x y (.agg xs) (.agg ys)) = some () := by
  unfold eqGuard
  cases op <;> first | rfl | (simp only [Bool.not_true, Bool.false_eq_true, if_false, evalP_bind, evalP_program, Option.bind_some, h]; rfl)
theorem E_neqS {t yt : TypeId} {x y : Operand} {xs ys : Array Value} {b : Bool} (ho : o.op = .binOp .neq t x y yt) (hx : (ρ x).toVal = some (.agg xs)) (hy : (ρ y).toVal = some (.agg ys)) (hs : SEq P t xs ys b) (hk : K (.dat (.raw (.bool !b))) H) : SemE P E ow o ρ H K :=
  E_plain (fun call => by simp only [sem, ho, toVal_fnNil hx, toVal_lstNil hx]) (plain_bin ho (r := .bool !b) hx hy (fun ρ' h1 h2 => by
    simp only [execOp, ho, h1, h2, evalP_bind, eqGuard_ok hs.guard, Option.bind_some, binOp, hs.eq, evalP_pure]) rfl) hk
theorem E_eqlS {t yt : TypeId} {x y : Operand} {xs ys : Array Value} {b : Bool} (ho : o.op = .binOp .eql t x y yt) (hx : (ρ x).toVal = some (.agg xs)) (hy : (ρ y).toVal = some (.agg ys)) (hs : SEq P t xs ys b) (hk : K (.dat (.raw (.bool b))) H) : SemE P E ow o ρ H K :=
  E_plain (fun call => by simp only [sem, ho, toVal_fnNil hx, toVal_lstNil hx]) (plain_bin ho (r := .bool b) hx hy (fun ρ' h1 h2 => by
    simp only [execOp, ho, h1, h2, evalP_bind, eqGuard_ok hs.guard, Option.bind_some, binOp, hs.eq, evalP_pure]) rfl) hk
theorem E_fnNil {op : BinOp} {t yt : TypeId} {x y : Operand} {f : FuncId} {cap : List PV} {b : Bool} (ho : o.op = .binOp op t x y yt) (hx : ρ x = .fn f cap) (hy : ρ y = .dat (.raw .nilFunc)) (hu : fnNil P op t (.fn f cap) (.dat (.raw .nilFunc)) = some b) (hk : K (boolPV b) H) : SemE P E ow o ρ H K :=
  SemE_of (fun call => by simp only [sem, ho, hx, hy, hu]) hk
theorem E_conv {a b : TypeId} {x : Operand} {k k' : IntKind} {n : Int} {u : TypeDesc} (hu : P.underlying a = some u) (hu' : P.underlying b = some (.int k')) (ho : o.op = .convert a b x) (hx : ρ x = .dat (.raw (.int k n))) (hk : K (.dat (.raw (.int k' (k'.wrap n)))) H) : SemE P E ow o ρ H K := by
  refine E_plain (fun call => by simp only [sem, ho]) ?_ hk
  have hv : (ρ x).toVal = some (.int k n) := by rw [hx]; rfl
  have he : evalP P (execOp (fun z => ((ρ z).toVal).getD undef) o) = some (.value (.int k' (k'.wrap n))) := by
    simp only [execOp, ho, hv, Option.getD_some, convert, evalP_bind, evalP_underlying hu, evalP_underlying hu', Option.bind_some]
    cases u <;> rfl
  simp only [plainSem, ho, Op.operands]
  simp [hv, he]
  rfl
theorem E_min {x y : Operand} {ts : Array TypeId} {k : IntKind} {m n : Int} (ho : o.op = .call { callee := .builtin .min, args := #[x, y], argTypes := ts }) (hx : ρ x = .dat (.raw (.int k m))) (hy : ρ y = .dat (.raw (.int k n))) (hk : K (.dat (.raw (.int k (if n < m then n else m)))) H) : SemE P E ow o ρ H K := by
  refine E_plain (fun call => by simp only [sem, ho]; rfl) ?_ hk
  have hv : (ρ x).toVal = some (.int k m) := by rw [hx]; rfl
  have hw : (ρ y).toVal = some (.int k n) := by rw [hy]; rfl
  have he : evalP P (execOp (fun z => ((ρ z).toVal).getD undef) o) = some (.value (.int k (if n < m then n else m))) := by
    simp only [execOp, ho, resolve, invoke, builtin, Builtin.min_]
    simp [hv, hw, Builtin.min2, evalP_pure]
  have hop : (Op.call { callee := .builtin .min, args := #[x, y], argTypes := ts }).operands.toList = [x, y] := by simp [Op.operands, Call.operands]
  simp only [plainSem, ho, hop]
  simp [hv, hw, he]
  rfl
theorem E_max {x y : Operand} {ts : Array TypeId} {k : IntKind} {m n : Int} (ho : o.op = .call { callee := .builtin .max, args := #[x, y], argTypes := ts }) (hx : ρ x = .dat (.raw (.int k m))) (hy : ρ y = .dat (.raw (.int k n))) (hk : K (.dat (.raw (.int k (if m < n then n else m)))) H) : SemE P E ow o ρ H K := by
  refine E_plain (fun call => by simp only [sem, ho]; rfl) ?_ hk
  have hv : (ρ x).toVal = some (.int k m) := by rw [hx]; rfl
  have hw : (ρ y).toVal = some (.int k n) := by rw [hy]; rfl
  have he : evalP P (execOp (fun z => ((ρ z).toVal).getD undef) o) = some (.value (.int k (if m < n then n else m))) := by
    simp only [execOp, ho, resolve, invoke, builtin, Builtin.max_]
    simp [hv, hw, Builtin.max2, evalP_pure]
  have hop : (Op.call { callee := .builtin .max, args := #[x, y], argTypes := ts }).operands.toList = [x, y] := by simp [Op.operands, Call.operands]
  simp only [plainSem, ho, hop]
  simp [hv, hw, he]
  rfl
theorem E_max3 {x y z : Operand} {ts : Array TypeId} {k : IntKind} {m n q : Int} (ho : o.op = .call { callee := .builtin .max, args := #[x, y, z], argTypes := ts }) (hx : ρ x = .dat (.raw (.int k m))) (hy : ρ y = .dat (.raw (.int k n))) (hz : ρ z = .dat (.raw (.int k q))) (hk : K (.dat (.raw (.int k (max (max m n) q)))) H) : SemE P E ow o ρ H K := by
  refine E_plain (fun call => by simp only [sem, ho]; rfl) ?_ hk
  have hv : (ρ x).toVal = some (.int k m) := by rw [hx]; rfl
  have hw : (ρ y).toVal = some (.int k n) := by rw [hy]; rfl
  have hu : (ρ z).toVal = some (.int k q) := by rw [hz]; rfl
  have e1 : ∀ a b : Int, (if a < b then b else a) = max a b := fun a b => by split <;> omega
  have he : evalP P (execOp (fun z => ((ρ z).toVal).getD undef) o) = some (.value (.int k (max (max m n) q))) := by
    simp only [execOp, ho, resolve, invoke, builtin, Builtin.max_]
    simp [hv, hw, hu, Builtin.max2, evalP_pure, e1]
  have hop : (Op.call { callee := .builtin .max, args := #[x, y, z], argTypes := ts }).operands.toList = [x, y, z] := by simp [Op.operands, Call.operands]
  simp only [plainSem, ho, hop]
  simp [hv, hw, hu, he]
  rfl
theorem natOf_nat (k : IntKind) (j : Nat) : natOf (.dat (.raw (.int k (j : Int)))) = some j := by
  have h : (0 : Int) ≤ (j : Int) := Int.natCast_nonneg j
  simp only [natOf, h, if_true, Int.toNat_natCast]
theorem E_sliceTo {t e : TypeId} {x : Operand} {lo hi : Option Operand} {size l h : Nat} {es rs : List Dat} (he : elemOfSlice P t = some e) (hs : szOf P e = some size) (ho : o.op = .slice t x lo hi none) (hx : ρ x = .dat (.lst es)) (hl : bndOf ρ 0 lo = some l) (hh : bndOf ρ es.length hi = some h)
    (hlh : l ≤ h ∧ h ≤ es.length) (hz : (l == 0 || es.all fun d => d.num == size) = true) (hr : (es.take h).drop l = rs) (hk : K (.dat (.lst rs)) H) : SemE P E ow o ρ H K :=
  E_slice he hs ho hx hl hh hlh hz (by rw [hr]; exact hk)
theorem pures_self (H : List Blk) : ∀ ds : List Dat, pures H (ds.map .dat) = some ds
  | [] => rfl
  | d :: ds => by simp only [List.map_cons, pures, pure1, pureC, pures_self H ds]
/-- a pure function on values that read as data -/
theorem PC_lend {f : FuncId} {args : List PV} {ds : List Dat} {H H0 H0' : List Blk} {p : PV} (hs : E.summ f = none) (hp : E.pure f = true) (h : PC P E f (ds.map .dat) H0 p H0') (hds : pures H args = some ds) (hl : args.any PV.lends = true → scalarOut p = true) : PC P E f args H p H := by
  obtain ⟨N, h⟩ := h
  refine ⟨N, fun k hk => ?_⟩
  have := h k hk
  cases k with
  | zero => simp [pfun] at this
  | succ k =>
    unfold pfun at this ⊢
    simp only [hs, hp, if_true, pures_self, hds] at this ⊢
    split at this
    · cases this
    · rename_i he
      rw [if_neg he]
      split at this
      · rename_i r H' hb
        split at this
        · rename_i v hv
          split at this
          · cases this
          · simp only [Option.some.injEq, Prod.mk.injEq] at this
            obtain ⟨rfl, _⟩ := this
            rw [if_neg]
            intro hc
            simp only [Bool.and_eq_true, Bool.not_eq_true'] at hc
            rw [hl hc.1] at hc
            exact Bool.noConfusion hc.2
        · cases this
      · cases this
theorem E_neqB {t yt : TypeId} {x y : Operand} {a b : Bool} (ht : P.underlying t = some .bool) (ho : o.op = .binOp .neq t x y yt) (hx : ρ x = .dat (.raw (.bool a))) (hy : ρ y = .dat (.raw (.bool b))) (hk : K (.dat (.raw (.bool (a != b)))) H) : SemE P E ow o ρ H K := by
  have hv : (ρ x).toVal = some (.bool a) := by rw [hx]; rfl
  have hw : (ρ y).toVal = some (.bool b) := by rw [hy]; rfl
  exact E_plain (fun call => by simp only [sem, ho, toVal_fnNil hv, toVal_lstNil hv]) (plain_bin ho (r := .bool (a != b)) hv hw (fun ρ' h1 h2 => by
    have he : scalarEq P t (.bool a) (.bool b) = some (a == b) := by simp only [scalarEq, ht]
    have h3 : evalP P (Op.equal t (.bool a) (.bool b)) = some (a == b) := scalarEq_ok 9999 he
    have h4 : evalP P (eqGuard .neq t x y (.bool a) (.bool b)) = some () := rfl
    simp only [execOp, ho, h1, h2, evalP_bind, h4, Option.bind_some, binOp, h3, evalP_pure]; rfl) rfl) hk
theorem E_eqlB {t yt : TypeId} {x y : Operand} {a b : Bool} (ht : P.underlying t = some .bool) (ho : o.op = .binOp .eql t x y yt) (hx : ρ x = .dat (.raw (.bool a))) (hy : ρ y = .dat (.raw (.bool b))) (hk : K (.dat (.raw (.bool (a == b)))) H) : SemE P E ow o ρ H K := by
  have hv : (ρ x).toVal = some (.bool a) := by rw [hx]; rfl
  have hw : (ρ y).toVal = some (.bool b) := by rw [hy]; rfl
  exact E_plain (fun call => by simp only [sem, ho, toVal_fnNil hv, toVal_lstNil hv]) (plain_bin ho (r := .bool (a == b)) hv hw (fun ρ' h1 h2 => by
    have he : scalarEq P t (.bool a) (.bool b) = some (a == b) := by simp only [scalarEq, ht]
    have h3 : evalP P (Op.equal t (.bool a) (.bool b)) = some (a == b) := scalarEq_ok 9999 he
    have h4 : evalP P (eqGuard .eql t x y (.bool a) (.bool b)) = some () := rfl
    simp only [execOp, ho, h1, h2, evalP_bind, h4, Option.bind_some, binOp, h3, evalP_pure]) rfl) hk
/-! lists of plain cells in a box -/
theorem purge_map {fl : Bool} {α : Type} (f : α → Dat) (H : List Blk) (h0 : Nat) (l : List α) : purgeB fl H h0 (.box (l.map fun m => .dat (f m))) = .box (l.map fun m => .dat (f m)) := by
  simp only [purgeB, List.map_map]; rfl
theorem map_get {α : Type} (f : α → Dat) {l : List α} {j : Nat} (h : j < l.length) : (l.map f)[j]? = some (f l[j]) := by simp [h]
theorem map_put {α : Type} (f : α → Dat) (l : List α) (q : Nat) (v : α) : (l.map fun m => PV.dat (f m)).set q (.dat (f v)) = (l.set q v).map fun m => .dat (f m) := by rw [List.map_set]
theorem all_map {α : Type} (f : α → Dat) (l : List α) : allDat (l.map fun m => .dat (f m)) = some (l.map f) := by
  induction l with
  | nil => rfl
  | cons a l ih => simp only [List.map_cons, allDat, ih, Option.map_some]
theorem pure_map {α : Type} (f : α → Dat) (hf : ∀ a, (f a).isCell = true) {H : List Blk} {i : Nat} {l : List α} {cap : Nat} (h : H[i]? = some (.box (l.map fun m => .dat (f m)))) : pure1 H (.arr i 0 l.length cap) = some (.lst (l.map f)) := by
  have e1 : cut (l.map fun m => PV.dat (f m)) 0 l.length = some (l.map fun m => PV.dat (f m)) := by
    rw [cut, if_pos (by simp), List.drop_zero, List.take_of_length_le (by simp)]
  have e2 : (l.map f).all Dat.isCell = true := by simp only [List.all_map, List.all_eq_true]; intro x _; exact hf x
  simp only [pure1, pureC, h, e1, Option.bind_some, all_map, e2, if_true]
/-- a list of closures, in a box of its own -/
theorem E_fns {t e : TypeId} {len : Nat} {parts : Array (Nat × Operand)} {cs : List PV} (he : elemOfSlice P t = some e) (hs : szOf P e = some 1) (hz : (zeroOf P e).isSome = true) (ho : o.op = .buildSlice t len parts) (hf : fnParts ow ρ parts.toList = true)
    (hc : parts.size = len ∧ dense 0 parts.toList = true ∧ len ≤ 16777216) (hp : (parts.toList.map fun (_, x) => ρ x) = cs) (hk : K (.arr H.length 0 len len) (H ++ [.box cs])) : SemE P E ow o ρ H K :=
  SemE_of (fun call => by subst hp; simp only [sem, ho, he, hf, hs, hz, hc, and_self, if_true]) hk
end
end Go.Pm
