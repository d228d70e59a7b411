/-
  The pure machine: soundness of regions in the text's order, of control, of loops.
-/
import Derived.Test.YtbknblppjhfkmaaPmSem
import Derived.LoopNIn
import Derived.TacticsIn
namespace Go.Pm
open Go Go.RowKit
set_option linter.unusedVariables false

/-- A fence that lets everything in. -/
def Free (F : Fence) : Prop := F = Fence.wide ∨ ∃ l, F = Fence.wide.inRound l

theorem Free.fn {F : Fence} (h : Free F) (f : FuncId) : F.fn f := by rcases h with rfl | ⟨l, rfl⟩ <;> exact trivial
theorem Free.depth {F : Fence} (h : Free F) : F.depth = none := by rcases h with rfl | ⟨l, rfl⟩ <;> rfl
theorem Free.calls {F : Fence} (h : Free F) {n : Nat} {P : Program} {f : FuncId} {args : Array Value} {w : World} {R : Ending → World → Prop} (hc : Calls P f args w R) : CallsIn F n P f args w R := by
  rcases h with rfl | ⟨l, rfl⟩
  · exact callsIn_wide.2 hc
  · exact (callsIn_wide (n := n)).2 hc

/-- What a call by the machine's word comes to. -/
def CallOK (P : Program) (pf : FuncId → Bool) (call : CallF) : Prop :=
  ∀ f args H p H', call f args H = some (p, H') → (∃ fn c, P.funcs[f]? = some fn ∧ fn.body = some c ∧ (fn.name == "runtime.NumGoroutine") = false) ∧
    (pf f = true → H' = H ∧ (args.any PV.lends = false → ∀ H2, call f args H2 = some (p, H2))) ∧
    ∀ (B0 : Nat) (w0 : World) (S0 : Nat → Nat → Prop) (g : Gh) (w : World) (vals : Array Value), vals.size = args.length → (∀ (j : Nat) v q, vals[j]? = some v → args[j]? = some q → RepV g H.length w v q) →
      HeapOK P g B0 H.length H w → Inv B0 w0 S0 g w → Calls P f vals w fun e w' => ∃ v g', e = .returned v ∧ Good P B0 w0 S0 H g w p H' v g' w'

structure StOK (P : Program) (B0 : Nat) (w0 : World) (S0 : Nat → Nat → Prop) (Nb : Nat) (g : Gh) (st : St) (a : Act) (w : World) : Prop where
  heap : HeapOK P g B0 st.heap.length st.heap w
  inv : Inv B0 w0 S0 g w
  rep : RepS g st.heap.length w a.tmps st.slots
  base : Nb ≤ st.heap.length

section
variable {P : Program} {B0 : Nat} {w0 : World} {S0 : Nat → Nat → Prop} {Nb : Nat} {F : Fence} {m : Nat} {pf : FuncId → Bool} {call : CallF} {h : Hint}

theorem callFunc_run {f : FuncId} {fn : Func} {c : Code} (hf : P.funcs[f]? = some fn) (hb : fn.body = some c) (hn : (fn.name == "runtime.NumGoroutine") = false) (args : Array Value) (w : World) :
    (callFunc f args).run P w = .ok (.enter f args) w := by
  have hn' : ¬ fn.name = "runtime.NumGoroutine" := by simpa using hn
  simp [callFunc, hf, hb, hn']

/-- One operation, whatever follows. -/
theorem sem_wp (hF : Free F) (hcall : CallOK P pf call) {ow : List (Nat × TypeId)} {o : Oper} {st : St} {p : PV} {H' : List Blk} {g : Gh} {a : Act} {w : World} {K : Act → World → Prop} {Q : Exit → Act → World → Prop}
    (hs : sem P call ow o (ev st.slots) st.heap = some (p, H')) (hst : StOK P B0 w0 S0 Nb g st a w)
    (hK : ∀ v g' w', Good P B0 w0 S0 st.heap g w p H' v g' w' → K (a.put o.dst v) w') : o.wpIn F m P a w K Q := by
  have hρ : ∀ x, RepV g st.heap.length w (a.eval x) (ev st.slots x) := fun x => hst.rep.ev x
  refine ⟨fun f _ => hF.fn f, ?_⟩
  have hnd : ∀ c, o.op ≠ .defer c := fun c e => by rw [sem] at hs; simp [e] at hs
  rw [Oper.semAt_eq _ _ _ hnd]
  by_cases hc : ∃ f args ts, o.op = .call { callee := .value f, args, argTypes := ts }
  · obtain ⟨f, args, ts, ho⟩ := hc
    -- the callee and what it is called with
    have key : ∀ (fi : FuncId) (cap : List PV) (capv : Array Value), a.eval f = .func (.func fi) #[] capv → capv.size = cap.length →
        (∀ (j : Nat) v q, capv[j]? = some v → cap[j]? = some q → RepV g st.heap.length w v q) → call fi (args.toList.map (ev st.slots) ++ cap) st.heap = some (p, H') →
        o.uponIn F m P a K Q ((execOp a.eval o).run P w) := fun fi cap capv hf hl hcr hcl => by
      obtain ⟨⟨fn, c, h1, h2, h3⟩, _, h4⟩ := hcall _ _ _ _ _ hcl
      have hrun : (execOp a.eval o).run P w = .ok (.enter fi (args.map a.eval ++ capv)) w := by
        simp [execOp, ho, resolve, hf, Deferred.ofValue, invoke, callFunc_run h1 h2 h3]
      rw [hrun]
      refine ⟨fun hd => (by rw [hF.depth] at hd; cases hd), hF.calls ((h4 B0 w0 S0 g w _ (by simp [hl]) (fun j v q g1 g2 => ?_) hst.heap hst.inv).mono fun e w' he => ?_)⟩
      · rw [Array.getElem?_append] at g1
        rw [List.getElem?_append] at g2
        simp only [Array.size_map, List.length_map, Array.length_toList] at g1 g2
        split at g1
        · rename_i hj
          rw [if_pos hj] at g2
          simp only [Array.getElem?_map, Option.map_eq_some_iff] at g1
          obtain ⟨x, hx, rfl⟩ := g1
          simp only [List.getElem?_map, Array.getElem?_toList, hx, Option.map_some, Option.some.injEq] at g2
          subst g2; exact hρ x
        · rename_i hj
          rw [if_neg hj] at g2
          exact hcr _ v q g1 g2
      · obtain ⟨v, g', rfl, hg⟩ := he
        exact hK v g' w' hg
    have hfv := hρ f
    rw [sem] at hs
    simp only [ho] at hs
    split at hs
    · rename_i fi first cap hx
      rw [hx] at hfv
      have hd := hfv.datInv
      have hv := hfv.toVal (u := .func (.func fi) first cap) rfl
      rw [hv] at hd
      have hraw : isRaw (.func (.func fi) first cap) = true := by cases hd; assumption
      simp only [isRaw, Bool.and_eq_true, Array.isEmpty_iff] at hraw
      obtain ⟨rfl, rfl⟩ := hraw
      exact key fi [] #[] hv rfl (fun j v q h => by simp at h) (by simpa using hs)
    · rename_i fi cap hx
      rw [hx] at hfv
      generalize hv : a.eval f = vf at hfv
      cases hfv with
      | fn f vs cs h1 h2 => exact key _ cap vs hv h1 h2 hs
    · cases hs
  · obtain ⟨v, g', w', hres, hg⟩ := sem_done (a := a) (fun f args ts e => hc ⟨f, args, ts, e⟩) hst.heap hst.inv hρ hs
    rcases hres with hr | ⟨hr, rfl⟩
    · rw [hr]; exact hK v g' w' hg
    · rw [hr]; exact hK undef g' w' hg

theorem wanted_rep {g : Gh} {N : Nat} {w : World} {tmps : Array Value} {s : List PV} {ops : Array Oper} {o : Oper} {b : Bool} (hr : RepS g N w tmps s) (hw : wantedA ops s o = some b) :
    Region.wanted o (yielded ops tmps) = b := by
  unfold wantedA at hw
  unfold Region.wanted
  split at hw
  · rename_i hg; simp only [hg]; exact Option.some.inj hw
  · rename_i j want hg
    simp only [hg]
    split at hw
    · cases hw
    · rename_i d hd
      have hv := hr.2 d
      split at hw
      · rename_i b' hs
        have hlt : d < tmps.size := by rw [hr.1]; exact (List.getElem?_eq_some_iff.1 hs).1
        rw [List.getD_eq_getElem?_getD, hs, Option.getD_some] at hv
        have := hv.toVal (u := .bool b') rfl
        rw [Array.getD_eq_getD_getElem?, Array.getElem?_eq_getElem hlt, Option.getD_some] at this
        have hy : yielded ops tmps j = some b' := by
          unfold yielded; rw [hd]; simp [Array.getElem?_eq_getElem hlt, this]
        rw [hy]
        have := Option.some.inj hw
        rw [← this]; cases b' <;> cases want <;> rfl
      · rename_i hs
        have hlt : d < tmps.size := by rw [hr.1]; exact (List.getElem?_eq_some_iff.1 hs).1
        rw [List.getD_eq_getElem?_getD, hs, Option.getD_some] at hv
        rw [Array.getD_eq_getD_getElem?, Array.getElem?_eq_getElem hlt, Option.getD_some] at hv
        have hy : yielded ops tmps j = none := by
          unfold yielded; rw [hd]; simp only [Option.bind_some, Array.getElem?_eq_getElem hlt]
          generalize tmps[d] = u at hv
          cases hv; rfl
        rw [hy]
        have := Option.some.inj hw
        rw [← this]; rfl
      · cases hw

theorem undef_rep {g : Gh} {N : Nat} {w : World} : RepV g N w undef (.tup []) := .tup _ _ rfl (fun j v c h => by simp at h)

theorem StOK.put {g g' : Gh} {st : St} {a : Act} {w w' : World} {p : PV} {H' : List Blk} {v : Value} (hst : StOK P B0 w0 S0 Nb g st a w) (hg : Good P B0 w0 S0 st.heap g w p H' v g' w') (d : Option Tmp) :
    StOK P B0 w0 S0 Nb g' ⟨putS st.slots d p, H'⟩ (a.put d v) w' :=
  ⟨hg.heap, hg.inv, (hst.rep.ext hg.ext hg.len).put d hg.rep, Nat.le_trans hst.base hg.len⟩

theorem put_defers (a : Act) (d : Option Tmp) (v : Value) : (a.put d v).defers = a.defers := by cases d <;> rfl

theorem opsFrom_sound (hF : Free F) (hcall : CallOK P pf call) {r : Nat} {ops : Array Oper} {Q : Exit → Act → World → Prop} : ∀ (os : List Oper) (i : Nat) (st st' : St) (g : Gh) (a : Act) (w : World),
    opsFrom P call h r ops i os st = some st' → (∀ j, os[j]? = ops[i + j]?) → StOK P B0 w0 S0 Nb g st a w →
    (∀ g' a' w', Ext Nb g w g' w' → Fr g st.heap w g' st'.heap w' → StOK P B0 w0 S0 Nb g' st' a' w' → a'.defers = a.defers → Q .normal a' w') → wpOpsIn F m P ops Q (List.range' i os.length) a w
  | [], i, st, st', g, a, w, hs, _, hst, hQ => by
    cases hs
    exact hQ g a w (Ext.refl _ _ _) (Fr.refl _ _ _) hst rfl
  | o :: os, i, st, st', g, a, w, hs, hl, hst, hQ => by
    have h0 : ops[i]? = some o := by simpa using (hl 0).symm
    have hl' : ∀ j, os[j]? = ops[i + 1 + j]? := fun j => by have := hl (j + 1); rw [show i + 1 + j = i + (j + 1) by omega]; simpa using this
    simp only [List.length_cons, List.range'_succ, wpOpsIn, h0]
    unfold opsFrom at hs
    split at hs
    · rename_i st1 hst1
      unfold opStep at hst1
      split at hst1
      · rename_i hw
        rw [wanted_rep hst.rep hw, if_pos rfl]
        split at hst1
        · rename_i v H hsem
          cases hst1
          refine sem_wp hF hcall hsem hst fun u g' w' hg => ?_
          refine opsFrom_sound hF hcall os (i + 1) _ _ g' _ w' hs hl' (hst.put hg o.dst) fun g2 a2 w2 he hf hst2 hd => ?_
          exact hQ g2 a2 w2 ((hg.ext.less hst.base).trans he (Nat.le_refl _)) (hg.fr.trans hf) hst2 (hd.trans (put_defers _ _ _))
        · cases hst1
      · rename_i hw
        rw [wanted_rep hst.rep hw]
        simp only [Bool.false_eq_true, if_false]
        cases hst1
        refine ⟨fun f _ => hF.fn f, ?_⟩
        refine opsFrom_sound hF hcall os (i + 1) _ _ g _ w hs hl' ⟨hst.heap, hst.inv, hst.rep.put o.dst undef_rep, hst.base⟩ fun g2 a2 w2 he hf hst2 hd => ?_
        exact hQ g2 a2 w2 he hf hst2 (hd.trans (put_defers _ _ _))
      · cases hst1
    · cases hs

end
end Go.Pm
