/-
 The pure machine: soundness of control and of loops.
-/
import Derived.Test.YtjcfpjpdopfefaaGreatPmCode
import Derived.Test.YtjcfpjpdopfefaaGreatPmFlat
namespace Go.Pm
open Go Go.RowKit
set_option linter.unusedVariables false
section
variable {P:Program} {B0:Nat} {w0:World} {S0:Nat→Nat→Prop} {Nb:Nat} {F:Fence} {m:Nat} {pf:FuncId→Bool} {hint:FuncId→Hint} {call:CallF} {h:Hint}

theorem stepR_scope {b:Frame} {a:Act} {k:List Item} {cs:List Frame} {w:World} {c:Code}:step P (lone (b.atR a (.code (.scope c)::k)) cs w)=.next (lone (b.atR a (.code c::.inScope c::k)) cs w) :=
 step_lone_go (by simp [stepG,stepG.exec,Frame.atR])
theorem stepR_inScope {b:Frame} {a:Act} {k:List Item} {cs:List Frame} {w:World} {c:Code}:step P (lone (b.atR a (.inScope c::k)) cs w)=.next (lone (b.atR a k) cs w) :=
 step_lone_go (by simp [stepG,stepG.exec,Frame.atR])
theorem wpIn_scope {n:Nat} {a:Act} {w:World} {Q:Exit→Act→World→Prop} {c:Code} (h:c.wpIn F n P (Exit.noGoto Q) a w):(Code.scope c).wpIn F n P Q a w:=by
 intro b k cs hro hb hr;have h0:(lone (b.atR a (.code (.scope c)::k)) cs w).fenced P F:=fenced_calm hb hr rfl;obtain ⟨e,a₁,w₁,hq,harr⟩:=h b (.inScope c::k) cs hro hb hr;cases e with
 | normal=>exact ⟨.normal,a₁,w₁,hq,.head h0 stepR_scope (StepsIn.trans harr (.one (fenced_calm hb hr rfl) stepR_inScope))⟩
 | exit id=>exact ⟨.exit id,a₁,w₁,hq,.of_steps (.one h0 stepR_scope) ⟨fun k' hk=>harr.1 k' (by simpa [exitTo] using hk),fun hr2 hk=>harr.2 hr2 (by simpa [exitTo] using hk)⟩⟩
 | goto l=>exact hq.elim
 | ret=>exact ⟨_,a₁,w₁,hq,.of_steps (.one h0 stepR_scope) harr⟩
 | panic ch=>exact ⟨_,a₁,w₁,hq,.of_steps (.one h0 stepR_scope) harr⟩
 | outgrown=>exact ⟨_,a₁,w₁,hq,.of_steps (.one h0 stepR_scope) harr⟩
theorem pcode_sound (hcall:CallOK P pf call) (hdraw:DrawOK P call pf h):∀ (n:Nat),
  (∀ (rg:Bool) (c:Code) (st st':St) (e:Ex),pcode P call pf hint h rg n c st=some (e,st')→CodeOK P call rg c st e st') ∧
  (∀ (rg:Bool) (b:Code) (h0:Nat) (st st':St) (e:Ex),pcode.ploop P call pf hint h rg b h0 n st=some (e,st')→h0≤st.heap.length →
   ∀ (B0:Nat) (w0:World) (S0:Nat→Nat→Prop) (g:Gh) (a:Act) (w:World) (F:Fence) (m:Nat) (Q:Exit→Act→World→Prop),Free F→(rg=true→F=Fence.wide)→StOK P B0 w0 S0 h0 g st a w →
    (∀ g' a' w',Ext h0 g w g' w'→Fr g st.heap w g' st'.heap w'→StOK P B0 w0 S0 h0 g' st' a' w'→Df a w a' w'→Q (exOf e) a' w')→Code.roundsIn F m P b Q n a w):=by
 intro n;induction n with
 | zero=>exact ⟨fun rg c st st' e hs=>by simp [pcode] at hs,fun rg b h0 st st' e hs=>by simp [pcode.ploop] at hs⟩
 | succ n ih =>
  obtain ⟨ihc,ihl⟩:=ih;refine ⟨fun rg c st st' e hs=>?_,fun rg b h0 st st' e hs hle=>?_⟩
  ·intro B0 w0 S0 Nb g a w F m Q hF hrg hst hQ;cases c with
   | skip=>simp only [pcode,j9,jI] at hs; obtain ⟨rfl,rfl⟩:=hs; exact wpIn_skip (hQ g a w (Ext.refl _ _ _) (Fr.refl _ _ _) hst (Df.same rfl))
   | region r ops draw =>
    cases draw
    ·simp only [pcode] at hs;split at hs
     ·simp only [j5] at hs;obtain ⟨st1,hs,h1⟩:=hs;simp only [jI] at h1;obtain ⟨rfl,rfl⟩:=h1;refine wpIn_region ?_;have:=opsFlat_sound (Q:=Q) (m:=m) hF hcall ops.toList 0 st st1 g a w hs (fun j=>by simp) hst fun g' a' w' e1 f1 s1 d1=>hQ g' a' w' e1 f1 s1 (Df.same d1)
      rwa [Array.length_toList,← List.range_eq_range'] at this
     simp only [j5] at hs;obtain ⟨st1,hs,h1⟩:=hs;simp only [jI] at h1;obtain ⟨rfl,rfl⟩:=h1;refine wpIn_region ?_;have:=opsFrom_sound (Q:=Q) (m:=m) hF hcall ops.toList 0 st st1 g a w hs (fun j=>by simp) hst fun g' a' w' e1 f1 s1 d1=>hQ g' a' w' e1 f1 s1 (Df.same d1)
     rwa [Array.length_toList,← List.range_eq_range'] at this
    ·simp only [pcode] at hs;split at hs
     ·rename_i st1 fl h1;split at hs
      ·rename_i ho;simp only [j9,jI] at hs;obtain ⟨rfl,rfl⟩:=hs;exact hdraw r ops st st1 fl ho h1 B0 w0 S0 Nb g a w F m Q hF (fun h=>by cases h) hst hQ
      ·cases hs
     ·cases hs
   | seq x y =>
    simp only [pcode] at hs;refine wpIn_seq ?_;split at hs
    ·rename_i st1 h1;refine ihc rg x st st1 .normal h1 B0 w0 S0 Nb g a w F m _ hF hrg hst fun g1 a1 w1 e1 f1 hst1 hd1=>?_
     exact ihc rg y st1 st' e hs B0 w0 S0 Nb g1 a1 w1 F m Q hF hrg hst1 fun g2 a2 w2 e2 f2 hst2 hd2=>hQ g2 a2 w2 (e1.trans e2 (j7 _)) (f1.trans f2) hst2 (hd1.trans f1.size hst1.heap f2 hd2)
    ·rename_i hne;refine ihc rg x st st' e hs B0 w0 S0 Nb g a w F m _ hF hrg hst fun g1 a1 w1 e1 f1 hst1 hd1=>?_
     have:=hQ g1 a1 w1 e1 f1 hst1 hd1;cases e with
     | normal=>exact absurd hs (hne st')
     | exit id=>exact this
     | ret=>exact this
   | cond x y z =>
    simp only [pcode] at hs;split at hs
    ·rename_i hb;exact wpIn_cond_true (boolOf_rep (hst.rep.ev x) hb) (ihc rg y st st' e hs B0 w0 S0 Nb g a w F m Q hF hrg hst hQ)
    ·rename_i hb;exact wpIn_cond_false (boolOf_rep (hst.rep.ev x) hb) (ihc rg z st st' e hs B0 w0 S0 Nb g a w F m Q hF hrg hst hQ)
    ·cases hs
   | block id b =>
    simp only [pcode] at hs;refine wpIn_block ?_;split at hs
    ·rename_i id' st1 h1;refine ihc rg b st st1 _ h1 B0 w0 S0 Nb g a w F m _ hF hrg hst fun g1 a1 w1 e1 f1 hst1 hd1=>?_
     split at hs
     ·rename_i hid;simp only [j9,jI] at hs;obtain ⟨rfl,rfl⟩:=hs;have:=hQ g1 a1 w1 e1 f1 hst1 hd1
      simpa [exOf,Exit.inBlock,hid] using this
     ·rename_i hid;simp only [j9,jI] at hs;obtain ⟨rfl,rfl⟩:=hs;have:=hQ g1 a1 w1 e1 f1 hst1 hd1
      simpa [exOf,Exit.inBlock,hid] using this
    ·rename_i hne;refine ihc rg b st st' e hs B0 w0 S0 Nb g a w F m _ hF hrg hst fun g1 a1 w1 e1 f1 hst1 hd1=>?_
     have:=hQ g1 a1 w1 e1 f1 hst1 hd1;cases e with
     | normal=>exact this
     | exit id=>exact absurd hs (hne id st')
     | ret=>exact this
   | loop b =>
    simp only [pcode] at hs;refine wpIn_loop_rounds n ?_;refine ihl rg b st.heap.length st st' e hs (j7 _) B0 w0 S0 g a w F m Q hF hrg ⟨hst.heap,hst.inv,hst.rep,j7 _⟩ fun g1 a1 w1 e1 f1 hst1 hd1=>?_
    exact hQ g1 a1 w1 (e1.less hst.base) f1 ⟨hst1.heap,hst1.inv,hst1.rep,jW hst.base hst1.base⟩ hd1
   | exit id=>simp only [pcode,j9,jI] at hs; obtain ⟨rfl,rfl⟩:=hs; exact wpIn_exit (hQ g a w (Ext.refl _ _ _) (Fr.refl _ _ _) hst (Df.same rfl))
   | label l=>simp only [pcode,j9,jI] at hs; obtain ⟨rfl,rfl⟩:=hs; exact wpIn_label (hQ g a w (Ext.refl _ _ _) (Fr.refl _ _ _) hst (Df.same rfl))
   | scope b =>
    simp only [pcode] at hs;refine wpIn_scope ?_;refine ihc rg b st st' e hs B0 w0 S0 Nb g a w F m _ hF hrg hst fun g1 a1 w1 e1 f1 hst1 hd1=>?_
    have:=hQ g1 a1 w1 e1 f1 hst1 hd1;cases e <;> exact this
   | ret=>simp only [pcode,j9,jI] at hs; obtain ⟨rfl,rfl⟩:=hs; exact wpIn_ret (hQ g a w (Ext.refl _ _ _) (Fr.refl _ _ _) hst (Df.same rfl))
   | rangeFunc f ps assign body =>
    simp only [pcode] at hs;split at hs
    ·rename_i hrgt;obtain rfl:=hrg hrgt;have hfv:=hst.rep.ev f;split at hs
     ·rename_i gf caps hx;rw [hx] at hfv;generalize hv:a.eval f=vf at hfv;cases hfv with
      | fn _ vs cs h1 h2 =>
       exact range_ok (fun s e s' h=>ihc false assign s s' e h) (fun s e s' h=>ihc false body s s' e h) hcall hs hv h1 h2 hst fun g' a' w' e1 f1 s1 d1=>hQ g' a' w' (e1.less hst.base) f1 s1 d1
     ·rename_i gf first cap hx
      rw [hx] at hfv;have hd:=hfv.datInv;have hv:=hfv.toVal (u:=.func (.func gf) first cap) rfl;rw [hv] at hd;have hraw:isRaw (.func (.func gf) first cap)=true:=by cases hd; assumption
      simp only [isRaw,jE,Array.isEmpty_iff] at hraw;obtain ⟨rfl,rfl⟩:=hraw;exact range_ok (fun s e s' h=>ihc false assign s s' e h) (fun s e s' h=>ihc false body s s' e h) hcall hs hv rfl (fun j v c h=>by simp at h) hst fun g' a' w' e1 f1 s1 d1=>hQ g' a' w' (e1.less hst.base) f1 s1 d1
     ·cases hs
    ·cases hs
   | _=>simp [pcode] at hs
  ·intro B0 w0 S0 g a w F m Q hF hrg hst hQ;rw [roundsIn_succ];simp only [pcode.ploop] at hs;obtain ⟨g0,e0,f0,hst0⟩:=prune_ok ((QO b).bind h.keepAt) hst;split at hs
   ·rename_i st1 h1;refine ihc rg b _ st1 .normal h1 B0 w0 S0 h0 g0 a w F m _ hF hrg hst0 fun g1 a1 w1 e1 f1 hst1 hd1=>?_
    exact ihl rg b h0 st1 st' e hs hst1.base B0 w0 S0 g1 a1 w1 F m Q hF hrg hst1 fun g2 a2 w2 e2 f2 hst2 hd2=>hQ g2 a2 w2 ((e0.trans e1 (j7 _)).trans e2 (j7 _)) ((f0.trans f1).trans f2) hst2 (hd1.trans f1.size hst1.heap f2 hd2)
   ·rename_i hne;refine ihc rg b _ st' e hs B0 w0 S0 h0 g0 a w F m _ hF hrg hst0 fun g1 a1 w1 e1 f1 hst1 hd1=>?_
    have:=hQ g1 a1 w1 (e0.trans e1 (j7 _)) (f0.trans f1) hst1 hd1;cases e with
    | normal=>exact absurd hs (hne st')
    | exit id=>exact this
    | ret=>exact this

end
end Go.Pm
