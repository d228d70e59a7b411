/-
 The pure machine: operands, plain operations, and small lemmas for the soundness of each operation.
-/
import Derived.Test.YtjcfpjpdopfefaaGreatPmRep
import Derived.OrdersIn
namespace Go.Pm
open Go Go.RowKit

theorem Dat.num_eq (d:Dat):d.num=d.cells.length:=by cases d <;> rfl

theorem one_of_raw {v:Value} (h:isRaw v=true):v.oneCell'=true:=by
 cases v <;> simp_all [isRaw,Value.oneCell']

theorem cells_of_raw {v:Value} (h:isRaw v=true):v.cells=#[v]:=by
 cases v <;> simp_all [isRaw,Value.cells]

theorem RepD.cells {w:World} {S:Nat→Nat→Prop} {v:Value} {d:Dat} (h:RepD w S v d) :
  v.cells.size=d.cells.length∧∀ (j:Nat) u c,v.cells[j]? = some u→d.cells[j]? = some c→RepD w S u c:=by
 cases h with
 | raw v h=>rw [cells_of_raw h]; exact ⟨rfl,fun j u c h1 h2=>by cases j <;> simp [Dat.cells] at h1 h2; subst h1 h2; exact .raw _ h⟩
 | nil=>exact ⟨rfl,fun j u c h1 h2=>by cases j <;> simp_all [Dat.cells,Value.cells]; subst h1 h2; exact .nil⟩
 | empty a cap=>exact ⟨rfl,fun j u c h1 h2=>by cases j <;> simp_all [Dat.cells,Value.cells]; subst h1 h2; exact .empty a cap⟩
 | lst b off len cap k es c h1 h1' h2 h3 h4=>exact ⟨rfl,fun j u c' g1 g2=>by cases j <;> simp [Dat.cells,Value.cells] at g1 g2; subst g1 g2; exact .lst b off _ cap k es c h1 h1' h2 h3 h4⟩
 | agg vs cs h1 h2=>exact ⟨h1,h2⟩

theorem RepV.cells {g:Gh} {N:Nat} {w:World} {v:Value} {p:PV} (h:RepV g N w v p) (hp:p≠.undef) :
  v.cells.size=p.cells.length∧∀ (j:Nat) u c,v.cells[j]? = some u→p.cells[j]? = some c→RepV g N w u c:=by
 cases h with
 | dat v d h =>
  obtain ⟨h1,h2⟩:=h.cells;refine ⟨by simp [PV.cells,h1],fun j u c g1 g2=>?_⟩;simp only [PV.cells,jD,j5] at g2;obtain ⟨d',g2,rfl⟩:=g2;exact .dat _ _ (h2 j u d' g1 g2)
 | agg vs cs h1 h2=>exact ⟨h1,h2⟩
 | tup vs cs h1 h2=>exact ⟨rfl,fun j u c g1 g2=>by cases j <;> simp_all [PV.cells,Value.cells]; subst g1 g2; exact .tup _ _ h1 h2⟩
 | vec v t es v0 n h1 h2 h3 h4 h5 =>
  have hc:v.cells=#[v]:=by have:=h2.cells.1; cases v <;> simp_all [Value.cells]; cases h2
  rw [hc]; exact ⟨rfl,fun j u c g1 g2=>by cases j <;> simp_all [PV.cells]; subst g1 g2; exact .vec _ _ _ _ _ h1 h2 h3 h4 h5⟩
 | ptr i o h=>exact ⟨rfl,fun j u c g1 g2=>by cases j <;> simp_all [PV.cells,Value.cells]; subst g1 g2; exact .ptr _ _ h⟩
 | iptr b o cs c h1 h2=>exact ⟨rfl,fun j u c' g1 g2=>by cases j <;> simp_all [PV.cells,Value.cells]; subst g1 g2; exact .iptr _ _ _ c h1 h2⟩
 | arr i o len cap h h'=>exact ⟨rfl,fun j u c g1 g2=>by cases j <;> simp [PV.cells,Value.cells] at g1 g2; subst g1 g2; exact .arr _ _ _ _ h h'⟩
 | fn f vs cs h1 h2=>exact ⟨rfl,fun j u c g1 g2=>by cases j <;> simp_all [PV.cells,Value.cells]; subst g1 g2; exact .fn _ _ _ h1 h2⟩
 | ms t gg lo len cp v v0 n h1 h2 h3 h4 h5 =>
  obtain ⟨a,c,rfl,h6,h8,h7⟩:=h5;exact ⟨rfl,fun j u c g1 g2=>by cases j <;> simp [PV.cells,Value.cells] at g1 g2; subst g1 g2; exact .ms _ _ _ _ _ _ v0 n h1 h2 h3 h4 ⟨_,_,rfl,h6,h8,h7⟩⟩
 | mp t gg j v v0 n h1 h2 h3 h4 h5 =>
  obtain ⟨a,rfl⟩:=h5;exact ⟨rfl,fun j u c g1 g2=>by cases j <;> simp [PV.cells,Value.cells] at g1 g2; subst g1 g2; exact .mp _ _ _ _ v0 n h1 h2 h3 h4 ⟨_,rfl⟩⟩
 | empv b v h1 h2 =>
  have hc:v.cells=#[v]:=by
   cases b with
   | true=>rw [h1 rfl]; rfl
   | false=>obtain ⟨a,cap,rfl⟩:=h2 rfl; rfl
  rw [hc]; exact ⟨rfl,fun j u c g1 g2=>by cases j <;> simp [PV.cells] at g1 g2; subst g1 g2; exact .empv _ _ h1 h2⟩
 | mapv i h=>exact ⟨rfl,fun j u c g1 g2=>by cases j <;> simp_all [PV.cells,Value.cells]; subst g1 g2; exact .mapv _ h⟩
 | undef v=>exact absurd rfl hp

theorem RepD.of_rawOf {w:World} {S:Nat→Nat→Prop} {v:Value} {d:Dat} (h:rawOf v=some d):RepD w S v d:=by
 unfold rawOf at h;split at h
 ·cases h; exact .nil
 ·split at h
  ·rename_i cs hall;cases h;refine .agg _ _ y7 fun j v c h1 h2=>?_
   simp only [jD,zF,h1,jN,j9] at h2;subst h2;exact .raw _ (Array.all_eq_true'.1 hall v (Array.mem_of_getElem? h1))
  ·cases h
 ·split at h
  ·cases h; exact .raw _ (by assumption)
  ·cases h

theorem RepV.of_const {g:Gh} {N:Nat} {w:World} (v:Value):RepV g N w v (constOf v):=by
 unfold constOf;split
 ·split
  ·rename_i vs h; have:vs=#[]:=by simpa using h
   subst this; exact .tup _ _ rfl fun j v c h=>by simp at h
  ·exact .undef _
 ·split
  ·exact .dat _ _ (.of_rawOf (by assumption))
  ·exact .undef _

theorem RepV.datInv {g:Gh} {N:Nat} {w:World} {v:Value} {d:Dat} (h:RepV g N w v (.dat d)):RepD w g.S v d:=by
 cases h; assumption

def GlobRep (g:Gh) (w:World):Prop:=∀ gl cs,globOf gl=some cs→RepV g 0 w (.pointer (some ⟨gl,0,none⟩)) (.iptr cs)
theorem GlobRep.ext {N:Nat} {g g':Gh} {w w':World} (hg:GlobRep g w) (h:Ext N g w g' w'):GlobRep g' w':=fun gl cs hc=>(hg gl cs hc).ext (h.less (zN N)) (j7 _)
theorem GlobRep.at {N:Nat} {g:Gh} {w:World} (hg:GlobRep g w) {gl:Nat} {cs:List Dat} (hc:globOf gl=some cs):RepV g N w (.pointer (some ⟨gl,0,none⟩)) (.iptr cs):=(hg gl cs hc).ext (.refl 0 g w) (zN N)
theorem GlobRep.ofS {g g':Gh} {w:World} (hg:GlobRep g w) (hs:∀ b o,g.S b o→g'.S b o):GlobRep g' w:=fun gl cs hc=>by
 have:=hg gl cs hc;cases this with
 | iptr b o cs c h1 h2=>exact .iptr _ _ _ c (fun i hi=>⟨(h1 i hi).1,hs _ _ (h1 i hi).2⟩) (fun i u hu=>(h2 i u hu).mono hs fun _ _ _=>rfl)
structure RepS (g:Gh) (N:Nat) (w:World) (tmps:Array Value) (slots:List PV):Prop where
 size:tmps.size=slots.length
 rep:∀ t,RepV g N w (tmps.getD t undef) (slots.getD t (.tup []))
 glob:GlobRep g w

theorem RepS.ev {g:Gh} {N:Nat} {w:World} {a:Act} {s:List PV} (h:RepS g N w a.tmps s) (x:Operand):RepV g N w (a.eval x) (ev s x):=by
 cases x with
 | tmp t=>exact h.2 t
 | const v=>exact .of_const v
 | func f=>exact .dat _ _ (.raw _ rfl)
 | global gl =>
  show RepV g N w (.pointer (some ⟨gl,0,none⟩)) (match globOf gl with|some cs=>.iptr cs|none=>.undef)
  cases hg:globOf gl with
  | none=>exact .undef _
  | some cs=>exact h.glob.at hg

theorem RepS.ext {N N':Nat} {g g':Gh} {w w':World} {tmps:Array Value} {s:List PV} (hr:RepS g N w tmps s) (h:Ext N g w g' w') (hN:N≤N'):RepS g' N' w' tmps s :=
 ⟨hr.1,fun t=>(hr.2 t).ext h hN,hr.glob.ext h⟩

theorem RepS.put {g:Gh} {N:Nat} {w:World} {a:Act} {s:List PV} (h:RepS g N w a.tmps s) (d:Option Tmp) {v:Value} {p:PV} (hv:RepV g N w v p) :
  RepS g N w (a.put d v).tmps (putS s d p):=by
 cases d with
 | none=>exact h
 | some d =>
  refine ⟨by simp [Act.put,putS,h.1],fun t=>?_,h.glob⟩;simp only [Act.put,putS,jH,jB,Array.getElem?_setIfInBounds,zC];by_cases e:d=t
  ·subst e;by_cases hd:d < s.length
   ·simp [hd,h.1,hv]
   ·have:=h.2 d;simp [hd,h.1] at this ⊢
    simpa [jH,jB,hd,h.1] using this
  ·simpa [e,jH,jB] using h.2 t

theorem rawCells_eq {w:World} {S:Nat→Nat→Prop}:∀ (cs:List Dat) (vs:List Value) (us:List Value),rawCells cs=some us→vs.length=cs.length →
  (∀ (j:Nat) v c,vs[j]? = some v→cs[j]? = some c→RepD w S v c)→vs=us
 | [],vs,us,h,hl,_=>by cases h; exact List.eq_nil_of_length_eq_zero (by simpa using hl)
 | .raw u::r,vs,us,h,hl,hr=>by
  simp only [rawCells,j5] at h;obtain ⟨us',h,rfl⟩:=h;cases vs with
  | nil=>simp at hl
  | cons v vs =>
   have h0:v=u:=by have:=hr 0 v (.raw u) rfl rfl; cases this; rfl
   have:=rawCells_eq r vs us' h (by simpa using hl) (fun j v c h1 h2=>hr (j+1) v c (by simpa using h1) (by simpa using h2));rw [h0,this]
 | .lst _::_,_,_,h,_,_=>by simp [rawCells] at h
 | .agg _::_,_,_,h,_,_=>by simp [rawCells] at h

theorem RepV.toVal {g:Gh} {N:Nat} {w:World} {v u:Value} {p:PV} (h:RepV g N w v p) (hu:p.toVal=some u):v=u:=by
 cases h with
 | dat v d h =>
  cases h with
  | raw v h=>simpa [PV.toVal] using hu
  | nil=>simp [PV.toVal] at hu
  | empty a cap=>simp [PV.toVal] at hu
  | lst=>simp [PV.toVal] at hu
  | agg vs cs h1 h2 =>
   simp only [PV.toVal,j5] at hu;obtain ⟨us,hu,rfl⟩:=hu;have:=rawCells_eq cs vs.toList us hu (by simpa using h1) (fun j v c g1 g2=>h2 j v c (by simpa using g1) g2);rw [← this]
 | _=>simp [PV.toVal] at hu

theorem evalP_run (P:Program) {α:Type}:∀ (s:Sem α) (a:α),evalP P s=some a→∀ w,s.run P w=.ok a w
 | .pure b,a,h,w=>by simp only [evalP,j9] at h; subst h; rfl
 | .program k,a,h,w=>evalP_run P (k P) a h w
 | .load ..,_,h,_=>by simp [evalP] at h
 | .store ..,_,h,_=>by simp [evalP] at h
 | .new ..,_,h,_=>by simp [evalP] at h
 | .shape ..,_,h,_=>by simp [evalP] at h
 | .freeze ..,_,h,_=>by simp [evalP] at h
 | .frozen ..,_,h,_=>by simp [evalP] at h
 | .getObj ..,_,h,_=>by simp [evalP] at h
 | .setObj ..,_,h,_=>by simp [evalP] at h
 | .choose ..,_,h,_=>by simp [evalP] at h
 | .sys ..,_,h,_=>by simp [evalP] at h
 | .mark ..,_,h,_=>by simp [evalP] at h
 | .halt ..,_,h,_=>by simp [evalP] at h

theorem RepV.of_backOf {g:Gh} {N:Nat} {w:World} {v:Value} {p:PV} (h:backOf v=some p):RepV g N w v p:=by
 unfold backOf at h;split at h
 ·split at h
  ·rename_i vs hall;cases h;refine .tup _ _ y7 fun j v c h1 h2=>?_
   simp only [jD,zF,h1,jN,j9] at h2;subst h2;exact .dat _ _ (.raw _ (Array.all_eq_true'.1 hall v (Array.mem_of_getElem? h1)))
  ·cases h
 ·simp only [j5] at h;obtain ⟨d,h,rfl⟩:=h;exact .dat _ _ (.of_rawOf h)

def OpRes (P:Program) (o:Oper) (a:Act) (w:World) (v:Value) (w':World):Prop :=
 (execOp a.eval o).run P w=.ok (.value v) w'∨((execOp a.eval o).run P w=.ok .skip w'∧v=undef)

theorem plain_sound {P:Program} {g:Gh} {N:Nat} {w:World} {o:Oper} {a:Act} {ρ:Operand→PV} {H H':List Blk} {p:PV} (hs:∀ cs b,o.op≠.select cs b)
  (hρ:∀ x,RepV g N w (a.eval x) (ρ x)) (h:plainSem P o ρ H=some (p,H')):∃ v,OpRes P o a w v w∧RepV g N w v p∧H'=H:=by
 unfold plainSem at h;simp only at h;split at h
 ·rename_i hall;split at h
  ·rename_i v hv;simp only [j5,jI] at h;obtain ⟨p',hb,rfl,rfl⟩:=h;refine ⟨v,.inl ?_,.of_backOf hb,rfl⟩;have:=evalP_run P _ _ hv w;rw [← this];congr 1;refine execOp_congr o hs fun x hx=>?_
   have hx':=List.all_eq_true.1 hall ((ρ x).toVal) (List.mem_map.2 ⟨x,by simpa using hx,rfl⟩);obtain ⟨u,hu⟩:=Option.isSome_iff_exists.1 hx';rw [hu,(hρ x).toVal hu]; rfl
  ·cases h
 ·cases h

end Go.Pm
