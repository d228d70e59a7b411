/-
 The pure machine: from a pure call to a statement's contract.
-/
import Derived.Test.YtjcfpjpdopfefaaGreatPmArg
namespace Go.Pm
open Go Go.RowKit Go.Proofs.YtjcfpjpdopfefaaGreat Go.ChangeShapes
set_option linter.unusedVariables false

def TyA (P:Program) (B:Nat) (t:TypeId) (d:Dat):Prop:=∃ n cs,TyC P B n t cs∧d=elemD P t cs
def TyAs (P:Program) (B:Nat):List TypeId→List Dat→Prop
 | [],[]=>True
 | t::ts,d::ds=>TyA P B t d∧TyAs P B ts ds
 | _,_=>False

theorem TyAs_nil {P:Program} {B:Nat}:∀ {dss:List Dat},TyAs P B [] dss→dss=[]
 | [],_=>rfl
 | _::_,h=>h.elim
theorem TyAs_cons {P:Program} {B:Nat} {t:TypeId} {ts:List TypeId}:∀ {dss:List Dat},TyAs P B (t::ts) dss→∃ d ds,dss=d::ds∧TyA P B t d∧TyAs P B ts ds
 | [],h=>h.elim
 | d::ds,h=>⟨d,ds,rfl,h.1,h.2⟩
theorem TyAs_one {P:Program} {B:Nat} {t:TypeId} {dss:List Dat} (h:TyAs P B [t] dss):∃ d,dss=[d]∧TyA P B t d:=by
 obtain ⟨d,ds,rfl,h1,h2⟩:=TyAs_cons h;obtain rfl:=TyAs_nil h2;exact ⟨d,rfl,h1⟩
theorem TyAs_two {P:Program} {B:Nat} {t t':TypeId} {dss:List Dat} (h:TyAs P B [t,t'] dss):∃ d d',dss=[d,d']∧TyA P B t d∧TyA P B t' d':=by
 obtain ⟨d,ds,rfl,h1,h2⟩:=TyAs_cons h;obtain ⟨d',rfl,h3⟩:=TyAs_one h2;exact ⟨d,d',rfl,h1,h3⟩
section
variable {P:Program} {w:World} {H:Type} {enc:TypeId × Value→H} {T:List TypeId} {B:Nat}

theorem not_agg {t:TypeId} {v:Value} (hT:closedTs P T=true) (ht:T.contains t=true) (ha:aggB P t=false) {r:Reach} {b:Nat} (h:Value.okWide P w r b t v):v.cells.toList=[v]:=by
 have hcl:=closed_at hT ht;cases v with
 | agg cs =>
  exfalso
  revert hcl ha h;unfold aggB Value.okWide;split
  ·intro h; cases h
  ·rename_i hne;intro _ hcl;cases hu:P.underlying t with
   | none=>rw [hu] at hcl; cases hcl
   | some u=>rw [hu] at hcl; cases u <;> first|(cases hcl; done)|(simp [Cell.okWide,Cell.ok,hu]; done)|(rename_i fs; exact absurd hu (hne fs))
 | _=>rfl

theorem arg_rep {t:TypeId} {v:Value} {d:DataW H} {ps:List MemPlace} {spare:Nat→Bool} {held:Bool} (hT:closedTs P T=true) (ht:T.contains t=true) (hb:Bnd P B t d) {r:Reach} {b:Nat} (hok:Value.okWide P w r b t v) (h:DataW.Trod enc P w 0 spare held t v d ps) :
  ∃ x,RepD w (fun b _=>b < w.heap.size) v x∧TyA P B t x:=by
 obtain ⟨fuel,hf⟩:=h;obtain ⟨ds,h1,h2,h3⟩:=trod_rep hT fuel t _ d ps ht hb hf;refine ⟨elemD P t ds,?_,fuel,ds,h2,rfl⟩;unfold elemD;cases ha:aggB P t with
 | true =>
  have:∃ vs,v=.agg vs:=by
   unfold aggB at ha;split at ha
   ·rename_i hu;unfold Value.okWide at hok;rw [hu] at hok;obtain ⟨cs,rfl,_⟩:=hok;exact ⟨cs,rfl⟩
   ·cases ha
  obtain ⟨vs,rfl⟩:=this;refine .agg vs ds (by have:=h1.1; simp [Value.cells] at this; omega) fun j v c hv hc=>(h1.2 j v c (by simpa [Value.cells] using hv) hc).1
 | false =>
  have hv:=not_agg hT ht ha hok;rw [hv] at h1 h3
  match ds,h1 with
  | [c],h1=>exact (h1.2 0 v c rfl rfl).1

theorem args_rep (hT:closedTs P T=true) {spare:Nat→Bool} {held:Bool} {r:Reach} {b:Nat}:∀ {ts:List TypeId} {vs:List Value} {ds:List (DataW H)} {ps:List MemPlace},ts.all (fun t=>T.contains t)=true →
  (∀ (j:Nat) t v,ts[j]? = some t→vs[j]? = some v→Value.okWide P w r b t v)→BndE P B ts ds→DataW.TrodAll enc P w 0 spare held ts vs ds ps →
  ∃ dss:List Dat,dss.length=vs.length∧(∀ (j:Nat) v d,vs[j]? = some v→dss[j]? = some d→RepD w (fun b _=>b < w.heap.size) v d)∧TyAs P B ts dss
 | [],vs,ds,ps,_,_,_,h=>by
  obtain ⟨rfl,rfl,rfl⟩:=trodAll_nil h;exact ⟨[],rfl,fun j v d h=>by simp at h,trivial⟩
 | t::ts,vs,ds,ps,hall,hok,hb,h=>by
  obtain ⟨v,vs',d,ds',p,q,rfl,rfl,rfl,hd,hr⟩:=trodAll_cons h;simp only [List.all_cons,jE] at hall;obtain ⟨x,h1,h2⟩:=arg_rep hT hall.1 (BndE.head hb) (hok 0 t v rfl rfl) hd;obtain ⟨xs,h3,h4,h5⟩:=args_rep hT hall.2 (fun j t v ht hv=>hok (j+1) t v (by simpa using ht) (by simpa using hv)) (BndE.tail hb) hr;refine ⟨x::xs,by simp [h3],fun j v d hv hd=>?_,h2,h5⟩;cases j with
  | zero=>simp at hv hd; subst hv; subst hd; exact h1
  | succ j=>exact h4 j v d (by simpa using hv) (by simpa using hd)

theorem args_stay (hl:laidOutB P=true) {w':World} (hb:Below w.heap.size w w') {sp:Nat→Bool}:∀ {ts:List TypeId} {vs:List Value} {ds:List (DataW H)} {ps:List MemPlace},ts.all (fun t=>P.readableRec t && decide (t < P.types.size))=true →
  (∀ p∈ps,p.block < w.heap.size)→(∀ p∈ps,sp p.block=true)→DataW.TrodAll enc P w 0 (fun _=>true) true ts vs ds ps→DataW.TrodAll enc P w' 0 sp true ts vs ds ps
 | [],vs,ds,ps,_,_,_,h=>by
  obtain ⟨rfl,rfl,rfl⟩:=trodAll_nil h;exact rfl
 | t::ts,vs,ds,ps,hall,hlt,hsp,h=>by
  obtain ⟨v,vs',d,ds',p,q,rfl,rfl,rfl,hd,hr⟩:=trodAll_cons h;simp only [List.all_cons,jE,zA] at hall
  exact ⟨p,q,WideElems.Trod_stays hl hall.1.1 hall.1.2 hd (fun x hx=>hb.same (hlt x (by simp [hx]))) (fun x hx=>hsp x (by simp [hx])),
   args_stay hl hb (by simpa using hall.2) (fun x hx=>hlt x (by simp [hx])) (fun x hx=>hsp x (by simp [hx])) hr,rfl⟩

theorem law_calls {f:FuncId} {fn:Func} {s:ChangeSpec} {bt:TypeId} (hT:closedTs P T=true) (hl:laidOutB P=true) (hpar:fn.params.toList.all (fun t=>T.contains t)=true) (hrd:fn.params.toList.all (fun t=>P.readableRec t && decide (t < P.types.size))=true)
  (hres:fn.resultTypes=#[bt]) (hbt:P.underlying bt=some .bool) (hvars:s.vars=[]) (hs:∀ ds:List (DataW H),ds.length=fn.params.size→s.fn H ds={ results:=[.lit (.bool true)],args:=ds })
  (law:∀ dss:List Dat,TyAs P B fn.params.toList dss→PureCall P f dss (Qq true))
  (W:World) (base:Nat) (args:Array Value) (ds gs:List (DataW H)) (before:List MemPlace)
  (hval:∀ (j:Nat) t v,fn.params[j]? = some t→args[j]? = some v→Value.okWide P W .any base t v)
  (hW:DataW.Whole enc P fn.params.toList s.vars false W args.toList ds gs before) (hb:BndE P B fn.params.toList ds) (hG:GlobRep (gS fun b _=>b < W.heap.size) W:=by intro gl cs hc; cases hc) :
  Calls P f args W fun e W'=>∃ v,e=.returned v∧s.post enc P fn false true false false W args v W':=by
 have hW':=hW;obtain ⟨p,q,hA,hV,rfl,hfz,hnd⟩:=hW;have hV':=hV;rw [hvars] at hV';obtain ⟨rfl,rfl⟩:=trodVars_none hV';obtain ⟨dss,h1,h2,h3⟩:=args_rep hT hpar (fun j t v ht hv=>hval j t v (by simpa using ht) (by simpa using hv)) hb hA;have hlt:∀ x∈p++[],x.block < W.heap.size:=fun x hx=>hW'.lt x hx
 simp only [jU] at hlt
 have hlen:ds.length=fn.params.size:=by
  have:∀ {ts:List TypeId} {vs:List Value} {ds:List (DataW H)} {ps:List MemPlace},DataW.TrodAll enc P W 0 (fun _=>true) true ts vs ds ps→ds.length=ts.length:=by
   intro ts;induction ts with
   | nil=>intro vs ds ps h; obtain ⟨rfl,rfl,rfl⟩:=trodAll_nil h; rfl
   | cons t ts ih=>intro vs ds ps h; obtain ⟨v,vs',d,ds',p,q,rfl,rfl,rfl,hd,hr⟩:=trodAll_cons h; simp [ih hr]
  rw [this hA]; simp
 refine (law dss h3 W (fun b _=>b < W.heap.size) args (fun b o h=>h) (by rw [h1]; simp) (fun j v d hv hd=>h2 j v d (by simpa using hv) hd) hG).mono fun e W' he=>?_
 obtain ⟨v,rfl,hbel,hrep⟩:=he
 have hv:v=.bool true:=by
  cases hrep with
  | dat _ _ h=>cases h with
   | raw _ h=>rfl
 subst hv;refine ⟨_,rfl,ds,[],p++[],[],p,[],hW',?_,?_,?_,?_,fun h=>by cases h⟩
 ·rw [jU,hs ds hlen,hres];exact trodAll_mk1 (shut_bool hbt true)
 ·rw [jU,hs ds hlen];exact args_stay hl hbel hrd hlt (fun x hx=>by simpa using hlt x hx) hA
 ·rw [hvars,jU,hs ds hlen]; rfl
 ·exact World.keptBut_mono (fun x hx=>⟨by simpa using hx,Or.inr (Or.inl (by simpa using hx))⟩) (hbel.frame (·∈p))
end
end Go.Pm
