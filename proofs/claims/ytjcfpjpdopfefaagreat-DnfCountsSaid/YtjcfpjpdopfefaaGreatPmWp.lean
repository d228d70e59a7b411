/-
 The pure machine: what a piece of code comes to, whatever the fuel, if it is enough.
-/
import Derived.Test.YtjcfpjpdopfefaaGreatPmFun
namespace Go.Pm
open Go
set_option linter.unusedVariables false

section
variable (P:Program) (E:Env)

def PC (f:FuncId) (args:List PV) (H:List Blk) (p:PV) (H':List Blk):Prop:=∃ N,∀ k,N≤k→pfun P E k f args H=some (p,H')

def R (hn:Hint) (rg:Bool) (c:Code) (st:St) (Q:Ex→St→Prop):Prop :=
 ∃ e st',(∃ N,∀ k n,N≤k→N≤n→pcode P (pfun P E k) E.pf E.hint hn rg n c st=some (e,st'))∧Q e st'
def RL (hn:Hint) (rg:Bool) (b:Code) (h0:Nat) (st:St) (Q:Ex→St→Prop):Prop :=
 ∃ e st',(∃ N,∀ k n,N≤k→N≤n→pcode.ploop P (pfun P E k) E.pf E.hint hn rg b h0 n st=some (e,st'))∧Q e st'
def OpsE (hn:Hint) (r:Nat) (ops:Array Oper) (i:Nat) (os:List Oper) (st:St) (Q:St→Prop):Prop :=
 ∃ st',(∃ N,∀ k,N≤k→opsFrom P (pfun P E k) hn r ops i os st=some st')∧Q st'
def SemE (ow:List (Nat × TypeId)) (o:Oper) (ρ:Operand→PV) (H:List Blk) (Q:PV→List Blk→Prop):Prop :=
 ∃ v H',(∃ N,∀ k,N≤k→sem P (pfun P E k) ow o ρ H=some (v,H'))∧Q v H'
def DrawE (hn:Hint) (r:Nat) (ops:Array Oper) (i:Nat) (os:List Oper) (st:St) (fl:List Nat) (Q:List Nat→St→Prop):Prop :=
 ∃ st' fl',(∃ N,∀ k,N≤k→drawRun P (pfun P E k) E.pf hn r ops i os st=some (st',fl'))∧Q (fl++fl') st'
end

section
variable {P:Program} {E:Env} {hn:Hint} {rg:Bool} {c a b:Code} {st:St} {Q Q':Ex→St→Prop}

theorem R.mono (h:R P E hn rg c st Q) (hq:∀ e s,Q e s→Q' e s):R P E hn rg c st Q':=let ⟨e,s,h1,h2⟩:=h; ⟨e,s,h1,hq e s h2⟩
theorem RL.mono {h0:Nat} (h:RL P E hn rg b h0 st Q) (hq:∀ e s,Q e s→Q' e s):RL P E hn rg b h0 st Q':=let ⟨e,s,h1,h2⟩:=h; ⟨e,s,h1,hq e s h2⟩

theorem Qp (h:Q .normal st):R P E hn rg .skip st Q:=⟨_,_,⟨1,fun k n hk hn=>by cases n with|zero=>omega|succ n=>rfl⟩,h⟩
theorem QC {id:Nat} (h:Q (.exit id) st):R P E hn rg (.exit id) st Q:=⟨_,_,⟨1,fun k n hk hn=>by cases n with|zero=>omega|succ n=>rfl⟩,h⟩
theorem Qs (h:Q .ret st):R P E hn rg .ret st Q:=⟨_,_,⟨1,fun k n hk hn=>by cases n with|zero=>omega|succ n=>rfl⟩,h⟩

theorem Qj (h:R P E hn rg a st fun e s=>match e with|.normal=>R P E hn rg b s Q|e=>Q e s):R P E hn rg (.seq a b) st Q:=by
 obtain ⟨e,s,⟨N,h1⟩,h2⟩:=h;cases e with
 | normal =>
  obtain ⟨e',s',⟨N',h3⟩,h4⟩:=h2;refine ⟨e',s',⟨max N N'+1,fun k n hk hn=>?_⟩,h4⟩;cases n with
  | zero=>omega
  | succ n=>simp only [pcode]; rw [h1 k n y5 y5]; exact h3 k n y5 y5
 | exit id =>
  refine ⟨_,s,⟨N+1,fun k n hk hn=>?_⟩,h2⟩;cases n with
  | zero=>omega
  | succ n=>simp only [pcode]; rw [h1 k n y5 y5]
 | ret =>
  refine ⟨_,s,⟨N+1,fun k n hk hn=>?_⟩,h2⟩;cases n with
  | zero=>omega
  | succ n=>simp only [pcode]; rw [h1 k n y5 y5]

theorem QaS {x:Operand} (hx:ev st.slots x=Qq true) (h:R P E hn rg a st Q):R P E hn rg (.cond x a b) st Q:=by
 obtain ⟨e,s,⟨N,h1⟩,h2⟩:=h;refine ⟨e,s,⟨N+1,fun k n hk hn=>?_⟩,h2⟩;cases n with
 | zero=>omega
 | succ n=>simp only [pcode,hx,Qq,boolOf]; exact h1 k n y5 y5
theorem Qad {x:Operand} (hx:ev st.slots x=Qq false) (h:R P E hn rg b st Q):R P E hn rg (.cond x a b) st Q:=by
 obtain ⟨e,s,⟨N,h1⟩,h2⟩:=h;refine ⟨e,s,⟨N+1,fun k n hk hn=>?_⟩,h2⟩;cases n with
 | zero=>omega
 | succ n=>simp only [pcode,hx,Qq,boolOf]; exact h1 k n y5 y5
theorem QbA {x:Operand} {t:Bool} (hx:ev st.slots x=Qq t) (h1:t=true→R P E hn rg a st Q) (h2:t=false→R P E hn rg b st Q):R P E hn rg (.cond x a b) st Q:=by
 cases t with
 | true=>exact QaS hx (h1 rfl)
 | false=>exact Qad hx (h2 rfl)
theorem QbL {x:Operand} {p:Prop} [Decidable p] (hx:ev st.slots x=Qq (decide p)) (h1:p→R P E hn rg a st Q) (h2:¬ p→R P E hn rg b st Q):R P E hn rg (.cond x a b) st Q :=
 QbA hx (fun h=>h1 (of_decide_eq_true h)) (fun h=>h2 (of_decide_eq_false h))

theorem Qo {id:Nat} (h:R P E hn rg b st fun e s=>match e with|.exit id'=>if id'=id then Q .normal s else Q (.exit id') s|e=>Q e s):R P E hn rg (.block id b) st Q:=by
 obtain ⟨e,s,⟨N,h1⟩,h2⟩:=h;cases e with
 | exit id' =>
  by_cases hid:id'=id
  ·simp only [hid,if_true] at h2;refine ⟨_,s,⟨N+1,fun k n hk hn=>?_⟩,h2⟩;cases n with
   | zero=>omega
   | succ n=>simp only [pcode]; rw [h1 k n y5 y5]; simp [hid]
  ·simp only [hid,if_false] at h2;refine ⟨_,s,⟨N+1,fun k n hk hn=>?_⟩,h2⟩;cases n with
   | zero=>omega
   | succ n=>simp only [pcode]; rw [h1 k n y5 y5]; simp [hid]
 | normal =>
  refine ⟨_,s,⟨N+1,fun k n hk hn=>?_⟩,h2⟩;cases n with
  | zero=>omega
  | succ n=>simp only [pcode]; rw [h1 k n y5 y5]
 | ret =>
  refine ⟨_,s,⟨N+1,fun k n hk hn=>?_⟩,h2⟩;cases n with
  | zero=>omega
  | succ n=>simp only [pcode]; rw [h1 k n y5 y5]

theorem Qbe (h:RL P E hn rg b st.heap.length st Q):R P E hn rg (.loop b) st Q:=by
 obtain ⟨e,s,⟨N,h1⟩,h2⟩:=h;refine ⟨e,s,⟨N+1,fun k n hk hn=>?_⟩,h2⟩;cases n with
 | zero=>omega
 | succ n=>simp only [pcode]; exact h1 k n y5 y5

theorem RL_step {h0:Nat} (h:R P E hn rg b (prune h0 ((QO b).bind hn.keepAt) st) fun e s=>match e with|.normal=>RL P E hn rg b h0 s Q|e=>Q e s):RL P E hn rg b h0 st Q:=by
 obtain ⟨e,s,⟨N,h1⟩,h2⟩:=h;cases e with
 | normal =>
  obtain ⟨e',s',⟨N',h3⟩,h4⟩:=h2;refine ⟨e',s',⟨max N N'+1,fun k n hk hn=>?_⟩,h4⟩;cases n with
  | zero=>omega
  | succ n=>simp only [pcode.ploop]; rw [h1 k n y5 y5]; exact h3 k n y5 y5
 | exit id =>
  refine ⟨_,s,⟨N+1,fun k n hk hn=>?_⟩,h2⟩;cases n with
  | zero=>omega
  | succ n=>simp only [pcode.ploop]; rw [h1 k n y5 y5]
 | ret =>
  refine ⟨_,s,⟨N+1,fun k n hk hn=>?_⟩,h2⟩;cases n with
  | zero=>omega
  | succ n=>simp only [pcode.ploop]; rw [h1 k n y5 y5]

theorem Qbf {r:Nat} {ops:Array Oper} (h:OpsE P E hn r ops 0 ops.toList st fun s=>Q .normal s) (hfl:hn.flatAt r=none:=by kernel_rfl):R P E hn rg (.region r ops false) st Q:=by
 obtain ⟨s,⟨N,h1⟩,h2⟩:=h;refine ⟨_,s,⟨N+1,fun k n hk hn=>?_⟩,h2⟩;cases n with
 | zero=>omega
 | succ n=>simp only [pcode,hfl,h1 k y5,jN]

theorem QbB {r:Nat} {ops:Array Oper} (h:DrawE P E hn r ops 0 ops.toList st [] fun fl s=>orderOk st.heap.length ops fl=true∧Q .normal s):R P E hn rg (.region r ops true) st Q:=by
 obtain ⟨s,fl,⟨N,h1⟩,h2,h3⟩:=h;refine ⟨_,s,⟨N+1,fun k n hk hn=>?_⟩,h3⟩;cases n with
 | zero=>omega
 | succ n =>
  simp only [jQ] at h2;simp only [pcode,h1 k y5,h2,if_true]

theorem DrawE_do {r i:Nat} {ops:Array Oper} {o:Oper} {os:List Oper} {fl:List Nat} {Q:List Nat→St→Prop} (hw:wantedA ops st.slots o=some true)
  (h:SemE P E (hn.ownAt r i) o (ev st.slots) st.heap fun v H=>DrawE P E hn r ops (i+1) os ⟨putS st.slots o.dst v,H⟩ (fl++[sensT E.pf hn r i o (ev st.slots)]) Q) :
  DrawE P E hn r ops i (o::os) st fl Q:=by
 obtain ⟨v,H,⟨N,h1⟩,s,fl',⟨N',h2⟩,h3⟩:=h;refine ⟨s,sensT E.pf hn r i o (ev st.slots)::fl',⟨max N N',fun k hk=>?_⟩,by simpa using h3⟩;simp only [drawRun,opStep,hw,h1 k y5,h2 k y5,if_true]
section
variable {ow:List (Nat × TypeId)} {o:Oper} {ρ:Operand→PV} {H:List Blk} {K:PV→List Blk→Prop}

theorem SemE_of {v:PV} {H':List Blk} (h:∀ call,sem P call ow o ρ H=some (v,H')) (hk:K v H'):SemE P E ow o ρ H K:=⟨v,H',⟨0,fun k _=>h _⟩,hk⟩

theorem QaZ {f:FuncId} {x:Operand} {args:Array Operand} {ts:Array TypeId} {first cap:Array Value} {ow':List (Nat × TypeId)} {j:Nat × TypeId} {ds:List Dat} {t g len cp e:Nat} {cs:List PV} {H1:List Blk}
  (ho:o.op=.call { callee:=.value x,args,argTypes:=ts }) (hx:ρ x=.dat (.raw (.func (.func f) first cap))) (hw:ow=j::ow') (hl:(!((args.toList.map ρ).any PV.lends) || (cs.take len).all PV.plainCell)=true) (hd:pures H (args.toList.map ρ)=some ds)
  (hc:PC P E f (ds.map .dat) [] (.ms t g 0 len cp) H1) (hm:mtOf H1 t=some (e,g,cs)) (hle:len≤cs.length) (ha:(allDat (cs.take len)).isSome=true) (hk:K (.ms H.length 1 0 len len) (H++[.mt e 1 (cs.take len)])) (hj:¬ 2000≤j.1:=by decide):SemE P E ow o ρ H K:=by
 obtain ⟨N,h⟩:=hc;subst hw;exact ⟨_,_,⟨N,fun k hk=>by rw [sem]; simp only [ho,hx,if_neg hj,if_neg (show ¬ 13000≤j.1 by omega),if_neg (show ¬ 12000≤j.1 by omega),if_neg (show ¬ j.1=7000 by omega),if_neg (show ¬ 6000≤j.1 by omega),if_neg (show ¬ j.1=5000 by omega),freshCall,hl,hd,h k hk,hm,hle,ha,and_self,if_true]⟩,hk⟩
end

theorem PC_pure {f:FuncId} {fn:Func} {args:List PV} {ds:List Dat} {H:List Blk} {p:PV} (hent:enters P f=true) (hs:E.summ f=none) (hp:E.pure f=true) (hf:P.funcs[f]? = some fn) (hb:fn.body=some c) (hds:pures H args=some ds)
  (hR:R P E (E.hint f) true c ⟨ds.map .dat++List.replicate (fn.ntmps - (ds.map PV.dat).length) (.tup []),[]⟩ fun e s=>(match e with|.exit _=>False|_=>True)∧∃ vs,ressOf P s.slots s.heap fn.results.toList=some vs∧pureOut s.heap (tupOf vs)=some p)
  (hl:args.any PV.lends=true→scalarOut p=true) (hsp:(E.split f && (isEmp (ds.map .dat) && true))=false:=by rfl):PC P E f args H p H:=by
 obtain ⟨e,s,⟨N,h1⟩,h2,vs,h3,h4⟩:=hR;refine ⟨N+1,fun k hk=>?_⟩;cases k with
 | zero=>omega
 | succ k =>
  have hb':pbodyS P E (pfun P E k) k f (ds.map .dat) []=some (tupOf vs,s.heap):=by
   unfold pbodyS;rw [if_neg (by rw [show (E.split f && (isEmp (ds.map PV.dat) && ([]:List Blk).isEmpty))=false from hsp]; decide)];unfold pbody;simp only [hf,hb,h1 k k y5 y5];cases e with
   | exit id=>exact h2.elim
   | normal=>simp [h3]
   | ret=>simp [h3]
  simp only [pfun,hent,hs,hp,hds,hb',h4];by_cases hla:args.any PV.lends=true
  ·simp [hla,hl hla]
  ·simp [hla]

theorem PC_body {f:FuncId} {fn:Func} {args:List PV} {H H':List Blk} {p:PV} (hent:enters P f=true) (hs:E.summ f=none) (hp:E.pure f=false) (hf:P.funcs[f]? = some fn) (hb:fn.body=some c)
  (hR:R P E (E.hint f) true c ⟨args++List.replicate (fn.ntmps - args.length) (.tup []),H⟩ fun e s=>(match e with|.exit _=>False|_=>True)∧∃ vs,ressOf P s.slots s.heap fn.results.toList=some vs∧p=tupOf vs∧H'=s.heap) (hsp:(E.split f && (isEmp args && H.isEmpty))=false:=by rfl):PC P E f args H p H':=by
 obtain ⟨e,s,⟨N,h1⟩,h2,vs,h3,rfl,rfl⟩:=hR;refine ⟨N+1,fun k hk=>?_⟩;cases k with
 | zero=>omega
 | succ k =>
  have hb':pbodyS P E (pfun P E k) k f args H=some (tupOf vs,s.heap):=by
   unfold pbodyS;rw [if_neg (by rw [hsp]; decide)];unfold pbody;simp only [hf,hb,h1 k k y5 y5];cases e with
   | exit id=>exact h2.elim
   | normal=>simp [h3]
   | ret=>simp [h3]
  simp [pfun,hent,hs,hp,hb']

end
end Go.Pm
