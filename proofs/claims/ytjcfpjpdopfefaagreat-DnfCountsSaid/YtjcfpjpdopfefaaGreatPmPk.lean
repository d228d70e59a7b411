/-
 The pure machine: short forms for walks.
-/
import Derived.Test.YtjcfpjpdopfefaaGreatPmSx
import Derived.KernelRfl
namespace Go.Pm
open Go Go.RowKit
set_option linter.unusedVariables false
theorem fin_bodyY {P:Program} {slots:List PV} {H Hn:List Blk} {rs:List ResultVar} {p:PV} (h:(ressOf P slots H rs).map tupOf=some p) (hH:Hn++H.drop Hn.length=H):∃ X,∃ vs,ressOf P slots H rs=some vs∧p=tupOf vs∧Hn++X=H:=fin_bodyX _ h hH
theorem kr {p:Prop} (h:p:=by kernel_rfl):p:=h
theorem zf {p:Prop} (h:p:=by
 first|obtain rfl:=Qbj hm|obtain ⟨rfl,rfl⟩:=QbM hm|obtain ⟨rfl,rfl,rfl⟩:=QbN hm|obtain ⟨rfl,rfl,rfl,rfl⟩:=QbO hm|obtain ⟨rfl,rfl,rfl,rfl,rfl⟩:=QbP hm|obtain ⟨rfl,rfl,rfl,rfl,rfl,rfl⟩:=QbQ hm|obtain ⟨rfl,rfl,rfl,rfl,rfl,rfl,rfl⟩:=QbR hm|obtain ⟨rfl,rfl,rfl,rfl,rfl,rfl,rfl,rfl⟩:=QbS hm|obtain ⟨rfl,rfl,rfl,rfl,rfl,rfl,rfl,rfl,rfl⟩:=QbT hm|obtain ⟨rfl,rfl,rfl,rfl,rfl,rfl,rfl,rfl,rfl,rfl⟩:=QbF hm|obtain ⟨rfl,rfl,rfl,rfl,rfl,rfl,rfl,rfl,rfl,rfl,rfl⟩:=QbG hm|obtain ⟨rfl,rfl,rfl,rfl,rfl,rfl,rfl,rfl,rfl,rfl,rfl,rfl⟩:=QbH hm|obtain ⟨rfl,rfl,rfl,rfl,rfl,rfl,rfl,rfl,rfl,rfl,rfl,rfl,rfl⟩:=QbI hm|obtain ⟨rfl,rfl,rfl,rfl,rfl,rfl,rfl,rfl,rfl,rfl,rfl,rfl,rfl,rfl⟩:=QbJ hm|obtain ⟨rfl,rfl,rfl,rfl,rfl,rfl,rfl,rfl,rfl,rfl,rfl,rfl,rfl,rfl,rfl⟩:=inj15 hm|skip
 first|exact ⟨trivial,Qbi⟩|exact ⟨trivial,fin_fresh⟩|exact ⟨rfl,QaI⟩|exact QaI|exact hJ _ _|exact ⟨trivial,Qbh (by kernel_rfl) (by kernel_rfl)⟩|exact ⟨trivial,fin_bodyY (by kernel_rfl) (by kernel_rfl)⟩):p:=h
theorem bi {α0 β:Type} {x:Option (α0)} {f:α0→Option β} {r:β} {P:Prop} (h:(x>>=f)=some r) (k:∀ a0,x=some a0→f a0=some r→P):P:=by
 obtain ⟨a0,h1,h2⟩:=X7 h; exact k a0 h1 h2
theorem bi2 {α0 α1 β:Type} {x:Option (α0 × α1)} {f:(α0 × α1)→Option β} {r:β} {P:Prop} (h:(x>>=f)=some r) (k:∀ a0 a1,x=some (a0,a1)→f (a0,a1)=some r→P):P:=by
 obtain ⟨⟨a0,a1⟩,h1,h2⟩:=X7 h; exact k a0 a1 h1 h2
theorem bi4 {α0 α1 α2 α3 β:Type} {x:Option (α0 × α1 × α2 × α3)} {f:(α0 × α1 × α2 × α3)→Option β} {r:β} {P:Prop} (h:(x>>=f)=some r) (k:∀ a0 a1 a2 a3,x=some (a0,a1,a2,a3)→f (a0,a1,a2,a3)=some r→P):P:=by
 obtain ⟨⟨a0,a1,a2,a3⟩,h1,h2⟩:=X7 h; exact k a0 a1 a2 a3 h1 h2
theorem bs {α α' β:Type} {x:Option (α ⊕ α')} {f:α ⊕ α'→Option β} {r:β} {P:Prop} (h:(x>>=f)=some r) (k1:∀ a,x=some (.inl a)→f (.inl a)=some r→P) (k2:∀ a,x=some (.inr a)→f (.inr a)=some r→P):P:=by
 obtain ⟨a,h1,h2⟩:=X7 h;cases a with
 | inl a=>exact k1 a h1 h2
 | inr a=>exact k2 a h1 h2
theorem gi {p:Prop} [Decidable p] {β:Type} {f:Unit→Option β} {r:β} {P:Prop} (h:(ZY p>>=f)=some r) (k:p→f ()=some r→P):P:=by
 obtain ⟨_,h1,h2⟩:=X7 h; exact k (Qa1 h1) h2
def FP (P:Program) (E:Env) (f:FuncId) (ds:List Dat) (p:PV):Prop:=∀ H,PC P E f (ds.map .dat) H p H
def P1 {A:Type} (e1:Ex) (s1:A→List PV→St) (a:A) (e:Ex) (s:St):Prop:=e=e1∧∃ d,s=s1 a d
def P2 {A B:Type} (e1:Ex) (s1:A→List PV→St) (e2:Ex) (s2:B→List PV→St):A ⊕ B→Ex→St→Prop
 | .inl a=>P1 e1 s1 a
 | .inr b=>P1 e2 s2 b
def LP (P:Program) (E:Env) (f:Func) (n:Nat) (path:List Nat) (h0:Nat) (C:St) (post:Ex→St→Prop):Prop :=
 ∀ st,prune h0 ((QO (YS path (Jr f))).bind (E.hint n).keepAt) st=C→RL P E (E.hint n) true (YS path (Jr f)) h0 st post
section
variable {P:Program} {E:Env} {f:Func} {n:Nat} {path:List Nat} {h0:Nat} {C:St} {post Q:Ex→St→Prop} {b:Code} {st:St}
theorem lp (k:R P E (E.hint n) true (YS path (Jr f)) C fun e s=>match e with|.normal=>RL P E (E.hint n) true (YS path (Jr f)) h0 s post|e=>post e s):LP P E f n path h0 C post:=fun _ h=>RL_at h k
theorem ru {post:Ex→St→Prop} (w:LP P E f n path h0 C post) (after:∀ e s,post e s→Q e s) (hst:prune h0 ((QO (YS path (Jr f))).bind (E.hint n).keepAt) st=C) (hb:b=YS path (Jr f)) (hh:st.heap.length=h0):R P E (E.hint n) true (.loop b) st Q :=
 Qbe (RL_use w hst after hb hh)
theorem ru1 {A β:Type} {m:Option A} {k:A→Option β} {r:β} {e1:Ex} {s1:A→List PV→St} (hm:(m>>=k)=some r) (w:∀ o,m=some o→LP P E f n path h0 C (P1 e1 s1 o)) (k1:∀ a d,k a=some r→Q e1 (s1 a d))
  (hst:prune h0 ((QO (YS path (Jr f))).bind (E.hint n).keepAt) st=C:=by kernel_rfl) (hb:b=YS path (Jr f):=by kernel_rfl) (hh:st.heap.length=h0:=by kernel_rfl):R P E (E.hint n) true (.loop b) st Q:=by
 obtain ⟨o,h1,h2⟩:=X7 hm;refine ru (w o h1) (fun e s h=>?_) hst hb hh;obtain ⟨rfl,d,rfl⟩:=h;exact k1 o d h2
theorem ru2 {A B β:Type} {m:Option (A ⊕ B)} {k:A ⊕ B→Option β} {r:β} {e1 e2:Ex} {s1:A→List PV→St} {s2:B→List PV→St} (hm:(m>>=k)=some r) (w:∀ o,m=some o→LP P E f n path h0 C (P2 e1 s1 e2 s2 o))
  (k1:∀ a d,k (.inl a)=some r→Q e1 (s1 a d)) (k2:∀ a d,k (.inr a)=some r→Q e2 (s2 a d))
  (hst:prune h0 ((QO (YS path (Jr f))).bind (E.hint n).keepAt) st=C:=by kernel_rfl) (hb:b=YS path (Jr f):=by kernel_rfl) (hh:st.heap.length=h0:=by kernel_rfl):R P E (E.hint n) true (.loop b) st Q:=by
 obtain ⟨o,h1,h2⟩:=X7 hm;refine ru (w o h1) (fun e s h=>?_) hst hb hh;cases o with
 | inl a=>obtain ⟨rfl,d,rfl⟩:=h; exact k1 a d h2
 | inr a=>obtain ⟨rfl,d,rfl⟩:=h; exact k2 a d h2
end
section
variable {P:Program} {E:Env} {hn:Hint} {rg:Bool} {r i:Nat} {ops:Array Oper} {c:Cf} {Q:Cf→Prop} {b:Code} {st:St} {QQ:Ex→St→Prop}
theorem fp {f:FuncId} {fn:Func} {ds:List Dat} {p:PV} {c:Code} (hb:fn.body=some c)
  (hR:R P E (E.hint f) true c ⟨en fn.ntmps (ds.map .dat),[]⟩ fun e s=>(match e with|.exit _=>False|_=>True)∧∃ vs,ressOf P s.slots s.heap fn.results.toList=some vs∧pureOut s.heap (tupOf vs)=some p) (hq:(enters P f && ((E.summ f).isNone && E.pure f && !(E.split f && (isEmp (ds.map .dat) && true))))=true:=by kernel_rfl) (hf:P.funcs[f]? = some fn:=by kernel_rfl) (hl:lentOk (ds.map .dat) p=true:=by kernel_rfl):FP P E f ds p :=
 fun _=>PC_sx hb hR hq hf hl
theorem cp {f:FuncId} {ds:List Dat} {p:PV} (hc:FP P E f ds p) (hk:G P E hn r ops (i+1) (putF E hn r ops i c p id) Q)
  (hp:(E.pure f && (E.summ f).isNone)=true:=by kernel_rfl) (h:callPAt hn r ops i c.1 p=some (f,ds):=by kernel_rfl):G P E hn r ops i c Q:=Yz (hc []) hk hp h
theorem re (k:Nat) (hk:Q (runC P E hn r ops i k c)) (h:(runS P E hn r ops i k c.1).isSome=true:=by kernel_rfl) (hl:decide (i+k≤ops.size)=true:=by kernel_rfl) (he:decide (i+k=ops.size)=true:=by kernel_rfl):G P E hn r ops i c Q :=
 Qf k (Jh hk he) h hl
theorem gr {a:Code} (k:Nat) (h':G P E hn r ops (0+k) (runC P E hn r ops 0 k (st,[])) (fun c=>R P E hn rg a c.1 QQ)) (h:(runS P E hn r ops 0 k st).isSome=true:=by kernel_rfl) (hl:decide (0+k≤ops.size)=true:=by kernel_rfl) (hfl:hn.flatAt r=none:=by kernel_rfl) :
  R P E hn rg (.seq (.region r ops false) a) st QQ:=Qj (R_G (Qf k h' h hl) hfl)
theorem ge {a:Code} (k:Nat) (h':R P E hn rg a (runC P E hn r ops 0 k (st,[])).1 QQ) (h:(runS P E hn r ops 0 k st).isSome=true:=by kernel_rfl) (hl:decide (0+k≤ops.size)=true:=by kernel_rfl) (he:decide (0+k=ops.size)=true:=by kernel_rfl) (hfl:hn.flatAt r=none:=by kernel_rfl) :
  R P E hn rg (.seq (.region r ops false) a) st QQ:=Qj (R_G (Qf k (Jh h' he) h hl) hfl)
def ownAtC (hn:Hint) (r:Nat) (ops:Array Oper) (i:Nat) (st:St):Option (FuncId × List PV) :=
 match ops[i]? with
 | some o=>if wantedA ops st.slots o=some true then
   (match o.op with
    | .call c=>match c.callee,hn.ownAt r i with
     | .value x,j::_=>match ev st.slots x with
      | .dat (.raw (.func (.func f) _ _))=>if j.1 < 2000 then some (f,c.args.toList.map (ev st.slots)) else none
      | _=>none
     | _,_=>none
    | _=>none) else none
 | none=>none
theorem gol {α:Type} (N e:Nat) (f0:α→Dat) {l:List α} {f:FuncId} {args:List PV} {ds:List Dat} {t g cp:Nat} {H1:List Blk} (hc:PC P E f (ds.map .dat) [] (.ms t g 0 l.length cp) H1) (hm:mtOf H1 t=some (e,g,cellsOf f0 l))
  (hd:pures c.1.heap args=some ds) (hl:(!(args.any PV.lends) || (cellsOf f0 l).all PV.plainCell)=true) (hk:G P E hn r ops (i+1) (putF E hn r ops i c (.ms N 1 0 l.length l.length) (fun H=>H++[.mt e 1 (cellsOf f0 l)])) Q)
  (h:ownAtC hn r ops i c.1=some (f,args):=by kernel_rfl) (hN:c.1.heap.length=N:=by kernel_rfl):G P E hn r ops i c Q:=by
 simp only [ownAtC] at h;cases ho:ops[i]? with
 | none=>rw [ho] at h; cases h
 | some o =>
  rw [ho] at h;simp only at h;by_cases hw:wantedA ops c.1.slots o=some true
  ·rw [if_pos hw] at h;split at h
   ·rename_i c' hop;split at h
    ·rename_i x j ow' hcal how;split at h
     ·rename_i g' a b hx;split at h
      ·rename_i hj;cases h;refine Qba ho hw ?_;rw [how];refine QaQ N (x:=x) (args:=c'.args) (ts:=c'.argTypes) ?_ hx rfl hl hd hc hm hk hN y5;rw [hop];cases c';simp only at hcal;rw [hcal]
      ·cases h
     ·cases h
    ·cases h
   ·cases h
  ·rw [if_neg hw] at h; cases h
def ownAtD (hn:Hint) (r:Nat) (ops:Array Oper) (i:Nat) (st:St):Option (FuncId × List Dat) :=
 match ownAtC hn r ops i st with
 | some (f,args)=>if args.any PV.lends then none else (pures st.heap args).map fun ds=>(f,ds)
 | none=>none
theorem go {α:Type} (N e:Nat) (f0:α→Dat) {l:List α} {f:FuncId} {ds:List Dat} {t g cp:Nat} {H1:List Blk} (hc:PC P E f (ds.map .dat) [] (.ms t g 0 l.length cp) H1)
  (hk:G P E hn r ops (i+1) (putF E hn r ops i c (.ms N 1 0 l.length l.length) (fun H=>H++[.mt e 1 (cellsOf f0 l)])) Q) (hm:mtOf H1 t=some (e,g,cellsOf f0 l):=by exact Jq (by kernel_rfl))
  (h:ownAtD hn r ops i c.1=some (f,ds):=by kernel_rfl) (hN:c.1.heap.length=N:=by kernel_rfl):G P E hn r ops i c Q:=by
 simp only [ownAtD] at h;split at h
 ·rename_i f' args ho;split at h
  ·cases h
  ·rename_i hl;cases hd:pures c.1.heap args with
   | none=>rw [hd] at h; cases h
   | some d=>rw [hd] at h; cases h; exact gol N e f0 hc hm hd (by simp [hl]) hk ho hN
 ·cases h
theorem ri {x:Operand} {p:Prop} [Decidable p] {α:Type} {ma mb:Option α} {rr:α} {a b:Code} (hm:(if p then ma else mb)=some rr) (h1:ma=some rr→R P E hn rg a st QQ) (h2:mb=some rr→R P E hn rg b st QQ) (hx:ev st.slots x=Qq (decide p):=by kernel_rfl):R P E hn rg (.cond x a b) st QQ:=QaG hm (rfl) h1 h2 hx
theorem gs {p:Prop} [Decidable p] {α:Type} {ma mb:Option α} {rr:α} (j:Nat) (hm:(if p then ma else mb)=some rr) (h1:ma=some rr→G P E hn r ops i (setC c j true) Q) (h2:mb=some rr→G P E hn r ops i (setC c j false) Q) (hb:c.1.slots[j]? = some (Qq (decide p)):=by kernel_rfl):G P E hn r ops i c Q:=JL j hm (rfl) h1 h2 hb
theorem rib {x:Operand} {q:Bool} {α:Type} {ma mb:Option α} {rr:α} {a b:Code} (hm:(if q=true then ma else mb)=some rr) (h1:ma=some rr→R P E hn rg a st QQ) (h2:mb=some rr→R P E hn rg b st QQ) (hx:ev st.slots x=Qq (q):=by kernel_rfl):R P E hn rg (.cond x a b) st QQ:=QaG hm (QaH _) h1 h2 hx
theorem gsb {q:Bool} {α:Type} {ma mb:Option α} {rr:α} (j:Nat) (hm:(if q=true then ma else mb)=some rr) (h1:ma=some rr→G P E hn r ops i (setC c j true) Q) (h2:mb=some rr→G P E hn r ops i (setC c j false) Q) (hb:c.1.slots[j]? = some (Qq (q)):=by kernel_rfl):G P E hn r ops i c Q:=JL j hm (QaH _) h1 h2 hb
theorem rin {x:Operand} {q:Bool} {α:Type} {ma mb:Option α} {rr:α} {a b:Code} (hm:(if q=false then ma else mb)=some rr) (h1:ma=some rr→R P E hn rg a st QQ) (h2:mb=some rr→R P E hn rg b st QQ) (hx:ev st.slots x=Qq (!q):=by kernel_rfl):R P E hn rg (.cond x a b) st QQ:=QaG hm (QaX _) h1 h2 hx
theorem gsn {q:Bool} {α:Type} {ma mb:Option α} {rr:α} (j:Nat) (hm:(if q=false then ma else mb)=some rr) (h1:ma=some rr→G P E hn r ops i (setC c j true) Q) (h2:mb=some rr→G P E hn r ops i (setC c j false) Q) (hb:c.1.slots[j]? = some (Qq (!q)):=by kernel_rfl):G P E hn r ops i c Q:=JL j hm (QaX _) h1 h2 hb
theorem riq {x:Operand} {γ:Type} [DecidableEq γ] {y z:γ} {α:Type} {ma mb:Option α} {rr:α} {a b:Code} (hm:(if y=z then ma else mb)=some rr) (h1:ma=some rr→R P E hn rg a st QQ) (h2:mb=some rr→R P E hn rg b st QQ) (hx:ev st.slots x=Qq (y == z):=by kernel_rfl):R P E hn rg (.cond x a b) st QQ:=QaG hm (Qbg _ _) h1 h2 hx
theorem gsq {γ:Type} [DecidableEq γ] {y z:γ} {α:Type} {ma mb:Option α} {rr:α} (j:Nat) (hm:(if y=z then ma else mb)=some rr) (h1:ma=some rr→G P E hn r ops i (setC c j true) Q) (h2:mb=some rr→G P E hn r ops i (setC c j false) Q) (hb:c.1.slots[j]? = some (Qq (y == z)):=by kernel_rfl):G P E hn r ops i c Q:=JL j hm (Qbg _ _) h1 h2 hb
theorem rix {x:Operand} {γ:Type} [DecidableEq γ] {y z:γ} {α:Type} {ma mb:Option α} {rr:α} {a b:Code} (hm:(if y≠z then ma else mb)=some rr) (h1:ma=some rr→R P E hn rg a st QQ) (h2:mb=some rr→R P E hn rg b st QQ) (hx:ev st.slots x=Qq (y != z):=by kernel_rfl):R P E hn rg (.cond x a b) st QQ:=QaG hm (ne_dec _ _) h1 h2 hx
theorem gsx {γ:Type} [DecidableEq γ] {y z:γ} {α:Type} {ma mb:Option α} {rr:α} (j:Nat) (hm:(if y≠z then ma else mb)=some rr) (h1:ma=some rr→G P E hn r ops i (setC c j true) Q) (h2:mb=some rr→G P E hn r ops i (setC c j false) Q) (hb:c.1.slots[j]? = some (Qq (y != z)):=by kernel_rfl):G P E hn r ops i c Q:=JL j hm (ne_dec _ _) h1 h2 hb
theorem QA {α β:Type} {l:List α} {n:Int} {k:α→Option β} {rr:β} (size:Nat) (f:α→Dat) (hm:(idx l n>>=k)=some rr) (hk:∀ x,k x=some rr→G P E hn r ops (i+1) (putF E hn r ops i c (.iptr (f x).cells) id) Q) (hs:∀ x,(f x).num=size:=by intro _; rfl)
  (h:semAt P hn r ops i c.1=idxK size (l.map f) n c.1.heap:=by kernel_rfl):G P E hn r ops i c Q:=Qbz size f hm rfl hs hk h
theorem QR {α:Type} (f:α→Dat) (l:List α) (hk:G P E hn r ops (i+1) (putF E hn r ops i c (Qd (l.length:Int)) id) Q) (h:bltAt P hn r ops i c.1=lenK (l.map f).length c.1.heap:=by kernel_rfl):G P E hn r ops i c Q:=JH f l rfl hk h
end
end Go.Pm
