/-
 The pure machine, walked by program: runs of plain operations by the kernel, one law for each operation that asks for something, joins, loops by what their model says.
-/
import Derived.Test.YtjcfpjpdopfefaaGreatPmMs
import Derived.Test.YtjcfpjpdopfefaaGreatPmMono
import Derived.KernelRfl
namespace Go.Pm
open Go
set_option linter.unusedVariables false

def Qh (n:Int):Dat:=.raw (.int .i64 n)
def X8 (b:Bool):Dat:=.raw (.bool b)
abbrev W (n:Int):Int:=IntKind.i64.wrap n
abbrev Ea:PV:=.dat (.lst ((List.map Qh) []))
abbrev Eb:Dat:=.lst ((List.map Qh) [])
abbrev La (l:List Int):PV:=.dat (.lst ((List.map Qh) l))
abbrev Lb (l:List Int):Dat:=.lst ((List.map Qh) l)
def idx {α:Type} (l:List α) (i:Int):Option α:=if 0≤i then l[i.toNat]? else none
def remM (a b:Int):Option Int:=if b=0 then none else some (a.tmod b)
def app {α:Type} (bytes:Nat) (l es:List α):Option (List α):=if (l.length+es.length) * bytes≤room then some (l++es) else none
def sub {α:Type} (l:List α) (lo hi:Int):Option (List α):=if 0≤lo∧lo≤hi∧hi≤(l.length:Int) then some ((l.take hi.toNat).drop lo.toNat) else none
theorem X7 {α β:Type} {x:Option α} {f:α→Option β} {r:β} (h:(x>>=f)=some r):∃ a,x=some a∧f a=some r:=by
 cases x with
 | none=>cases h
 | some a=>exact ⟨a,rfl,h⟩
theorem QaY {p:Prop} [Decidable p] {α:Type} {a b:Option α} {r:α} (hp:p) (h:(if p then a else b)=some r):a=some r:=(if_pos hp).symm.trans h
theorem QaW {p:Prop} [Decidable p] {α:Type} {a b:Option α} {r:α} (hp:¬ p) (h:(if p then a else b)=some r):b=some r:=(if_neg hp).symm.trans h
theorem Qbo {α:Type} {r:α} (h:(none:Option α)=some r):False:=by cases h
def ZY (p:Prop) [Decidable p]:Option Unit:=if p then some () else none
theorem Qa1 {p:Prop} [Decidable p] {u:Unit} (h:ZY p=some u):p:=by
 unfold ZY at h;split at h
 ·assumption
 ·cases h
theorem QaH (b:Bool):b=decide (b=true):=by cases b <;> rfl
theorem QaX (b:Bool):(!b)=decide (b=false):=by cases b <;> rfl
theorem Qbg {α:Type} [DecidableEq α] (a b:α):(a == b)=decide (a=b):=rfl
theorem ne_dec {α:Type} [DecidableEq α] (a b:α):(a != b)=decide (a≠b):=by
 show (!(decide (a=b)))=_
 by_cases h:a=b <;> simp [h]

theorem Qbj {α:Type} {a b:α} (h:some a=some b):a=b:=jS h
theorem QbM {α0 α1:Type} {a0 b0:α0} {a1 b1:α1} (h:some (a0,a1)=some (b0,b1)):a0=b0∧a1=b1:=by
 have h:=jS h
 simpa only [jI] using h
theorem QbN {α0 α1 α2:Type} {a0 b0:α0} {a1 b1:α1} {a2 b2:α2} (h:some (a0,a1,a2)=some (b0,b1,b2)):a0=b0∧a1=b1∧a2=b2:=by
 have h:=jS h
 simpa only [jI] using h
theorem QbO {α0 α1 α2 α3:Type} {a0 b0:α0} {a1 b1:α1} {a2 b2:α2} {a3 b3:α3} (h:some (a0,a1,a2,a3)=some (b0,b1,b2,b3)):a0=b0∧a1=b1∧a2=b2∧a3=b3:=by
 have h:=jS h
 simpa only [jI] using h
theorem QbP {α0 α1 α2 α3 α4:Type} {a0 b0:α0} {a1 b1:α1} {a2 b2:α2} {a3 b3:α3} {a4 b4:α4} (h:some (a0,a1,a2,a3,a4)=some (b0,b1,b2,b3,b4)):a0=b0∧a1=b1∧a2=b2∧a3=b3∧a4=b4:=by
 have h:=jS h
 simpa only [jI] using h
theorem QbQ {α0 α1 α2 α3 α4 α5:Type} {a0 b0:α0} {a1 b1:α1} {a2 b2:α2} {a3 b3:α3} {a4 b4:α4} {a5 b5:α5} (h:some (a0,a1,a2,a3,a4,a5)=some (b0,b1,b2,b3,b4,b5)):a0=b0∧a1=b1∧a2=b2∧a3=b3∧a4=b4∧a5=b5:=by
 have h:=jS h
 simpa only [jI] using h
theorem QbR {α0 α1 α2 α3 α4 α5 α6:Type} {a0 b0:α0} {a1 b1:α1} {a2 b2:α2} {a3 b3:α3} {a4 b4:α4} {a5 b5:α5} {a6 b6:α6} (h:some (a0,a1,a2,a3,a4,a5,a6)=some (b0,b1,b2,b3,b4,b5,b6)):a0=b0∧a1=b1∧a2=b2∧a3=b3∧a4=b4∧a5=b5∧a6=b6:=by
 have h:=jS h
 simpa only [jI] using h
theorem QbS {α0 α1 α2 α3 α4 α5 α6 α7:Type} {a0 b0:α0} {a1 b1:α1} {a2 b2:α2} {a3 b3:α3} {a4 b4:α4} {a5 b5:α5} {a6 b6:α6} {a7 b7:α7} (h:some (a0,a1,a2,a3,a4,a5,a6,a7)=some (b0,b1,b2,b3,b4,b5,b6,b7)):a0=b0∧a1=b1∧a2=b2∧a3=b3∧a4=b4∧a5=b5∧a6=b6∧a7=b7:=by
 have h:=jS h
 simpa only [jI] using h
theorem QbT {α0 α1 α2 α3 α4 α5 α6 α7 α8:Type} {a0 b0:α0} {a1 b1:α1} {a2 b2:α2} {a3 b3:α3} {a4 b4:α4} {a5 b5:α5} {a6 b6:α6} {a7 b7:α7} {a8 b8:α8} (h:some (a0,a1,a2,a3,a4,a5,a6,a7,a8)=some (b0,b1,b2,b3,b4,b5,b6,b7,b8)):a0=b0∧a1=b1∧a2=b2∧a3=b3∧a4=b4∧a5=b5∧a6=b6∧a7=b7∧a8=b8:=by
 have h:=jS h
 simpa only [jI] using h
theorem QbF {α0 α1 α2 α3 α4 α5 α6 α7 α8 α9:Type} {a0 b0:α0} {a1 b1:α1} {a2 b2:α2} {a3 b3:α3} {a4 b4:α4} {a5 b5:α5} {a6 b6:α6} {a7 b7:α7} {a8 b8:α8} {a9 b9:α9} (h:some (a0,a1,a2,a3,a4,a5,a6,a7,a8,a9)=some (b0,b1,b2,b3,b4,b5,b6,b7,b8,b9)):a0=b0∧a1=b1∧a2=b2∧a3=b3∧a4=b4∧a5=b5∧a6=b6∧a7=b7∧a8=b8∧a9=b9:=by
 have h:=jS h
 simpa only [jI] using h
theorem QbG {α0 α1 α2 α3 α4 α5 α6 α7 α8 α9 α10:Type} {a0 b0:α0} {a1 b1:α1} {a2 b2:α2} {a3 b3:α3} {a4 b4:α4} {a5 b5:α5} {a6 b6:α6} {a7 b7:α7} {a8 b8:α8} {a9 b9:α9} {a10 b10:α10} (h:some (a0,a1,a2,a3,a4,a5,a6,a7,a8,a9,a10)=some (b0,b1,b2,b3,b4,b5,b6,b7,b8,b9,b10)):a0=b0∧a1=b1∧a2=b2∧a3=b3∧a4=b4∧a5=b5∧a6=b6∧a7=b7∧a8=b8∧a9=b9∧a10=b10:=by
 have h:=jS h
 simpa only [jI] using h
theorem QbH {α0 α1 α2 α3 α4 α5 α6 α7 α8 α9 α10 α11:Type} {a0 b0:α0} {a1 b1:α1} {a2 b2:α2} {a3 b3:α3} {a4 b4:α4} {a5 b5:α5} {a6 b6:α6} {a7 b7:α7} {a8 b8:α8} {a9 b9:α9} {a10 b10:α10} {a11 b11:α11} (h:some (a0,a1,a2,a3,a4,a5,a6,a7,a8,a9,a10,a11)=some (b0,b1,b2,b3,b4,b5,b6,b7,b8,b9,b10,b11)):a0=b0∧a1=b1∧a2=b2∧a3=b3∧a4=b4∧a5=b5∧a6=b6∧a7=b7∧a8=b8∧a9=b9∧a10=b10∧a11=b11:=by
 have h:=jS h
 simpa only [jI] using h
theorem QbI {α0 α1 α2 α3 α4 α5 α6 α7 α8 α9 α10 α11 α12:Type} {a0 b0:α0} {a1 b1:α1} {a2 b2:α2} {a3 b3:α3} {a4 b4:α4} {a5 b5:α5} {a6 b6:α6} {a7 b7:α7} {a8 b8:α8} {a9 b9:α9} {a10 b10:α10} {a11 b11:α11} {a12 b12:α12} (h:some (a0,a1,a2,a3,a4,a5,a6,a7,a8,a9,a10,a11,a12)=some (b0,b1,b2,b3,b4,b5,b6,b7,b8,b9,b10,b11,b12)):a0=b0∧a1=b1∧a2=b2∧a3=b3∧a4=b4∧a5=b5∧a6=b6∧a7=b7∧a8=b8∧a9=b9∧a10=b10∧a11=b11∧a12=b12:=by
 have h:=jS h
 simpa only [jI] using h
theorem QbJ {α0 α1 α2 α3 α4 α5 α6 α7 α8 α9 α10 α11 α12 α13:Type} {a0 b0:α0} {a1 b1:α1} {a2 b2:α2} {a3 b3:α3} {a4 b4:α4} {a5 b5:α5} {a6 b6:α6} {a7 b7:α7} {a8 b8:α8} {a9 b9:α9} {a10 b10:α10} {a11 b11:α11} {a12 b12:α12} {a13 b13:α13} (h:some (a0,a1,a2,a3,a4,a5,a6,a7,a8,a9,a10,a11,a12,a13)=some (b0,b1,b2,b3,b4,b5,b6,b7,b8,b9,b10,b11,b12,b13)):a0=b0∧a1=b1∧a2=b2∧a3=b3∧a4=b4∧a5=b5∧a6=b6∧a7=b7∧a8=b8∧a9=b9∧a10=b10∧a11=b11∧a12=b12∧a13=b13:=by
 have h:=jS h
 simpa only [jI] using h

def sl (d:List PV) (n:Nat) (l:List (Nat × PV)):List PV:=(List.range n).map fun i=>match l.find? fun x=>x.1 == i with|some x=>x.2|none=>d.getD i (.tup [])
def kp (n:Nat) (l:List (Nat × PV)):List PV:=(List.range n).map fun i=>match l.find? fun x=>x.1 == i with|some x=>x.2|none=>.undef
def en (n:Nat) (l:List PV):List PV:=l++List.replicate (n - l.length) (.tup [])

def noC:CallF:=fun _ _ _=>none
theorem noC_le (call:CallF):∀ f args H,Leq (noC f args H) (call f args H):=fun _ _ _ _ h=>by cases h

section
variable {P:Program} {E:Env} {hn:Hint} {rg:Bool} {r i:Nat} {ops:Array Oper}

abbrev Cf:=St × List Nat
variable {c:Cf} {Q:Cf→Prop}

def G (P:Program) (E:Env) (hn:Hint) (r:Nat) (ops:Array Oper) (i:Nat) (c:Cf) (Q:Cf→Prop):Prop:=DrawE P E hn r ops i (ops.toList.drop i) c.1 c.2 (fun fl s=>Q (s,fl))

theorem drawRun_append (call:CallF) (pf:FuncId→Bool) (h:Hint) (r:Nat) (ops:Array Oper):∀ (a b:List Oper) (i:Nat) (st st1:St) (fl1:List Nat),drawRun P call pf h r ops i a st=some (st1,fl1) →
  drawRun P call pf h r ops i (a++b) st=(drawRun P call pf h r ops (i+a.length) b st1).map fun x=>(x.1,fl1++x.2)
 | [],b,i,st,st1,fl1,h1=>by
  simp only [drawRun,j9,jI] at h1;obtain ⟨rfl,rfl⟩:=h1;simp only [jQ,jL,zV];cases drawRun P call pf h r ops i b st <;> rfl
 | o::a,b,i,st,st1,fl1,h1=>by
  simp only [drawRun] at h1;simp only [List.cons_append,drawRun];cases ho:opStep P call h r ops i o st with
  | none=>rw [ho] at h1; cases h1
  | some st2 =>
   rw [ho] at h1;simp only at h1 ⊢;cases hd:drawRun P call pf h r ops (i+1) a st2 with
   | none=>rw [hd] at h1; cases h1
   | some x =>
    obtain ⟨st3,fl3⟩:=x;rw [hd] at h1;simp only [j9,jI] at h1;obtain ⟨rfl,rfl⟩:=h1;rw [drawRun_append call pf h r ops a b (i+1) st2 st3 fl3 hd,show i+1+a.length=i+(o::a).length by simp; omega];cases drawRun P call pf h r ops (i+(o::a).length) b st3 <;> rfl

noncomputable def runS (P:Program) (E:Env) (hn:Hint) (r:Nat) (ops:Array Oper) (i k:Nat) (st:St):Option (St × List Nat):=drawRun P noC E.pf hn r ops i ((ops.toList.drop i).take k) st
noncomputable def runC (P:Program) (E:Env) (hn:Hint) (r:Nat) (ops:Array Oper) (i k:Nat) (c:Cf):Cf:=match runS P E hn r ops i k c.1 with|some x=>(x.1,c.2++x.2)|none=>(⟨[],[]⟩,[])

theorem Qf (k:Nat) (hk:G P E hn r ops (i+k) (runC P E hn r ops i k c) Q) (h:(runS P E hn r ops i k c.1).isSome=true:=by kernel_rfl) (hl:decide (i+k≤ops.size)=true:=by kernel_rfl):G P E hn r ops i c Q:=by
 have hl:=of_decide_eq_true hl;cases hr:runS P E hn r ops i k c.1 with
 | none=>rw [hr] at h; cases h
 | some x =>
  obtain ⟨st1,fl1⟩:=x;simp only [runC,hr] at hk;obtain ⟨st2,fl2,⟨N,h1⟩,h2⟩:=hk;refine ⟨st2,fl1++fl2,⟨N,fun n hn'=>?_⟩,by rw [← List.append_assoc]; exact h2⟩;have e1:ops.toList.drop i=(ops.toList.drop i).take k++ops.toList.drop (i+k):=by rw [← List.drop_drop,y3]
  have e2:=drawRun_mono (noC_le (pfun P E n)) r ops ((ops.toList.drop i).take k) i c.1 _ hr;have e3:((ops.toList.drop i).take k).length=k:=by simp; omega
  have h3:=h1 n hn';simp only at h3;rw [e1,drawRun_append _ _ _ _ _ _ _ _ _ _ _ e2,e3,h3];rfl

noncomputable def semAt (P:Program) (hn:Hint) (r:Nat) (ops:Array Oper) (i:Nat) (st:St):Option (PV × List Blk) :=
 match ops[i]? with
 | some o=>if wantedA ops st.slots o=some true then sem P noC (hn.ownAt r i) o (ev st.slots) st.heap else none
 | none=>none
def sensAt (E:Env) (hn:Hint) (r:Nat) (ops:Array Oper) (i:Nat) (st:St):Nat:=match ops[i]? with|some o=>sensT E.pf hn r i o (ev st.slots)|none=>0
def putF (E:Env) (hn:Hint) (r:Nat) (ops:Array Oper) (i:Nat) (c:Cf) (v:PV) (g:List Blk→List Blk):Cf:=(⟨putS c.1.slots ((ops[i]?).bind (·.dst)) v,g c.1.heap⟩,c.2++[sensAt E hn r ops i c.1])

theorem drop_get {o:Oper} (h:ops[i]? = some o):ops.toList.drop i=o::ops.toList.drop (i+1):=by
 have h':ops.toList[i]? = some o:=by simpa using h
 obtain ⟨hi,he⟩:=List.getElem?_eq_some_iff.1 h';rw [List.drop_eq_getElem_cons hi,he]
theorem Qbu {v:PV} {g:List Blk→List Blk} (h:semAt P hn r ops i c.1=some (v,g c.1.heap)) (hk:G P E hn r ops (i+1) (putF E hn r ops i c v g) Q):G P E hn r ops i c Q:=by
 simp only [semAt] at h;cases ho:ops[i]? with
 | none=>rw [ho] at h; cases h
 | some o =>
  rw [ho] at h;simp only at h;by_cases hw:wantedA ops c.1.slots o=some true
  ·rw [if_pos hw] at h;unfold G;rw [drop_get ho];refine DrawE_do hw ⟨v,_,⟨0,fun k _=>sem_mono (noC_le (pfun P E k)) _ _ _ _ _ h⟩,?_⟩;simp only [G,putF,sensAt,ho,zU] at hk;exact hk
  ·rw [if_neg hw] at h; cases h
theorem Qba {o:Oper} (ho:ops[i]? = some o) (hw:wantedA ops c.1.slots o=some true) (h:SemE P E (hn.ownAt r i) o (ev c.1.slots) c.1.heap fun v H=>G P E hn r ops (i+1) (putF E hn r ops i c v fun _=>H) Q):G P E hn r ops i c Q:=by
 unfold G;rw [drop_get ho];refine DrawE_do hw ?_;simp only [G,putF,sensAt,ho,zU] at h;exact h
theorem Zi {o:Oper} {v:PV} (ho:ops[i]? = some o) (h:∀ K:PV→List Blk→Prop,K v c.1.heap→SemE P E (hn.ownAt r i) o (ev c.1.slots) c.1.heap K) (hk:G P E hn r ops (i+1) (putF E hn r ops i c v id) Q) (hw:wantedA ops c.1.slots o=some true:=by kernel_rfl):G P E hn r ops i c Q :=
 Qba ho hw (h _ hk)

theorem YM {o:Oper} {v:PV} (g:List Blk→List Blk) (ho:ops[i]? = some o) (hw:wantedA ops c.1.slots o=some true) (h:∀ K:PV→List Blk→Prop,K v (g c.1.heap)→SemE P E (hn.ownAt r i) o (ev c.1.slots) c.1.heap K) (hk:G P E hn r ops (i+1) (putF E hn r ops i c v g) Q):G P E hn r ops i c Q :=
 Qba ho hw (h _ hk)

def callAt (hn:Hint) (r:Nat) (ops:Array Oper) (i:Nat) (st:St):Option (FuncId × List PV) :=
 match ops[i]? with
 | some o=>if wantedA ops st.slots o=some true then
   (match o.op with
    | .call c=>match c.callee,hn.ownAt r i with
     | .value x,[]=>match ev st.slots x with
      | .dat (.raw (.func (.func f) _ _))=>some (f,c.args.toList.map (ev st.slots))
      | .fn f cap=>some (f,c.args.toList.map (ev st.slots)++cap)
      | _=>none
     | _,_=>none
    | _=>none) else none
 | none=>none
theorem Qa9 {f:FuncId} {args:List PV} {p:PV} {g:List Blk→List Blk} (hc:PC P E f args c.1.heap p (g c.1.heap)) (h:callAt hn r ops i c.1=some (f,args)) (hk:G P E hn r ops (i+1) (putF E hn r ops i c p g) Q):G P E hn r ops i c Q:=by
 obtain ⟨N,hN⟩:=hc;simp only [callAt] at h;cases ho:ops[i]? with
 | none=>rw [ho] at h; cases h
 | some o =>
  rw [ho] at h;simp only at h;by_cases hw:wantedA ops c.1.slots o=some true
  ·rw [if_pos hw] at h;unfold G;rw [drop_get ho];simp only [G,putF,sensAt,ho,zU] at hk;refine DrawE_do hw ⟨p,_,⟨N,fun k hk'=>?_⟩,hk⟩;split at h
   ·rename_i c' hop;split at h
    ·rename_i x hcal how;split at h
     ·rename_i g a b hx;cases h;rw [sem]; simp only [hop,hcal,how,hx]; exact hN k hk'
     ·rename_i g cap hx;cases h;rw [sem]; simp only [hop,hcal,how,hx]; exact hN k hk'
     ·cases h
    ·cases h
   ·cases h
  ·rw [if_neg hw] at h; cases h
theorem QaA {f:FuncId} {args:List PV} {p:PV} {H H':List Blk} (hc:PC P E f args H p H') (hk:G P E hn r ops (i+1) (putF E hn r ops i c p fun _=>H') Q) (hh:c.1.heap=H:=by kernel_rfl) (h:callAt hn r ops i c.1=some (f,args):=by kernel_rfl):G P E hn r ops i c Q:=by
 subst hh;exact Qa9 (g:=fun _=>H') hc h hk

def lentOk (args:List PV) (p:PV):Bool:=!args.any PV.lends || scalarOut p
def callPAt (hn:Hint) (r:Nat) (ops:Array Oper) (i:Nat) (st:St) (p:PV):Option (FuncId × List Dat):=match callAt hn r ops i st with|some (f,args)=>if lentOk args p then (pures st.heap args).map fun ds=>(f,ds) else none|none=>none
theorem Yz {f:FuncId} {ds:List Dat} {p:PV} {H0 H0':List Blk} (hc:PC P E f (ds.map .dat) H0 p H0') (hk:G P E hn r ops (i+1) (putF E hn r ops i c p id) Q)
  (hp:(E.pure f && (E.summ f).isNone)=true:=by kernel_rfl) (h:callPAt hn r ops i c.1 p=some (f,ds):=by kernel_rfl):G P E hn r ops i c Q:=by
 simp only [jE,Option.isNone_iff_eq_none] at hp;simp only [callPAt] at h;cases hc':callAt hn r ops i c.1 with
 | none=>rw [hc'] at h; cases h
 | some fa =>
  obtain ⟨g,args⟩:=fa;rw [hc'] at h;simp only at h;by_cases hl:lentOk args p=true
  ·rw [if_pos hl] at h;cases hds:pures c.1.heap args with
   | none=>rw [hds] at h; cases h
   | some ds' =>
    rw [hds] at h;cases h;refine Qa9 (g:=id) (PC_lend hp.2 hp.1 hc hds (fun ha=>?_)) hc' hk;simp only [lentOk,ha,Bool.not_true,Bool.false_or] at hl;exact hl
  ·rw [if_neg hl] at h; cases h

def setC (c:Cf) (j:Nat) (b:Bool):Cf:=(⟨c.1.slots.set j (Qq b),c.1.heap⟩,c.2)
theorem Qbv {b:Bool} {p:Prop} [Decidable p] (j:Nat) (hp:b=decide p) (h1:p→G P E hn r ops i (setC c j true) Q) (h2:¬ p→G P E hn r ops i (setC c j false) Q) (hb:c.1.slots[j]? = some (Qq b):=by kernel_rfl):G P E hn r ops i c Q:=by
 obtain ⟨hj,he⟩:=List.getElem?_eq_some_iff.1 hb
 have e:∀ t,c.1.slots[j]=Qq t→setC c j t=c:=fun t ht=>by
  have:c.1.slots.set j (Qq t)=c.1.slots:=by rw [← ht,List.set_getElem_self]
  simp only [setC,this]
 subst hp;by_cases hq:p
 ·have:=h1 hq;rw [e true (by rw [he,decide_eq_true hq])] at this;exact this
 ·have:=h2 hq;rw [e false (by rw [he,zX hq])] at this;exact this
theorem JL {b:Bool} {p:Prop} [Decidable p] {α:Type} {ma mb:Option α} {rr:α} (j:Nat) (hm:(if p then ma else mb)=some rr) (hp:b=decide p) (h1:ma=some rr→G P E hn r ops i (setC c j true) Q) (h2:mb=some rr→G P E hn r ops i (setC c j false) Q) (hb:c.1.slots[j]? = some (Qq b):=by kernel_rfl):G P E hn r ops i c Q :=
 Qbv j hp (fun hc=>h1 (QaY hc hm)) (fun hc=>h2 (QaW hc hm)) hb
theorem Jh (hk:Q c) (h:decide (i=ops.size)=true:=by kernel_rfl):G P E hn r ops i c Q:=by
 have:=of_decide_eq_true h;subst this;exact ⟨c.1,[],⟨0,fun k _=>by rw [show ops.toList.drop ops.size=[] by simp]; rfl⟩,by rw [jU]; exact hk⟩

theorem drawRun_ops (call:CallF) (pf:FuncId→Bool) (h:Hint) (r:Nat) (ops:Array Oper):∀ (os:List Oper) (i:Nat) (st st1:St) (fl:List Nat),drawRun P call pf h r ops i os st=some (st1,fl)→opsFrom P call h r ops i os st=some st1
 | [],i,st,st1,fl,h1=>by
  simp only [drawRun,j9,jI] at h1;obtain ⟨rfl,rfl⟩:=h1;rfl
 | o::os,i,st,st1,fl,h1=>by
  simp only [drawRun] at h1;simp only [opsFrom];cases ho:opStep P call h r ops i o st with
  | none=>rw [ho] at h1; cases h1
  | some st2 =>
   rw [ho] at h1;simp only at h1 ⊢;cases hd:drawRun P call pf h r ops (i+1) os st2 with
   | none=>rw [hd] at h1; cases h1
   | some x =>
    obtain ⟨st3,fl3⟩:=x;rw [hd] at h1;simp only [j9,jI] at h1;obtain ⟨rfl,rfl⟩:=h1;exact drawRun_ops call pf h r ops os (i+1) st2 st3 fl3 hd
theorem R_G {st:St} {QQ:Ex→St→Prop} (h:G P E hn r ops 0 (st,[]) (fun c=>QQ .normal c.1)) (hfl:hn.flatAt r=none:=by kernel_rfl):R P E hn rg (.region r ops false) st QQ:=by
 obtain ⟨s,fl,⟨N,h1⟩,h2⟩:=h;exact Qbf ⟨s,⟨N,fun k hk=>drawRun_ops _ _ _ _ _ _ _ _ _ _ (h1 k hk)⟩,h2⟩ hfl
theorem Ya {st:St} {QQ:Ex→St→Prop} (h:G P E hn r ops 0 (st,[]) (fun c=>orderOk st.heap.length ops c.2=true∧QQ .normal c.1)):R P E hn rg (.region r ops true) st QQ:=by
 refine QbB ?_;exact h
def flLeB:List Nat→List Nat→Bool
 | [],_=>true
 | a::fl,b::w=>decide (a≤b) && flLeB fl w
 | _::_,[]=>false
theorem flLe_get:∀ {fl w:List Nat},flLeB fl w=true→∀ i,fl.getD i 0≤w.getD i 0
 | [],_,_,i=>by simp
 | a::fl,b::w,h,i=>by
  simp only [flLeB,jE,zA] at h;cases i with
  | zero=>simpa using h.1
  | succ i=>simpa using flLe_get h.2 i
theorem flLe_app:∀ {a b w:List Nat},flLeB a w=true→flLeB b (w.drop a.length)=true→flLeB (a++b) w=true
 | [],_,_,_,h=>by simpa using h
 | x::a,b,y::w,h,h2=>by
  simp only [flLeB,jE,List.cons_append] at h ⊢;exact ⟨h.1,flLe_app h.2 (by simpa using h2)⟩
theorem free_fin:∀ a b a' b':Fin 4,freeT a.val b.val=true→a'≤a→b'≤b→freeT a'.val b'.val=true:=by decide
theorem free_mono {a b a' b':Nat} (h:freeT a b=true) (ha:a'≤a) (hb:b'≤b) (h1:a≤3) (h2:b≤3):freeT a' b'=true :=
 free_fin ⟨a,by omega⟩ ⟨b,by omega⟩ ⟨a',by omega⟩ ⟨b',by omega⟩ h ha hb
theorem pair_mono {fl w A:List Nat} (h:flLeB fl w=true) (hw:w.all (fun a=>decide (a≤3))=true) {x y:Nat} (hp:pairOk ops w A x y=true):pairOk ops fl A x y=true:=by
 have h3:∀ z,w.getD z 0≤3:=fun z=>by
  rw [jB];cases e:w[z]? with
  | none=>simp
  | some v=>simpa using List.all_eq_true.1 hw v (jF e)
 unfold pairOk at hp ⊢;split at hp
 ·simp only [jE,zQ] at hp ⊢;refine ⟨hp.1,?_⟩;rcases hp.2 with h4|h4
  ·exact Or.inl h4
  ·exact Or.inr (free_mono h4 (flLe_get h x) (flLe_get h y) (h3 x) (h3 y))
 ·rfl
theorem order_mono {h0:Nat} {fl w:List Nat} (h:flLeB fl w=true) (hw:(orderOk 0 ops w && w.all (fun a=>decide (a≤3)))=true):orderOk h0 ops fl=true:=by
 simp only [jE] at hw;obtain ⟨h1,h2⟩:=hw;unfold orderOk at h1 ⊢;simp only [jE] at h1 ⊢
 have h5:∀ j,fl.getD j 0≤3:=fun j=>by
  have h3:=flLe_get h j
  have h4:w.getD j 0≤3:=by
   rw [jB];cases e:w[j]? with
   | none=>simp
   | some v=>simpa using List.all_eq_true.1 h2 v (jF e)
  omega
 refine ⟨⟨List.all_eq_true.2 fun j _=>?_,List.all_eq_true.2 fun a ha=>?_⟩,h1.2.1,List.all_eq_true.2 fun x hx=>List.all_eq_true.2 fun y hy=>?_⟩
 ·have:=h5 j;rw [decide_eq_true (by omega:fl.getD j 0 < 16)]; rfl
 ·obtain ⟨j,hj,rfl⟩:=List.getElem_of_mem ha;have:=h5 j;rw [jB,jC hj] at this;simp only [Option.getD_some] at this;rw [decide_eq_true (by omega:fl[j] % 16≠9)]; rfl
 ·exact pair_mono h h2 (List.all_eq_true.1 (List.all_eq_true.1 h1.2.2 x hx) y hy)
def worst (E:Env) (hn:Hint) (r:Nat) (ops:Array Oper):List Nat:=(List.range ops.size).map fun i=>match ops[i]? with
 | some o=>sensT E.pf hn r i o fun|.func f=>.dat (.raw (.func (.func f) #[] #[]))|_=>.undef
 | none=>0
@[reducible] def QW (w:List Nat) (i:Nat) (K:St→Prop):Cf→Prop:=fun c=>flLeB c.2 (w.drop i)=true∧K c.1
theorem Qbc {st:St} {QQ:Ex→St→Prop} (h:G P E hn r ops 0 (st,[]) (QW (worst E hn r ops) 0 (QQ .normal)))
  (hw:(orderOk 0 ops (worst E hn r ops) && (worst E hn r ops).all (fun a=>decide (a≤3)))=true:=by kernel_rfl):R P E hn rg (.region r ops true) st QQ :=
 Ya (by
  obtain ⟨s,fl,h1,h2,h3⟩:=h;exact ⟨s,fl,h1,order_mono h2 hw,h3⟩)
theorem QaR {st:St} {QQ:Ex→St→Prop} (h:G P E hn r ops 0 (st,[]) (QW (List.replicate ops.size 99) 0 (QQ .normal))) (hfl:hn.flatAt r=none:=by kernel_rfl):R P E hn rg (.region r ops false) st QQ :=
 R_G (by
  obtain ⟨s,fl,h1,h2,h3⟩:=h;exact ⟨s,fl,h1,h3⟩) hfl
theorem Xc {w:List Nat} {i j i':Nat} {K:St→Prop} (C:List PV→St) (hk:∀ d,G P E hn r ops j (C d,[]) (QW w j K))
  (h:(∀ b c',(_:c'.1=C c'.1.slots:=by kernel_rfl)→(_:(flLeB c'.2 (w.drop b) && decide (c'.2.length+b=j))=true:=by kernel_rfl)→G P E hn r ops j c' (QW w b K))→G P E hn r ops i' c (QW w i K)):G P E hn r ops i' c (QW w i K) :=
 h fun b c' hs hf=>by
  simp only [jE,zA] at hf;obtain ⟨st2,fl2,h1,h2,h3⟩:=hk c'.1.slots;rw [← hs] at h1;refine ⟨st2,fl2,h1,flLe_app hf.1 ?_,h3⟩;rw [List.drop_drop,show b+c'.2.length=j by omega]
  simpa using h2
end

section
variable {P:Program} {E:Env} {hn:Hint} {rg:Bool} {c a b:Code} {st:St} {Q Q':Ex→St→Prop}
theorem QbE {x:Operand} {t:Bool} {p:Prop} [Decidable p] (hp:t=decide p) (h1:p→R P E hn rg a st Q) (h2:¬ p→R P E hn rg b st Q) (hx:ev st.slots x=Qq t:=by kernel_rfl):R P E hn rg (.cond x a b) st Q:=by
 subst hp; exact QbL hx h1 h2
theorem QaG {x:Operand} {t:Bool} {p:Prop} [Decidable p] {α:Type} {ma mb:Option α} {rr:α} (hm:(if p then ma else mb)=some rr) (hp:t=decide p) (h1:ma=some rr→R P E hn rg a st Q) (h2:mb=some rr→R P E hn rg b st Q) (hx:ev st.slots x=Qq t:=by kernel_rfl):R P E hn rg (.cond x a b) st Q :=
 QbE hp (fun hc=>h1 (QaY hc hm)) (fun hc=>h2 (QaW hc hm)) hx
theorem Zq (C:List PV→St) (h1:R P E hn rg a st fun e s=>match e with|.normal=>∃ d,s=C d|e=>Q e s) (h2:∀ d,Q .normal (C d)):R P E hn rg a st Q :=
 h1.mono fun e s h=>by
  cases e with
  | normal=>obtain ⟨d,rfl⟩:=h; exact h2 d
  | exit id=>exact h
  | ret=>exact h
theorem QaI {C:List PV→St} (h:st=C st.slots:=by kernel_rfl):∃ d,st=C d:=⟨_,h⟩
def YS:List Nat→Code→Code
 | [],c=>c
 | 0::p,.seq a _=>YS p a
 | _::p,.seq _ b=>YS p b
 | 0::p,.cond _ a _=>YS p a
 | _::p,.cond _ _ b=>YS p b
 | _::p,.block _ b=>YS p b
 | _::p,.loop b=>YS p b
 | _::p,.scope b=>YS p b
 | _,c=>c
def Jr (f:Func):Code:=f.body.getD .skip
theorem RL_use {b b':Code} {h0 h0':Nat} {C:St} {post:Ex→St→Prop} (hR:∀ st,prune h0' ((QO b').bind hn.keepAt) st=C→RL P E hn rg b' h0' st post) (hst:prune h0' ((QO b').bind hn.keepAt) st=C) (after:∀ e s,post e s→Q e s)
  (hb:b=b':=by kernel_rfl) (hh:h0=h0':=by kernel_rfl):RL P E hn rg b h0 st Q:=by
 subst hb; subst hh;exact (hR st hst).mono after
theorem RL_at {h0:Nat} {st':St} (h:prune h0 ((QO b).bind hn.keepAt) st=st') (k:R P E hn rg b st' fun e s=>match e with|.normal=>RL P E hn rg b h0 s Q|e=>Q e s):RL P E hn rg b h0 st Q:=by
 subst h; exact RL_step k
theorem Qbi {H:List Blk} {slots:List PV} {rs:List ResultVar} {p:PV} (h:((ressOf P slots H rs).bind fun vs=>pureOut H (tupOf vs))=some p:=by kernel_rfl):∃ vs,ressOf P slots H rs=some vs∧pureOut H (tupOf vs)=some p:=by
 cases hr:ressOf P slots H rs with
 | none=>rw [hr] at h; cases h
 | some vs=>rw [hr] at h; exact ⟨vs,rfl,h⟩
theorem PC_sx {f:FuncId} {fn:Func} {ds:List Dat} {H:List Blk} {p:PV} (hb:fn.body=some c)
  (hR:R P E (E.hint f) true c ⟨en fn.ntmps (ds.map .dat),[]⟩ fun e s=>(match e with|.exit _=>False|_=>True)∧∃ vs,ressOf P s.slots s.heap fn.results.toList=some vs∧pureOut s.heap (tupOf vs)=some p) (hq:(enters P f && ((E.summ f).isNone && E.pure f && !(E.split f && (isEmp (ds.map .dat) && true))))=true:=by kernel_rfl) (hf:P.funcs[f]? = some fn:=by kernel_rfl) (hl:lentOk (ds.map .dat) p=true:=by kernel_rfl):PC P E f (ds.map .dat) H p H:=by
 simp only [jE,Option.isNone_iff_eq_none] at hq;refine PC_pure hq.1 hq.2.1.1 hq.2.1.2 hf hb (pures_self _ _) hR (fun ha=>?_) (by cases hs:E.split f <;> cases hi:isEmp (ds.map PV.dat) <;> simp_all);simp only [lentOk,ha,Bool.not_true,Bool.false_or] at hl;exact hl
theorem PC_sxB {f:FuncId} {fn:Func} {args:List PV} {H H':List Blk} {p:PV} (hb:fn.body=some c)
  (hR:R P E (E.hint f) true c ⟨en fn.ntmps args,H⟩ fun e s=>(match e with|.exit _=>False|_=>True)∧∃ vs,ressOf P s.slots s.heap fn.results.toList=some vs∧p=tupOf vs∧H'=s.heap) (hq:(enters P f && ((E.summ f).isNone && !E.pure f && !(E.split f && (isEmp args && H.isEmpty))))=true:=by kernel_rfl) (hf:P.funcs[f]? = some fn:=by kernel_rfl):PC P E f args H p H':=by
 simp only [jE,Option.isNone_iff_eq_none,Bool.not_eq_true',Bool.and_eq_false_iff] at hq;refine PC_body hq.1 hq.2.1.1 hq.2.1.2 hf hb hR ?_;have:=hq.2.2;cases hs:E.split f <;> cases hi:isEmp args <;> cases hh:H.isEmpty <;> simp_all
theorem fin_bodyX (n:Nat) {slots:List PV} {H Hn:List Blk} {rs:List ResultVar} {p:PV} (h:(ressOf P slots H rs).map tupOf=some p) (hH:Hn++H.drop n=H):∃ X,∃ vs,ressOf P slots H rs=some vs∧p=tupOf vs∧Hn++X=H:=by
 cases hr:ressOf P slots H rs with
 | none=>rw [hr] at h; cases h
 | some vs=>rw [hr] at h; exact ⟨_,vs,rfl,(jS h).symm,hH⟩
theorem Qbh {slots:List PV} {H H':List Blk} {rs:List ResultVar} {p:PV} (h:(ressOf P slots H rs).map tupOf=some p) (hH:H'=H):∃ vs,ressOf P slots H rs=some vs∧p=tupOf vs∧H'=H:=by
 cases hr:ressOf P slots H rs with
 | none=>rw [hr] at h; cases h
 | some vs=>rw [hr] at h; exact ⟨vs,rfl,(jS h).symm,hH⟩
end

section
variable {P:Program} {E:Env} {hn:Hint} {r i:Nat} {ops:Array Oper} {c:Cf} {Q:Cf→Prop}

def bltAt (P:Program) (hn:Hint) (r:Nat) (ops:Array Oper) (i:Nat) (st:St):Option (PV × List Blk) :=
 match ops[i]? with
 | some o=>if wantedA ops st.slots o=some true then
   (match o.op with
    | .call c=>match c.callee with
     | .builtin b=>builtinSem P b c.argTypes (c.args.toList.map (ev st.slots)) st.heap
     | _=>none
    | _=>none) else none
 | none=>none
theorem blt_sem {x:PV × List Blk} (h:bltAt P hn r ops i c.1=some x):semAt P hn r ops i c.1=some x:=by
 simp only [bltAt] at h;simp only [semAt];cases ho:ops[i]? with
 | none=>rw [ho] at h; cases h
 | some o =>
  rw [ho] at h;simp only at h ⊢;by_cases hw:wantedA ops c.1.slots o=some true
  ·rw [if_pos hw] at h ⊢;split at h
   ·rename_i c hop;split at h
    ·rename_i b hb;rw [sem]; simp only [hop,hb,h]
    ·cases h
   ·cases h
  ·rw [if_neg hw] at h; cases h
def lenK (n:Nat) (H:List Blk):Option (PV × List Blk):=some (Qd (n:Int),H)
theorem JH {α:Type} (f:α→Dat) (l:List α) {es:List Dat} (he:es=l.map f) (hk:G P E hn r ops (i+1) (putF E hn r ops i c (Qd (l.length:Int)) id) Q) (h:bltAt P hn r ops i c.1=lenK es.length c.1.heap:=by kernel_rfl):G P E hn r ops i c Q:=by
 subst he;rw [jY] at h;exact Qbu (g:=id) (blt_sem h) hk

def idxK (size:Nat) (es:List Dat) (n:Int) (H:List Blk):Option (PV × List Blk):=if 0≤n then (match es[n.toNat]? with|some d=>if d.num=size then some (.iptr d.cells,H) else none|none=>none) else none
theorem idx_some {α:Type} {l:List α} {n:Int} {x:α} (h:idx l n=some x):0≤n∧l[n.toNat]? = some x:=by
 unfold idx at h;split at h
 ·exact ⟨by assumption,h⟩
 ·cases h
theorem Xw {α:Type} (size:Nat) (f:α→Dat) (l:List α) (n:Int) (x:α) {es:List Dat} {d:Dat} (he:es=l.map f) (hx:idx l n=some x) (hd:f x=d) (hs:d.num=size) 
  (hk:G P E hn r ops (i+1) (putF E hn r ops i c (.iptr d.cells) id) Q) (h:semAt P hn r ops i c.1=idxK size es n c.1.heap:=by kernel_rfl):G P E hn r ops i c Q:=by
 subst he; subst hd;obtain ⟨h0,h1⟩:=idx_some hx;refine Qbu (g:=id) (h.trans ?_) hk;simp only [idxK,h0,if_true,jD,h1,jN,hs,id]

theorem Qbz {α β:Type} {l:List α} {n:Int} {k:α→Option β} {rr:β} (size:Nat) (f:α→Dat) {es:List Dat} (hm:(idx l n>>=k)=some rr) (he:es=l.map f) (hs:∀ x,(f x).num=size)
  (hk:∀ x,k x=some rr→G P E hn r ops (i+1) (putF E hn r ops i c (.iptr (f x).cells) id) Q) (h:semAt P hn r ops i c.1=idxK size es n c.1.heap:=by kernel_rfl):G P E hn r ops i c Q:=by
 obtain ⟨x,hx,hm'⟩:=X7 hm;exact Xw size f l n x he hx rfl (hs x) (hk x hm') h

def appK (H:List Blk) (e size bytes t n:Nat) (xs es:List Dat):Option (PV × List Blk) :=
 if es.all (Dat.fits size) then (if xs.all (Dat.fits size)∧e=e∧n=xs.length∧(xs.length+es.length) * bytes≤room then some (.vec t (xs++es),H.set t (.tok e (xs.length+es.length))) else none) else none
theorem all_fits {α:Type} {f:α→Dat} {k:Nat} (h:∀ a,Dat.fits k (f a)=true) (l:List α):(l.map f).all (Dat.fits k)=true:=by
 simp only [List.all_map,j8]; intro x _; exact h x
theorem app_some {α:Type} {bytes:Nat} {l es r:List α} (h:app bytes l es=some r):(l.length+es.length) * bytes≤room∧r=l++es:=by
 unfold app at h;split at h
 ·exact ⟨by assumption,(jS h).symm⟩
 ·cases h
theorem YP {α:Type} (e size bytes t:Nat) (f:α→Dat) (l ys r':List α) {xs es:List Dat} {L:List α→List Dat} (hL:∀ l,L l=l.map f) (hx:xs=L l) (hy:es=L ys) (hf:∀ a,Dat.fits size (f a)=true) (hr:app bytes l ys=some r') 
  (hk:G P E hn r ops (i+1) (putF E hn r ops i c (.vec t (L r')) fun H=>H.set t (.tok e r'.length)) Q) (h:bltAt P hn r ops i c.1=appK c.1.heap e size bytes t l.length xs es:=by kernel_rfl):G P E hn r ops i c Q:=by
 subst hx; subst hy;obtain ⟨h1,rfl⟩:=app_some hr;refine Qbu (g:=fun H=>H.set t (.tok e (l++ys).length)) (blt_sem (h.trans ?_)) hk;simp only [appK,hL,all_fits hf,if_true,jY,true_and,h1,zJ,jV]


def sliceK (size:Nat) (es:List Dat) (l h:Option Nat) (H:List Blk):Option (PV × List Blk) :=
 match l,h with
 | some l,some h=>if l≤h∧h≤es.length∧(l == 0 || es.all fun d=>d.num == size) then some (.dat (.lst ((es.take h).drop l)),H) else none
 | _,_=>none
def natI (n:Int):Option Nat:=if 0≤n then some n.toNat else none
theorem sub_some {α:Type} {l r:List α} {lo hi:Int} (h:sub l lo hi=some r):(0≤lo∧lo≤hi∧hi≤(l.length:Int))∧r=(l.take hi.toNat).drop lo.toNat:=by
 unfold sub at h;split at h
 ·exact ⟨by assumption,(jS h).symm⟩
 ·cases h
theorem Qbb {α:Type} (size:Nat) (f:α→Dat) (l r':List α) (lo hi:Int) {es:List Dat} {L:List α→List Dat} {a b:Option Nat} (hL:∀ l,L l=l.map f) (he:es=L l) (hf:∀ a,(f a).num=size) (hr:sub l lo hi=some r') (ha:a=natI lo) (hb:b=natI hi∨(b=some es.length∧hi=(l.length:Int))) 
  (hk:G P E hn r ops (i+1) (putF E hn r ops i c (.dat (.lst (L r'))) id) Q) (h:semAt P hn r ops i c.1=sliceK size es a b c.1.heap:=by kernel_rfl):G P E hn r ops i c Q:=by
 subst he;obtain ⟨⟨h1,h2,h3⟩,rfl⟩:=sub_some hr;refine Qbu (g:=id) (h.trans ?_) hk;have e1:a=some lo.toNat:=by rw [ha,natI,if_pos h1]
 have e2:b=some hi.toNat:=by
  rcases hb with hb|⟨hb,hq⟩
  ·rw [hb,natI,if_pos y5]
  ·rw [hb,hL,jY]; congr 1; omega
 have e3:((l.map f).all fun d=>d.num == size)=true:=by simp only [List.all_map,j8]; intro x _; simp [hf x]
 subst e1; subst e2;simp only [sliceK,hL,jY,e3,Bool.or_true,and_true];rw [if_pos ⟨by omega,by omega⟩,List.map_drop,List.map_take]; rfl
end
section
variable {P:Program} {E:Env} {ow:List (Nat × TypeId)} {o:Oper} {ρ:Operand→PV} {H:List Blk} {K:PV→List Blk→Prop}
theorem rem_some {a b q:Int} (h:remM a b=some q):b≠0∧q=a.tmod b:=by
 unfold remM at h;split at h
 ·cases h
 ·exact ⟨by assumption,(jS h).symm⟩
theorem Qbw {t yt:TypeId} {x y:Operand} {a b q:Int} (hq:remM a b=some q) (ho:o.op=.binOp .rem t x y yt) (hx:ρ x=Qd a) (hy:ρ y=Qd b) (hk:K (Qd q) H):SemE P E ow o ρ H K:=by
 obtain ⟨h0,rfl⟩:=rem_some hq;exact QbD ho hx hy (if_neg h0) hk
theorem num_of_fit {k:Nat} {d:Dat} (h:Dat.fits k d=true):d.num=k:=by
 simp only [Dat.fits,jE,beq_iff_eq] at h; exact h.1
end

def setM {α:Type} (l:List α) (n:Int) (y:α):Option (List α):=if 0≤n∧n.toNat < l.length then some (l.set n.toNat y) else none
def makeM {α:Type} (bytes:Nat) (n:Int) (z:α):Option (List α):=if 0≤n∧n * (bytes:Int)≤(room:Int)∧n≤9223372036854775807 then some (List.replicate n.toNat z) else none
theorem idx_nat {α:Type} {l:List α} {n:Int} {x:α} (h:idx l n=some x):n=((n.toNat:Nat):Int):=by have:=(idx_some h).1; omega
theorem idx_lt {α:Type} {l:List α} {n:Int} {x:α} (h:idx l n=some x):n.toNat < l.length:=(List.getElem?_eq_some_iff.1 (idx_some h).2).1
theorem set_some {α:Type} {l l2:List α} {n:Int} {y:α} (h:setM l n y=some l2):n.toNat < l.length∧l2=l.set n.toNat y:=by
 unfold setM at h;split at h
 ·rename_i h1; exact ⟨h1.2,(jS h).symm⟩
 ·cases h
theorem cells_idx {α:Type} (f:α→Dat) {l:List α} {n:Int} {x:α} (h:idx l n=some x):(cellsOf f l)[0+n.toNat]? = some (.dat (f x)):=by
 simp only [cellsOf,zW,jD,(idx_some h).2,jN]
section
variable {P:Program} {E:Env} {ow:List (Nat × TypeId)} {o:Oper} {ρ:Operand→PV} {H:List Blk} {K:PV→List Blk→Prop}
theorem dat_cell {α:Type} {f:α→Dat} (hf:∀ a,(f a).isCell=true) (y:α):(PV.dat (f y)).cell=true:=by
 have:=hf y;cases h:f y with
 | agg cs=>rw [h] at this; cases this
 | _=>rfl
theorem J6 {α:Type} (f:α→Dat) {l l2:List α} {n:Int} {y:α} {t e:TypeId} {x z:Operand} {tt g:Nat} (hs:setM l n y=some l2) (hf:∀ a,(f a).isCell=true) (hn:szOf P t=some 1) (ho:o.op=.store t x z) (hx:ρ x=.mp tt g (0+n.toNat)) (hb:H[tt]? = some (.mt e g (cellsOf f l))) (hy:ρ z=.dat (f y)) (hw:ow=[])
  (hk:K (.tup []) (H.set tt (.mt e g (cellsOf f l2)))):SemE P E ow o ρ H K:=by
 obtain ⟨h1,rfl⟩:=set_some hs;rw [zW] at hx;refine Qa0 hn ho hx (Jq hb) hy (dat_cell hf y) (by rw [cellsOf_len]; exact h1) hw ?_ (cellsOf_flat f hf l);rw [cellsOf_set]; exact hk
def gb (g:Nat) (b:Bool):Nat:=if b then g else g+1
theorem Qaz {α:Type} (f:α→Dat) {l es l2:List α} {ts e:TypeId} {x s:Operand} {bytes tt g m:Nat} (hr:app bytes l es=some l2) (hf:∀ a,(f a).isCell=true) (he:elemOfSlice P ts=some e) (hs:szOf P e=some 1) (hb:bytesOf P e=some bytes) (hz:(zeroOf P e).map Dat.num=some 1) (h0:decide (0 < bytes)=true)
  (ho:o.op=.call { callee:=.builtin .append,args:=#[s,x],argTypes:=#[ts,ts] }) (hsv:ρ s=.ms tt g 0 m m) (hl:l.length=m) (hm:H[tt]? = some (.mt e g (cellsOf f l))) (hx:sourceOf H (ρ x)=some (cellsOf f es))
  (hk:K (.ms tt (gb g es.isEmpty) 0 l2.length l2.length) (H.set tt (.mt e (gb g es.isEmpty) (cellsOf f l2)))):SemE P E ow o ρ H K:=by
 subst hl;obtain ⟨h1,rfl⟩:=app_some hr;cases es with
 | nil =>
  refine Qae he hs hb hz (of_decide_eq_true h0) ho hsv hx (v:=.ms tt g 0 l.length l.length) (H':=H) (by simp [appendMs,cellsOf]) ?_
  have e1:H.set tt (.mt e g (cellsOf f l))=H:=by
   obtain ⟨h2,h3⟩:=List.getElem?_eq_some_iff.1 hm;rw [← h3,List.set_getElem_self]
  simpa [gb,e1] using hk
 | cons a es =>
  refine Qae he hs hb hz (of_decide_eq_true h0) ho hsv hx (ms_append_grow hf (Jq hm) (Nat.succ_pos _) rfl h1) ?_
  simpa [gb] using hk
theorem Qbr {α:Type} (f:α→Dat) {z:α} {l:List α} {n:Int} {t e:TypeId} {xl xc:Operand} {bytes:Nat} (hr:makeM bytes n z=some l) (he:elemOfSlice P t=some e) (hz:zeroOf P e=some (f z)) (hs:szOf P e=some 1) (hb:bytesOf P e=some bytes) (hc':(f z).isCell=true) (ho:o.op=.makeSlice t xl xc) (hl:ρ xl=Qd n) (hc:ρ xc=Qd n)
  (hk:K (.arr H.length 0 l.length l.length) (H++[.box (cellsOf f l)])) (hw:ow=[]:=by kernel_rfl):SemE P E ow o ρ H K:=by
 unfold makeM at hr;split at hr
 ·rename_i h1;cases hr;have hl':ρ xl=.dat (.raw (.int .i64 n)):=hl;have hc'':ρ xc=.dat (.raw (.int .i64 n)):=hc;refine SemE_of (fun call=>?_) hk;have h2:cellsOf f (List.replicate n.toNat z)=List.replicate n.toNat (.dat (f z)):=by simp [cellsOf]
  simp only [sem,ho,hw,he,hz,hs,hb,hl',hc'',h2,zH];rw [if_pos ⟨h1.1,Int.le_refl _,h1.2.1,h1.2.2,hc'⟩]
 ·cases hr
def mg {α:Type} (l:List α):Nat:=if l.isEmpty then 0 else 1
theorem Qbt (N:Nat) {α:Type} (f:α→Dat) {z:α} {l:List α} {n:Int} {t e:TypeId} {os:List (Nat × TypeId)} {xl xc:Operand} {bytes:Nat} (hr:makeM bytes n z=some l) (he:elemOfSlice P t=some e) (hz:zeroOf P e=some (f z)) (hs:szOf P e=some 1) (hb:bytesOf P e=some bytes) (hc':(f z).isCell=true) (h0:decide (0 < bytes)=true) (ho:o.op=.makeSlice t xl xc) (hl:ρ xl=Qd n) (hc:ρ xc=Qd n)
  (hw:ow=(1000,e)::os) (hk:K (.ms N (mg l) 0 l.length l.length) (H++[.mt e (mg l) (cellsOf f l)])) (hN:H.length=N:=by kernel_rfl):SemE P E ow o ρ H K:=by
 subst hN;unfold makeM at hr;split at hr
 ·rename_i h1;cases hr;have hl':ρ xl=.dat (.raw (.int .i64 n)):=hl;have hc'':ρ xc=.dat (.raw (.int .i64 n)):=hc;refine SemE_of (fun call=>?_) hk;simp only [sem,ho,hw,show ¬ 8000≤1000 by omega,if_false,if_true,he,hz,hs,hb,hl',hc'',and_self,ownMake];rw [if_pos ⟨h1.1,h1.2.1,h1.2.2,of_decide_eq_true h0,.inl ⟨trivial,hc'⟩⟩];by_cases hn:n=0
  ·subst hn; simp [mg,cellsOf]
  ·have:n.toNat≠0:=by omega
   have e1:mg (List.replicate n.toNat z)=1:=by simp [mg,this]
   have e2:cellsOf f (List.replicate n.toNat z)=List.replicate n.toNat (.dat (f z)):=by simp [cellsOf]
   rw [if_neg hn,e1,e2,zH]
 ·cases hr
theorem Qbs {α:Type} (f:α→Dat) {z:α} {l:List α} {n:Int} {t e j e':TypeId} {os:List (Nat × TypeId)} {xl xc:Operand} {bytes:Nat} (hr:makeM bytes n z=some l) (he:elemOfSlice P t=some e) (hz:zeroOf P e=some (f z)) (hs:szOf P e=some 1) (hb:bytesOf P e=some bytes) (hc':(f z).isCell=true) (ho:o.op=.makeSlice t xl xc) (hl:ρ xl=Qd n) (hc:ρ xc=Qd n)
  (hw:ow=(j,e')::os) (hk:K (.dat (.lst (l.map f))) H) (hj:8000≤j:=by decide):SemE P E ow o ρ H K:=by
 unfold makeM at hr;split at hr
 ·rename_i h1;cases hr;have hl':ρ xl=.dat (.raw (.int .i64 n)):=hl;have hc'':ρ xc=.dat (.raw (.int .i64 n)):=hc;refine SemE_of (fun call=>?_) hk;simp only [sem,ho,hw,if_pos hj,he,hz,hs,hb,hl',hc'',List.map_replicate];rw [if_pos ⟨h1.1,trivial,h1.2.1,h1.2.2,hc'⟩]
 ·cases hr
end

section
variable {P:Program} {E:Env} {ow:List (Nat × TypeId)} {o:Oper} {ρ:Operand→PV} {H:List Blk} {K:PV→List Blk→Prop}
theorem QaQ (N:Nat) {α:Type} {f0:α→Dat} {l:List α} {f:FuncId} {x:Operand} {args:Array Operand} {ts:Array TypeId} {first cap:Array Value} {ow':List (Nat × TypeId)} {j:Nat × TypeId} {ds:List Dat} {t g cp e:Nat} {H1:List Blk}
  (ho:o.op=.call { callee:=.value x,args,argTypes:=ts }) (hx:ρ x=.dat (.raw (.func (.func f) first cap))) (hw:ow=j::ow') (hl:(!((args.toList.map ρ).any PV.lends) || (cellsOf f0 l).all PV.plainCell)=true) (hd:pures H (args.toList.map ρ)=some ds)
  (hc:PC P E f (ds.map .dat) [] (.ms t g 0 l.length cp) H1) (hm:mtOf H1 t=some (e,g,cellsOf f0 l)) (hk:K (.ms N 1 0 l.length l.length) (H++[.mt e 1 (cellsOf f0 l)])) (hN:H.length=N:=by kernel_rfl) (hj:¬ 2000≤j.1:=by decide):SemE P E ow o ρ H K:=by
 subst hN; exact Qa2 ho hx hw hl hd hc hm hk hj
theorem Qa6 (N:Nat) {α:Type} (f:α→Dat) {z:α} {l:List α} {n:Int} {t e:TypeId} {xl xc:Operand} {bytes:Nat} (hr:makeM bytes n z=some l) (he:elemOfSlice P t=some e) (hz:zeroOf P e=some (f z)) (hs:szOf P e=some 1) (hb:bytesOf P e=some bytes) (hc':(f z).isCell=true) (ho:o.op=.makeSlice t xl xc) (hl:ρ xl=Qd n) (hc:ρ xc=Qd n)
  (hk:K (.arr N 0 l.length l.length) (H++[.box (cellsOf f l)])) (hN:H.length=N:=by kernel_rfl) (hw:ow=[]:=by kernel_rfl):SemE P E ow o ρ H K:=by
 subst hN; exact Qbr f hr he hz hs hb hc' ho hl hc hk hw
end

theorem po_agg {H:List Blk} {cs:List PV} {ds:List Dat} (h:pureCs H cs=some ds):pureOut H (.agg cs)=some (.dat (.agg ds)):=by simp only [pureOut,pure1,h,jN]
theorem po_ms {H:List Blk} {t g lo len cap:Nat} {d:Dat} (h:pureC H (.ms t g lo len cap)=some d):pureOut H (.ms t g lo len cap)=some (.dat d):=by simp only [pureOut,pure1,h,jN]
theorem pc_nil {H:List Blk}:pureCs H []=some []:=rfl
theorem pc_cons {H:List Blk} {v:PV} {vs:List PV} {d:Dat} {ds:List Dat} (h1:pureC H v=some d) (h2:pureCs H vs=some ds):pureCs H (v::vs)=some (d::ds):=by simp only [pureCs,h1,h2]
theorem pc_arr {H:List Blk} {α:Type} (f:α→Dat) (l:List α) {i cap m:Nat} (hl:l.length=m) (hf:∀ a,(f a).isCell=true) (hb:H[i]? = some (.box (cellsOf f l))) (hc:m≤cap:=by first|exact j7 _|assumption|omega):pureC H (.arr i 0 m cap)=some (.lst (l.map f)):=by
 subst hl;exact pure_map (cap:=cap) f hf hb
theorem pc_ms {H:List Blk} {α:Type} (f:α→Dat) (l:List α) {t g e cap m:Nat} (hl:l.length=m) (hf:∀ a,(f a).isCell=true) (hb:H[t]? = some (.mt e g (cellsOf f l))):pureC H (.ms t g 0 m cap)=some (.lst (l.map f)):=by
 subst hl;have:=pure_ms (g:=g) (t:=t) (cap:=cap) (f:=f) hf (Jq hb) (j7 _)
 rwa [List.take_length] at this
section
variable {P:Program} {E:Env} {hn:Hint} {rg:Bool} {r i:Nat} {ops:Array Oper} {c:Cf} {Q:Cf→Prop}
theorem JT {H:List Blk} {slots:List PV} {rs:List ResultVar} {p:PV} (vs:List PV) (h:ressOf P slots H rs=some vs) (h2:pureOut H (tupOf vs)=some p):∃ vs,ressOf P slots H rs=some vs∧pureOut H (tupOf vs)=some p:=⟨vs,h,h2⟩
theorem fin_fresh {H:List Blk} {slots:List PV} {rs:List ResultVar} {p:PV} (h:((ressOf P slots H rs).bind fun vs=>if freshOut H (tupOf vs)=true then pureOut H (tupOf vs) else none)=some p:=by kernel_rfl):∃ vs,ressOf P slots H rs=some vs∧pureOut H (tupOf vs)=some p∧freshOut H (tupOf vs)=true:=by
 cases hr:ressOf P slots H rs with
 | none=>rw [hr] at h; cases h
 | some vs =>
  rw [hr,zU] at h;split at h
  ·exact ⟨vs,rfl,h,by assumption⟩
  ·cases h
theorem pg_nil {fl:Bool} {H:List Blk} {h0:Nat}:([]:List Blk).map (purgeB fl H h0)=[]:=rfl
theorem pg_cons {fl:Bool} {H:List Blk} {h0:Nat} {b b':Blk} {bs bs':List Blk} (h1:purgeB fl H h0 b=b') (h2:bs.map (purgeB fl H h0)=bs'):(b::bs).map (purgeB fl H h0)=b'::bs':=by rw [zS,h1,h2]
theorem prune_of2 {st:St} {h0:Nat} {keep:Option (List Nat)} {ks:List Nat} {H':List Blk} {sl':List PV} (bs:List Blk) (hb:∀ H,bs.map (purgeB (fgt ks) H h0)=H') (hk:keep=some ks) (hH:st.heap.take h0=bs:=by kernel_rfl) (hs:keepS (fgt ks) st.heap h0 ks 0 st.slots=sl':=by kernel_rfl):prune h0 keep st=⟨sl',H'⟩:=by
 rw [prune_some hk,hH,hb,hs]
end

section
variable {P:Program} {E:Env} {hn:Hint} {r i:Nat} {ops:Array Oper} {c:Cf} {Q:Cf→Prop}
end
def setE (k:IntKind) (v:Dat) (l:List Int):List (Value × PV):=l.map fun n=>(.int k n,.dat v)
def insK (l:List Int) (n:Int):List Int:=if n∈l then l else l++[n]
theorem findK_setE (k ik:IntKind) (v:Dat) (n:Int):∀ (l:List Int) (i:Nat),(n ∉ l→findK (.int ik) (.int k n) (setE k v l) i=some none)∧(n∈l→∃ j,findK (.int ik) (.int k n) (setE k v l) i=some (some (i+j,.dat v))∧(setE k v l)[j]? = some (.int k n,.dat v))
 | [],i=>⟨fun _=>rfl,fun h=>by cases h⟩
 | m::l,i=>by
  obtain ⟨h1,h2⟩:=findK_setE k ik v n l (i+1);have hs:sameK (.int ik) (.int k n) (.int k m)=some (n == m):=by simp [sameK]
  constructor
  ·intro h;rw [List.mem_cons,not_or] at h;have hb:(n == m)=false:=by simpa using h.1
   show (match sameK (.int ik) (.int k n) (.int k m) with|some true=>_|some false=>_|none=>none)=_
   rw [hs,hb];exact h1 h.2
  ·intro h;by_cases e:n=m
   ·subst e;refine ⟨0,?_,rfl⟩;show (match sameK (.int ik) (.int k n) (.int k n) with|some true=>_|some false=>_|none=>none)=_
    rw [hs,beq_self_eq_true]; rfl
   ·have hb:(n == m)=false:=by simpa using e
    obtain ⟨j,e1,e2⟩:=h2 ((List.mem_cons.1 h).resolve_left e);refine ⟨j+1,?_,by simpa [setE] using e2⟩;show (match sameK (.int ik) (.int k n) (.int k m) with|some true=>_|some false=>_|none=>none)=_
    rw [hs,hb];show findK (.int ik) (.int k n) (setE k v l) (i+1)=_
    rw [e1];simp only [j9,jI,and_true];omega
theorem set_same' {α:Type} {l:List α} {j:Nat} {a:α} (h:l[j]? = some a):l.set j a=l:=by
 obtain ⟨hj,e⟩:=List.getElem?_eq_some_iff.1 h;rw [← e]; exact List.set_getElem_self hj
section
variable {P:Program} {E:Env} {ow:List (Nat × TypeId)} {o:Oper} {ρ:Operand→PV} {H:List Blk} {K:PV→List Blk→Prop}
theorem Qa8 {t kt e:TypeId} {m k x:Operand} {i:Nat} {l:List Int} {kk ik:IntKind} {n:Int} {v:Dat} (ht:P.underlying t=some (.map kt e)) (hk':P.underlying kt=some (.int ik)) (ho:o.op=.mapUpdate t m k x) (hm:ρ m=.mapv i) (hb:H[i]? = some (.map (setE kk v l)))
  (hn:ρ k=.dat (.raw (.int kk n))) (hx:ρ x=.dat v) (hk:K (.tup []) (H.set i (.map (setE kk v (insK l n))))):SemE P E ow o ρ H K:=by
 have hb':mapOf H i=some (setE kk v l):=by rw [mapOf,hb]; exact if_pos (List.all_eq_true.2 fun e he=>by obtain ⟨n,_,rfl⟩:=List.mem_map.1 he; rfl)
 obtain ⟨h1,h2⟩:=findK_setE kk ik v n l 0;by_cases hin:n∈l
 ·obtain ⟨j,e1,e2⟩:=h2 hin;have hf:findIn P ρ k t (setE kk v l)=some (.int kk n,e,some (0+j,.dat v)):=by simp [findIn,ht,hk',hn,PV.toVal,plainKey,e1]
  refine Qa5 ho hm hb' hf ?_;rw [hx,zW,set_same' e2];rw [insK,if_pos hin] at hk;exact hk
 ·have hf:findIn P ρ k t (setE kk v l)=some (.int kk n,e,none):=by simp [findIn,ht,hk',hn,PV.toVal,plainKey,h1 hin]
  refine Qa4 ho hm hb' hf ?_;rw [hx];rw [insK,if_neg hin,setE,zJ] at hk;exact hk
theorem purge_set {fl:Bool} (k:IntKind) (v:Dat) (H:List Blk) (h0:Nat) (l:List Int):purgeB fl H h0 (.map (setE k v l))=.map (setE k v l):=by
 simp only [purgeB,setE,zD]; rfl
theorem cl_nil {H:List Blk}:consumeL H []=some ([],H):=rfl
theorem cl_dat {H H':List Blk} {d:Dat} {cs:List PV} {ds:List Dat} (h:consumeL H cs=some (ds,H')):consumeL H (.dat d::cs)=some (d::ds,H'):=by
 simp only [consumeL,consume1,h]
theorem cl_ms {α:Type} (f:α→Dat) {l:List α} {H H':List Blk} {t e g n cap:Nat} {cs:List PV} {ds:List Dat} (hf:∀ a,(f a).isCell=true) (hb:H[t]? = some (.mt e g (cellsOf f l))) (hl:l.length=n) (h:consumeL (H.set t (.mt e (g+1) [])) cs=some (ds,H')) :
  consumeL H (.ms t g 0 n cap::cs)=some (.lst (l.map f)::ds,H'):=by
 subst hl;have hm:mtOf H t=some (e,g,cellsOf f l):=by simp [mtOf,hb,Blk.mtOf]
 have hp:pureC H (.ms t g 0 l.length cap)=some (.lst (l.map f)):=by
  simp only [pureC,hm,if_true]
  have h1:cut (cellsOf f l) 0 l.length=some (cellsOf f l):=by
   have hl2:(cellsOf f l).length=l.length:=by simp [cellsOf]
   simp only [cut,hl2,zW,j7,if_true,List.drop_zero];rw [List.take_of_length_le (by rw [hl2]; exact j7 _)]
  have h2:allDat (cellsOf f l)=some (l.map f):=by
   unfold cellsOf;clear h1 hm hb h;induction l with
   | nil=>rfl
   | cons a l ih=>simp only [zS,allDat,ih,jN]
  have h3:evenD 0 (l.map f)=true:=by
   simp only [evenD,zQ];left;rw [List.all_map,j8];exact fun a _=>hf a
  simp only [h1,h2,zU,h3,if_true]
 simp only [consumeL,consume1,hp,hm,h]
theorem cl_vec {H H':List Blk} {t:Nat} {es:List Dat} {cs:List PV} {ds:List Dat} (h:consumeL H cs=some (ds,H')):consumeL H (.vec t es::cs)=some (.lst es::ds,H'):=by
 simp only [consumeL,consume1,h]
theorem QaE {t:TypeId} {x:Operand} {n i off:Nat} {j:Nat × TypeId} {ow':List (Nat × TypeId)} {bs cs:List PV} {ds:List Dat} {H':List Blk} (ho:o.op=.load t x) (hw:ow=j::ow') (hg:aggT P t=some true) (hn:szOf P t=some n) (hx:ρ x=.ptr i off)
  (hb:H[i]? = some (.box bs)) (hc:cut bs off n=some cs) (hm:mkAgg cs=.agg cs) (hcl:consumeL H cs=some (ds,H')) (hk:K (.dat (.agg ds)) H'):SemE P E ow o ρ H K:=by
 refine SemE_of (fun call=>?_) hk;have h1:loadSem P t (ρ x) H=some (.agg cs,H):=by simp only [loadSem,hg,hn,hx,hb,hc,zU,ofCells,if_true,hm,jN]
 obtain ⟨j1,j2⟩:=j;simp only [sem,ho,hw,h1,hcl,jN]
end
end Go.Pm
