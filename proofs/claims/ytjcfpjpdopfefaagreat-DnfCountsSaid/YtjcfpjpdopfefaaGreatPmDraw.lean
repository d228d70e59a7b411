/-
 The pure machine: a region that draws its order comes to the same in every order.
-/
import Derived.Test.YtjcfpjpdopfefaaGreatPmCode
namespace Go.Pm
open Go Go.RowKit
set_option linter.unusedVariables false
set_option linter.unusedSimpArgs false

theorem pairs_congr {ρ ρ':Operand→PV} {β:Type} (f:Nat→PV→β):∀ (l:List (Nat × Operand)),(∀ x,x∈l.map (·.2)→ρ x=ρ' x)→(l.map fun (i,x)=>f i (ρ x))=(l.map fun (i,x)=>f i (ρ' x))
 | [],_=>rfl
 | (i,x)::r,h=>by
  simp only [zS];rw [h x y7,pairs_congr f r (fun y hy=>h y (by simp at hy ⊢; exact .inr hy))]

theorem any_congr {ρ ρ':Operand→PV} (f:PV→Bool):∀ (l:List (Nat × Operand)),(∀ x,x∈l.map (·.2)→ρ x=ρ' x)→(l.any fun (_,x)=>f (ρ x))=(l.any fun (_,x)=>f (ρ' x))
 | [],_=>rfl
 | (i,x)::r,h=>by
  simp only [List.any_cons];rw [h x y7,any_congr f r (fun y hy=>h y (by simp at hy ⊢; exact .inr hy))]
theorem all_congr {ρ ρ':Operand→PV} (f:PV→Bool):∀ (l:List (Nat × Operand)),(∀ x,x∈l.map (·.2)→ρ x=ρ' x)→(l.all fun (_,x)=>f (ρ x))=(l.all fun (_,x)=>f (ρ' x))
 | [],_=>rfl
 | (i,x)::r,h=>by
  simp only [List.all_cons];rw [h x y7,all_congr f r (fun y hy=>h y (by simp at hy ⊢; exact .inr hy))]

section
variable {P:Program} {call:CallF} {pf:FuncId→Bool} {ow:List (Nat × TypeId)} {o:Oper} {ρ ρ':Operand→PV} {H H':List Blk} {p:PV}

theorem plain_congr (hs:∀ cs b,o.op≠.select cs b) (h:∀ x∈o.op.operands,ρ x=ρ' x):plainSem P o ρ H=plainSem P o ρ' H:=by
 have e1:(o.op.operands.toList.map fun x=>(ρ x).toVal)=(o.op.operands.toList.map fun x=>(ρ' x).toVal):=List.map_congr_left fun x hx=>by rw [h x (by simpa using hx)]
 have e2:execOp (fun x=>((ρ x).toVal).getD undef) o=execOp (fun x=>((ρ' x).toVal).getD undef) o:=execOp_congr o hs fun x hx=>by rw [h x hx]
 unfold plainSem;simp only [e1,e2]

theorem args_congr {args:Array Operand} (h:∀ x,x∈args.toList→ρ x=ρ' x):args.toList.map ρ=args.toList.map ρ':=List.map_congr_left h

theorem bnd_congr {d:Nat} {x:Option Operand} (h:∀ y,x=some y→ρ y=ρ' y):bndOf ρ d x=bndOf ρ' d x:=by
 cases x with
 | none=>rfl
 | some y=>simp only [bndOf]; rw [h y rfl]

theorem sem_congr (h:∀ x∈o.op.operands,ρ x=ρ' x):sem P call ow o ρ H=sem P call ow o ρ' H:=by
 have hp:=plain_congr (P:=P) (H:=H) (o:=o) (ρ:=ρ) (ρ':=ρ');cases ho:o.op with
 | move x=>simp only [sem,ho]; rw [h x (by simp [ho,Op.operands])]
 | assign x=>simp only [sem,ho]; rw [h x (by simp [ho,Op.operands])]
 | pick c x y=>simp only [sem,ho]; rw [h c (by simp [ho,Op.operands]),h x (by simp [ho,Op.operands]),h y (by simp [ho,Op.operands])]
 | alloc e=>simp only [sem,ho]
 | box e x=>simp only [sem,ho]; rw [h x (by simp [ho,Op.operands])]
 | build t ps =>
  have hps:∀ x,x∈ps.toList.map (·.2)→ρ x=ρ' x:=fun x hx=>h x (by simp only [ho,Op.operands]; simpa using hx)
  simp only [sem,ho,buildSem];rw [pairs_congr (fun i v=>(i,v.cells)) _ hps,all_congr (fun v=>v.cells.all PV.cell) _ hps]
 | buildSlice t n ps =>
  have hps:∀ x,x∈ps.toList.map (·.2)→ρ x=ρ' x:=fun x hx=>h x (by simp only [ho,Op.operands]; simpa using hx)
  have e1:∀ size,cellParts ρ size ps.toList=cellParts ρ' size ps.toList:=fun size=>all_congr (fun v=>v.cells.length == size && v.cells.all PV.cell) _ hps
  have e2:(ps.toList.flatMap fun (_,x)=>(ρ x).cells)=ps.toList.flatMap fun (_,x)=>(ρ' x).cells:=by
   rw [List.flatMap_def,List.flatMap_def];exact congrArg List.flatten (pairs_congr (fun _ v=>v.cells) _ hps)
  simp only [sem,ho,fnParts,e1,e2];rw [pairs_congr (fun _ v=>v) _ hps,any_congr PV.lends _ hps,all_congr PV.isFn _ hps]
 | load t x=>simp only [sem,ho]; rw [h x (by simp [ho,Op.operands])]
 | store t x y=>simp only [sem,ho]; rw [h x (by simp [ho,Op.operands]),h y (by simp [ho,Op.operands])]
 | nilCheck x=>simp only [sem,ho]; rw [h x (by simp [ho,Op.operands])]
 | makeFunc fn first cap =>
  cases fn with
  | func f=>simp only [sem,ho]; rw [args_congr (ρ:=ρ) (ρ':=ρ') (args:=cap) (fun x hx=>h x (by simp only [ho,Op.operands]; simp; exact .inr (by simpa using hx)))]
  | _=>simp only [sem,ho]
 | makeSlice t x y=>simp only [sem,ho]; rw [h x (by simp [ho,Op.operands]),h y (by simp [ho,Op.operands])]
 | makeMap t r=>cases r <;> simp only [sem,ho]
 | range t x=>simp only [sem,ho]; rw [h x (by simp [ho,Op.operands])]
 | next x b=>cases b <;> simp only [sem,ho]; rw [h x (by simp [ho,Op.operands])]
 | mapUpdate t m k x|insert t m k x=>simp only [sem,ho,findIn]; rw [h m (by simp [ho,Op.operands]),h k (by simp [ho,Op.operands]),h x (by simp [ho,Op.operands])]
 | lookup t m k ok=>simp only [sem,ho,findIn]; rw [h m (by simp [ho,Op.operands]),h k (by simp [ho,Op.operands])]
 | fieldAddr t x f=>simp only [sem,ho]; rw [h x (by simp [ho,Op.operands])]
 | indexAddr t x y=>simp only [sem,ho]; rw [h x (by simp [ho,Op.operands]),h y (by simp [ho,Op.operands])]
 | slice t x lo hi mx =>
  cases mx with
  | none =>
   simp only [sem,ho];rw [h x (by simp [ho,Op.operands]),hp (by simp [ho]) h];have e1:∀ d,bndOf ρ d lo=bndOf ρ' d lo:=fun d=>bnd_congr fun y hy=>h y (by subst hy; simp [ho,Op.operands])
   have e2:∀ d,bndOf ρ d hi=bndOf ρ' d hi:=fun d=>bnd_congr fun y hy=>h y (by subst hy; simp [ho,Op.operands])
   simp only [e1,e2,cutMs,cutArr]
  | some m =>
   cases hi with
   | none=>simp [sem,ho]
   | some hi =>
    have e1:∀ d,bndOf ρ d lo=bndOf ρ' d lo:=fun d=>bnd_congr fun y hy=>h y (by subst hy; simp [ho,Op.operands])
    simp only [sem,ho,e1];rw [h x (by simp [ho,Op.operands]),h hi (by simp [ho,Op.operands]),h m (by simp [ho,Op.operands])]
 | field t x f=>simp only [sem,ho]; rw [h x (by simp [ho,Op.operands])]
 | extract x k=>simp only [sem,ho]; rw [h x (by simp [ho,Op.operands])]
 | call c =>
  obtain ⟨callee,args,ts⟩:=c;have ha:args.toList.map ρ=args.toList.map ρ':=args_congr fun x hx=>h x (by simp only [ho,Op.operands,Call.operands]; simp; exact .inr (by simpa using hx))
  cases callee with
  | value f =>
   simp only [sem,ho];rw [h f (by simp [ho,Op.operands,Call.operands]),ha]
  | builtin b =>
   simp only [sem,ho];rw [ha,hp (by simp [ho]) h]
  | invoke x n=>simp only [sem,ho]
 | binOp op t x y yt=>simp only [sem,ho]; rw [h x (by simp [ho,Op.operands]),h y (by simp [ho,Op.operands]),hp (by simp [ho]) h]
 | unOp=>simp only [sem,ho]; exact hp (by simp [ho]) h
 | convert=>simp only [sem,ho]; exact hp (by simp [ho]) h
 | index=>simp only [sem,ho]; exact hp (by simp [ho]) h
 | _=>simp only [sem,ho]

theorem plain_insens (h:plainSem P o ρ H=some (p,H')):H'=H∧∀ H2,plainSem P o ρ H2=some (p,H2):=by
 unfold plainSem at h ⊢;simp only at h ⊢;split at h
 ·rename_i hall;split at h
  ·rename_i v hv;simp only [j5,jI] at h;obtain ⟨q,hq,rfl,rfl⟩:=h;exact ⟨rfl,fun H2=>by rw [if_pos hall]; simp [hq]⟩
  ·cases h
 ·cases h

def PfOK (call:CallF) (pf:FuncId→Bool):Prop :=
 ∀ f args H p H',pf f=true→call f args H=some (p,H')→H'=H∧(∃ ds,pures H args=some ds)∧∀ H2,pures H2 args=pures H args→call f args H2=some (p,H2)

theorem len_heap {ts:Array TypeId} {l:List PV} (h:builtinSem P .len ts l H=some (p,H')):H'=H:=by
 match l,h with
 | [x],h =>
  simp only [builtinSem] at h;split at h
  ·split at h <;> cases h; rfl
  ·split at h
   ·split at h <;> cases h; rfl
   ·cases h
  ·cases h
theorem sem_reads (hpf:PfOK call pf) (hs:sens pf ow o ρ≤1) (h:sem P call ow o ρ H=some (p,H')):H'=H:=by
 unfold sem at h;split at h
 ·rename_i x ho;have hg:¬ giveHint ow=true:=fun hg=>by simp [sens,ho,hg] at hs
  rw [if_neg hg] at h;cases h; rfl
 ·rename_i x ho;split at h
  ·cases h; rfl
  ·simp [sens,ho] at hs
 ·simp only [j5] at h; obtain ⟨t,_,h⟩:=h; cases h; rfl
 ·rename_i ho; simp [sens,ho] at hs
 ·rename_i ho;cases ow with
  | nil=>simp [sens,ho] at hs
  | cons =>
   simp only [j5] at h;obtain ⟨ds,_,h⟩:=h;cases h; rfl
 ·rename_i t parts ho;cases ow with
  | cons=>simp only [sens,ho] at hs; split at hs <;> omega
  | nil =>
  simp only [buildSem,giveHint,j6,if_false] at h;split at h
  ·split at h
   ·split at h
    ·split at h
     ·split at h
      ·rename_i cs' bs ht;simp only [tokCells,j9,jI] at ht; obtain ⟨rfl,rfl⟩:=ht; cases h; simp
      ·cases h
     ·cases h
    ·cases h
   ·cases h
  ·cases h
 ·rename_i t n parts ho;split at h
  ·split at h
   ·rename_i har;cases ow with
    | nil=>cases har
    | cons=>simp [sens,ho] at hs
   split at h
   ·rename_i hfp;cases ow with
    | nil=>cases hfp
    | cons=>simp [sens,ho] at hs
   split at h
   ·split at h
    ·split at h
     ·cases h; rfl
     ·simp [sens,ho] at hs
    ·cases h
   ·cases h
  ·cases h
 ·rename_i ho;cases ow with
  | cons=>simp [sens,ho] at hs
  | nil =>
  simp only [loadSem] at h;split at h
  ·split at h
   ·split at h
    ·simp only [j5] at h; obtain ⟨q,_,h⟩:=h; cases h; rfl
    ·cases h
   ·simp only [j5] at h; obtain ⟨q,_,h⟩:=h; cases h; rfl
   ·split at h
    ·split at h
     ·simp only [j5] at h; obtain ⟨q,_,h⟩:=h; cases h; rfl
     ·split at h
      ·simp only [j5] at h; obtain ⟨q,_,h⟩:=h; cases h; rfl
      ·cases h
    ·cases h
   ·cases h
  ·cases h
 ·rename_i ho; simp [sens,ho] at hs
 ·split at h <;> cases h <;> rfl
 ·split at h
  ·split at h <;> cases h <;> rfl
  ·cases h
 ·rename_i ho;cases ow with
  | nil=>simp [sens,ho] at hs
  | cons jj xs =>
   by_cases h80:8000≤jj.1
   ·simp only at h;rw [if_pos h80] at h;split at h
    ·split at h
     ·split at h
      ·cases h; rfl
      ·cases h
     ·cases h
    ·cases h
   ·simp [sens,ho,h80] at hs
 ·rename_i ho; simp [sens,ho] at hs
 ·rename_i ho; simp [sens,ho] at hs
 ·rename_i ho; simp [sens,ho] at hs
 ·rename_i ho; simp [sens,ho] at hs
 ·rename_i ho; simp [sens,ho] at hs
 ·split at h
  ·split at h
   ·split at h
    ·cases h; rfl
    ·simp only [j5] at h;obtain ⟨z,_,h⟩:=h;cases h; rfl
    ·cases h
   ·cases h
  ·cases h
 ·split at h
  ·split at h
   ·split at h
    ·split at h <;> cases h <;> rfl
    ·cases h
   ·cases h
  ·cases h
 ·split at h
  ·split at h
   ·split at h
    ·split at h
     ·split at h
      ·split at h
       ·split at h <;> cases h; rfl
       ·cases h
      ·split at h
       ·split at h <;> cases h; rfl
       ·cases h
      ·split at h <;> cases h; rfl
      ·split at h <;> cases h; rfl
      ·cases h
     ·cases h
    ·cases h
   ·split at h
    ·split at h
     ·split at h <;> cases h; rfl
     ·split at h <;> cases h; rfl
     ·cases h
    ·cases h
  ·cases h
 ·have key:∀ (es:List Dat) (x:Option (PV × List Blk)),x=some (p,H')→(∀ q H1,x=some (q,H1)→H1=H)→H'=H:=fun _ x h1 h2=>h2 _ _ h1
  split at h
  ·split at h
   ·split at h
    ·split at h <;> cases h; rfl
    ·cases h
   ·cases h
  ·split at h
   ·split at h
    ·split at h <;> cases h; rfl
    ·cases h
   ·cases h
  ·split at h
   ·split at h
    ·simp only [j5] at h; obtain ⟨q,_,h⟩:=h; cases h; rfl
    ·cases h
   ·cases h
  ·split at h
   ·split at h
    ·simp only [j5] at h; obtain ⟨q,_,h⟩:=h; cases h; rfl
    ·cases h
   ·cases h
  ·exact (plain_insens h).1
 ·rename_i ho;split at h
  ·split at h
   ·split at h
    ·split at h
     ·split at h
      ·cases h; rfl
      ·simp [sens,ho] at hs
     ·cases h; rfl
    ·cases h
   ·cases h
  ·cases h
 ·split at h
  ·simp only [Option.bind_eq_bind,jK] at h; obtain ⟨_,_,_,_,_,_,_,_,_,_,h⟩:=h; cases h; rfl
  ·simp only [Option.bind_eq_bind,jK] at h; obtain ⟨_,_,_,_,_,_,_,_,_,_,h⟩:=h; cases h; rfl
  ·cases h
 ·split at h
  ·simp only [j5] at h; obtain ⟨q,_,h⟩:=h; cases h; rfl
  ·cases h
 ·rename_i c ho;obtain ⟨callee,args,ts⟩:=c;simp only at h;split at h
  ·rename_i f;cases ow with
   | cons jj xs =>
    by_cases h13:13000≤jj.1
    ·simp only [if_pos h13] at h;unfold readCall at h;split at h
     ·split at h
      ·cases h; rfl
      ·split at h
       ·cases h; rfl
       ·cases h
     ·cases h
    ·simp only [sens,ho,if_neg h13] at hs; split at hs <;> (try split at hs) <;> (try split at hs) <;> (try split at hs) <;> omega
   | nil =>
   simp only at h;split at h
   ·rename_i fi x y hf;by_cases hp:pf fi=true
    ·exact (hpf _ _ _ _ _ hp h).1
    ·simp [sens,ho,hf,hp] at hs
   ·rename_i fi cap hf;simp [sens,ho,hf] at hs
   ·cases h
  ·rename_i b;split at h
   ·rename_i r hr;cases h;cases b with
    | append=>simp only [sens,ho] at hs; split at hs <;> (try split at hs) <;> omega
    | clear|copy|cap=>simp [sens,ho] at hs
    | len=>exact len_heap hr
    | _=>simp [builtinSem] at hr
   ·exact (plain_insens h).1
  ·cases h
 ·split at h
  ·cases h; rfl
  ·split at h
   ·cases h; rfl
   ·exact (plain_insens h).1
 ·exact (plain_insens h).1
 ·exact (plain_insens h).1
 ·exact (plain_insens h).1
 ·cases h

theorem pures_indep {H2:List Blk}:∀ (args:List PV) (ds:List Dat),pures H args=some ds→args.any PV.lends=false→pures H2 args=some ds
 | [],ds,h,_=>h
 | c::r,ds,h,hl=>by
  simp only [List.any_cons,Bool.or_eq_false_iff] at hl
  have hC:∀ (c:PV) (d:Dat),pureC H c=some d→c.isArr=false→pureC H2 c=some d:=fun c d h hn=>by
   cases c with
   | arr i o len cap=>cases hn
   | ms=>cases hn
   | _=>first|(simp [pureC] at h; done)|(simpa [pureC] using h)
  have hCs:∀ (cs:List PV) (ds:List Dat),pureCs H cs=some ds→cs.any PV.isArr=false→pureCs H2 cs=some ds:=by
   intro cs;induction cs with
   | nil=>intro ds h _; exact h
   | cons c cs ih =>
    intro ds h hn;simp only [List.any_cons,Bool.or_eq_false_iff] at hn;simp only [pureCs] at h ⊢;split at h
    ·rename_i d ds' h1 h2;rw [hC c d h1 hn.1,ih _ h2 hn.2]; exact h
    ·cases h
  simp only [pures] at h ⊢;split at h
  ·rename_i d ds' h1 h2
   have h1':pure1 H2 c=some d:=by
    cases c with
    | agg cs =>
     simp only [pure1,j5] at h1 ⊢;obtain ⟨es,h1,rfl⟩:=h1;exact ⟨es,hCs _ _ h1 (by simpa [PV.lends] using hl.1),rfl⟩
    | arr i o len cap=>simp [PV.lends] at hl
    | ms=>simp [PV.lends] at hl
    | _=>first|(simp [pure1,pureC] at h1; done)|(simpa [pure1,pureC] using h1)
   rw [h1',pures_indep r ds' h2 hl.2]; exact h
  ·cases h

theorem len_indep {ts:Array TypeId} {l:List PV} {H2:List Blk} (hl:l.any PV.isMap=false):builtinSem P .len ts l H2=(builtinSem P .len ts l H).map fun x=>(x.1,H2):=by
 match l with
 | []=>rfl
 | [x] =>
  simp only [builtinSem];split
  ·split <;> rfl
  ·split
   ·rename_i hx;simp [PV.isMap] at hl
   ·rfl
  ·rfl
 | _::_::_=>rfl

theorem sem_insens (hpf:PfOK call pf) (hs:sens pf ow o ρ=0) (h:sem P call ow o ρ H=some (p,H')) (H2:List Blk):sem P call ow o ρ H2=some (p,H2):=by
 cases ho:o.op with
 | move x =>
  have hg:¬ giveHint ow=true:=fun hg=>by simp [sens,ho,hg] at hs
  simp only [sem,ho,if_neg hg] at h ⊢; cases h; rfl
 | assign x =>
  cases ow with
  | nil=>simp only [sem,ho] at h ⊢; cases h; rfl
  | cons=>simp [sens,ho] at hs
 | pick c x y =>
  simp only [sem,ho,j5] at h ⊢;obtain ⟨t,ht,h⟩:=h;cases h; exact ⟨t,ht,rfl⟩
 | alloc e=>simp [sens,ho] at hs
 | box e x =>
  cases ow with
  | nil=>simp [sens,ho] at hs
  | cons =>
   simp only [sem,ho,j5] at h ⊢;obtain ⟨ds,hd,h⟩:=h;cases h; exact ⟨ds,hd,rfl⟩
 | build t ps =>
  cases ow with
  | cons=>simp only [sens,ho] at hs; split at hs <;> cases hs
  | nil =>
   simp only [sem,ho,buildSem,giveHint,j6,if_false] at h ⊢;split at h
   ·split at h
    ·split at h
     ·split at h
      ·split at h
       ·rename_i hz hpl _ cs hf hall hun _ cs' bs ht;simp only [tokCells,j9,jI] at ht;obtain ⟨rfl,rfl⟩:=ht;cases h;simp [hz,hpl,hf,hall,tokCells]
       ·cases h
      ·cases h
     ·cases h
    ·cases h
   ·cases h
 | buildSlice t n ps =>
  cases ow with
  | cons=>simp [sens,ho] at hs
  | nil =>
   simp only [sem,ho,arrHint,fnParts,List.isEmpty_nil,Bool.not_true,Bool.false_and,j6,if_false] at h ⊢;split at h
   ·split at h
    ·rename_i size ds hsz hp;split at h
     ·rename_i hc;cases h
      have hl:(ps.toList.map fun (_,x)=>ρ x).any PV.lends=false:=by
       have:=hc.2.2.2.2.2.2;simp only [Bool.not_eq_true'] at this;rw [List.any_map]; exact this
      rw [pures_indep (H2:=H2) _ _ hp hl];simp only [hsz,if_pos hc]
     ·cases h
    ·cases h
   ·cases h
 | load t x =>
  cases ow with
  | cons=>simp [sens,ho] at hs
  | nil =>
  simp only [sem,loadSem,ho] at h ⊢;split at h
  ·split at h
   ·rename_i hx; simp [sens,ho,hx] at hs
   ·rename_i hg hsz _ cs hx;simp only [j5] at h;obtain ⟨q,hq,h⟩:=h;cases h;simp [hg,hsz,hx,hq]
   ·rename_i hx; simp [sens,ho,hx] at hs
   ·cases h
  ·cases h
 | store t x y=>simp [sens,ho] at hs
 | nilCheck x =>
  simp only [sem,ho] at h ⊢;split at h <;> cases h <;> rename_i hx <;> simp [hx]
 | makeFunc fn first cap =>
  cases fn with
  | func f =>
   simp only [sem,ho] at h ⊢;split at h
   ·rename_i h1;rw [if_pos h1];split at h
    ·rename_i h2; rw [if_pos h2]; cases h; rfl
    ·rename_i h2; rw [if_neg h2]; cases h; rfl
   ·cases h
  | _=>simp [sem,ho] at h
 | makeSlice t x y =>
  cases ow with
  | nil=>simp [sens,ho] at hs
  | cons jj xs =>
   by_cases h80:8000≤jj.1
   ·simp only [sem,ho] at h ⊢;rw [if_pos h80] at h ⊢;split at h
    ·split at h
     ·split at h
      ·rename_i hcond; cases h; rw [if_pos hcond]
      ·cases h
     ·cases h
    ·cases h
   ·simp [sens,ho,h80] at hs
 | fieldAddr t x f =>
  simp only [sem,ho] at h ⊢;split at h
  ·split at h
   ·split at h
    ·split at h <;> cases h <;> first|rfl|simp_all
    ·cases h
   ·cases h
  ·cases h
 | indexAddr t x y =>
  simp only [sem,ho] at h ⊢;split at h
  ·split at h
   ·split at h
    ·split at h
     ·rename_i h1 _ _ h2 _ _ h3 h4;simp only [h1,h2,h3,if_pos h4];split at h
      ·rename_i hx;split at h
       ·rename_i hd;split at h
        ·rename_i hn; cases h; simp [hx,hd,hn]
        ·cases h
       ·cases h
      ·rename_i hx;split at h
       ·rename_i hd;split at h
        ·rename_i hn; cases h; simp [hx,hd,hn]
        ·cases h
       ·cases h
      ·rename_i hx;split at h
       ·rename_i hn; cases h; simp [hx,hn]
       ·cases h
      ·rename_i hx;split at h
       ·rename_i hn; cases h; simp [hx,hn]
       ·cases h
      ·cases h
     ·cases h
    ·cases h
   ·rename_i h1 _ h2;split at h
    ·rename_i h3;split at h
     ·rename_i h4 hx;split at h
      ·rename_i hn; cases h; simp only [h1,h2,h3,h4,hx,if_pos hn]
      ·cases h
     ·rename_i h4 hx;split at h
      ·rename_i hn; cases h; simp only [h1,h2,h3,h4,hx,if_pos hn]
      ·cases h
     ·cases h
    ·cases h
  ·cases h
 | slice t x lo hi mx =>
  cases mx with
  | some m =>
   cases hi with
   | none=>simp [sem,ho] at h
   | some hi =>
    cases ow with
    | cons=>simp [sens,ho] at hs
    | nil =>
     simp only [sem,ho] at h ⊢;split at h
     ·split at h
      ·split at h
       ·rename_i h1 h2 h3 h4 hc;split at h
        ·rename_i he; cases h; simp only [if_pos hc,if_pos he]
        ·rename_i he; cases h; simp only [if_pos hc,if_neg he]
       ·cases h
      ·cases h
     ·cases h
  | none =>
   simp only [sem,ho] at h ⊢;split at h
   ·rename_i hx;split at h
    ·rename_i he;split at h
     ·rename_i h1 h2 h3;split at h
      ·rename_i hc; cases h; simp only [he,h1,h2,h3,if_pos hc]
      ·cases h
     ·cases h
    ·cases h
   ·rename_i hx;split at h
    ·rename_i he;split at h
     ·rename_i h1 h2 h3;split at h
      ·rename_i hc; cases h; simp only [he,h1,h2,h3,if_pos hc]
      ·cases h
     ·cases h
    ·cases h
   ·rename_i hx;split at h
    ·rename_i he;split at h
     ·rename_i hc;simp only [j5] at h;obtain ⟨q,hq,h⟩:=h;cases h;simp only [he,if_pos hc,hq,jN]
     ·cases h
    ·cases h
   ·rename_i hx;split at h
    ·rename_i he;split at h
     ·rename_i hc;simp only [j5] at h;obtain ⟨q,hq,h⟩:=h;cases h;simp [he,hc,hq]
     ·cases h
    ·cases h
   ·exact (plain_insens h).2 H2
 | field t x f =>
  simp only [sem,ho] at h ⊢;split at h
  ·simp only [Option.bind_eq_bind,jK] at h ⊢;obtain ⟨fs,h1,fd,h2,sz,h3,ag,h4,d,h5,h⟩:=h;cases h; exact ⟨fs,h1,fd,h2,sz,h3,ag,h4,_,h5,rfl⟩
  ·simp only [Option.bind_eq_bind,jK] at h ⊢;obtain ⟨fs,h1,fd,h2,sz,h3,ag,h4,d,h5,h⟩:=h;cases h; exact ⟨fs,h1,fd,h2,sz,h3,ag,h4,_,h5,rfl⟩
  ·cases h
 | extract x k =>
  simp only [sem,ho] at h ⊢;split at h
  ·simp only [j5] at h ⊢;obtain ⟨q,hq,h⟩:=h;cases h; exact ⟨_,hq,rfl⟩
  ·cases h
 | call c =>
  obtain ⟨callee,args,ts⟩:=c;cases callee with
  | value f =>
   cases ow with
   | cons jj xs=>(try simp only [readBound,ho,ite_eq_right_iff,reduceCtorEq] at hr); simp only [sens,ho] at hs; split at hs <;> (try split at hs) <;> (try split at hs) <;> (try split at hs) <;> (try split at hs) <;> first|(cases hs; done)|(exfalso; exact hr (by assumption))
   | nil =>
   simp only [sem,ho] at h ⊢;split at h
   ·rename_i fi x y hf;by_cases hp:pf fi=true
    ·have hl:(args.toList.map ρ).any PV.lends=false:=by
      simp only [sens,ho,hf,hp,if_true] at hs;split at hs
      ·cases hs
      ·rename_i hn; simpa using hn
     obtain ⟨_,⟨ds,hds⟩,k⟩:=hpf _ _ _ _ _ hp h;exact k H2 (by rw [pures_indep (H2:=H2) _ _ hds hl,hds])
    ·simp [sens,ho,hf,hp] at hs
   ·rename_i hf; simp [sens,ho,hf] at hs
   ·cases h
  | builtin b =>
   simp only [sem,ho] at h ⊢;cases b with
   | append=>simp only [sens,ho] at hs; split at hs <;> (try split at hs) <;> cases hs
   | clear=>simp [sens,ho] at hs
   | copy=>simp [sens,ho] at hs
   | cap=>simp [sens,ho] at hs
   | len =>
    have hl:(args.toList.map ρ).any PV.isMap=false:=by
     simp only [sens,ho] at hs;split at hs
     ·cases hs
     ·rename_i hn; simpa using hn
    rw [len_indep (H2:=H2) hl];split at h
    ·rename_i r hr;cases h;rw [hr]; rfl
    ·rename_i hr;rw [hr]; exact (plain_insens h).2 H2
   | _ =>
    simp only [builtinSem] at h ⊢;exact (plain_insens h).2 H2
  | invoke x n=>simp [sem,ho] at h
 | binOp op t x y yt =>
  simp only [sem,ho] at h ⊢;split at h
  ·cases h; rfl
  ·split at h
   ·cases h; rfl
   ·exact (plain_insens h).2 H2
 | unOp=>simp only [sem,ho] at h ⊢; exact (plain_insens h).2 H2
 | convert=>simp only [sem,ho] at h ⊢; exact (plain_insens h).2 H2
 | index=>simp only [sem,ho] at h ⊢; exact (plain_insens h).2 H2
 | makeMap t r=>simp [sens,ho] at hs
 | mapUpdate|insert|range|next=>simp [sens,ho] at hs
 | lookup=>simp [sens,ho] at hs
 | _=>simp [sem,ho] at h

def PV.blk1:PV→List Nat
 | .ptr i _=>[i]
 | .mp t _ _=>[t]
 | .arr i _ _ _=>[i]
 | .ms t _ _ _ _=>[t]
 | .mapv i=>[i]
 | _=>[]
def PV.blks:PV→List Nat
 | .agg cs=>cs.flatMap PV.blk1
 | p=>p.blk1
def isTok:Option Blk→Prop
 | some (.tok _ _)=>True
 | _=>False
theorem pureC_blks {H2:List Blk} {c:PV} (h:∀ i,i∈c.blk1→H2[i]? = H[i]?):pureC H2 c=pureC H c:=by
 cases c with
 | arr i o len cap=>simp only [pureC]; rw [h i (by simp [PV.blk1])]
 | ms t g lo len cap=>simp only [pureC,mtOf]; rw [h t (by simp [PV.blk1])]
 | _=>rfl
theorem pureCs_blks {H2:List Blk}:∀ (cs:List PV),(∀ c,c∈cs→∀ i,i∈c.blk1→H2[i]? = H[i]?)→pureCs H2 cs=pureCs H cs
 | [],_=>rfl
 | c::cs,h=>by
  simp only [pureCs];rw [pureC_blks (h c y7),pureCs_blks cs fun c' hc=>h c' (by simp [hc])]
theorem pure1_blks {H2:List Blk} {c:PV} (h:∀ i,i∈c.blks→H2[i]? = H[i]?):pure1 H2 c=pure1 H c:=by
 cases c with
 | agg cs=>simp only [pure1]; rw [pureCs_blks cs fun c hc i hi=>h i (by simp only [PV.blks,List.mem_flatMap]; exact ⟨c,hc,hi⟩)]
 | _=>simp only [pure1]; exact pureC_blks h
theorem pures_blks {H2:List Blk}:∀ (cs:List PV),(∀ c,c∈cs→∀ i,i∈c.blks→H2[i]? = H[i]?)→pures H2 cs=pures H cs
 | [],_=>rfl
 | c::cs,h=>by
  simp only [pures];rw [pure1_blks (h c y7),pures_blks cs fun c' hc=>h c' (by simp [hc])]
theorem blk1_there {c:PV} {d:Dat} (h:pureC H c=some d) {i:Nat} (hi:i∈c.blk1):i < H.length∧¬ isTok H[i]?:=by
 cases c with
 | arr i' o len cap =>
  simp [PV.blk1] at hi; subst hi;simp only [pureC] at h;split at h
  ·rename_i hb; exact ⟨(List.getElem?_eq_some_iff.1 hb).1,by rw [hb]; exact fun h=>h⟩
  ·cases h
 | ms t g lo len cap =>
  simp [PV.blk1] at hi; subst hi;simp only [pureC] at h;split at h
  ·rename_i hb; exact ⟨(List.getElem?_eq_some_iff.1 (QH hb)).1,by rw [QH hb]; exact fun h=>h⟩
  ·cases h
 | ptr|mp|mapv=>simp [pureC] at h
 | _=>simp [PV.blk1] at hi
theorem blks_there {c:PV} {d:Dat} (h:pure1 H c=some d) {i:Nat} (hi:i∈c.blks):i < H.length∧¬ isTok H[i]?:=by
 cases c with
 | agg cs =>
  simp only [pure1,j5] at h;obtain ⟨ds,h,_⟩:=h;obtain ⟨p1,p2⟩:=pureCs_some _ _ h;simp only [PV.blks,List.mem_flatMap] at hi;obtain ⟨c,hc,hi⟩:=hi;obtain ⟨j,hj⟩:=List.getElem?_of_mem hc;have hl:=(List.getElem?_eq_some_iff.1 hj).1;exact blk1_there (p2 j c _ hj (jC y5)) hi
 | _=>simp only [pure1] at h; exact blk1_there h hi
theorem sem_box (hpf:PfOK call pf) (hr:readBound ow o ρ=none) (hs:sens pf ow o ρ=1) (h:sem P call ow o ρ H=some (p,H')):∃ xs:List Operand,(∀ x,x∈xs→x∈o.op.operands)∧(∀ x,x∈xs→∀ i,i∈(ρ x).blks→i < H.length∧¬ isTok H[i]?) ∧
  ∀ H2,(∀ x,x∈xs→∀ i,i∈(ρ x).blks→H2[i]? = H[i]?)→sem P call ow o ρ H2=some (p,H2):=by
 cases ho:o.op with
 | load t x =>
  cases ow with
  | cons=>simp [sens,ho] at hs
  | nil =>
  have hthere:∀ i,i∈(ρ x).blks→i < H.length∧¬ isTok H[i]?:=fun i hi=>by
   simp only [sem,loadSem,ho] at h;split at h
   ·split at h
    ·rename_i hx;rw [hx] at hi; simp [PV.blks,PV.blk1] at hi; subst hi;split at h
     ·rename_i hb; exact ⟨(List.getElem?_eq_some_iff.1 hb).1,by rw [hb]; exact fun h=>h⟩
     ·cases h
    ·rename_i hx; rw [hx] at hi; simp [PV.blks,PV.blk1] at hi
    ·rename_i hx;rw [hx] at hi; simp [PV.blks,PV.blk1] at hi; subst hi;split at h
     ·rename_i hb; exact ⟨(List.getElem?_eq_some_iff.1 (QH hb)).1,by rw [QH hb]; exact fun h=>h⟩
     ·cases h
    ·cases h
   ·cases h
  refine ⟨[x],fun y hy=>by rw [List.mem_singleton.1 hy]; simp [Op.operands],fun y hy=>by rw [List.mem_singleton.1 hy]; exact hthere,fun H2 hH=>?_⟩;replace hH:=hH x y7;simp only [sem,loadSem,ho] at h ⊢;split at h
  ·split at h
   ·rename_i hx;rw [← hH _ (by rw [hx]; simp [PV.blks,PV.blk1])] at h;split at h
    ·simp only [j5] at h;obtain ⟨q,hq,h⟩:=h;cases h;simp [hq]
    ·cases h
   ·rename_i hx; simp [sens,ho,hx] at hs
   ·rename_i hx;rw [mtOf,← hH _ (by rw [hx]; simp [PV.blks,PV.blk1])] at h
    change (match mtOf H2 _ with|some (_,g',cs)=>_|none=>none)=_ at h
    split at h
    ·rename_i hm;split at h
     ·rename_i hc;simp only [j5] at h;obtain ⟨q,hq,h⟩:=h;cases h;simp only [hm,if_pos hc,hq];rfl
     ·rename_i hc;split at h
      ·rename_i hc2;simp only [j5] at h;obtain ⟨q,hq,h⟩:=h;cases h;simp only [hm,if_neg hc,if_pos hc2];rw [hq];rfl
      ·cases h
    ·cases h
   ·cases h
  ·cases h
 | makeSlice t x y=>cases ow <;> (simp only [sens,ho] at hs; try split at hs) <;> (try cases hs)
 | assign x=>cases ow <;> simp [sens,ho] at hs
 | build t ps=>(cases ow <;> simp only [sens,ho] at hs) <;> (try split at hs) <;> cases hs
 | buildSlice t n ps=>cases ow <;> simp [sens,ho] at hs
 | slice t x lo hi mx=>cases hi <;> cases mx <;> cases ow <;> simp [sens,ho] at hs
 | call c =>
  obtain ⟨callee,args,ts⟩:=c;cases callee with
  | value f =>
   cases ow with
   | cons jj xs=>(try simp only [readBound,ho,ite_eq_right_iff,reduceCtorEq] at hr); simp only [sens,ho] at hs; split at hs <;> (try split at hs) <;> (try split at hs) <;> (try split at hs) <;> (try split at hs) <;> first|(cases hs; done)|(exfalso; exact hr (by assumption))
   | nil =>
   have hs':=hs;simp only [sens,ho] at hs';split at hs'
   ·rename_i fi x y hf;split at hs'
    ·rename_i hp;simp only [sem,ho,hf] at h;obtain ⟨_,⟨ds,hds⟩,k⟩:=hpf _ _ _ _ _ hp h;obtain ⟨p1,p2⟩:=pures_some _ _ hds;refine ⟨args.toList,fun z hz=>by simp only [Op.operands,Call.operands]; simp; exact .inr (by simpa using hz),fun z hz i hi=>?_,fun H2 hH=>?_⟩
     ·obtain ⟨j,hj⟩:=List.getElem?_of_mem hz;have hl:j < ds.length:=by rw [p1,jY]; exact (List.getElem?_eq_some_iff.1 hj).1
      exact blks_there (p2 j (ρ z) _ (by rw [jD,hj]; rfl) (jC hl)) hi
     ·simp only [sem,ho,hf];refine k H2 (pures_blks _ fun c hc=>?_);obtain ⟨z,hz,rfl⟩:=List.mem_map.1 hc;exact hH z hz
    ·cases hs'
   ·cases hs'
  | builtin b =>
   cases b with
   | len=>simp only [sens,ho] at hs; split at hs <;> cases hs
   | append=>simp only [sens,ho] at hs; split at hs <;> (try split at hs) <;> cases hs
   | _=>simp [sens,ho] at hs
  | invoke x n=>simp [sens,ho] at hs
 | box e x=>cases ow <;> simp [sens,ho] at hs
 | move x=>simp only [sens,ho] at hs; split at hs <;> cases hs
 | lookup t m k ok =>
  simp only [sem,ho] at h;split at h
  case h_2=>cases h
  rename_i i hm;split at h
  case h_2=>cases h
  rename_i es hes;have hb:=mapOf_some hes;refine ⟨[m],fun y hy=>by rw [List.mem_singleton.1 hy]; simp [Op.operands],fun y hy j hj=>?_,fun H2 hH=>?_⟩
  ·rw [List.mem_singleton.1 hy,hm] at hj;simp [PV.blks,PV.blk1] at hj; subst hj;exact ⟨(List.getElem?_eq_some_iff.1 hb).1,by rw [hb]; exact fun h=>h⟩
  ·have h2:mapOf H2 i=some es:=by
    have:=hH m y7 i (by rw [hm]; simp [PV.blks,PV.blk1]);unfold mapOf at hes ⊢;rw [this]; exact hes
   simp only [sem,ho,hm,h2];split at h
   ·cases h; rfl
   ·simp only [j5] at h;obtain ⟨z,hz,h⟩:=h;cases h;simp [hz]
   ·cases h
 | _=>simp [sens,ho] at hs

theorem sem_read {n:Nat} (hr:readBound ow o ρ=some n) (h:sem P call ow o ρ H=some (p,H')):n≤H.length∧∀ H2,(∀ i,i < n→H2[i]? = H[i]?)→sem P call ow o ρ H2=some (p,H2):=by
 unfold readBound at hr;split at hr
 case h_2=>cases hr
 rename_i c ho;obtain ⟨callee,args,ts⟩:=c;cases callee with
 | builtin b=>cases hr
 | invoke x n=>cases hr
 | value f =>
  cases ow with
  | nil=>cases hr
  | cons jj xs =>
   simp only at hr;split at hr
   case isFalse=>cases hr
   rename_i h13;simp only [j9] at hr;subst hr;simp only [sem,ho] at h ⊢;rw [if_pos h13] at h;unfold readCall at h;split at h
   case h_2=>cases h
   rename_i q R hf
   have hR:R=H∧q=p:=by
    split at h
    ·rename_i hs; cases h; exact ⟨sameH_eq hs,rfl⟩
    ·split at h
     ·rename_i hs; cases h; exact ⟨hs,rfl⟩
     ·cases h
   obtain ⟨hR,rfl⟩:=hR;generalize hn:tops (args.toList.map ρ)+jj.2=n at *;unfold frameCall at hf;split at hf
   case h_2=>cases hf
   rename_i fi x1 x2 hfi;rw [hn] at hf;unfold frameRun at hf;split at hf
   case isFalse=>cases hf
   rename_i hc;split at hf
   case h_2=>cases hf
   rename_i p1 H1 hcl;split at hf
   case isFalse=>cases hf
   rename_i hq;simp only [j9,jI] at hf;obtain ⟨rfl,hf2⟩:=hf;have hget:∀ {i:Nat} {x:Blk},i < n→H[i]? = some x→x∈H.take n:=fun {i x} hi hx=>jF (i:=i) (by rw [jR,if_pos hi]; exact hx)
   refine ⟨hc.1,fun H2 h2=>?_⟩
   ·have htk:H2.take n=H.take n:=List.ext_getElem? fun i=>by
     rw [jR,jR];split
     ·rename_i hi; exact h2 i hi
     ·rfl
    have hl:n≤H2.length:=by
     have:=congrArg List.length htk;rw [zT,zT] at this;have:=hc.1;omega
    have hfr:frameCall call (ρ f) (args.toList.map ρ) jj.2 H2=some (p1,H2):=by
     unfold frameCall;rw [hfi];simp only [hn];unfold frameRun;rw [if_pos ⟨hl,hc.2.1,by rw [htk]; exact hc.2.2⟩,htk,hcl];simp only;rw [if_pos hq]
     have e1:H1.take n=H2.take n:=by
      rw [htk];have e:=congrArg (List.take n) (hf2.trans hR);rw [List.take_append,List.take_take,Nat.min_self] at e
      have hl1:(H1.take n).length=n:=by
       have e2:=congrArg List.length (hf2.trans hR);rw [jV,zZ] at e2;have:=hc.1;rw [zT] at e2 ⊢;omega
      rw [hl1,Nat.sub_self,List.take_zero,jU] at e;exact e
     rw [e1,y3]
    rw [if_pos h13];unfold readCall;rw [hfr];simp only [hn,htk];split
    ·rfl
    ·rfl
theorem sem_grows (hs:sens pf ow o ρ=2) (h:sem P call ow o ρ H=some (p,H')):∃ bs,H'=H++bs:=by
 cases ho:o.op with
 | alloc e =>
  simp only [sem,ho] at h;split at h
  ·split at h
   ·cases h; exact ⟨_,rfl⟩
   ·cases h
  ·cases h
 | box e x =>
  cases ow with
  | cons=>simp [sens,ho] at hs
  | nil =>
  simp only [sem,ho] at h;split at h
  ·cases h; exact ⟨_,rfl⟩
  ·cases h
 | makeSlice t x y =>
  simp only [sem,ho] at h;split at h
  ·split at h
   ·split at h
    ·split at h
     ·cases h; exact ⟨_,rfl⟩
     ·cases h
    ·cases h
   ·cases h
  ·rename_i jj ee ow';have h80:¬ 8000≤jj:=fun hc=>by simp [sens,ho,hc] at hs
   rw [if_neg h80] at h;by_cases h10:jj=1000
   ·rw [if_pos h10] at h;split at h
    ·split at h
     ·split at h
      ·unfold ownMake at h;split at h
       ·split at h <;> cases h <;> exact ⟨_,rfl⟩
       ·cases h
      ·cases h
     ·cases h
    ·cases h
   rw [if_neg h10] at h;split at h
   ·split at h
    ·split at h
     ·cases h; exact ⟨_,rfl⟩
     ·cases h
    ·cases h
   ·cases h
 | assign x =>
  cases ow with
  | nil=>simp [sens,ho] at hs
  | cons =>
   simp only [sem,ho] at h;split at h
   ·split at h <;> cases h <;> exact ⟨_,rfl⟩
   ·cases h
 | slice t x lo hi mx =>
  cases ow with
  | nil=>cases hi <;> cases mx <;> simp [sens,ho] at hs
  | cons =>
   cases hi with
   | none=>cases mx <;> simp [sens,ho] at hs
   | some hi =>
    cases mx with
    | none=>simp [sens,ho] at hs
    | some mx =>
     simp only [sem,ho] at h;split at h
     ·split at h
      ·split at h
       ·split at h
        ·split at h
         ·cases h; exact ⟨_,rfl⟩
         ·cases h
        ·cases h; exact ⟨[],by simp⟩
       ·cases h
      ·cases h
     ·cases h
 | build t ps =>
  have hg:giveHint ow=false:=by
   cases ow with
   | nil=>rfl
   | cons x xs =>
    simp only [sens,ho] at hs;split at hs
    ·cases hs
    ·rename_i hj; simpa [giveHint] using hj
  simp only [sem,ho,buildSem,hg,j6,if_false] at h;split at h
  ·split at h
   ·split at h
    ·split at h
     ·split at h
      ·cases h; exact ⟨_,rfl⟩
      ·cases h
     ·cases h
    ·cases h
   ·cases h
  ·cases h
 | buildSlice t n ps =>
  cases ow with
  | nil=>simp [sens,ho] at hs
  | cons =>
   simp only [sem,ho] at h;split at h
   ·split at h
    ·split at h
     ·split at h
      ·cases h; exact ⟨_,rfl⟩
      ·cases h
     ·cases h
    split at h
    ·split at h
     ·cases h; exact ⟨_,rfl⟩
     ·cases h
    ·split at h
     ·split at h
      ·split at h
       ·split at h
        ·split at h
         ·cases h; exact ⟨_,rfl⟩
         ·split at h
          ·cases h; exact ⟨_,rfl⟩
          ·cases h
        ·cases h; exact ⟨_,rfl⟩
       ·cases h
      ·cases h
     ·cases h
   ·cases h
 | makeMap t r =>
  cases r with
  | none =>
   simp only [sem,ho] at h;split at h
   ·cases h; exact ⟨_,rfl⟩
   ·cases h
  | some r=>simp [sem,ho] at h
 | load t x =>
  cases ow with
  | cons=>simp [sens,ho] at hs
  | nil =>
  simp only [sens,ho] at hs;split at hs <;> cases hs
 | call c =>
  obtain ⟨callee,args,ts⟩:=c;cases callee with
  | value f =>
   cases ow with
   | cons jj xs =>
    have h13:¬ 13000≤jj.1:=fun hc=>by simp only [sens,ho,if_pos hc] at hs; cases hs
    have h12:¬ 12000≤jj.1:=fun hc=>by simp only [sens,ho,if_neg h13,if_pos hc] at hs; cases hs
    have h6:¬ 6000≤jj.1:=fun hc=>by simp only [sens,ho,if_neg h13,if_neg h12,if_pos hc] at hs; cases hs
    have hn:¬ 2000≤jj.1:=fun hc=>by simp only [sens,ho,if_neg h13,if_neg h12,if_neg h6,if_pos hc] at hs; cases hs
    simp only [sem,ho] at h;rw [if_neg h13,if_neg h12,if_neg (show ¬ jj.1=7000 by omega),if_neg h6] at h;split at h
    ·rw [if_neg (show ¬ jj.1=5000 by omega),if_neg hn] at h;unfold freshCall at h;split at h
     ·split at h
      ·split at h
       ·split at h
        ·cases h; exact ⟨_,rfl⟩
        ·cases h
       ·cases h
      ·split at h
       ·cases h; exact ⟨_,rfl⟩
       ·cases h
      ·cases h
     ·cases h
    ·cases h
   | nil =>
   simp only [sens,ho] at hs;split at hs
   ·split at hs
    ·split at hs <;> cases hs
    ·cases hs
   ·cases hs
  | builtin b =>
   cases b with
   | len=>simp only [sens,ho] at hs; split at hs <;> cases hs
   | append =>
    simp only [sens,ho] at hs;split at hs
    ·cases hs
    split at hs
    case isFalse=>cases hs
    rename_i hv;simp only [sem,ho] at h;generalize hl:args.toList.map ρ=l at h hv
    match l,hv with
    | [.arr i off 0 0,.dat (.lst es)],_ =>
     split at h
     ·rename_i r hb;cases h;simp only [builtinSem] at hb;split at hb
      ·split at hb
       ·split at hb
        ·split at hb
         ·unfold newApp at hb;split at hb
          ·cases hb; exact ⟨_,rfl⟩
          ·cases hb
         ·cases hb
        ·cases hb
       ·cases hb
      ·cases hb
     ·have hpl:plainSem P o ρ H=none:=by
       unfold plainSem
       have:(o.op.operands.toList.map fun x=>(ρ x).toVal).all Option.isSome=false:=by
        rw [ho];have hm:PV.arr i off 0 0∈args.toList.map ρ:=by rw [hl]; simp
        obtain ⟨x,hx,e⟩:=List.mem_map.1 hm;rw [List.all_eq_false];exact ⟨none,List.mem_map.2 ⟨x,by simpa [Op.operands,Call.operands] using hx,by rw [e]; rfl⟩,by simp⟩
       simp only [this]; rfl
      rw [hpl] at h; cases h
   | _=>simp [sens,ho] at hs
  | invoke x n=>simp [sens,ho] at hs
 | move x=>simp only [sens,ho] at hs; split at hs <;> cases hs
 | _=>simp [sens,ho] at hs

theorem appendTo_turns {e size bytes t:Nat} {xs es:List Dat} (h:appendTo H e size bytes (.vec t xs) es=some (p,H')):∃ n n',H[t]? = some (.tok e n)∧H'=H.set t (.tok e n'):=by
 unfold appendTo at h;split at h
 ·simp only at h;split at h
  ·rename_i ht;split at h
   ·rename_i hc;obtain ⟨_,rfl,_⟩:=hc;cases h;exact ⟨_,_,ht,rfl⟩
   ·cases h
  ·cases h
 ·cases h
theorem sem_turns (hs:sens pf ow o ρ=4) (h:sem P call ow o ρ H=some (p,H')):∃ t e n n',H[t]? = some (.tok e n)∧H'=H.set t (.tok e n'):=by
 cases ho:o.op with
 | load t x=>cases ow with|cons=>simp [sens,ho] at hs|nil=>simp only [sens,ho] at hs; split at hs <;> cases hs
 | makeSlice t x y=>cases ow <;> (simp only [sens,ho] at hs; try split at hs) <;> (try cases hs)
 | assign x=>cases ow <;> simp [sens,ho] at hs
 | build t ps=>(cases ow <;> simp only [sens,ho] at hs) <;> (try split at hs) <;> cases hs
 | buildSlice t n ps=>cases ow <;> simp [sens,ho] at hs
 | slice t x lo hi mx=>cases hi <;> cases mx <;> cases ow <;> simp [sens,ho] at hs
 | call c =>
  obtain ⟨callee,args,ts⟩:=c;cases callee with
  | value f =>
   cases ow with
   | cons jj xs=>(try simp only [readBound,ho,ite_eq_right_iff,reduceCtorEq] at hr); simp only [sens,ho] at hs; split at hs <;> (try split at hs) <;> (try split at hs) <;> (try split at hs) <;> (try split at hs) <;> first|(cases hs; done)|(exfalso; exact hr (by assumption))
   | nil =>
   simp only [sens,ho] at hs;split at hs
   ·split at hs
    ·split at hs <;> cases hs
    ·cases hs
   ·cases hs
  | builtin b =>
   cases b with
   | len=>simp only [sens,ho] at hs; split at hs <;> cases hs
   | append =>
    simp only [sens,ho] at hs;split at hs
    ·rename_i hv;simp only [sem,ho] at h;generalize hl:args.toList.map ρ=l at h hv
     match l,hv with
     | .vec t xs::r,_ =>
      have hpl:plainSem P o ρ H=none:=by
       unfold plainSem
       have:(o.op.operands.toList.map fun x=>(ρ x).toVal).all Option.isSome=false:=by
        rw [ho];have hm:PV.vec t xs∈args.toList.map ρ:=by rw [hl]; simp
        obtain ⟨x,hx,e⟩:=List.mem_map.1 hm;rw [List.all_eq_false];exact ⟨none,List.mem_map.2 ⟨x,by simpa [Op.operands,Call.operands] using hx,by rw [e]; rfl⟩,by simp⟩
       simp only [this]; rfl
      cases hb:builtinSem P .append ts (.vec t xs::r) H with
      | none=>rw [hb,hpl] at h; cases h
      | some y =>
       rw [hb] at h;cases h
       match r,hb with
       | [x],hb =>
        simp only [builtinSem] at hb;split at hb
        ·split at hb
         ·split at hb
          ·split at hb
           ·obtain ⟨n,n',h1,h2⟩:=appendTo_turns hb;exact ⟨_,_,n,n',h1,h2⟩
           ·cases hb
          ·cases hb
         ·cases hb
        ·cases hb
       | [],hb=>simp [builtinSem] at hb
       | _::_::_,hb=>simp [builtinSem] at hb
    ·split at hs <;> cases hs
   | _=>simp [sens,ho] at hs
  | invoke x n=>simp [sens,ho] at hs
 | box e x=>cases ow <;> simp [sens,ho] at hs
 | move x=>simp only [sens,ho] at hs; split at hs <;> cases hs
 | _=>simp [sens,ho] at hs

theorem sem_calm (hs:sens pf ow o ρ=6) (h:sem P call ow o ρ H=some (p,H')):H'=H:=by
 cases ho:o.op with
 | load t x=>cases ow with|cons=>simp [sens,ho] at hs|nil=>simp only [sens,ho] at hs; split at hs <;> cases hs
 | makeSlice t x y=>cases ow <;> (simp only [sens,ho] at hs; try split at hs) <;> (try cases hs)
 | assign x=>cases ow <;> simp [sens,ho] at hs
 | build t ps=>(cases ow <;> simp only [sens,ho] at hs) <;> (try split at hs) <;> cases hs
 | buildSlice t n ps=>cases ow <;> simp [sens,ho] at hs
 | slice t x lo hi mx=>cases hi <;> cases mx <;> cases ow <;> simp [sens,ho] at hs
 | call c =>
  obtain ⟨callee,args,ts⟩:=c;cases callee with
  | value f =>
   cases ow with
   | cons jj xs =>
    have h13:¬ 13000≤jj.1:=fun hc=>by simp only [sens,ho,if_pos hc] at hs; cases hs
    have h12:¬ 12000≤jj.1:=fun hc=>by simp only [sens,ho,if_neg h13,if_pos hc] at hs; cases hs
    by_cases h6:6000≤jj.1
    ·simp only [sem,ho] at h;rw [if_neg h13,if_neg h12] at h;by_cases h70:jj.1=7000
     ·rw [if_pos h70] at h;unfold aloneCall at h;split at h
      ·split at h
       ·cases h
       ·split at h
        ·split at h
         ·simp only [j5] at h; obtain ⟨d,_,h⟩:=h; cases h; rfl
         ·cases h
        ·cases h
      ·cases h
     rw [if_neg h70,if_pos h6] at h;unfold calmCall at h;split at h
     ·split at h
      ·rename_i he;cases h;exact he.elim (fun he=>(sameH_eq he).symm) id
      ·cases h
     ·cases h
    ·simp only [sens,ho,if_neg h13,if_neg h12,if_neg h6] at hs;split at hs <;> (try split at hs) <;> cases hs
   | nil =>
   simp only [sens,ho] at hs;split at hs
   ·split at hs
    ·split at hs <;> cases hs
    ·cases hs
   ·cases hs
  | builtin b =>
   cases b with
   | len=>simp only [sens,ho] at hs; split at hs <;> cases hs
   | append=>simp only [sens,ho] at hs; split at hs <;> (try split at hs) <;> cases hs
   | _=>simp [sens,ho] at hs
  | invoke x n=>simp [sens,ho] at hs
 | box e x=>cases ow <;> simp [sens,ho] at hs
 | move x=>simp only [sens,ho] at hs; split at hs <;> cases hs
 | _=>simp [sens,ho] at hs

end
end Go.Pm
