/-
 The pure machine: more fuel does not change what it comes to.
-/
import Derived.Test.YtjcfpjpdopfefaaGreatPmIt
namespace Go.Pm
open Go
set_option linter.unusedVariables false

def Leq {α:Type} (a b:Option α):Prop:=∀ r,a=some r→b=some r
theorem Leq.refl {α:Type} (a:Option α):Leq a a:=fun _ h=>h

section
variable {P:Program} {call call':CallF} {pf:FuncId→Bool} {h:Hint} {hint:FuncId→Hint}

theorem frameRun_mono (hc:∀ f args H,Leq (call f args H) (call' f args H)) (f:FuncId) (args:List PV) (n:Nat) (H:List Blk):Leq (frameRun call f args n H) (frameRun call' f args n H):=by
 intro r hr;unfold frameRun at hr ⊢;split at hr
 ·rename_i hcc;rw [if_pos hcc];split at hr
  ·rename_i h1;simp only [hc _ _ _ _ h1]; exact hr
  ·cases hr
 ·cases hr
theorem winF_mono (hc:∀ f args H,Leq (call f args H) (call' f args H)) (b d:Nat) (f:FuncId) (args:List PV) (H:List Blk):Leq (winF call b d f args H) (winF call' b d f args H):=by
 intro r hr;unfold winF at hr ⊢;by_cases hb:H.length≤b
 ·rw [if_pos hb] at hr ⊢;unfold newRun at hr ⊢;split at hr
  ·rename_i hcc;rw [if_pos hcc];split at hr
   ·rename_i h1;simp only [hc _ _ _ _ h1]; exact hr
   ·cases hr
  ·cases hr
 ·rw [if_neg hb] at hr ⊢;unfold winRun at hr ⊢;split at hr
  ·rename_i hcc;rw [if_pos hcc];split at hr
   ·rename_i h1;simp only [frameRun_mono hc _ _ _ _ _ h1]; exact hr
   ·cases hr
  ·cases hr
theorem winCall_mono (hc:∀ f args H,Leq (call f args H) (call' f args H)) {fv:PV} {args:List PV} {b d:Nat} {H:List Blk} {r:PV × List Blk} (hr:winCall call fv args b d H=some r):winCall call' fv args b d H=some r:=by
 unfold winCall valCall at hr ⊢;split at hr
 ·exact winF_mono hc _ _ _ _ _ _ hr
 ·exact winF_mono hc _ _ _ _ _ _ hr
 ·cases hr
theorem sem_mono (hc:∀ f args H,Leq (call f args H) (call' f args H)) (ow:List (Nat × TypeId)) (o:Oper) (ρ:Operand→PV) (H:List Blk):Leq (sem P call ow o ρ H) (sem P call' ow o ρ H):=by
 intro r hr;cases ho:o.op with
 | call c =>
  obtain ⟨callee,args,ts⟩:=c;rw [sem] at hr ⊢;simp only [ho] at hr ⊢;cases callee with
  | value f =>
   cases ow with
   | nil =>
    simp only at hr ⊢;split at hr
    ·exact hc _ _ _ r hr
    ·exact hc _ _ _ r hr
    ·cases hr
   | cons x xs =>
    simp only at hr ⊢;by_cases h13:13000≤x.1
    ·rw [if_pos h13] at hr ⊢;unfold readCall at hr ⊢;split at hr
     ·rename_i hf;unfold frameCall frameRun at hf ⊢;split at hf
      ·split at hf
       ·rename_i hcc;rw [if_pos hcc];split at hf
        ·rename_i h1;simp only [hc _ _ _ _ h1];rw [hf]; exact hr
        ·cases hf
       ·cases hf
      ·cases hf
     ·cases hr
    rw [if_neg h13] at hr ⊢;by_cases h12:12000≤x.1
    ·rw [if_pos h12] at hr ⊢;by_cases h125:12500≤x.1
     ·rw [if_pos h125] at hr ⊢;exact winCall_mono hc hr
     rw [if_neg h125] at hr ⊢;unfold frameCall frameRun at hr ⊢;split at hr
     ·split at hr
      ·rename_i hcc;rw [if_pos hcc];split at hr
       ·rename_i h1;simp only [hc _ _ _ _ h1]; exact hr
       ·cases hr
      ·cases hr
     ·cases hr
    rw [if_neg h12] at hr ⊢;by_cases h70:x.1=7000
    ·rw [if_pos h70] at hr ⊢;unfold aloneCall at hr ⊢;split at hr
     ·split at hr
      ·cases hr
      ·rename_i hl;rw [if_neg hl];split at hr
       ·split at hr
        ·rename_i h1;simp only [hc _ _ _ _ h1]; exact hr
        ·cases hr
       ·cases hr
     ·cases hr
    rw [if_neg h70] at hr ⊢;by_cases h60:6000≤x.1
    ·rw [if_pos h60] at hr ⊢;unfold calmCall valCall at hr ⊢;split at hr
     ·rename_i h1;split at h1
      ·simp only [hc _ _ _ _ h1]; exact hr
      ·simp only [hc _ _ _ _ h1]; exact hr
      ·cases h1
     ·cases hr
    rw [if_neg h60] at hr ⊢;split at hr
    ·by_cases h50:x.1=5000
     ·rw [if_pos h50] at hr ⊢;unfold giveCall at hr ⊢;split at hr
      ·rename_i h1;unfold freshCall at h1 ⊢;split at h1
       ·split at h1
        ·rename_i h2;simp only [hc _ _ _ _ h2];rw [h1];exact hr
        ·rename_i h2;simp only [hc _ _ _ _ h2];rw [h1];exact hr
        ·cases h1
       ·cases h1
      ·cases hr
     rw [if_neg h50] at hr ⊢;by_cases h20:2000≤x.1
     ·rw [if_pos h20] at hr ⊢;unfold nilCall at hr ⊢;split at hr
      ·exact hc _ _ _ r hr
      ·cases hr
     ·rw [if_neg h20] at hr ⊢;unfold freshCall at hr ⊢;split at hr
      ·rename_i hd;split at hr
       ·rename_i h1;rw [hc _ _ _ _ h1];exact hr
       ·rename_i h1;rw [hc _ _ _ _ h1];exact hr
       ·cases hr
      ·cases hr
    ·cases hr
  | builtin b=>exact hr
  | invoke x n=>exact hr
 | makeMap t m=>cases m <;> (rw [sem] at hr ⊢; simp only [ho] at hr ⊢; exact hr)
 | next x b=>cases b <;> (rw [sem] at hr ⊢; simp only [ho] at hr ⊢; exact hr)
 | makeFunc f a b=>cases f <;> (rw [sem] at hr ⊢; simp only [ho] at hr ⊢; exact hr)
 | slice t x lo hi m=>cases m <;> cases hi <;> (rw [sem] at hr ⊢; simp only [ho] at hr ⊢; exact hr)
 | _=>rw [sem] at hr ⊢; simp only [ho] at hr ⊢; exact hr

theorem opStep_mono (hc:∀ f args H,Leq (call f args H) (call' f args H)) (r:Nat) (ops:Array Oper) (i:Nat) (o:Oper) (st:St):Leq (opStep P call h r ops i o st) (opStep P call' h r ops i o st):=by
 intro x hx;unfold opStep at hx ⊢;split at hx
 ·split at hx
  ·rename_i v H hs; rw [sem_mono hc _ _ _ _ _ hs]; exact hx
  ·cases hx
 ·exact hx
 ·cases hx

theorem opsFrom_mono (hc:∀ f args H,Leq (call f args H) (call' f args H)) (r:Nat) (ops:Array Oper):∀ (os:List Oper) (i:Nat) (st:St),Leq (opsFrom P call h r ops i os st) (opsFrom P call' h r ops i os st)
 | [],i,st=>Leq.refl _
 | o::os,i,st=>fun x hx=>by
  simp only [opsFrom] at hx ⊢;split at hx
  ·rename_i st1 h1; rw [opStep_mono hc _ _ _ _ _ _ h1]; exact opsFrom_mono hc r ops os _ _ x hx
  ·cases hx

theorem opsFlat_mono (hc:∀ f args H,Leq (call f args H) (call' f args H)) (r:Nat) (ops:Array Oper) (fl:List (Nat × List Nat)):∀ (os:List Oper) (i:Nat) (st:St),Leq (opsFlat P call h r ops fl i os st) (opsFlat P call' h r ops fl i os st)
 | [],i,st=>Leq.refl _
 | o::os,i,st=>fun x hx=>by
  simp only [opsFlat] at hx ⊢;split at hx
  ·rename_i st1 h1
   have:flatStep P call' h r ops fl i o st=some st1:=by
    unfold flatStep at h1 ⊢;split at h1
    ·exact opStep_mono hc _ _ _ _ _ _ h1
    ·exact h1
   rw [this]; exact opsFlat_mono hc r ops fl os _ _ x hx
  ·cases hx

theorem drawRun_mono (hc:∀ f args H,Leq (call f args H) (call' f args H)) (r:Nat) (ops:Array Oper):∀ (os:List Oper) (i:Nat) (st:St),Leq (drawRun P call pf h r ops i os st) (drawRun P call' pf h r ops i os st)
 | [],i,st=>Leq.refl _
 | o::os,i,st=>fun x hx=>by
  simp only [drawRun] at hx ⊢;split at hx
  ·rename_i st1 h1;rw [opStep_mono hc _ _ _ _ _ _ h1];split at hx
   ·rename_i st2 fl h2;simp only;rw [drawRun_mono hc r ops os _ _ _ h2];exact hx
   ·cases hx
  ·cases hx

theorem iopsFrom_mono {σ:Type} {Y Y':List Dat→σ→Option (Bool × σ)} (hc:∀ f args H,Leq (call f args H) (call' f args H)) (hY:∀ ds s,Leq (Y ds s) (Y' ds s)) (r:Nat) (ops:Array Oper):∀ (os:List Oper) (i:Nat) (is:ISt σ),Leq (iopsFrom P call h Y r ops i os is) (iopsFrom P call' h Y' r ops i os is)
 | [],i,is=>Leq.refl _
 | o::os,i,is=>fun x hx=>by
  simp only [iopsFrom] at hx ⊢
  have hstep:Leq (iopStep P call h Y r ops i o is) (iopStep P call' h Y' r ops i o is):=by
   intro y hy
   have gen:((opStep P call h r ops i o is.st).map fun st=>(⟨st,offY is.ys o.dst,is.out⟩:ISt σ))=some y→((opStep P call' h r ops i o is.st).map fun st=>(⟨st,offY is.ys o.dst,is.out⟩:ISt σ))=some y:=fun hy=>by
    simp only [j5] at hy ⊢;obtain ⟨st,h1,h2⟩:=hy;exact ⟨st,opStep_mono hc _ _ _ _ _ _ h1,h2⟩
   unfold iopStep at hy ⊢;split at hy
   ·split at hy
    ·rename_i h1; rw [if_pos h1]; exact hy
    ·rename_i h1; rw [if_neg h1]; exact gen hy
   ·split at hy
    ·rename_i h1;rw [if_pos h1];split at hy
     ·split at hy
      ·cases hy
      ·rename_i h2;rw [if_neg h2];split at hy
       ·rename_i h3; rw [hY _ _ _ h3]; exact hy
       ·cases hy
     ·cases hy
    ·rename_i h1; rw [if_neg h1]; exact gen hy
   ·exact gen hy
  split at hx
  ·rename_i is1 h1; rw [hstep _ h1]; exact iopsFrom_mono hc hY r ops os _ _ x hx
  ·cases hx

theorem icode_mono {σ:Type} {Y Y':List Dat→σ→Option (Bool × σ)} (hc:∀ f args H,Leq (call f args H) (call' f args H)) (hY:∀ ds s,Leq (Y ds s) (Y' ds s)):∀ n,(∀ c is n',n≤n'→Leq (icode P call h Y n c is) (icode P call' h Y' n' c is)) ∧
  (∀ b h0 is n',n≤n'→Leq (icode.iloop P call h Y b h0 n is) (icode.iloop P call' h Y' b h0 n' is)):=by
 intro n;induction n with
 | zero=>exact ⟨fun c is n' _ x hx=>by simp [icode] at hx,fun b h0 is n' _ x hx=>by simp [icode.iloop] at hx⟩
 | succ n ih =>
  obtain ⟨ihc,ihl⟩:=ih;refine ⟨fun c is n' hn x hx=>?_,fun b h0 is n' hn x hx=>?_⟩
  ·cases n' with
   | zero=>omega
   | succ n' =>
    have hn:n≤n':=by omega
    cases c with
    | region r ops d =>
     cases d
     ·simp only [icode,j5] at hx ⊢;obtain ⟨y,h1,h2⟩:=hx;exact ⟨y,iopsFrom_mono hc hY _ _ _ _ _ _ h1,h2⟩
     ·simp [icode] at hx
    | seq a b =>
     simp only [icode] at hx ⊢;split at hx
     ·rename_i is1 h1; rw [ihc _ _ _ hn _ h1]; exact ihc _ _ _ hn _ hx
     ·rename_i hne;rw [ihc _ _ _ hn _ hx];obtain ⟨e,s⟩:=x;cases e with
      | normal=>exact absurd hx (hne s)
      | exit id=>rfl
      | ret=>rfl
    | cond y a b =>
     simp only [icode] at hx ⊢;split at hx
     ·exact ihc _ _ _ hn _ hx
     ·exact ihc _ _ _ hn _ hx
     ·cases hx
    | block id b =>
     simp only [icode] at hx ⊢;split at hx
     ·rename_i id' s h1; rw [ihc _ _ _ hn _ h1]; exact hx
     ·rename_i hne;rw [ihc _ _ _ hn _ hx];obtain ⟨e,s⟩:=x;cases e with
      | exit id'=>exact absurd hx (hne id' s)
      | normal=>rfl
      | ret=>rfl
    | loop b=>simp only [icode] at hx ⊢; exact ihl _ _ _ _ hn _ hx
    | skip=>exact hx
    | exit id=>exact hx
    | ret=>exact hx
    | _=>simp [icode] at hx
  ·cases n' with
   | zero=>omega
   | succ n' =>
    have hn:n≤n':=by omega
    simp only [icode.iloop] at hx ⊢;split at hx
    ·rename_i s h1; rw [ihc _ _ _ hn _ h1]; exact ihl _ _ _ _ hn _ hx
    ·rename_i hne;rw [ihc _ _ _ hn _ hx];obtain ⟨e,s⟩:=x;cases e with
     | normal=>exact absurd hx (hne s)
     | exit id=>rfl
     | ret=>rfl

theorem roundOf_mono {asg asg' bod bod':St→Option (Ex × St)} (ha:∀ s,Leq (asg s) (asg' s)) (hb:∀ s,Leq (bod s) (bod' s)) (h0:Nat) (slots:List PV) (ps:List Tmp) (ds:List Dat) (x:Rnd):Leq (roundOf asg bod h0 slots ps ds x) (roundOf asg' bod' h0 slots ps ds x):=by
 intro r hr;unfold roundOf at hr ⊢;split at hr
 ·cases hr
 ·split at hr
  ·split at hr
   ·rename_i h1;rw [ha _ _ h1];simp only;split at hr
    ·rename_i h2; rw [hb _ _ h2]; exact hr
    ·rename_i e st2 hne h2;rw [hb _ _ h2];cases e with
     | normal=>exact (hne rfl).elim
     | exit id=>exact hr
     | ret=>exact hr
    ·cases hr
   ·cases hr
  ·cases hr

theorem rangeOf_mono {Y Y':List Dat→Rnd→Option (Bool × Rnd)} (hc:∀ f args H,Leq (call f args H) (call' f args H)) (hY:∀ ds s,Leq (Y ds s) (Y' ds s)) {n n':Nat} (hn:n≤n') (st:St) (gf:FuncId) (caps:List PV):Leq (rangeOf P call hint Y n st gf caps) (rangeOf P call' hint Y' n' st gf caps):=by
 intro r hr;unfold rangeOf at hr ⊢;split at hr
 ·rename_i fn hfn;split at hr
  ·cases hr
  ·rename_i h1;rw [if_neg h1];split at hr
   ·rename_i x hx
    have:irun P call' (hint gf) Y' fn caps n' ⟨st.heap,none⟩=some x:=by
     unfold irun at hx ⊢;split at hx
     ·split at hx
      ·rename_i h2;rw [if_pos h2];split at hx
       ·cases hx
       ·rename_i e is hne h3;rw [(icode_mono hc hY n).1 _ _ _ hn _ h3];cases e with
        | exit id=>exact (hne id rfl).elim
        | normal=>exact hx
        | ret=>exact hx
       ·cases hx
      ·cases hx
     ·cases hx
    rw [this];exact hr
   ·cases hr
 ·cases hr

theorem pcode_mono (hc:∀ f args H,Leq (call f args H) (call' f args H)):∀ n,(∀ rg c st n',n≤n'→Leq (pcode P call pf hint h rg n c st) (pcode P call' pf hint h rg n' c st)) ∧
  (∀ rg b h0 st n',n≤n'→Leq (pcode.ploop P call pf hint h rg b h0 n st) (pcode.ploop P call' pf hint h rg b h0 n' st)):=by
 intro n;induction n with
 | zero=>exact ⟨fun rg c st n' _ x hx=>by simp [pcode] at hx,fun rg b h0 st n' _ x hx=>by simp [pcode.ploop] at hx⟩
 | succ n ih =>
  obtain ⟨ihc,ihl⟩:=ih;refine ⟨fun rg c st n' hn x hx=>?_,fun rg b h0 st n' hn x hx=>?_⟩
  ·cases n' with
   | zero=>omega
   | succ n' =>
    have hn:n≤n':=by omega
    cases c with
    | region r ops d =>
     cases d
     ·simp only [pcode] at hx ⊢;split at hx
      ·rw [j5] at hx ⊢;obtain ⟨y,h1,h2⟩:=hx;exact ⟨y,opsFlat_mono hc _ _ _ _ _ _ _ h1,h2⟩
      ·rw [j5] at hx ⊢;obtain ⟨y,h1,h2⟩:=hx;exact ⟨y,opsFrom_mono hc _ _ _ _ _ _ h1,h2⟩
     ·simp only [pcode] at hx ⊢;split at hx
      ·rename_i h1; rw [drawRun_mono hc _ _ _ _ _ _ h1]; exact hx
      ·cases hx
    | seq a b =>
     simp only [pcode] at hx ⊢;split at hx
     ·rename_i is1 h1; rw [ihc _ _ _ _ hn _ h1]; exact ihc _ _ _ _ hn _ hx
     ·rename_i hne;rw [ihc _ _ _ _ hn _ hx];obtain ⟨e,s⟩:=x;cases e with
      | normal=>exact absurd hx (hne s)
      | exit id=>rfl
      | ret=>rfl
    | cond y a b =>
     simp only [pcode] at hx ⊢;split at hx
     ·exact ihc _ _ _ _ hn _ hx
     ·exact ihc _ _ _ _ hn _ hx
     ·cases hx
    | block id b =>
     simp only [pcode] at hx ⊢;split at hx
     ·rename_i id' s h1; rw [ihc _ _ _ _ hn _ h1]; exact hx
     ·rename_i hne;rw [ihc _ _ _ _ hn _ hx];obtain ⟨e,s⟩:=x;cases e with
      | exit id'=>exact absurd hx (hne id' s)
      | normal=>rfl
      | ret=>rfl
    | label l=>exact hx
    | scope b=>simp only [pcode] at hx ⊢; exact ihc _ _ _ _ hn _ hx
    | loop b=>simp only [pcode] at hx ⊢; exact ihl _ _ _ _ _ hn _ hx
    | skip=>exact hx
    | exit id=>exact hx
    | ret=>exact hx
    | rangeFunc f ps assign body =>
     simp only [pcode] at hx ⊢;split at hx
     ·rename_i hrg;rw [if_pos hrg];split at hx
      ·exact rangeOf_mono hc (fun ds s=>roundOf_mono (fun s=>ihc _ _ _ _ hn) (fun s=>ihc _ _ _ _ hn) _ _ _ _ _) hn _ _ _ _ hx
      ·exact rangeOf_mono hc (fun ds s=>roundOf_mono (fun s=>ihc _ _ _ _ hn) (fun s=>ihc _ _ _ _ hn) _ _ _ _ _) hn _ _ _ _ hx
      ·cases hx
     ·cases hx
    | _=>simp [pcode] at hx
  ·cases n' with
   | zero=>omega
   | succ n' =>
    have hn:n≤n':=by omega
    simp only [pcode.ploop] at hx ⊢;split at hx
    ·rename_i s h1; rw [ihc _ _ _ _ hn _ h1]; exact ihl _ _ _ _ _ hn _ hx
    ·rename_i hne;rw [ihc _ _ _ _ hn _ hx];obtain ⟨e,s⟩:=x;cases e with
     | normal=>exact absurd hx (hne s)
     | exit id=>rfl
     | ret=>rfl

theorem pbody_mono {E:Env} (hc:∀ f args H,Leq (call f args H) (call' f args H)) {n n':Nat} (hn:n≤n') (f:FuncId) (args:List PV) (H:List Blk):Leq (pbody P E call n f args H) (pbody P E call' n' f args H):=by
 intro r hr;unfold pbody at hr ⊢;split at hr
 ·split at hr
  ·split at hr
   ·cases hr
   ·rename_i e st hne h1;rw [(pcode_mono hc n).1 _ _ _ _ hn _ h1];cases e with
    | exit id=>exact (hne id rfl).elim
    | normal=>exact hr
    | ret=>exact hr
   ·cases hr
  ·cases hr
 ·cases hr

theorem splitRun_mono {r1 r2 r1' r2':Option (PV × List Blk)} (h1:∀ r,r1=some r→r1'=some r) (h2:∀ r,r2=some r→r2'=some r) {r:PV × List Blk} (hr:splitRun r1 r2=some r):splitRun r1' r2'=some r:=by
 cases r1 with
 | none=>simp [splitRun] at hr
 | some q1=>cases r2 with
  | none=>simp [splitRun] at hr
  | some q2=>rw [h1 _ rfl,h2 _ rfl]; exact hr

theorem pbodyS_mono {E:Env} (hc:∀ f args H,Leq (call f args H) (call' f args H)) {n n':Nat} (hn:n≤n') (f:FuncId) (args:List PV) (H:List Blk):Leq (pbodyS P E call n f args H) (pbodyS P E call' n' f args H):=by
 intro r hr;unfold pbodyS at hr ⊢;split at hr
 ·rename_i h1;rw [if_pos h1];exact splitRun_mono (pbody_mono hc hn f _ _) (pbody_mono hc hn f _ _) hr
 ·rename_i h1;rw [if_neg h1];exact pbody_mono hc hn f _ _ _ hr

theorem pfun_mono {E:Env}:∀ n n',n≤n'→∀ f args H,Leq (pfun P E n f args H) (pfun P E n' f args H)
 | 0,n',hn,f,args,H=>fun r hr=>by simp [pfun] at hr
 | n+1,0,hn,f,args,H=>by omega
 | n+1,n'+1,hn,f,args,H=>fun r hr=>by
  have hn:n≤n':=by omega
  have ih:=pfun_mono (E:=E) n n' hn;simp only [pfun] at hr ⊢;split at hr
  ·cases hr
  ·rename_i h1;rw [if_neg h1];split at hr
   ·exact hr
   ·split at hr
    ·rename_i h2;rw [if_pos h2];split at hr
     ·split at hr
      ·rename_i h3; rw [pbodyS_mono ih hn _ _ _ _ h3]; exact hr
      ·cases hr
     ·cases hr
    ·rename_i h2;rw [if_neg h2];exact pbodyS_mono ih hn _ _ _ _ hr

theorem PC_of {E:Env} {n:Nat} {f:FuncId} {args:List PV} {H H':List Blk} {p:PV} (h:pfun P E n f args H=some (p,H')):PC P E f args H p H':=⟨n,fun k hk=>pfun_mono n k hk f args H _ h⟩
end
end Go.Pm
