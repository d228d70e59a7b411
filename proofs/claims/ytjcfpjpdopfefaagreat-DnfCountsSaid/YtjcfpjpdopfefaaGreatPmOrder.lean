/-
 The pure machine: a region that draws its order: whatever order is drawn, the end is the one of the text's order.
-/
import Derived.Test.YtjcfpjpdopfefaaGreatPmRen
namespace Go.Pm
open Go Go.RowKit
set_option linter.unusedVariables false
section
variable {P:Program} {call:CallF} {pf:FuncId→Bool} {h:Hint} {r:Nat} {ops:Array Oper}

theorem drawRun_trace:∀ (os:List Oper) (i:Nat) (st st':St) (fl:List Nat),drawRun P call pf h r ops i os st=some (st',fl) →
  ∃ T:Nat→St,T 0=st∧T os.length=st'∧∀ k o,os[k]? = some o→opStep P call h r ops (i+k) o (T k)=some (T (k+1)) ∧
   fl.getD k 0=(if wantedA ops (T k).slots o=some true then sensT pf h r (i+k) o (ev (T k).slots) else 0)
 | [],i,st,st',fl,hr=>by
  cases hr;exact ⟨fun _=>st,rfl,rfl,fun k o h=>by simp at h⟩
 | o::os,i,st,st',fl,hr=>by
  simp only [drawRun] at hr;split at hr
  ·rename_i st1 h1;split at hr
   ·rename_i st2 fl2 h2;cases hr;obtain ⟨T,t1,t2,t3⟩:=drawRun_trace os (i+1) st1 st' fl2 h2;refine ⟨fun k=>match k with|0=>st|k+1=>T k,rfl,t2,fun k o' hk=>?_⟩;cases k with
    | zero =>
     simp at hk; subst hk;exact ⟨by simp only [zV,t1]; exact h1,rfl⟩
    | succ k =>
     have:=t3 k o' (by simpa using hk);rw [show i+1+k=i+(k+1) by omega] at this;exact ⟨this.1,by simpa using this.2⟩
   ·cases hr
  ·cases hr

theorem opStep_parts {i:Nat} {o:Oper} {st st1:St} (hs:opStep P call h r ops i o st=some st1) :
  ∃ v,st1.slots=putS st.slots o.dst v∧((wantedA ops st.slots o=some true∧sem P call (h.ownAt r i) o (ev st.slots) st.heap=some (v,st1.heap)) ∨
   (wantedA ops st.slots o=some false∧v=.tup []∧st1.heap=st.heap)):=by
 unfold opStep at hs;split at hs
 ·rename_i hw;split at hs
  ·rename_i v H hv; cases hs; exact ⟨v,rfl,.inl ⟨hw,hv⟩⟩
  ·cases hs
 ·rename_i hw; cases hs; exact ⟨_,rfl,.inr ⟨hw,rfl,rfl⟩⟩
 ·cases hs

theorem putS_get (s:List PV) (d:Option Tmp) (v:PV) (t:Nat):(putS s d v)[t]? = if d=some t∧t < s.length then some v else s[t]?:=by
 cases d with
 | none=>simp [putS]
 | some d =>
  simp only [putS,zC,j9];by_cases e:d=t
  ·subst e;by_cases hl:d < s.length
   ·simp [hl]
   ·simp [hl]
  ·simp [e]

theorem putS_length (s:List PV) (d:Option Tmp) (v:PV):(putS s d v).length=s.length:=by cases d <;> simp [putS]

structure Order (ops:Array Oper) (fl:List Nat) (anc sp:Nat→Nat→Prop):Prop where
 back:∀ (j:Nat) (o:Oper) (e:Edge),ops[j]? = some o→e∈o.after→Region.binds .any e=true→e.on < j
 sel:∀ (j:Nat) (o:Oper) cs b,ops[j]? = some o→o.op≠.select cs b
 lt:∀ i j,anc i j→j < ops.size→i < j
 look:∀ (i j:Nat) (oi oj:Oper) (d:Tmp),ops[i]? = some oi→ops[j]? = some oj→i≠j→oi.dst=some d→d∈looks ops oj→anc i j∨anc j i
 once:∀ (i j:Nat) (oi oj:Oper) (d:Tmp),ops[i]? = some oi→ops[j]? = some oj→i≠j→oi.dst=some d→oj.dst≠some d
 mind:∀ i j,i < ops.size→j < ops.size→i < j→freeOf (fl.getD i 0) (fl.getD j 0)=false→anc i j∨sp i j
 closed:∀ (L:Nat→Prop),(∀ (j:Nat) (o:Oper) (e:Edge),ops[j]? = some o→L j→e∈o.after→Region.binds .any e=true→L e.on) →
  ∀ (j:Nat) (o:Oper),ops[j]? = some o→(∀ e,e∈o.after→Region.binds .any e=true→L e.on)→∀ i,anc i j→L i

theorem mask_fold (A:List Nat):∀ (es:List Edge) (s i:Nat),(es.foldl (fun s e=>if Region.binds .any e then s ||| (2 ^ e.on ||| A.getD e.on 0) else s) s).testBit i=true →
  s.testBit i=true∨∃ e,e∈es∧Region.binds .any e=true∧(i=e.on∨(A.getD e.on 0).testBit i=true)
 | [],s,i,h=>.inl h
 | e::es,s,i,h=>by
  simp only [List.foldl_cons] at h;rcases mask_fold A es _ i h with h|⟨e',h1,h2,h3⟩
  ·split at h
   ·rename_i hb;simp only [Nat.testBit_or,zQ,Nat.testBit_two_pow,zA] at h;rcases h with h|h|h
    ·exact .inl h
    ·exact .inr ⟨e,by simp,hb,.inl h.symm⟩
    ·exact .inr ⟨e,by simp,hb,.inr h⟩
   ·exact .inl h
  ·exact .inr ⟨e',by simp [h1],h2,h3⟩

theorem modD (fl:List Nat) (k:Nat):(fl.map (· % 8)).getD k 0=fl.getD k 0 % 8:=by
 simp only [jB,jD];cases fl[k]? <;> rfl
theorem order_of_ok {h0:Nat} {fl:List Nat} (hok:orderOk h0 ops fl=true):∃ anc,Order ops (fl.map (· % 8)) anc (fun i j=>(fl.getD i 0 % 16=9∧fl.getD j 0 % 16=11)∨(fl.getD i 0 % 16=11∧fl.getD j 0 % 16=9)):=by
 unfold orderOk at hok;simp only [jE,j8,List.mem_range] at hok;obtain ⟨_,h1,h2⟩:=hok;generalize masks ops.toList []=A at h1 h2;have hlt:∀ {j:Nat} {o:Oper},ops[j]? = some o→j < ops.size:=fun h=>(Array.getElem?_eq_some_iff.1 h).1
 have hA:∀ (j:Nat) (o:Oper),ops[j]? = some o→A.getD j 0=maskOf A o∧(∀ e,e∈o.after→Region.binds .any e=true→e.on < j)∧∀ cs b,o.op≠.select cs b:=fun j o ho=>by
  have:=h1 j (hlt ho);rw [ho] at this;simp only [jE,beq_iff_eq,j8] at this;obtain ⟨⟨a1,a2⟩,a3⟩:=this;refine ⟨a1,fun e he hb=>?_,fun cs b e=>by rw [e] at a3; cases a3⟩;have:=a2 e (by simpa using he)
  simpa [hb] using this
 have hbit:∀ (j:Nat) (o:Oper) (i:Nat),ops[j]? = some o→(A.getD j 0).testBit i=true→∃ e,e∈o.after∧Region.binds .any e=true∧(i=e.on∨(A.getD e.on 0).testBit i=true):=fun j o i ho hb=>by
  rw [(hA j o ho).1,maskOf] at hb;rcases mask_fold A _ _ _ hb with h|⟨e,e1,e2,e3⟩
  ·simp at h
  ·exact ⟨e,by simpa using e1,e2,e3⟩
 have hpair:∀ i j,i < ops.size→j < ops.size→pairOk ops fl A i j=true:=fun i j hi hj=>h2 j hj i hi
 refine ⟨fun i j=>(A.getD j 0).testBit i=true,fun j o e ho=>(hA j o ho).2.1 e,fun j o cs b ho=>(hA j o ho).2.2 cs b,?_,?_,?_,?_,?_⟩
 ·intro i j;induction j using Nat.strongRecOn with
  | _ j ih =>
   intro hb hj;obtain ⟨e,e1,e2,e3⟩:=hbit j _ i (jA hj) hb;have hlt':=(hA j _ (jA hj)).2.1 e e1 e2;rcases e3 with rfl|e3
   ·exact hlt'
   ·exact Nat.lt_trans (ih e.on hlt' e3 y5) hlt'
 ·intro i j oi oj d ho1 ho2 hne hd hl;have:=hpair i j (hlt ho1) (hlt ho2);simp only [pairOk,ho1,ho2,hd,jE,zQ,beq_iff_eq] at this;rcases this.1.1 with ((h|h)|h)|h
  ·exact absurd h hne
  ·exact .inl h
  ·exact .inr h
  ·simp at h; exact absurd hl h
 ·intro i j oi oj d ho1 ho2 hne hd hd2;have:=hpair i j (hlt ho1) (hlt ho2);simp only [pairOk,ho1,ho2,hd,hd2,jE,zQ,beq_iff_eq] at this;rcases this.1.2 with h|h
  ·exact hne h
  ·simp at h
 ·intro i j hi hj hij h3;have:=hpair i j hi hj;simp only [pairOk,jA hi,jA hj,jE,zQ] at this;rcases this.2 with (h|h)|h
  ·simp at h; omega
  ·exact .inl h
  ·rw [modD,modD] at h3;simp only [freeT,h3,Bool.false_or,zQ,jE,beq_iff_eq] at h;exact .inr h
 ·intro L hL j;induction j using Nat.strongRecOn with
  | _ j ih =>
   intro o ho hr i hb;obtain ⟨e,e1,e2,e3⟩:=hbit j o i ho hb;have hon:=hr e e1 e2;rcases e3 with rfl|e3
   ·exact hon
   ·have hlt':=(hA j o ho).2.1 e e1 e2;have hon':e.on < ops.size:=by have:=hlt ho; omega
    have ho':ops[e.on]? = some ops[e.on]:=jA hon';exact ih e.on hlt' _ ho' (fun e' h1 h2=>hL e.on _ e' ho' hon h1 h2) i e3

def SlotsAt (ops:Array Oper) (V:Nat→PV) (s0:List PV) (L:Nat→Prop) (s:List PV):Prop :=
 s.length=s0.length∧∀ t,t < s0.length→(∀ (k:Nat) (o:Oper),ops[k]? = some o→L k→o.dst=some t→s[t]? = some (V k))∧((∀ (k:Nat) (o:Oper),ops[k]? = some o→L k→o.dst≠some t)→s[t]? = s0[t]?)

def HeapAt (T:Nat→St) (fl:List Nat) (n:Nat) (L:Nat→Prop) (H:List Blk):Prop :=
 ∃ a b,(a≤b∧b≤n∧(∀ k,a≤k→k < b→fl.getD k 0≤2)∧(b < n→3≤fl.getD b 0))∧(∀ k,k < a→2≤fl.getD k 0→L k)∧(∀ k,b≤k→k < n→2≤fl.getD k 0→¬ L k)∧H.length=(T b).heap.length ∧
  (∀ i,(∀ k,a≤k→k < b→¬ L k→¬ ((T k).heap.length≤i∧i < (T (k+1)).heap.length))→H[i]? = (T b).heap[i]?) ∧
  (∀ k i,a≤k→k < b→¬ L k→(T k).heap.length≤i→i < (T (k+1)).heap.length→H[i]? = some .hole)

theorem batch_end (fl:List Nat) (n:Nat):∀ (d a:Nat),a+d=n→∃ b,a≤b∧b≤n∧(∀ k,a≤k→k < b→fl.getD k 0≤2)∧(b < n→3≤fl.getD b 0)
 | 0,a,h=>⟨a,j7 _,by omega,fun k h1 h2=>by omega,fun h=>by omega⟩
 | d+1,a,h=>by
  by_cases c:3≤fl.getD a 0
  ·exact ⟨a,j7 _,by omega,fun k h1 h2=>by omega,fun _=>c⟩
  ·obtain ⟨b,h1,h2,h3,h4⟩:=batch_end fl n d (a+1) y5;refine ⟨b,by omega,h2,fun k k1 k2=>?_,h4⟩;by_cases e:k=a
   ·subst e; omega
   ·exact h3 k y5 k2

variable {fl:List Nat} {anc sp:Nat→Nat→Prop} {T:Nat→St} {V:Nat→PV}

theorem slots_put (hord:Order ops fl anc sp) {L:Nat→Prop} {s0 s:List PV} {j:Nat} {o:Oper} (ho:ops[j]? = some o) (hj:¬ L j) (hs:SlotsAt ops V s0 L s) :
  SlotsAt ops V s0 (fun k=>L k∨k=j) (putS s o.dst (V j)):=by
 refine ⟨by rw [putS_length,hs.1],fun t ht=>⟨fun k ok hk hL hd=>?_,fun hn=>?_⟩⟩
 ·rw [putS_get,hs.1];rcases hL with hL|rfl
  ·rw [if_neg (fun c=>hord.once k j ok o t hk ho (fun e=>hj (e ▸ hL)) hd c.1)];exact (hs.2 t ht).1 k ok hk hL hd
  ·rw [hk] at ho; cases ho;rw [if_pos ⟨hd,ht⟩]
 ·rw [putS_get,if_neg (fun c=>hn j o ho (.inr rfl) c.1)];exact (hs.2 t ht).2 fun k ok hk hL=>hn k ok hk (.inl hL)

theorem slots_text (hord:Order ops fl anc sp) (hT:∀ (k:Nat) (o:Oper),ops[k]? = some o→(T (k+1)).slots=putS (T k).slots o.dst (V k)):∀ j,j≤ops.size→SlotsAt ops V (T 0).slots (fun k=>k < j) (T j).slots
 | 0,_=>⟨rfl,fun t ht=>⟨fun k o _ h=>absurd h (Nat.not_lt_zero _),fun _=>rfl⟩⟩
 | j+1,hj=>by
  have ho:ops[j]? = some ops[j]:=jA y5;have:=slots_put hord ho (L:=fun k=>k < j) (jZ _) (slots_text hord hT j y5);rw [hT j _ ho];refine ⟨this.1,fun t ht=>⟨fun k o hk hL hd=>(this.2 t ht).1 k o hk y5 hd,fun hn=>(this.2 t ht).2 fun k o hk hL=>hn k o hk y5⟩⟩

def LaterQ (Q:Nat→Option Blk→Prop) (H H2:List Blk):Prop:=H.length≤H2.length∧∀ i:Nat,i < H.length→H2[i]? = H[i]?∨(Q i H[i]?∧Q i H2[i]?)
theorem LaterQ.refl (Q:Nat→Option Blk→Prop) (H:List Blk):LaterQ Q H H:=⟨j7 _,fun _ _=>.inl rfl⟩
theorem LaterQ.trans {Q:Nat→Option Blk→Prop} {H H2 H3:List Blk} (a:LaterQ Q H H2) (b:LaterQ Q H2 H3):LaterQ Q H H3:=by
 refine ⟨jW a.1 b.1,fun i hi=>?_⟩;rcases a.2 i hi with h1|⟨h1,h2⟩
 ·rcases b.2 i (jP hi a.1) with h3|⟨h3,h4⟩
  ·exact .inl (h3.trans h1)
  ·exact .inr ⟨h1 ▸ h3,h4⟩
 ·rcases b.2 i (jP hi a.1) with h3|⟨h3,h4⟩
  ·exact .inr ⟨h1,h3 ▸ h2⟩
  ·exact .inr ⟨h1,h4⟩
theorem LaterQ.mono {Q Q':Nat→Option Blk→Prop} {H H2:List Blk} (h:LaterQ Q H H2) (hq:∀ i b,Q i b→Q' i b):LaterQ Q' H H2:=⟨h.1,fun i hi=>(h.2 i hi).imp id fun h=>⟨hq _ _ h.1,hq _ _ h.2⟩⟩
def Later:=LaterQ fun _=>isTok
theorem LaterQ.app (Q:Nat→Option Blk→Prop) (H bs:List Blk):LaterQ Q H (H++bs):=⟨by simp,fun i hi=>.inl (by rw [jT,if_pos hi])⟩
theorem Later.set {H:List Blk} {t:Nat} {e n n':Nat} (h:H[t]? = some (.tok e n)):Later H (H.set t (.tok e n')):=by
 refine ⟨by simp,fun i hi=>?_⟩;by_cases hit:t=i
 ·subst hit;refine .inr ⟨by rw [h]; trivial,?_⟩;rw [zC];simp [hi,isTok]
 ·exact .inl (by rw [zC,if_neg hit])
def isMt:Option Blk→Prop
 | some (.mt _ _ _)=>True
 | _=>False
theorem LaterQ.setMt {H:List Blk} {t:Nat} {e n e' n':Nat} {cs cs':List PV} (h:H[t]? = some (.mt e n cs)):LaterQ (fun _=>isMt) H (H.set t (.mt e' n' cs')):=by
 refine ⟨by simp,fun i hi=>?_⟩;by_cases hit:t=i
 ·subst hit;refine .inr ⟨by rw [h]; trivial,?_⟩;rw [zC];simp [hi,isMt]
 ·exact .inl (by rw [zC,if_neg hit])

theorem heap_longer {Q:Nat→Option Blk→Prop} (hT:∀ k,k < ops.size→fl.getD k 0≤1→(T (k+1)).heap=(T k).heap) {a b:Nat} (hab:a≤b) (hb:b≤ops.size) (hn:∀ k,a≤k→k < b→2≤fl.getD k 0→LaterQ Q (T k).heap (T (k+1)).heap) :
  LaterQ Q (T a).heap (T b).heap:=by
 induction b with
 | zero=>rw [show a=0 by omega]; exact LaterQ.refl _ _
 | succ b ih =>
  by_cases e:a=b+1
  ·rw [e]; exact LaterQ.refl _ _
  ·have hbs:=ih y5 y5 fun k h1 h2=>hn k h1 y5
   by_cases c:2≤fl.getD b 0
   ·exact hbs.trans (hn b y5 y5 c)
   ·rw [hT b y5 y5]; exact hbs

theorem batch_prefix {a b:Nat} (hg:∀ k,a≤k→k < b→∃ bs,(T (k+1)).heap=(T k).heap++bs) {k:Nat} (hk:a≤k):∀ d,k+d≤b→∃ bs,(T (k+d)).heap=(T k).heap++bs
 | 0,_=>⟨[],by simp⟩
 | d+1,h=>by
  obtain ⟨bs,h1⟩:=batch_prefix hg hk d y5;obtain ⟨cs,h2⟩:=hg (k+d) y5 y5;exact ⟨bs++cs,by rw [show k+(d+1)=k+d+1 by omega,h2,h1,List.append_assoc]⟩
theorem batch_le {a b:Nat} (hg:∀ k,a≤k→k < b→∃ bs,(T (k+1)).heap=(T k).heap++bs) {k k':Nat} (hk:a≤k) (hkk:k≤k') (hb:k'≤b):(T k).heap.length≤(T k').heap.length:=by
 obtain ⟨bs,h⟩:=batch_prefix hg hk (k' - k) y5;rw [show k+(k' - k)=k' by omega] at h;rw [h]; simp
theorem batch_get {a b:Nat} (hg:∀ k,a≤k→k < b→∃ bs,(T (k+1)).heap=(T k).heap++bs) {k k' i:Nat} (hk:a≤k) (hkk:k≤k') (hb:k'≤b) (hi:i < (T k).heap.length):(T k').heap[i]? = (T k).heap[i]?:=by
 obtain ⟨bs,h⟩:=batch_prefix hg hk (k' - k) y5;rw [show k+(k' - k)=k' by omega] at h;rw [h,jT,if_pos hi]
theorem batch_cover {a:Nat} {i:Nat} (hi:(T a).heap.length≤i):∀ d,i < (T (a+d)).heap.length→∃ k,a≤k∧k < a+d∧(T k).heap.length≤i∧i < (T (k+1)).heap.length
 | 0,h=>by simp at h; omega
 | d+1,h=>by
  by_cases c:i < (T (a+d)).heap.length
  ·obtain ⟨k,h1,h2,h3⟩:=batch_cover hi d c;exact ⟨k,h1,by omega,h3⟩
  ·exact ⟨a+d,by omega,by omega,by omega,h⟩

theorem batch_start {n a b:Nat} {L:Nat→Prop} (hg:∀ k,a≤k→k < b→∃ bs,(T (k+1)).heap=(T k).heap++bs) (hg1:∀ k,a≤k→k < b→¬ 2≤fl.getD k 0→(T (k+1)).heap=(T k).heap)
  (hb:a≤b∧b≤n∧(∀ k,a≤k→k < b→fl.getD k 0≤2)∧(b < n→3≤fl.getD b 0)) (h1:∀ k,k < a→2≤fl.getD k 0→L k) (h2:∀ k,a≤k→k < n→2≤fl.getD k 0→¬ L k) :
  HeapAt T fl n L ((T a).heap++List.replicate ((T b).heap.length - (T a).heap.length) .hole):=by
 have hle:=batch_le hg (j7 a) hb.1 (j7 b);refine ⟨a,b,hb,h1,fun k hk=>h2 k y5,by simp; omega,fun i hi=>?_,fun k i hk hkb hL hi hi2=>?_⟩
 ·by_cases c:i < (T a).heap.length
  ·rw [jT,if_pos c];exact (batch_get hg (j7 a) hb.1 (j7 b) c).symm
  ·by_cases c2:i < (T b).heap.length
   ·obtain ⟨k,k1,k2,k3,k4⟩:=batch_cover (by omega:(T a).heap.length≤i) (b - a) (by rwa [show a+(b - a)=b by omega])
    have hL:¬ L k:=by
     by_cases c3:2≤fl.getD k 0
     ·exact h2 k k1 y5 c3
     ·rw [hg1 k k1 y5 c3] at k4; omega
    exact absurd ⟨k3,k4⟩ (hi k k1 y5 hL)
   ·rw [List.getElem?_eq_none y6,List.getElem?_eq_none y5]
 ·have l1:=batch_le hg (j7 a) hk y5;have l2:=batch_le hg (by omega:a≤k+1) (by omega:k+1≤b) (j7 b);rw [jT,if_neg y5,zK,if_pos y5]

theorem looks_same (hord:Order ops fl anc sp) {L:Nat→Prop} {s:List PV} {j:Nat} {o:Oper} (ho:ops[j]? = some o) (hj:¬ L j) (hs:SlotsAt ops V (T 0).slots L s) (ht:SlotsAt ops V (T 0).slots (fun k=>k < j) (T j).slots)
  (hdc:∀ (j:Nat) (o:Oper) (e:Edge),ops[j]? = some o→L j→e∈o.after→Region.binds .any e=true→L e.on) (hanc:∀ i,anc i j→L i) (t:Nat) (hl:t∈looks ops o):s[t]? = (T j).slots[t]?:=by
 by_cases hlen:t < (T 0).slots.length
 ·by_cases hex:∃ (i:Nat) (oi:Oper),ops[i]? = some oi∧oi.dst=some t∧i≠j
  ·obtain ⟨i,oi,hi,hd,hne⟩:=hex;have hjlt:j < ops.size:=(Array.getElem?_eq_some_iff.1 ho).1;have hilt:i < ops.size:=(Array.getElem?_eq_some_iff.1 hi).1;rcases hord.look i j oi o t hi ho hne hd hl with ha|ha
   ·rw [(hs.2 t hlen).1 i oi hi (hanc i ha) hd,(ht.2 t hlen).1 i oi hi (hord.lt i j ha hjlt) hd]
   ·have hji:=hord.lt j i ha hilt;have hiL:¬ L i:=fun hL=>hj (hord.closed L hdc i oi hi (fun e he hb=>hdc i oi e hi hL he hb) j ha)
    have honly:∀ (k:Nat) (ok:Oper),ops[k]? = some ok→k≠i→ok.dst≠some t:=fun k ok hk hne' hd'=>hord.once k i ok oi t hk hi hne' hd' hd
    rw [(hs.2 t hlen).2 fun k ok hk hL=>honly k ok hk (fun e=>hiL (e ▸ hL)),(ht.2 t hlen).2 fun k ok hk hL=>honly k ok hk y5]
  ·have hno:∀ (k:Nat) (ok:Oper),ops[k]? = some ok→k≠j→ok.dst≠some t:=fun k ok hk hne hd=>hex ⟨k,ok,hk,hd,hne⟩
   rw [(hs.2 t hlen).2 fun k ok hk hL=>hno k ok hk (fun e=>hj (e ▸ hL)),(ht.2 t hlen).2 fun k ok hk hL=>hno k ok hk y5]
 ·rw [List.getElem?_eq_none (by rw [hs.1]; omega),List.getElem?_eq_none (by rw [ht.1]; omega)]

theorem wantedA_congr {s s':List PV} {o:Oper} (h:∀ t,t∈looks ops o→s[t]? = s'[t]?):wantedA ops s o=wantedA ops s' o:=by
 unfold wantedA;split
 ·rfl
 ·rename_i j want hg;split
  ·rfl
  ·rename_i d hd
   have:s[d]? = s'[d]?:=h d (by simp [looks,hg,hd])
   rw [this]

theorem ev_congr {s s':List PV} {o:Oper} (h:∀ t,t∈looks ops o→s[t]? = s'[t]?):∀ x∈o.op.operands,ev s x=ev s' x:=fun x hx=>by
 cases x with
 | tmp t =>
  have:s[t]? = s'[t]?:=h t (List.mem_append_left _ (List.mem_filterMap.2 ⟨.tmp t,by simpa using hx,rfl⟩))
  simp only [ev,jB,this]
 | _=>rfl

theorem getD_set_of {L:Array Bool} {i k:Nat} (hi:i < L.size):(L.setIfInBounds i true).getD k true=if k=i then true else L.getD k true:=by
 simp only [jH,Array.getElem?_setIfInBounds];by_cases e:i=k
 ·subst e; simp [hi]
 ·have e':k≠i:=fun h=>e h.symm
  simp [e,e']

theorem sens_le (ow:List (Nat × TypeId)) (o:Oper) (ρ:Operand→PV):sens pf ow o ρ≤6:=by
 unfold sens
 repeat' split
 all_goals omega
theorem sens_not5 (ow:List (Nat × TypeId)) (o:Oper) (ρ:Operand→PV):sens pf ow o ρ≠5:=by
 unfold sens
 repeat' split
 all_goals omega

theorem sensT_mod (hn:Hint) (r i:Nat) (o:Oper) (ρ:Operand→PV) (pf:FuncId→Bool):sensT pf hn r i o ρ % 8=sens pf (hn.ownAt r i) o ρ:=by
 have h6:=sens_le (pf:=pf) (hn.ownAt r i) o ρ;unfold sensT
 have hb:readTag (readBound (hn.ownAt r i) o ρ) % 8=0:=by
  cases readBound (hn.ownAt r i) o ρ with
  | none=>rfl
  | some n =>
   show (16 * (n+1)) % 8=0
   rw [show 16 * (n+1)=8 * (2 * (n+1)) by rw [← Nat.mul_assoc]];exact Nat.mul_mod_right _ _
 generalize readTag (readBound (hn.ownAt r i) o ρ)=b at hb
 repeat' split
 all_goals omega
theorem sensT_read {hn:Hint} {r i:Nat} {o:Oper} {ρ:Operand→PV} {pf:FuncId→Bool} {n:Nat} (h:readBound (hn.ownAt r i) o ρ=some n):sensT pf hn r i o ρ=1+16 * (n+1):=by
 have h':=h;unfold readBound at h;split at h
 case h_2=>cases h
 rename_i c ho;obtain ⟨callee,args,ts⟩:=c;cases callee with
 | builtin b=>cases h
 | invoke x n=>cases h
 | value f =>
  cases how:hn.ownAt r i with
  | nil=>rw [how] at h; cases h
  | cons jj xs =>
   rw [how] at h;simp only at h;split at h
   case isFalse=>cases h
   rename_i h13;unfold sensT;rw [h',how];simp only [readTag,sens,ho,if_pos h13,List.isEmpty_cons,Bool.and_false,j6,if_false,zV]
theorem sensT_tag {hn:Hint} {r i:Nat} {o:Oper} {ρ:Operand→PV} {pf:FuncId→Bool} (h:sensT pf hn r i o ρ % 16=9∨sensT pf hn r i o ρ % 16=11):hn.ownAt r i=[]∧((∃ t a j off,o.op=.load t a∧ρ a=.ptr j off∧sensT pf hn r i o ρ=9+16 * (j+1)) ∨
  (∃ t a x tt gg j,o.op=.store t a x∧ρ a=.mp tt gg j∧sensT pf hn r i o ρ=11)∨∃ t a x j off,o.op=.store t a x∧ρ a=.ptr j off∧sensT pf hn r i o ρ=11+16 * (j+1)):=by
 have h6:=sens_le (pf:=pf) (hn.ownAt r i) o ρ;cases hrb:readBound (hn.ownAt r i) o ρ with
 | some n=>rw [sensT_read hrb] at h; omega
 | none =>
 by_cases hc:(hn.late.contains (r,i) && (hn.ownAt r i).isEmpty)=true
 case neg=>unfold sensT at h; rw [hrb,if_neg hc] at h; simp only [readTag,zV] at h; omega
 have how:hn.ownAt r i=[]:=by simp only [jE,List.isEmpty_iff] at hc; exact hc.2
 refine ⟨how,?_⟩;unfold sensT at h ⊢;rw [hrb,if_pos hc] at h ⊢;rw [how] at h h6 ⊢;simp only [readTag,zV] at h ⊢;split at h
 ·rename_i t a ho;split at h
  ·rename_i j off hp; exact .inl ⟨t,a,j,off,ho,hp,by simp only [sens,ho,hp]; omega⟩
  ·omega
 ·rename_i t a x ho;split at h
  ·rename_i tt gg j hp; exact .inr (.inl ⟨t,a,x,tt,gg,j,ho,hp,by simp only [sens,ho]⟩)
  ·rename_i j off hp; exact .inr (.inr ⟨t,a,x,j,off,ho,hp,by simp only [sens,ho]; omega⟩)
  ·omega
 ·omega
theorem sensT_nine {hn:Hint} {r i:Nat} {o:Oper} {ρ:Operand→PV} {pf:FuncId→Bool} (h:sensT pf hn r i o ρ % 16=9):∃ t a j off,o.op=.load t a∧ρ a=.ptr j off∧hn.ownAt r i=[]∧sensT pf hn r i o ρ=9+16 * (j+1):=by
 obtain ⟨h1,⟨t,a,j,off,ho,hp,e⟩|⟨t,a,x,tt,gg,j,ho,hp,e⟩|⟨t,a,x,j,off,ho,hp,e⟩⟩:=sensT_tag (.inl h)
 ·exact ⟨t,a,j,off,ho,hp,h1,e⟩
 ·omega
 ·omega
theorem sensT_eleven {hn:Hint} {r i:Nat} {o:Oper} {ρ:Operand→PV} {pf:FuncId→Bool} (h:sensT pf hn r i o ρ % 16=11):hn.ownAt r i=[]∧((∃ t a x tt gg j,o.op=.store t a x∧ρ a=.mp tt gg j)∨∃ t a x j off,o.op=.store t a x∧ρ a=.ptr j off∧sensT pf hn r i o ρ=11+16 * (j+1)):=by
 obtain ⟨h1,⟨t,a,j,off,ho,hp,e⟩|⟨t,a,x,tt,gg,j,ho,hp,e⟩|h2⟩:=sensT_tag (.inr h)
 ·omega
 ·exact ⟨h1,.inl ⟨t,a,x,tt,gg,j,ho,hp⟩⟩
 ·exact ⟨h1,.inr h2⟩

theorem draw_any (hcall:CallOK P pf call) {M:Nat→Option Blk→Prop} {F:Fence} {m:Nat} {Q:Exit→Act→World→Prop} (hF:Free F) (hord:Order ops fl anc sp)
  (hT:∀ (k:Nat) (o:Oper),ops[k]? = some o→(T (k+1)).slots=putS (T k).slots o.dst (V k)∧((wantedA ops (T k).slots o=some true∧sem P call (h.ownAt r k) o (ev (T k).slots) (T k).heap=some (V k,(T (k+1)).heap)∧fl.getD k 0=sens pf (h.ownAt r k) o (ev (T k).slots)) ∨
   (wantedA ops (T k).slots o=some false∧V k=.tup []∧(T (k+1)).heap=(T k).heap∧fl.getD k 0=0)))
  (hfl:∀ k,fl.getD k 0≤6) (hsp:∀ i j,sp i j→(fl.getD i 0=1∧fl.getD j 0=3∧(∀ o,ops[i]? = some o→∀ x,x∈o.op.operands→∀ z,z∈(ev (T i).slots x).blks→¬ M z (T i).heap[z]?)∧LaterQ M (T j).heap (T (j+1)).heap)∨(fl.getD i 0=3∧fl.getD j 0=1∧LaterQ M (T i).heap (T (i+1)).heap∧(∀ o,ops[j]? = some o→∀ x,x∈o.op.operands→∀ z,z∈(ev (T j).slots x).blks→¬ M z (T j).heap[z]?)))
  (hrd:∀ (j:Nat) (o:Oper) (n:Nat),ops[j]? = some o→wantedA ops (T j).slots o=some true→readBound (h.ownAt r j) o (ev (T j).slots)=some n→n≤(T 0).heap.length∧(∀ k,k < j→fl.getD k 0≤2)∧(∀ k,¬ sp j k∧¬ sp k j)∧∀ k,fl.getD k 0≠4) {B0:Nat} {w0:World} {S0:Nat→Nat→Prop} {Nb:Nat} :
  ∀ (n:Nat) (U:List Nat),U.length=n→∀ (listed:Array Bool) (s:List PV) (H:List Blk) (g:Gh) (a:Act) (w:World),listed.size=ops.size→(∀ k,k < ops.size→listed.getD k true=false→k∈U) →
   (∀ (j:Nat) (o:Oper) (e:Edge),ops[j]? = some o→listed.getD j true=true→e∈o.after→Region.binds .any e=true→listed.getD e.on false=true) →
   SlotsAt ops V (T 0).slots (fun k=>k < ops.size∧listed.getD k true=true) s→HeapAt T fl ops.size (fun k=>k < ops.size∧listed.getD k true=true) H→StOK P B0 w0 S0 Nb g ⟨s,H⟩ a w →
   (∀ g' a' w',Ext Nb g w g' w'→Fr g H w g' (T ops.size).heap w'→StOK P B0 w0 S0 Nb g' (T ops.size) a' w'→a'.defers=a.defers→Q .normal a' w') →
   wpAnyIn F m P .any ops Q n listed a w:=by
 have hpf:PfOK call pf:=fun f args H p H' hp hc=>(hcall f args H p H' hc).2.1 hp
 have hconst:∀ k,k < ops.size→fl.getD k 0≤1→(T (k+1)).heap=(T k).heap:=fun k hk hle=>by
  rcases (hT k _ (jA hk)).2 with ⟨_,h2,h3⟩|⟨_,_,h3,_⟩
  ·exact sem_reads hpf (by rw [← h3]; exact hle) h2
  ·exact h3
 let TK:Option Blk→Prop:=fun b=>isTok b∧∃ k,fl.getD k 0=4
 have hgrow:∀ k,k < ops.size→2≤fl.getD k 0→fl.getD k 0≠3→LaterQ (fun _=>TK) (T k).heap (T (k+1)).heap:=fun k hk h2 h3=>by
  have h4:=hfl k;rcases (hT k _ (jA hk)).2 with ⟨_,hsm,hfk⟩|⟨_,_,hh,_⟩
  ·by_cases e:fl.getD k 0=2
   ·obtain ⟨bs,hbs⟩:=sem_grows (pf:=pf) (by rw [← hfk]; exact e) hsm;rw [hbs]; exact LaterQ.app _ _ _
   ·by_cases e4:fl.getD k 0=4
    ·obtain ⟨t,te,n,n',g1,g2⟩:=sem_turns (pf:=pf) (by rw [← hfk]; exact e4) hsm;rw [g2]; exact (Later.set g1).mono fun _ _ h=>⟨h,k,e4⟩
    ·have h5:=sens_not5 (pf:=pf) (h.ownAt r k) ops[k] (ev (T k).slots);rw [← hfk] at h5;rw [sem_calm (pf:=pf) (by rw [← hfk]; omega) hsm]; exact LaterQ.refl _ _
  ·rw [hh]; exact LaterQ.refl _ _
 have both2:∀ a b,2≤a→2≤b→¬ (a=2∧b=2)→freeOf a b=false:=fun a b h1 h2 h3=>by
  simp only [freeOf,h1,h2,decide_true,Bool.true_and]
  have:(a == 2 && b == 2)=false:=by
   cases e:(a == 2 && b == 2) with
   | false=>rfl
   | true=>simp at e; exact absurd e h3
  simp [this]
 have hlong:∀ k,k < ops.size→fl.getD k 0≤2→∃ bs,(T (k+1)).heap=(T k).heap++bs:=fun k hk hle=>by
  by_cases e:fl.getD k 0≤1
  ·exact ⟨[],by rw [hconst k hk e]; simp⟩
  ·rcases (hT k _ (jA hk)).2 with ⟨_,hsm,hfk⟩|⟨_,_,hh,hz⟩
   ·exact sem_grows (pf:=pf) (by rw [← hfk]; omega) hsm
   ·omega
 have htext:=slots_text hord (fun k o ho=>(hT k o ho).1)
 -- all have come up: the end of the text's order
 have fin:∀ (listed:Array Bool) (s:List PV) (H:List Blk),(∀ k,k < ops.size→listed.getD k true=true)→SlotsAt ops V (T 0).slots (fun k=>k < ops.size∧listed.getD k true=true) s →
   HeapAt T fl ops.size (fun k=>k < ops.size∧listed.getD k true=true) H→(⟨s,H⟩:St)=T ops.size:=fun listed s H hall hs hH=>by
  have ht:=htext ops.size (j7 _)
  have e1:s=(T ops.size).slots:=by
   apply List.ext_getElem?;intro t;by_cases hlen:t < (T 0).slots.length
   ·by_cases hex:∃ (i:Nat) (oi:Oper),ops[i]? = some oi∧oi.dst=some t
    ·obtain ⟨i,oi,hi,hd⟩:=hex;have hlt:i < ops.size:=(Array.getElem?_eq_some_iff.1 hi).1;rw [(hs.2 t hlen).1 i oi hi ⟨hlt,hall i hlt⟩ hd,(ht.2 t hlen).1 i oi hi hlt hd]
    ·have hno:∀ (k:Nat) (ok:Oper),ops[k]? = some ok→ok.dst≠some t:=fun k ok hk hd=>hex ⟨k,ok,hk,hd⟩
     rw [(hs.2 t hlen).2 fun k ok hk _=>hno k ok hk,(ht.2 t hlen).2 fun k ok hk _=>hno k ok hk]
   ·rw [List.getElem?_eq_none (by rw [hs.1]; omega),List.getElem?_eq_none (by rw [ht.1]; omega)]
  have e2:H=(T ops.size).heap:=by
   obtain ⟨x,b,⟨hb1,hb2,hb3,hb4⟩,h1,h2,h3,h4,h5⟩:=hH
   have hbn:b=ops.size:=by
    by_cases c:b < ops.size
    ·exact absurd ⟨c,hall b c⟩ (h2 b (j7 _) c (by have:=hb4 c; omega))
    ·omega
   subst hbn;exact List.ext_getElem? fun i=>h4 i fun k k1 k2 hL=>absurd ⟨k2,hall k k2⟩ hL
  rw [e1,e2]
 have ready_none:∀ (listed:Array Bool),listed.size=ops.size→Region.ready .any ops listed=[]→∀ k,k < ops.size→listed.getD k true=true:=fun listed hsz hr k=>by
  induction k using Nat.strongRecOn with
  | _ k ih =>
   intro hk;cases hb:listed.getD k true with
   | true=>rfl
   | false =>
    exfalso
    have ho:ops[k]? = some ops[k]:=jA hk
    have:k∈Region.ready .any ops listed:=mem_ready.2 ⟨hb,_,ho,fun e he hbi=>by
     have hlt:=hord.back k _ e ho he hbi;have:=ih e.on hlt y5;have hls:e.on < listed.size:=by omega
     simp only [jH,jA hls,Option.getD_some] at this ⊢;exact this⟩
    rw [hr] at this; cases this
 intro n;induction n with
 | zero =>
  intro U hUl listed s H g a w hsz hU hdc hs hH hst hQ;have hUe:U=[]:=List.eq_nil_of_length_eq_zero hUl;subst hUe
  have hall:∀ k,k < ops.size→listed.getD k true=true:=fun k hk=>by
   cases hb:listed.getD k true with
   | true=>rfl
   | false=>exact absurd (hU k hk hb) y7
  refine ⟨?_,?_⟩
  ·cases hr:Region.ready .any ops listed with
   | nil=>rfl
   | cons i rs =>
    have hm:i∈Region.ready .any ops listed:=by rw [hr]; simp
    obtain ⟨hb,o,ho,_⟩:=mem_ready.1 hm;rw [hall i (Array.getElem?_eq_some_iff.1 ho).1] at hb; cases hb
  ·have e:=fin listed s H hall hs hH;rw [e] at hst;have e2:H=(T ops.size).heap:=congrArg St.heap e;exact hQ g a w (Ext.refl _ _ _) (by rw [e2]; exact Fr.refl _ _ _) hst rfl
 | succ n ih =>
  intro U hUl listed s H g a w hsz hU hdc hs hH hst hQ;refine ⟨fun hr=>?_,fun j hj=>?_⟩
  ·have e:=fin listed s H (ready_none listed hsz hr) hs hH;rw [e] at hst;have e2:H=(T ops.size).heap:=congrArg St.heap e;exact hQ g a w (Ext.refl _ _ _) (by rw [e2]; exact Fr.refl _ _ _) hst rfl
  ·obtain ⟨hun,o,ho,hready⟩:=mem_ready.1 hj;have hjlt:j < ops.size:=(Array.getElem?_eq_some_iff.1 ho).1;have hjl:j < listed.size:=by omega
   let L:Nat→Prop:=fun k=>k < ops.size∧listed.getD k true=true
   have hjL:¬ L j:=fun hL=>by have:=hL.2; rw [hun] at this; cases this
   have ofF:∀ k,listed.getD k false=true→L k:=fun k hk=>by
    by_cases hkl:k < listed.size
    ·simp only [jH,jA hkl,Option.getD_some] at hk;exact ⟨by omega,by simp only [jH,jA hkl,Option.getD_some]; exact hk⟩
    ·simp only [jH,Array.getElem?_eq_none (show listed.size≤k by omega),Option.getD_none] at hk; cases hk
   have hdcL:∀ (j:Nat) (o:Oper) (e:Edge),ops[j]? = some o→L j→e∈o.after→Region.binds .any e=true→L e.on:=fun j o e ho hL he hb=>ofF _ (hdc j o e ho hL.2 he hb)
   have hanc:∀ i,anc i j→L i:=fun i hi=>hord.closed L hdcL j o ho (fun e he hb=>ofF _ (hready e he hb)) i hi
   have hsame:=looks_same (V:=V) hord ho hjL hs (htext j y5) hdcL hanc;have hw:=wantedA_congr (o:=o) hsame;have hev:=ev_congr (o:=o) hsame
   -- the operations that have come up, behind this one
   have hL':∀ k,(k < ops.size∧(listed.setIfInBounds j true).getD k true=true)↔(L k∨k=j):=fun k=>by
    rw [getD_set_of hjl];by_cases e:k=j
    ·subst e; simp [hjlt]
    ·simp [e,L]
   have hU':(U.erase j).length=n:=by rw [List.length_erase_of_mem (hU j hjlt hun),hUl]; rfl
   have hUm:∀ k,k < ops.size→(listed.setIfInBounds j true).getD k true=false→k∈U.erase j:=fun k hk hb=>by
    rw [getD_set_of hjl] at hb;by_cases e:k=j
    ·rw [if_pos e] at hb; cases hb
    ·rw [if_neg e] at hb; exact (List.mem_erase_of_ne e).2 (hU k hk hb)
   have hdc':∀ (j':Nat) (o':Oper) (e:Edge),ops[j']? = some o'→(listed.setIfInBounds j true).getD j' true=true→e∈o'.after→Region.binds .any e=true→(listed.setIfInBounds j true).getD e.on false=true:=fun j' o' e ho' hl he hb=>by
    rw [getD_set_of hjl] at hl
    have:listed.getD e.on false=true:=by
     by_cases e':j'=j
     ·subst e'; rw [ho] at ho'; cases ho'; exact hready e he hb
     ·rw [if_neg e'] at hl; exact hdc j' o' e ho' hl he hb
    exact getD_set_true this
   have hslots:SlotsAt ops V (T 0).slots (fun k=>k < ops.size∧(listed.setIfInBounds j true).getD k true=true) (putS s o.dst (V j)):=by
    have:=slots_put hord ho hjL hs;refine ⟨this.1,fun t ht=>⟨fun k ok hk hL hd=>(this.2 t ht).1 k ok hk ((hL' k).1 hL) hd,fun hn=>(this.2 t ht).2 fun k ok hk hL=>hn k ok hk ((hL' k).2 hL)⟩⟩
   -- the heap that it meets
   obtain ⟨xa,xb,hbat,hA,hB,hlenH,hsame2,hholes⟩:=hH;obtain ⟨hb1,hb2,hb3,hb4⟩:=hbat;have hgb:∀ k,xa≤k→k < xb→∃ bs,(T (k+1)).heap=(T k).heap++bs:=fun k k1 k2=>hlong k y5 (hb3 k k1 k2)
   -- what has come up, of those behind j that mind it
   have hafter:∀ k,j < k→k < ops.size→freeOf (fl.getD j 0) (fl.getD k 0)=false→¬ sp j k→¬ L k:=fun k hjk hk hf hns hLk=>by
    have ha:=(hord.mind j k hjlt hk hjk hf).resolve_right hns;have hok:ops[k]? = some ops[k]:=jA hk;exact hjL (hord.closed L hdcL k _ hok (fun e he hb=>hdcL k _ e hok hLk he hb) j ha)
   have hbefore1:∀ k,k < j→freeOf (fl.getD k 0) (fl.getD j 0)=false→¬ sp k j→L k:=fun k hkj hf hns=>hanc k ((hord.mind k j y5 hjlt hkj hf).resolve_right hns)
   have hbefore:∀ k,k < j→2≤fl.getD k 0→2≤fl.getD j 0→¬ (fl.getD k 0=2∧fl.getD j 0=2)→L k:=fun k hkj h1 h2 h3=>hbefore1 k hkj (both2 _ _ h1 h2 h3) fun hs=>by
    rcases hsp k j hs with ⟨e,_⟩|⟨_,e,_⟩ <;> omega
   -- one that may make the heap longer lies in the batch
   have hin2:fl.getD j 0=2→xa≤j∧j < xb:=fun h2=>by
    have c1:xa≤j:=Nat.le_of_not_lt fun c=>hjL (hA j c y5)
    refine ⟨c1,Nat.lt_of_not_le fun c=>?_⟩;by_cases e:xb=j
    ·have:=hb4 y5; rw [e] at this; omega
    ·have h3:=hb4 y5;exact hB xb (j7 _) y5 y5 (hbefore xb y5 y5 y5 y5)
   -- one that turns the heap otherwise follows it
   have hin3:3≤fl.getD j 0→xb=j∧H=(T j).heap∧(∀ k,xa≤k→k < xb→2≤fl.getD k 0→L k):=fun h3=>by
    have c1:xa≤j:=Nat.le_of_not_lt fun c=>hjL (hA j c y5)
    have c2:xb≤j:=Nat.le_of_not_lt fun c=>by have:=hb3 j c1 c; omega
    have c3:xb=j:=by
     refine Nat.le_antisymm c2 (Nat.le_of_not_lt fun c=>?_);have h3':=hb4 y5;exact hB xb (j7 _) y5 y5 (hbefore xb c y5 y5 y5)
    subst c3;have c4:∀ k,xa≤k→k < xb→2≤fl.getD k 0→L k:=fun k k1 k2 k3=>hbefore k k2 k3 y5 y5
    refine ⟨rfl,List.ext_getElem? fun i=>hsame2 i fun k k1 k2 hL hi=>?_,c4⟩
    have:¬ 2≤fl.getD k 0:=fun c=>hL (c4 k k1 k2 c)
    rw [hconst k y5 y5] at hi;omega
   -- a box that it reads
   have hbox:fl.getD j 0=1→∀ (B:Prop) (i:Nat),((∃ k,sp j k∨sp k j)→(∀ x,x∈o.op.operands→∀ z,z∈(ev (T j).slots x).blks→¬ M z (T j).heap[z]?)→B)→(B→¬ M i (T j).heap[i]?)→(∀ k,xa≤k→k < xb→¬ L k→¬ ((T k).heap.length≤i∧i < (T (k+1)).heap.length))→i < (T xb).heap.length→i < (T j).heap.length→¬ TK (T j).heap[i]?→H[i]? = (T j).heap[i]?:=fun hge B i hB1 hB2 hnh hi1 hi2 hnt=>by
    have hHb:H[i]? = (T xb).heap[i]?:=hsame2 i hnh;rw [hHb];have hno:¬ (TK (T j).heap[i]?∨(B∧M i (T j).heap[i]?)):=fun h=>h.elim hnt fun h=>hB2 h.1 h.2
    have hmt:B→∀ {H1 H2:List Blk},LaterQ M H1 H2→LaterQ (fun i b=>TK b∨(B∧M i b)) H1 H2:=fun hb _ _ h=>h.mono fun i b h=>.inr ⟨hb,h⟩
    rcases Nat.lt_or_ge xb j with hlt|hge'
    ·have hbs:=heap_longer (Q:=fun i b=>TK b∨(B∧M i b)) hconst (Nat.le_of_lt hlt) y5 fun k h1 h2 h3=>by
      by_cases e3:fl.getD k 0=3
      ·by_cases hs:sp k j
       ·rcases hsp k j hs with ⟨e,_⟩|⟨_,_,q1,q2⟩
        ·omega
        ·exact hmt (hB1 ⟨k,.inr hs⟩ (q2 o ho)) q1
       ·exact absurd (hbefore1 k h2 (by rw [e3,hge]; rfl) hs) (hB k h1 y5 y5)
      ·exact (hgrow k y5 h3 e3).mono fun i b h=>.inl h
     rcases hbs.2 i hi1 with h|⟨_,h⟩
     ·exact h.symm
     ·exact absurd h hno
    ·have hbs:=heap_longer (Q:=fun i b=>TK b∨(B∧M i b)) hconst hge' hb2 fun k h1 h2 h3=>by
      by_cases e3:fl.getD k 0=3
      ·have hne:k≠j:=fun e=>by subst e; omega
       by_cases hka:k < xa
       ·by_cases hs:sp j k
        ·rcases hsp j k hs with ⟨_,_,q1,q2⟩|⟨e,_⟩
         ·exact hmt (hB1 ⟨k,.inl hs⟩ (q1 o ho)) q2
         ·omega
        ·exact absurd (hA k hka y5) (hafter k y5 y5 (by rw [e3,hge]; rfl) hs)
       ·have:=hb3 k y5 h2; omega
      ·exact (hgrow k y5 h3 e3).mono fun i b h=>.inl h
     rcases hbs.2 i hi2 with h|⟨h,_⟩
     ·exact h
     ·exact absurd h hno
   have hL1:∀ k,¬ (k < ops.size∧(listed.setIfInBounds j true).getD k true=true)→¬ L k:=fun k hk hL=>hk ((hL' k).2 (.inl hL))
   have hL2:∀ k,k≠j→(k < ops.size∧(listed.setIfInBounds j true).getD k true=true)→L k:=fun k hne hk=>((hL' k).1 hk).resolve_right hne
   -- nothing has been turned
   have hHeap1:fl.getD j 0≤1→HeapAt T fl ops.size (fun k=>k < ops.size∧(listed.setIfInBounds j true).getD k true=true) H:=fun hle=>by
    have hz:∀ i,¬ ((T j).heap.length≤i∧i < (T (j+1)).heap.length):=fun i=>by rw [hconst j hjlt hle]; omega
    refine ⟨xa,xb,⟨hb1,hb2,hb3,hb4⟩,fun k k1 k2=>(hL' k).2 (.inl (hA k k1 k2)),fun k k1 k2 k3 hL=>hB k k1 k2 k3 (hL2 k (fun e=>by subst e; omega) hL),hlenH,fun i hi=>hsame2 i fun k k1 k2 hL=>?_,fun k i k1 k2 hL=>hholes k i k1 k2 (hL1 k hL)⟩;by_cases e:k=j
    ·subst e; exact hz i
    ·exact hi k k1 k2 fun hL3=>hL (hL2 k e hL3)
   unfold wpOpIn;simp only [ho];rcases (hT j o ho).2 with ⟨hwt,hsem,hflj⟩|⟨hwf,hvj,hhj,hflj⟩
   ·rw [wanted_rep hst.rep (by rw [hw]; exact hwt),if_pos rfl];by_cases h1:fl.getD j 0≤1
    ·have hsem':sem P call (h.ownAt r j) o (ev s) H=some (V j,H):=by
      by_cases h0:fl.getD j 0=0
      ·rw [sem_congr hev];exact sem_insens hpf (by rw [← hflj]; exact h0) hsem H
      ·have h1:fl.getD j 0=1:=by omega
       cases hrb:readBound (h.ownAt r j) o (ev (T j).slots) with
       | some n0 =>
        obtain ⟨q1,q3⟩:=sem_read hrb hsem;obtain ⟨r1,r2,r3,r4⟩:=hrd j o n0 ho hwt hrb;rw [sem_congr hev]
        -- the heap gets no shorter, as far as j
        have hup:∀ k,k≤j→(T 0).heap.length≤(T k).heap.length:=fun k=>by
         induction k with
         | zero=>intro _; exact j7 _
         | succ k ihk =>
          intro hk;obtain ⟨bs,hbs⟩:=hlong k y5 (r2 k y5);rw [hbs,jV];have:=ihk y5;omega
        have hdn:∀ d k,k=j+d→k≤xb→(T j).heap.length≤(T k).heap.length:=fun d=>by
         induction d with
         | zero=>intro k hk _; rw [show k=j by omega]; exact j7 _
         | succ d ihd =>
          intro k hk hkb;have hlast:=ihd (j+d) rfl y5;have e:k=(j+d)+1:=by omega
          have hsz2:j+d < ops.size:=by omega
          rw [e];by_cases e1:fl.getD (j+d) 0≤1
          ·rw [hconst _ hsz2 e1]; exact hlast
          ·by_cases e3:fl.getD (j+d) 0=3
           ·exfalso
            have hdp:0 < d:=by
             rcases Nat.eq_zero_or_pos d with hd|hd
             ·subst hd; rw [zV] at e3; omega
             ·exact hd
            by_cases hka:j+d < xa
            ·exact absurd (hA (j+d) hka y5) (hafter (j+d) y5 hsz2 (by rw [e3,h1]; rfl) (r3 (j+d)).1)
            ·have:=hb3 (j+d) y5 y5; omega
           ·exact jW hlast (hgrow _ hsz2 y5 e3).1
        have hge0:∀ k,k≤xb→(T 0).heap.length≤(T k).heap.length:=fun k hk=>by
         by_cases e:k≤j
         ·exact hup k e
         ·exact jW (hup j (j7 _)) (hdn (k - j) k y5 hk)
        refine q3 H fun i hi=>?_
        have hxbl:=hge0 xb (j7 _);exact hbox h1 False i (fun ⟨k,hk⟩ _=>hk.elim (fun h=>(r3 k).1 h) (fun h=>(r3 k).2 h)) False.elim (fun k k1 k2 _ hh=>by have:=hge0 k y5; omega) y5 y5 (fun h=>h.2.elim r4)
       | none =>
       obtain ⟨xs,hops,hthere,hbx⟩:=sem_box (pf:=pf) hpf hrb (by rw [← hflj]; exact h1) hsem;rw [sem_congr hev];refine hbx H fun x hx i hxi=>?_
       have hxx:ev s x=ev (T j).slots x:=hev x (hops x hx);have hv:=hst.rep.ev x;rw [hxx] at hv;obtain ⟨t1,t2⟩:=hthere x hx i hxi;have hxi0:=hxi;generalize ev (T j).slots x=xv at hxi hv
       have hnh:(g.live i∨∃ z,g.own i=some z)→H[i]?≠some .hole:=fun hg hh=>by
        obtain ⟨k1,k2⟩:=hst.heap.noHole hh;rcases hg with hg|⟨z,hz⟩
        ·exact k1 hg
        ·rw [k2] at hz; cases hz
       have one:∀ (va:Value) (c:PV),RepV g H.length w va c→i∈c.blk1→i < H.length∧H[i]?≠some .hole:=fun va c hc hi=>by
        cases hc <;> simp only [PV.blk1,jX,List.not_mem_nil] at hi <;> subst hi
        ·rename_i hl; exact ⟨hl.1,hnh (.inl hl.2)⟩
        ·rename_i hc hl; exact ⟨hl.1,hnh (.inl hl.2)⟩
        ·exact ⟨by assumption,hnh (.inr ⟨_,by assumption⟩)⟩
        ·exact ⟨by assumption,hnh (.inr ⟨_,by assumption⟩)⟩
        ·rename_i hl; exact ⟨hl.1,hnh (.inl hl.2)⟩
       have hi1:i < H.length∧H[i]?≠some .hole:=by
        generalize a.eval x=va at hv;cases hv with
        | agg vs cs a1 a2 =>
         simp only [PV.blks,List.mem_flatMap] at hxi;obtain ⟨c,hc,hi⟩:=hxi;obtain ⟨q,hq⟩:=List.getElem?_of_mem hc;have hl:=(List.getElem?_eq_some_iff.1 hq).1;exact one _ c (a2 q _ c (jA y5) hq) hi
        | ptr i o hi=>exact one _ _ (.ptr i o hi) hxi
        | arr i o len cap hi hc=>exact one _ _ (.arr i o len cap hi hc) hxi
        | ms t gg lo len cp v v0 n b1 b2 b3 b4 b5=>exact one _ _ (.ms t gg lo len cp _ v0 n b1 b2 b3 b4 b5) hxi
        | mp t gg j v v0 n b1 b2 b3 b4 b5=>exact one _ _ (.mp t gg j _ v0 n b1 b2 b3 b4 b5) hxi
        | mapv i hi=>exact one _ _ (.mapv i hi) hxi
        | _=>simp [PV.blks,PV.blk1] at hxi
       exact hbox h1 (∀ x,x∈o.op.operands→∀ z,z∈(ev (T j).slots x).blks→¬ M z (T j).heap[z]?) i (fun _ hb=>hb) (fun hb=>hb x (hops x hx) i hxi0) (fun k k1 k2 hL hi=>hi1.2 (hholes k i k1 k2 hL hi.1 hi.2)) (by rw [← hlenH]; exact hi1.1) t1 (fun h=>t2 h.1)
     refine sem_wp hF hcall hsem' hst fun u g' w' hg=>?_
     refine ih (U.erase j) hU' _ _ H g' _ w' (by simp [hsz]) hUm hdc' hslots (hHeap1 h1) (hst.put hg o.dst) fun g2 a2 w2 he hf hst2 hd=>?_
     exact hQ g2 a2 w2 ((hg.ext.less hst.base).trans he (j7 _)) (hg.fr.trans hf) hst2 (hd.trans (put_defers _ _ _))
    ·by_cases h2:fl.getD j 0=2
     ·-- the heap gets longer: its blocks are put into the holes that wait for them
      obtain ⟨c1,c2⟩:=hin2 h2;obtain ⟨p2,bs2,hs2,hp2,hb2',hne2⟩:=sem_place (H2:=H) (ρ:=ev s) (pf:=pf) (by rw [sens_congr hev,← hflj]; exact h2) (by rw [sem_congr hev]; exact hsem) fun x=>(hst.rep.ev x).fix fun i hi=>shf_old hi
      refine sem_wp hF hcall hs2 hst fun u g' w' hg=>?_
      have hlb:(T (j+1)).heap.length=(T j).heap.length+(bs2.map (Blk.ren (shf H.length (T j).heap.length))).length:=by rw [hb2']; simp
      have hle:=batch_le hgb (by omega:xa≤j+1) (by omega:j+1≤xb) (j7 xb);obtain ⟨g3,he3,hf3,hst3⟩:=StOK.place hst hg rfl hne2 y5 (fun i i1 i2=>hholes j i c1 c2 hjL i1 y5) o.dst;rw [← hp2] at hst3
      have hgetb:∀ i,(T j).heap.length≤i→i < (T (j+1)).heap.length→(bs2.map (Blk.ren (shf H.length (T j).heap.length)))[i - (T j).heap.length]? = (T xb).heap[i]?:=fun i i1 i2=>by
       rw [batch_get hgb (by omega:xa≤j+1) (by omega:j+1≤xb) (j7 xb) i2,hb2',zL i1]
      refine ih (U.erase j) hU' _ _ _ g3 _ w' (by simp [hsz]) hUm hdc' hslots ⟨xa,xb,⟨hb1,hb2,hb3,hb4⟩,fun k k1 k2=>(hL' k).2 (.inl (hA k k1 k2)),fun k k1 k2 k3 hL=>hB k k1 k2 k3 (hL2 k y5 hL),?_,fun i hi=>?_,fun k i k1 k2 hL i1 i2=>?_⟩ hst3 fun g2 a2 w2 he hf hst2 hd=>?_
      ·simp only [jV,zT,zZ]; omega
      ·rw [pasted_get _ _ _ y5];by_cases s1:i < (T j).heap.length
       ·rw [if_pos s1];refine hsame2 i fun k k1 k2 hL hh=>?_
        by_cases e:k=j
        ·subst e; omega
        ·exact hi k k1 k2 (fun hL3=>hL (hL2 k e hL3)) hh
       ·rw [if_neg s1];by_cases s2:i < (T (j+1)).heap.length
        ·rw [if_pos y5]; exact hgetb i y5 s2
        ·rw [if_neg y5];refine hsame2 i fun k k1 k2 hL hh=>?_
         by_cases e:k=j
         ·subst e; omega
         ·exact hi k k1 k2 (fun hL3=>hL (hL2 k e hL3)) hh
      ·have hkj:k≠j:=fun e=>hL ((hL' k).2 (.inr e))
       rw [pasted_get _ _ _ y5];have hold:=hholes k i k1 k2 (hL1 k hL) i1 i2;by_cases s1:i < (T j).heap.length
       ·rw [if_pos s1]; exact hold
       ·rw [if_neg s1]
        have:¬ i < (T (j+1)).heap.length:=fun s2=>by
         rcases Nat.lt_or_gt_of_ne hkj with c|c
         ·have:=batch_le hgb (by omega:xa≤k+1) (by omega:k+1≤j) y5; omega
         ·have:=batch_le hgb (by omega:xa≤j+1) (by omega:j+1≤k) y5; omega
        rw [if_neg y5]; exact hold
      ·exact hQ g2 a2 w2 ((he3.less hst.base).trans he (j7 _)) (hf3.trans hf) hst2 (hd.trans (put_defers _ _ _))
     ·-- the heap is turned otherwise: a new batch begins
      obtain ⟨c1,c2,c3⟩:=hin3 y5;have hsem':sem P call (h.ownAt r j) o (ev s) H=some (V j,(T (j+1)).heap):=by rw [sem_congr hev,c2]; exact hsem
      refine sem_wp hF hcall hsem' hst fun u g' w' hg=>?_
      obtain ⟨b',hb'⟩:=batch_end fl ops.size (ops.size - (j+1)) (j+1) y5;have hst1:=hst.put hg o.dst;obtain ⟨g3,he3,hf3,hst3⟩:=hst1.holes ((T b').heap.length - (T (j+1)).heap.length);refine ih (U.erase j) hU' _ _ _ g3 _ w' (by simp [hsz]) hUm hdc' hslots (batch_start (fun k k1 k2=>hlong k y5 (hb'.2.2.1 k k1 k2)) (fun k k1 k2 k3=>hconst k y5 y5) hb' (fun k k1 k2=>?_) (fun k k1 k2 k3 hL=>hB k y5 k2 k3 (hL2 k y5 hL))) hst3 fun g2 a2 w2 he hf hst2 hd=>?_
      ·refine (hL' k).2 ?_;by_cases e:k=j
       ·exact .inr e
       ·by_cases c:k < xa
        ·exact .inl (hA k c k2)
        ·exact .inl (c3 k y5 y5 k2)
      ·exact hQ g2 a2 w2 (((hg.ext.less hst.base).trans (he3.less hst1.base) (j7 _)).trans he (j7 _)) ((hg.fr.trans hf3).trans hf) hst2 (hd.trans (put_defers _ _ _))
   ·rw [wanted_rep hst.rep (by rw [hw]; exact hwf)];simp only [j6,if_false];refine ⟨fun f _=>hF.fn f,?_⟩;refine ih (U.erase j) hU' _ _ H g _ w (by simp [hsz]) hUm hdc' hslots (hHeap1 y5) ⟨hst.heap,hst.inv,?_,hst.base⟩ fun g2 a2 w2 he hf hst2 hd=>?_
    ·have:=hst.rep.put o.dst (undef_rep (g:=g) (N:=H.length) (w:=w));rw [hvj]; exact this
    ·exact hQ g2 a2 w2 he hf hst2 (hd.trans (put_defers _ _ _))

theorem draw_ok (hmix:P.follows .mixedOrders=true) (hcall:CallOK P pf call):DrawOK P call pf h:=by
 intro r ops st st' fl hok hrun B0 w0 S0 Nb g a w F m Q hF _ hst hQ;obtain ⟨anc,hord⟩:=order_of_ok hok;obtain ⟨T,t1,t2,t30⟩:=drawRun_trace ops.toList 0 st st' fl hrun;simp only [zF,zW,Array.length_toList] at t2 t30
 have hlen:fl.length≤ops.size:=by
  have:∀ (os:List Oper) (i:Nat) (st st':St) (fl:List Nat),drawRun P call pf h r ops i os st=some (st',fl)→fl.length=os.length:=by
   intro os;induction os with
   | nil=>intro i st st' fl hr; cases hr; rfl
   | cons o os ih =>
    intro i st st' fl hr;simp only [drawRun] at hr;split at hr
    ·split at hr
     ·rename_i h2; cases hr; simp [ih _ _ _ _ h2]
     ·cases hr
    ·cases hr
  have:=this _ _ _ _ _ hrun;simp at this; omega
 have hzero:∀ k,ops[k]? = none→fl.getD k 0=0:=fun k hk=>by
  have hge:ops.size≤k:=by simpa using hk
  rw [jB,List.getElem?_eq_none y5]; simp
 let J:Nat→Prop:=fun i=>∃ k,fl.getD k 0=11+16 * (i+1)
 let M:Nat→Option Blk→Prop:=fun i b=>isMt b∨J i
 have hlate:∀ i j k,fl.getD k 0=9+16 * (i+1)→fl.getD j 0≠11+16 * (i+1):=fun i j k h1 h2=>by
  have hl:lateOk fl=true:=by
   unfold orderOk at hok;simp only [jE] at hok;exact hok.1.2
  have hmem:∀ k,0 < fl.getD k 0→fl.getD k 0∈fl:=fun k hk=>by
   rw [jB] at hk ⊢;cases e:fl[k]? with
   | none=>rw [e] at hk; exact absurd hk (jZ 0)
   | some v=>exact jF e
  have q1:=List.all_eq_true.1 hl _ (hmem k y5);simp only [zQ,zA] at q1;rcases q1 with q1|q1
  ·omega
  ·have q2:=List.all_eq_true.1 q1 _ (hmem j y5);simp only [zQ,zA] at q2;omega
 have hbl:∀ k,fl.getD k 0 % 16=9→∀ o,ops[k]? = some o→∀ x,x∈o.op.operands→∀ z,z∈(ev (T k).slots x).blks→¬ M z (T k).heap[z]?:=fun k h9 o ho x hx z hz=>by
  obtain ⟨k1,k2⟩:=t30 k o ho;obtain ⟨v,_,hp⟩:=opStep_parts k1;rcases hp with ⟨hw,hsm⟩|⟨hw,_⟩
  ·rw [if_pos hw] at k2;rw [k2] at h9;obtain ⟨t,a,i,off,hop,hpt,hown,htag⟩:=sensT_nine h9;rw [hop] at hx;simp [Op.operands] at hx;subst hx;rw [hpt] at hz;simp [PV.blks,PV.blk1] at hz;subst hz;rw [hown] at hsm;simp only [sem,hop,loadSem,hpt] at hsm;split at hsm
   ·split at hsm
    ·rename_i hb; rw [hb]; exact fun h=>h.elim (fun h=>h) fun ⟨j,hj⟩=>hlate _ j k (by rw [k2]; exact htag) hj
    ·cases hsm
   ·cases hsm
  ·rw [if_neg (by rw [hw]; simp)] at k2; rw [k2] at h9; cases h9
 have hms:∀ k,fl.getD k 0 % 16=11→LaterQ M (T k).heap (T (k+1)).heap:=fun k h11=>by
  cases ho:ops[k]? with
  | none=>rw [hzero k ho] at h11; cases h11
  | some o =>
   obtain ⟨k1,k2⟩:=t30 k o ho;obtain ⟨v,_,hp⟩:=opStep_parts k1;rcases hp with ⟨hw,hsm⟩|⟨hw,_⟩
   ·rw [if_pos hw] at k2;have h11':=h11;rw [k2] at h11;obtain ⟨hown,⟨t,a,x,tt,gg,j,hop,hpt⟩|⟨t,a,x,j,off,hop,hpt,htag⟩⟩:=sensT_eleven h11
    ·rw [hown] at hsm;simp only [sem,hop,storeSem,hpt] at hsm;have hM:∀ {H H':List Blk},LaterQ (fun _=>isMt) H H'→LaterQ M H H':=fun h=>h.mono fun _ _ h=>.inl h
     split at hsm
     ·split at hsm
      ·rename_i hb;split at hsm
       ·simp only [j9,jI] at hsm; rw [← hsm.2]; exact hM (LaterQ.setMt (QH hb))
       ·split at hsm
        ·split at hsm
         ·simp only [j9,jI] at hsm; rw [← hsm.2]; exact hM (LaterQ.setMt (QH hb))
         ·cases hsm
        ·cases hsm
      ·cases hsm
     ·cases hsm
    ·rw [hown] at hsm;simp only [sem,hop,storeSem,hpt] at hsm;have hJ:J j:=⟨k,by rw [k2]; exact htag⟩
     have hset:∀ b:Blk,LaterQ M (T k).heap ((T k).heap.set j b):=fun b=>⟨by simp,fun i hi=>by
      by_cases hij:j=i
      ·subst hij; exact .inr ⟨.inr hJ,.inr hJ⟩
      ·exact .inl (by rw [zC,if_neg hij])⟩
     split at hsm
     ·split at hsm
      ·split at hsm
       ·simp only [j5,jI] at hsm;obtain ⟨cs,_,_,hh⟩:=hsm;rw [← hh]; exact hset _
       ·cases hsm
      ·cases hsm
     ·cases hsm
   ·rw [if_neg (by rw [hw]; simp)] at k2; rw [k2] at h11; cases h11
 have hmod:∀ k,(fl.map (· % 8)).getD k 0=fl.getD k 0 % 8:=modD fl
 have hrd:∀ (j:Nat) (o:Oper) (n:Nat),ops[j]? = some o→wantedA ops (T j).slots o=some true→readBound (h.ownAt r j) o (ev (T j).slots)=some n→n≤(T 0).heap.length∧(∀ k,k < j→(fl.map (· % 8)).getD k 0≤2)∧(∀ k,¬ ((fl.getD j 0 % 16=9∧fl.getD k 0 % 16=11)∨(fl.getD j 0 % 16=11∧fl.getD k 0 % 16=9))∧¬ ((fl.getD k 0 % 16=9∧fl.getD j 0 % 16=11)∨(fl.getD k 0 % 16=11∧fl.getD j 0 % 16=9)) )∧∀ k,(fl.map (· % 8)).getD k 0≠4:=fun j o n ho hw hrb=>by
  have hf:=(t30 j o ho).2;rw [if_pos hw,sensT_read hrb] at hf
  have hr:readsOk st.heap.length fl=true:=by
   unfold orderOk at hok;simp only [jE] at hok;exact hok.1.1
  have hjl:j < fl.length:=Nat.lt_of_not_le fun hle=>by
   rw [jB,List.getElem?_eq_none hle] at hf;simp at hf
  have hj:=List.all_eq_true.1 hr j (List.mem_range.2 hjl);simp only [zQ,jE,zA,j8,List.mem_range] at hj;rcases hj with (hj|hj)|⟨⟨h1,h2⟩,h4⟩
  ·omega
  ·omega
  ·refine ⟨by rw [t1]; omega,fun k hk=>by rw [hmod]; exact h2 k hk,fun k=>⟨fun e=>?_,fun e=>?_⟩,fun k=>?_⟩
   ·rcases e with ⟨e,_⟩|⟨e,_⟩ <;> omega
   ·rcases e with ⟨_,e⟩|⟨_,e⟩ <;> omega
   ·rw [hmod];by_cases hk:k < fl.length
    ·exact h4 k hk
    ·rw [jB,List.getElem?_eq_none y5]; decide
 have hspe:∀ i j,((fl.getD i 0 % 16=9∧fl.getD j 0 % 16=11)∨(fl.getD i 0 % 16=11∧fl.getD j 0 % 16=9))→((fl.map (· % 8)).getD i 0=1∧(fl.map (· % 8)).getD j 0=3∧(∀ o,ops[i]? = some o→∀ x,x∈o.op.operands→∀ z,z∈(ev (T i).slots x).blks→¬ M z (T i).heap[z]?)∧LaterQ M (T j).heap (T (j+1)).heap)∨((fl.map (· % 8)).getD i 0=3∧(fl.map (· % 8)).getD j 0=1∧LaterQ M (T i).heap (T (i+1)).heap∧(∀ o,ops[j]? = some o→∀ x,x∈o.op.operands→∀ z,z∈(ev (T j).slots x).blks→¬ M z (T j).heap[z]?)):=fun i j hs=>by
  rcases hs with ⟨e1,e2⟩|⟨e1,e2⟩
  ·exact .inl ⟨by rw [hmod]; omega,by rw [hmod]; omega,hbl i e1,hms j e2⟩
  ·exact .inr ⟨by rw [hmod]; omega,by rw [hmod]; omega,hms i e1,hbl j e2⟩
 have t3:∀ (k:Nat) (o:Oper),ops[k]? = some o→opStep P call h r ops k o (T k)=some (T (k+1))∧(fl.map (· % 8)).getD k 0=(if wantedA ops (T k).slots o=some true then sens pf (h.ownAt r k) o (ev (T k).slots) else 0):=fun k o ho=>by
  obtain ⟨k1,k2⟩:=t30 k o ho;refine ⟨k1,?_⟩;rw [hmod,k2];split
  ·exact sensT_mod _ _ _ _ _ _
  ·rfl
 have hzero2:∀ k,ops[k]? = none→(fl.map (· % 8)).getD k 0=0:=fun k hk=>by rw [hmod,hzero k hk]
 clear hbl hms hzero t30 hlen hlate
 clear_value M
 generalize hsp0:(fun i j=>(fl.getD i 0 % 16=9∧fl.getD j 0 % 16=11)∨(fl.getD i 0 % 16=11∧fl.getD j 0 % 16=9))=sp at hord;have hspe:∀ i j,sp i j→_:=fun i j hs=>hspe i j (by rw [← hsp0] at hs; exact hs)
 replace hrd:∀ (j:Nat) (o:Oper) (n:Nat),ops[j]? = some o→wantedA ops (T j).slots o=some true→readBound (h.ownAt r j) o (ev (T j).slots)=some n→n≤(T 0).heap.length∧(∀ k,k < j→(fl.map (· % 8)).getD k 0≤2)∧(∀ k,¬ sp j k∧¬ sp k j)∧∀ k,(fl.map (· % 8)).getD k 0≠4:=by rw [← hsp0]; exact hrd
 clear hmod hok hrun hsp0;generalize fl.map (· % 8)=fl at *
 have hV:∀ k,∃ v,∀ o,ops[k]? = some o→(T (k+1)).slots=putS (T k).slots o.dst v∧((wantedA ops (T k).slots o=some true∧sem P call (h.ownAt r k) o (ev (T k).slots) (T k).heap=some (v,(T (k+1)).heap)) ∨
   (wantedA ops (T k).slots o=some false∧v=.tup []∧(T (k+1)).heap=(T k).heap)):=fun k=>by
  cases hk:ops[k]? with
  | none=>exact ⟨.undef,fun o ho=>by cases ho⟩
  | some o =>
   obtain ⟨v,h1⟩:=opStep_parts (t3 k o hk).1;exact ⟨v,fun o' ho'=>by cases ho'; exact h1⟩
 have hfl:∀ k,fl.getD k 0≤6:=fun k=>by
  cases hk:ops[k]? with
  | some o =>
   rw [(t3 k o hk).2];split
   ·exact sens_le _ _ _
   ·omega
  | none=>rw [hzero2 k hk]; omega
 have hT:∀ (k:Nat) (o:Oper),ops[k]? = some o→(T (k+1)).slots=putS (T k).slots o.dst (Classical.choose (hV k))∧((wantedA ops (T k).slots o=some true∧sem P call (h.ownAt r k) o (ev (T k).slots) (T k).heap=some (Classical.choose (hV k),(T (k+1)).heap)∧fl.getD k 0=sens pf (h.ownAt r k) o (ev (T k).slots)) ∨
   (wantedA ops (T k).slots o=some false∧Classical.choose (hV k)=.tup []∧(T (k+1)).heap=(T k).heap∧fl.getD k 0=0)):=fun k o ho=>by
  obtain ⟨h1,h2⟩:=Classical.choose_spec (hV k) o ho;refine ⟨h1,?_⟩;have hf:=(t3 k o ho).2;rcases h2 with ⟨h2,h3⟩|⟨h2,h3,h4⟩
  ·exact .inl ⟨h2,h3,by rw [hf,if_pos h2]⟩
  ·exact .inr ⟨h2,h3,h4,by rw [hf,if_neg (by rw [h2]; simp)]⟩
 refine wpIn_region_any hmix ?_
 have hst':StOK P B0 w0 S0 Nb g ⟨(T 0).slots,(T 0).heap⟩ a { w with drawn:=w.drawn+1 }:=by
  have eD:Ext st.heap.length g w g { w with drawn:=w.drawn+1 }:=⟨fun _ _ h=>h,fun _ _ _=>rfl,fun _ _ h=>⟨rfl,h⟩,fun _ _ v n h=>⟨v,n,h,j7 _,fun _=>rfl⟩⟩;rw [t1];exact ⟨hst.heap.keep eD (j7 _) (j7 _) (fun _ _ _=>rfl) (fun _ _ _ _ h=>h) (fun _ _=>rfl),⟨hst.inv.below.drew,hst.inv.size,hst.inv.old,hst.inv.lt⟩,hst.rep.ext eD (j7 _),hst.base⟩
 have hfalse:∀ k,k < ops.size→(Array.replicate ops.size false).getD k true=false:=fun k hk=>by simp [jH,hk]
 have hpf:PfOK call pf:=fun f args H p H' hp hc=>(hcall f args H p H' hc).2.1 hp
 obtain ⟨b0,hb0⟩:=batch_end fl ops.size ops.size 0 y5;obtain ⟨g3,he3,hf3,hst3⟩:=hst'.holes ((T b0).heap.length - (T 0).heap.length)
 have hshort:∀ k,k < ops.size→fl.getD k 0≤1→(T (k+1)).heap=(T k).heap:=fun k hk hle=>by
  rcases (hT k _ (jA hk)).2 with ⟨_,h2,h3⟩|⟨_,_,h3,_⟩
  ·exact sem_reads hpf (by rw [← h3]; exact hle) h2
  ·exact h3
 have hlong:∀ k,k < ops.size→fl.getD k 0≤2→∃ bs,(T (k+1)).heap=(T k).heap++bs:=fun k hk hle=>by
  by_cases e:fl.getD k 0≤1
  ·exact ⟨[],by rw [hshort k hk e]; simp⟩
  ·rcases (hT k _ (jA hk)).2 with ⟨_,hsm,hfk⟩|⟨_,_,hh,hz⟩
   ·exact sem_grows (pf:=pf) (by rw [← hfk]; omega) hsm
   ·omega
 have hnone:∀ k,¬ (k < ops.size∧(Array.replicate ops.size false).getD k true=true):=fun k hL=>by
  have hL2:=hL.2;rw [hfalse k hL.1] at hL2; cases hL2
 refine draw_any (V:=fun k=>Classical.choose (hV k)) hcall hF hord hT hfl hspe hrd ops.size (List.range ops.size) y7 _ _ _ g3 a _ y7 (fun k hk _=>by simpa using hk) (fun j o e ho hl=>?_) ?_
  (batch_start (fun k k1 k2=>hlong k y5 (hb0.2.2.1 k k1 k2)) (fun k k1 k2 k3=>hshort k y5 y5) hb0 (fun k k1=>absurd k1 (Nat.not_lt_zero _)) fun k _ _ _=>hnone k) hst3 fun g' a' w' he hf hs hd=>?_
 ·rw [hfalse j (Array.getElem?_eq_some_iff.1 ho).1] at hl; cases hl
 ·exact ⟨rfl,fun t ht=>⟨fun k o _ hL _=>absurd hL (hnone k),fun _=>rfl⟩⟩
 ·rw [t2] at hs hf;have hf':=hf3.trans hf;have he':=(he3.less hst'.base).trans he (j7 _);rw [t1] at hf';exact hQ g' a' w' ⟨he'.S,he'.cell,he'.blk,he'.own⟩ ⟨hf'.size,hf'.keep,hf'.occ,hf'.pub⟩ hs (Df.same hd)

end
end Go.Pm
