/-
 The pure machine: laws for walks: lists of structures that are written within.
-/
import Derived.Test.YtjcfpjpdopfefaaGreatPmPk
namespace Go.Pm
open Go Go.RowKit
set_option linter.unusedVariables false
section
variable {P:Program} {E:Env} {hn:Hint} {rg:Bool} {r i:Nat} {ops:Array Oper} {fl:List (Nat × List Nat)} {st:St} {Q:St→Prop} {o:Oper} {ρ:Operand→PV} {H:List Blk} {K:PV→List Blk→Prop} {ow:List (Nat × TypeId)}

def GF (P:Program) (E:Env) (hn:Hint) (r:Nat) (ops:Array Oper) (fl:List (Nat × List Nat)) (i:Nat) (st:St) (Q:St→Prop):Prop :=
 ∃ s,(∃ N,∀ k,N≤k→opsFlat P (pfun P E k) hn r ops fl i (ops.toList.drop i) st=some s)∧Q s
theorem Qbd (fl:List (Nat × List Nat)) {QQ:Ex→St→Prop} (h:GF P E hn r ops fl 0 st (QQ .normal)) (hfl:hn.flatAt r=some fl:=by kernel_rfl):R P E hn rg (.region r ops false) st QQ:=by
 obtain ⟨s,⟨N,h1⟩,h2⟩:=h;refine ⟨_,s,⟨N+1,fun k n hk hn=>?_⟩,h2⟩;cases n with
 | zero=>omega
 | succ n =>
  have:=h1 k y5;rw [List.drop_zero] at this;simp only [pcode,hfl,this,jN]
theorem GF_end (h:Q st) (he:decide (i=ops.size)=true:=by kernel_rfl):GF P E hn r ops fl i st Q:=by
 have:=of_decide_eq_true he;subst this;exact ⟨st,⟨0,fun k _=>by rw [show ops.toList.drop ops.size=[] by simp]; rfl⟩,h⟩
theorem GF_op {o:Oper} {l:List Nat} {v:PV} {H':List Blk} (ho:ops[i]? = some o) (hf:(fl.find? fun x=>x.1 == i).map (·.2)=some l) (hg:o.guard=none)
  (hs:flatSem P l o (ev st.slots) st.heap=some (v,H')) (hk:GF P E hn r ops fl (i+1) ⟨putS st.slots o.dst v,H'⟩ Q):GF P E hn r ops fl i st Q:=by
 obtain ⟨s,⟨N,h1⟩,h2⟩:=hk;refine ⟨s,⟨N,fun k hk=>?_⟩,h2⟩;rw [drop_get ho];simp only [opsFlat,flatStep,hf,hg,hs,jN];exact h1 k hk
def noFl (fl:List (Nat × List Nat)) (i j:Nat):Bool:=(List.range (j - i)).all fun x=>((fl.find? fun y=>y.1 == i+x).map (·.2)).isNone
theorem noFl_at {j k:Nat} (h:noFl fl i j=true) (h1:i≤k) (h2:k < j):(fl.find? fun y=>y.1 == k).map (·.2)=none:=by
 have:=List.all_eq_true.1 h (k - i) (List.mem_range.2 y5);rw [show i+(k - i)=k by omega] at this
 simpa using this
theorem opStep_ops {call:CallF} {ops ops':Array Oper} {k:Nat} {o:Oper} (hg:o.guard=none):opStep P call hn r ops k o st=opStep P call hn r ops' k o st:=by
 simp only [opStep,wantedA,hg]
theorem opsFlat_seg {call:CallF} {pf:FuncId→Bool} {ops':Array Oper}:∀ (a b:List Oper) (i:Nat) (st st1:St) (f1:List Nat),(∀ o∈a,o.guard=none)→(∀ k,i≤k→k < i+a.length→(fl.find? fun y=>y.1 == k).map (·.2)=none) →
  drawRun P call pf hn r ops' i a st=some (st1,f1)→opsFlat P call hn r ops fl i (a++b) st=opsFlat P call hn r ops fl (i+a.length) b st1
 | [],b,i,st,st1,f1,_,_,h=>by
  simp only [drawRun,j9,jI] at h;obtain ⟨rfl,rfl⟩:=h;rfl
 | o::a,b,i,st,st1,f1,hg,hf,h=>by
  simp only [drawRun] at h;simp only [List.cons_append,opsFlat,flatStep,hf i (j7 _) y7];rw [opStep_ops (ops':=ops') (hg o y7)];cases ho:opStep P call hn r ops' i o st with
  | none=>rw [ho] at h; cases h
  | some st2 =>
   rw [ho] at h;simp only at h ⊢;cases hd:drawRun P call pf hn r ops' (i+1) a st2 with
   | none=>rw [hd] at h; cases h
   | some x =>
    obtain ⟨st3,f3⟩:=x;rw [hd] at h;simp only [j9,jI] at h;obtain ⟨rfl,rfl⟩:=h;rw [opsFlat_seg (ops':=ops') a b (i+1) st2 st3 f3 (fun o ho=>hg o (jG _ ho)) (fun k h1 h2=>hf k y5 y6) hd,show i+1+a.length=i+(o::a).length by simp; omega]
theorem GF_seg (j:Nat) (h:G P E hn r (ops.toList.take j).toArray i (st,[]) fun c=>GF P E hn r ops fl j c.1 Q) (hl:(decide (i≤j) && decide (j≤ops.size) && noFl fl i j && ops.toList.all (fun o=>o.guard.isNone))=true:=by kernel_rfl):GF P E hn r ops fl i st Q:=by
 simp only [jE,zA] at hl;obtain ⟨⟨⟨h0,h1⟩,h2⟩,h3⟩:=hl;obtain ⟨s,f,⟨N,g1⟩,s',⟨N',g2⟩,g3⟩:=h;refine ⟨s',⟨max N N',fun k hk=>?_⟩,g3⟩;have e1:=g1 k y5
 change drawRun _ _ _ _ _ _ i ((ops.toList.take j).drop i) _=_ at e1
 have hlen:((ops.toList.take j).drop i).length=j - i:=by simp; omega
 have hsp:ops.toList.drop i=(ops.toList.take j).drop i++ops.toList.drop j:=by
  rw [List.drop_take]
  have:ops.toList.drop j=(ops.toList.drop i).drop (j - i):=by rw [List.drop_drop]; congr 1; omega
  rw [this,y3]
 rw [hsp,opsFlat_seg _ _ _ _ _ _ (fun o ho=>by
   have:=List.all_eq_true.1 h3 o (zP (List.mem_of_mem_drop ho))
   simpa using this) (fun k h4 h5=>noFl_at h2 h4 y5) e1,hlen,show i+(j - i)=j by omega]
 exact g2 k y5

section
variable {α:Type} {f:α→Dat} {sh:α→List Int→α} {q h g n size:Nat} {L out:List α} {p:α} {hi:List Int}
def flE (f:α→Dat) (q h g n:Nat) (p:α):List PV:=((f p).cells.map .dat).set q (.ms h g 0 n n)
def flA (f:α→Dat) (L:List α):List PV:=L.flatMap fun p=>(f p).cells.map .dat
def flC (f:α→Dat) (q h g n:Nat):List α→List PV
 | []=>[]
 | [p]=>flE f q h g n p
 | p::p'::r=>(f p).cells.map .dat++flC f q h g n (p'::r)
def flP (sh:α→List Int→α):List α→List Int→List α
 | [],_=>[]
 | [p],hi=>[sh p hi]
 | p::p'::r,hi=>p::flP sh (p'::r) hi
theorem flC_snoc:∀ L:List α,flC f q h g n (L++[p])=flA f L++flE f q h g n p
 | []=>by simp [flC,flA]
 | [a]=>by simp [flC,flA]
 | a::b::r=>by
  have ih:=flC_snoc (b::r);simp only [List.cons_append] at ih ⊢;rw [flC,ih];simp [flA,List.append_assoc]
theorem flP_snoc:∀ L:List α,flP sh (L++[p]) hi=L++[sh p hi]
 | []=>by simp [flP]
 | [a]=>by simp [flP]
 | a::b::r=>by
  have ih:=flP_snoc (b::r);simp only [List.cons_append] at ih ⊢;rw [flP,ih]
theorem flP_len:∀ out:List α,(flP sh out hi).length=out.length
 | []=>rfl
 | [_]=>rfl
 | a::b::r=>by rw [flP,zE,flP_len (b::r)]; rfl
theorem snoc_cases (out:List α):out=[]∨∃ L p,out=L++[p]:=by
 rcases List.eq_nil_or_concat out with h|⟨L,p,h⟩
 ·exact .inl h
 ·exact .inr ⟨L,p,by rw [h]; simp⟩
theorem fit_len (hf:∀ a,(f a).fits size=true) (a:α):(f a).cells.length=size:=by rw [← Dat.num_eq]; exact fits_num (hf a)
theorem flA_len (hf:∀ a,(f a).fits size=true):∀ L:List α,(flA f L).length=L.length * size
 | []=>by simp [flA]
 | a::L=>by
  have ih:=flA_len hf L;simp only [flA,List.flatMap_cons,jV,jY,fit_len hf] at ih ⊢;rw [ih,zE,Nat.add_mul,Nat.one_mul,Nat.add_comm]
theorem fit_cells (hf:∀ a,(f a).fits size=true) (a:α):(f a).cells.all Dat.isCell=true:=by
 have:=hf a;simp only [Dat.fits,jE] at this;exact this.2
theorem datF_cell {d:Dat} (h:d.isCell=true):(PV.dat d).cell=true:=by cases d <;> first|rfl|(simp [Dat.isCell] at h)
theorem flA_cell (hf:∀ a,(f a).fits size=true) (L:List α):(flA f L).all PV.cell=true:=by
 rw [j8];intro x hx;simp only [flA,List.mem_flatMap,List.mem_map] at hx;obtain ⟨a,_,d,hd,rfl⟩:=hx;exact datF_cell (List.all_eq_true.1 (fit_cells hf a) d hd)
theorem flE_cell (hf:∀ a,(f a).fits size=true) (p:α):(flE f q h g n p).all PV.cell=true:=by
 rw [j8];intro x hx;rcases List.mem_or_eq_of_mem_set hx with hx|rfl
 ·obtain ⟨d,hd,rfl⟩:=List.mem_map.1 hx;exact datF_cell (List.all_eq_true.1 (fit_cells hf p) d hd)
 ·rfl
theorem flC_cell (hf:∀ a,(f a).fits size=true) (out:List α):(flC f q h g n out).all PV.cell=true:=by
 rcases snoc_cases out with rfl|⟨L,p,rfl⟩
 ·rfl
 ·rw [flC_snoc,zO,flA_cell hf,flE_cell hf]; rfl
theorem flC_hot (hf:∀ a,(f a).fits size=true) (hq:q < size) (h0:0 < out.length):(flC f q h g n out)[(out.length - 1) * size+q]? = some (.ms h g 0 n n):=by
 rcases snoc_cases out with rfl|⟨L,p,rfl⟩
 ·simp at h0
 ·rw [flC_snoc,jV,List.length_singleton,Nat.add_sub_cancel,zL (by rw [flA_len hf]; omega),flA_len hf,Nat.add_sub_cancel_left];simp [flE,fit_len hf,hq]

theorem consume_dats {H:List Blk} {cs:List PV}:∀ ds:List Dat,consumeL H (ds.map .dat++cs)=(consumeL H cs).map fun x=>(ds++x.1,x.2)
 | []=>by
  simp only [List.map_nil,jQ];cases consumeL H cs <;> rfl
 | d::ds=>by
  simp only [zS,List.cons_append,consumeL,consume1];rw [consume_dats ds];cases consumeL H cs <;> rfl
theorem flA_dats (L:List α):flA f L=(L.flatMap fun p=>(f p).cells).map .dat:=by
 induction L with
 | nil=>rfl
 | cons a L ih=>simp only [flA,List.flatMap_cons,zJ] at ih ⊢; rw [ih]
theorem set_split {β:Type}:∀ (l:List β) (k:Nat) (x:β),k < l.length→l.set k x=l.take k++x::l.drop (k+1)
 | [],k,x,h=>by simp at h
 | a::l,0,x,h=>by simp
 | a::l,k+1,x,h=>by simp [set_split l k x (by simpa using h)]
def flg (g:Nat) (out:List α):Nat:=if out.isEmpty then g else g+1
def flh (hi:List Int) (out:List α):List Int:=if out.isEmpty then hi else []
theorem cool_fl {ei te g0 g1:Nat} {rest:List Blk} (hf:∀ a,(f a).fits size=true) (hq:q < size) (hsh:∀ p hi,(f (sh p hi)).cells=(f p).cells.set q (.lst (hi.map Qh))) (hl:hi.length=n) :
  coolB (.mt ei g0 (cellsOf Qh hi)::.mt te g1 (flC f q 0 g0 n out)::rest) 1=some ((flP sh out hi).flatMap fun p=>(f p).cells,.mt ei (flg g0 out) (cellsOf Qh (flh hi out))::.mt te g1 (flA f (flP sh out hi))::rest):=by
 rcases snoc_cases out with rfl|⟨L,p,rfl⟩
 ·simp [coolB,mtOf,Blk.mtOf,flC,flP,flg,flh,flA]
 ·have hm:mtOf (Blk.mt ei g0 (cellsOf Qh hi)::Blk.mt te g1 (flC f q 0 g0 n (L++[p]))::rest) 1=some (te,g1,flC f q 0 g0 n (L++[p])):=rfl
  have hne:(flC f q 0 g0 n (L++[p])).isEmpty=false:=by
   rw [flC_snoc]
   have:(flE f q 0 g0 n p).length=size:=by simp [flE,fit_len hf]
   cases hc:flA f L++flE f q 0 g0 n p with
   | nil =>
    have h2:=congrArg List.length hc;simp only [jV,jL,this] at h2;omega
   | cons a b=>rfl
  have hqc:q < (f p).cells.length:=by rw [fit_len hf]; exact hq
  have hcon:consumeL (Blk.mt ei g0 (cellsOf Qh hi)::Blk.mt te g1 (flC f q 0 g0 n (L++[p]))::rest) (flC f q 0 g0 n (L++[p])) =
    some ((flP sh (L++[p]) hi).flatMap fun p=>(f p).cells,.mt ei (g0+1) []::.mt te g1 (flC f q 0 g0 n (L++[p]))::rest):=by
   have h1:flC f q 0 g0 n (L++[p])=(L.flatMap fun p=>(f p).cells).map .dat++(((f p).cells.take q).map .dat++.ms 0 g0 0 n n::(((f p).cells.drop (q+1)).map .dat++[])):=by
    rw [flC_snoc,flA_dats,flE,set_split _ _ _ (by simpa using hqc),List.map_take,List.map_drop,jU]
   generalize hX:flC f q 0 g0 n (L++[p])=X at h1 ⊢;rw [h1,consume_dats,consume_dats,cl_ms Qh (e:=ei) y8 rfl hl (consume_dats (cs:=[]) _)]
   ·simp only [jN];rw [flP_snoc,List.flatMap_append,List.flatMap_singleton,hsh,set_split _ _ _ hqc,← h1];simp
  simp only [coolB,hm,hne,flat_of_cells (flC_cell hf _),hcon,if_true,j6,if_false];have hm2:mtOf (Blk.mt ei (g0+1) []::Blk.mt te g1 (flC f q 0 g0 n (L++[p]))::rest) 1=some (te,g1,flC f q 0 g0 n (L++[p])):=rfl;rw [hm2];simp only [and_self,if_true,List.set_cons_succ,List.set_cons_zero,flA_dats]
  have:(L++[p]).isEmpty=false:=by simp
  simp only [flg,flh,this];rfl
theorem Qa3 {t e:TypeId} {x ix:Operand} {tt gg l m size:Nat} (h:0 < l∧l≤4611686018427387904) (hm:m=l) (ho:o.op=.indexAddr t x ix) (he:elemOfSlice P t=some e) (hs:szOf P e=some size) (hi:ρ ix=Qd (W ((m:Int) - 1))) (hx:ρ x=.ms tt gg 0 l l)
  (hk:K (.mp tt gg (0+stepN size (l - 1))) H):SemE P E ow o ρ H K:=by
 subst hm;refine SemE_of (fun call=>?_) hk
 have hw:W ((m:Int) - 1)=((m - 1:Nat):Int):=by
  simp only [W,IntKind.wrap,IntKind.bits,IntKind.signed];simp;split <;> omega
 have hi':ρ ix=.dat (.raw (.int .i64 ((m - 1:Nat):Int))):=by rw [hi,hw]; rfl
 have h1:(0:Int)≤((m - 1:Nat):Int):=by omega
 have h2:m - 1 < m:=by omega
 simp only [sem,ho,hi',he,hs,h1,if_true,hx,Int.toNat_natCast,h2,or_true,and_self]
def fldOff (P:Program) (s k:Nat):Option Nat:=match fieldsOf P s with
 | some fs=>match fs[k]? with
  | some fd=>match szOf P fd.type with
   | some (_+1)=>some fd.offset
   | _=>none
  | none=>none
 | none=>none
theorem fl_field {s:TypeId} {x:Operand} {k:Nat} {tt gg j w e:Nat} {cs:List PV} (ho:o.op=.fieldAddr s x k) (hx:ρ x=.mp tt gg j) (hb:H[tt]? = some (.mt e gg cs)) (hw:fldOff P s k=some w) :
  flatSem P [1] o ρ H=some (.mp tt gg (j+w),H):=by
 have hm:mtOf H tt=some (e,gg,cs):=by simp [mtOf,hb,Blk.mtOf]
 unfold fldOff at hw;split at hw
 ·rename_i fs hfs;split at hw
  ·rename_i fd hfd;split at hw
   ·rename_i z hz;cases hw;simp only [flatSem,ho,hfs,hfd,hz,hx,hm,if_true]
   ·cases hw
  ·cases hw
 ·cases hw
theorem Qbq {t te:TypeId} {x:Operand} {tt gg j l a:Nat} {f:α→Dat} (hf:∀ a,(f a).fits size=true) (h:0 < l∧l≤4611686018427387904) (hl:out.length=l) (h1:decide (1 < size)=true) (hj:j=(0+stepN size (l - 1))+a) (ha:a=q) (hq:decide (q < size)=true)
  (ho:o.op=.load t x) (hx:ρ x=.mp tt gg j) (hb:H[tt]? = some (.mt te gg (flC f q 0 g n out))) (hg:aggT P t=some false) (hs:szOf P t=some 1) (hk:K (.ms 0 g 0 n n) H) (hw:ow=[]:=by kernel_rfl):SemE P E ow o ρ H K:=by
 subst hl ha
 have hst:stepN size (out.length - 1)=(out.length - 1) * size:=by
  unfold stepN;split
  ·rename_i h; rw [h,Nat.mul_one]
  ·rfl
 have hm:mtOf H tt=some (te,gg,flC f a 0 g n out):=by simp [mtOf,hb,Blk.mtOf]
 refine JZ (e:=te) (cs:=flC f a 0 g n out) (v:=.ms 0 g 0 n n) hg hs ho hx hm ?_ hk hw;rw [hj,hst,zW];exact flC_hot hf (of_decide_eq_true hq) h.1
theorem fl_restart {ty ei te:TypeId} {parts:Array (Nat × Operand)} {k g0 g1:Nat} {rest:List Blk} {cs:List PV} {f:α→Dat} (hf:∀ a,(f a).fits size=true) (hsh:∀ p hi,(f (sh p hi)).cells=(f p).cells.set q (.lst (hi.map Qh))) (hl:hi.length=n) (ho:o.op=.build ty parts) (hb:buildCs P ρ ty parts k=some cs)
  (hH:H=.mt ei g0 (cellsOf Qh hi)::.mt te g1 (flC f q 0 g0 n out)::rest) (hq:decide (q < size)=true) :
  flatSem P [2,1,0,k] o ρ H=some (mkAgg (cs.set k (.ms 0 (flg g0 out+1) 0 0 0)),.mt ei (flg g0 out+1) []::.mt te g1 (flA f (flP sh out hi))::rest):=by
 subst hH;simp only [flatSem,ho,hb,cool_fl hf (of_decide_eq_true hq) hsh hl];rfl
theorem fl_one {ty e:TypeId} {len size:Nat} {parts:Array (Nat × Operand)} {x:Operand} {cs:List PV} (ho:o.op=.buildSlice ty len parts) (he:elemOfSlice P ty=some e) (hp:parts.toList=[(0,x)]) (hs:szOf P e=some size) (hc:(ρ x).cells=cs)
  (hq:(decide (len=1) && (zeroOf P e).isSome && decide (cs.length=size) && cs.all PV.cell && decide (0 < size) && decide (size≤16777216))=true):flatSem P [3] o ρ H=some (.arr H.length 0 1 1,H++[.box cs]):=by
 simp only [jE,zA] at hq;obtain ⟨⟨⟨⟨⟨h1,h2⟩,h3⟩,h4⟩,h5⟩,h6⟩:=hq;subst hc;simp only [flatSem,ho,he,hp,hs];rw [if_pos ⟨h1,h2,h3,h4,h5,h6⟩]
def flap (bytes:Nat) (sh:α→List Int→α) (out:List α) (hi:List Int) (p:α):Option (List α):=if (out.length+1) * bytes≤room then some (flP sh out hi++[p]) else none
theorem fl_append {ts ei te:TypeId} {x s:Operand} {bytes gg g1 i l:Nat} {hc:List PV} {rest:List Blk} {v:List α} {f:α→Dat} (hf:∀ a,(f a).fits size=true) (hr:flap bytes sh out hi p=some v) (hl:out.length=l) (ho:o.op=.call { callee:=.builtin .append,args:=#[s,x],argTypes:=#[ts,ts] })
  (he:elemOfSlice P ts=some te) (hs:szOf P te=some size) (hb:bytesOf P te=some bytes) (hz:(zeroOf P te).map Dat.num=some size) (h0:(decide (0 < bytes) && decide (0 < size))=true) (hsv:ρ s=.ms 1 g1 0 l l) (hx:ρ x=.arr i 0 1 1)
  (hH:H=.mt ei gg hc::.mt te g1 (flA f (flP sh out hi))::rest) (hbx:H[i]? = some (.box (flE f q 0 gg n p))) :
  flatSem P [4] o ρ H=some (.ms 1 (g1+1) 0 v.length v.length,.mt ei gg hc::.mt te (g1+1) (flC f q 0 gg n v)::rest):=by
 subst hl;unfold flap at hr;split at hr
 case isFalse=>cases hr
 rename_i hroom;cases hr;simp only [jE,zA] at h0;have hm:mtOf H 1=some (te,g1,flA f (flP sh out hi)):=by rw [hH]; rfl
 simp only [flatSem,ho,zS,List.map_nil,hsv,hx,he,hm,hbx,hs,hb];rw [if_pos ⟨⟨trivial,h0.1,hz⟩,⟨h0.2,trivial,trivial,trivial⟩,⟨by rw [flA_len hf,flP_len],flat_of_cells (flA_cell hf _)⟩,⟨by simp [flE,fit_len hf],flE_cell hf _⟩,hroom⟩];rw [flC_snoc,hH,jV,flP_len];rfl
def flX (ei te g0 g1:Nat) (out:List α) (hi:List Int) (rest:List Blk):List Blk:=.mt ei (flg g0 out) (cellsOf Qh (flh hi out))::.mt te (g1+1) []::rest
theorem chunks_fl {f:α→Dat} (hf:∀ a,(f a).fits size=true) (h1:1 < size) (L:List α):chunks size L.length (L.flatMap fun p=>(f p).cells)=L.map f:=by
 have hlen:∀ L:List α,(L.flatMap fun p=>(f p).cells).length=L.length * size:=fun L=>by
  have:=flA_len hf L;rw [flA_dats,jY] at this;exact this
 have hget:∀ (L:List α) (i:Nat) (a:α),L[i]? = some a→((L.flatMap fun p=>(f p).cells).drop (i * size)).take size=(f a).cells:=fun L=>by
  induction L with
  | nil=>intro i a h; simp at h
  | cons b L ih =>
   intro i a h;cases i with
   | zero =>
    simp at h; subst h;simp only [List.flatMap_cons,Nat.zero_mul,List.drop_zero];rw [List.take_append_of_le_length (by rw [fit_len hf]; exact j7 _),List.take_of_length_le (by rw [fit_len hf]; exact j7 _)]
   | succ i =>
    have e:(i+1) * size=(f b).cells.length+i * size:=by rw [fit_len hf,Nat.add_mul,Nat.one_mul,Nat.add_comm]
    rw [List.flatMap_cons,e,← List.drop_drop,List.drop_left];exact ih i a (by simpa using h)
 refine List.ext_getElem? fun i=>?_
 simp only [chunks,jD];by_cases hi:i < L.length
 ·have h2:L[i]? = some L[i]:=jC hi;rw [List.getElem?_range hi,h2];simp only [jN];rw [hget L i _ h2,← agg_of_num (fits_num (hf _)) h1]
 ·have h2:L[i]? = none:=List.getElem?_eq_none y5;rw [h2,List.getElem?_eq_none y6];rfl
theorem fl_take {ei te:TypeId} {x:Operand} {g0 g1 l:Nat} {rest:List Blk} {f:α→Dat} (hf:∀ a,(f a).fits size=true) (hsh:∀ p hi,(f (sh p hi)).cells=(f p).cells.set q (.lst (hi.map Qh))) (hl:hi.length=n) (hl2:out.length=l) (ho:o.op=.move x) (hx:ρ x=.ms 1 g1 0 l l)
  (hH:H=.mt ei g0 (cellsOf Qh hi)::.mt te g1 (flC f q 0 g0 n out)::rest) (hs:szOf P te=some size) (hq:(decide (q < size) && decide (1 < size))=true) :
  flatSem P [5] o ρ H=some (.dat (.lst ((flP sh out hi).map f)),flX ei te g0 g1 out hi rest):=by
 subst hH hl2;simp only [jE,zA] at hq
 have hlen:((flP sh out hi).flatMap fun p=>(f p).cells).length=out.length * size:=by
  have:=flA_len hf (flP sh out hi);rw [flA_dats,jY,flP_len] at this;exact this
 have hc:=chunks_fl hf hq.2 (flP sh out hi);rw [flP_len] at hc;simp only [flatSem,ho,hx,cool_fl hf hq.1 hsh hl];have hm:∀ b0 b1:Blk,∀ e g cs,b1=.mt e g cs→mtOf (b0::b1::rest) 1=some (e,g,cs):=fun b0 b1 e g cs h=>by subst h; rfl
 rw [hm _ _ _ _ _ rfl];simp only [hs];rw [if_pos ⟨trivial,trivial,hq.2,hlen⟩,hc];rfl
theorem purge_fl {f:α→Dat} (fg:Bool) (H:List Blk) (h0 e g1:Nat) (hh:0 < h0) (out:List α):purgeB fg H h0 (.mt e g1 (flC f q 0 g n out))=.mt e g1 (flC f q 0 g n out):=by
 have key:(flC f q 0 g n out).map (purgeC fg H h0)=flC f q 0 g n out:=by
  have hd:∀ l:List Dat,(l.map PV.dat).map (purgeC fg H h0)=l.map PV.dat:=fun l=>by
   induction l with
   | nil=>rfl
   | cons a l ih=>simp only [zS,purgeC,ih]
  rcases snoc_cases out with rfl|⟨L,p,rfl⟩
  ·rfl
  ·rw [flC_snoc,zJ,flA_dats,hd,flE];by_cases hq:q < ((f p).cells.map PV.dat).length
   ·rw [set_split _ _ _ hq,zJ,zS,← List.map_take,← List.map_drop,hd,hd];simp only [purgeC,hh,if_true]
   ·rw [List.set_eq_of_length_le y5,hd]
 simp only [purgeB,key]
theorem purge_flA {f:α→Dat} (fg:Bool) (H:List Blk) (h0 e g1:Nat) (L:List α):purgeB fg H h0 (.mt e g1 (flA f L))=.mt e g1 (flA f L):=by
 have hd:∀ l:List Dat,(l.map PV.dat).map (purgeC fg H h0)=l.map PV.dat:=fun l=>by
  induction l with
  | nil=>rfl
  | cons a l ih=>simp only [zS,purgeC,ih]
 simp only [purgeB,flA_dats,hd]
end
end
end Go.Pm
