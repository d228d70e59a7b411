/-
 The pure machine: soundness of maps, of copies, of what lists that are built at once need.
-/
import Derived.Test.YtjcfpjpdopfefaaGreatPmMul
import Derived.RangeFuncRecord
import Derived.RangeFuncOwn
import Derived.Lib.AppendZeros
import Derived.MapKept
import Derived.Lib.OthersKept
namespace Go.Pm
open Go Go.RowKit
set_option linter.unusedVariables false
set_option linter.unusedSimpArgs false

section
variable {P:Program} {r:Nat} {o o':Obj}
theorem cell_putObj {W:World} (h:W.heap[r]? = some o) (ho:o.isCells=false) (ho':o'.isCells=false) (a:Addr):(W.putObj r o').cell? a=W.cell? a:=by
 by_cases e:a.block=r
 ·have h1:W.cell? a=none:=by
   cases hc:W.cell? a with
   | none=>rfl
   | some v=>obtain ⟨x,hx,hx'⟩:=cells_of_cell hc; rw [e,h] at hx; cases hx; rw [ho] at hx'; cases hx'
  have h2:(W.putObj r o').cell? a=none:=by
   cases hc:(W.putObj r o').cell? a with
   | none=>rfl
   | some v=>obtain ⟨x,hx,hx'⟩:=cells_of_cell hc; rw [e,World.putObj_heap_same (lt_of_heap h)] at hx; cases hx; rw [ho'] at hx'; cases hx'
  rw [h1,h2]
 ·exact World.cell?_of_block (World.putObj_heap_other e)

theorem Ext.put {W:World} (N:Nat) (g:Gh) (h:W.heap[r]? = some o) (ho:o.isCells=false) (ho':o'.isCells=false):Ext N g W g (W.putObj r o') :=
 ⟨fun _ _ h=>h,fun b o' _=>cell_putObj h ho ho' _,fun _ _ h=>⟨rfl,h⟩,fun _ _ v n h=>⟨v,n,h,j7 _,fun _=>rfl⟩⟩

theorem Below.putObj {B0:Nat} {w0 W:World} (hb:Below B0 w0 W) (hr:B0≤r):Below B0 w0 (W.putObj r o') :=
 ⟨hb.os,hb.tape,hb.output,by simpa using hb.size,fun k hk=>(World.putObj_heap_other y5).trans (hb.block k hk)⟩
end

section
variable {P:Program} {B0:Nat} {w0:World} {S0:Nat→Nat→Prop} {g:Gh} {H H':List Blk} {w:World} {p:PV} {o:Oper} {a:Act} {ρ:Operand→PV}

theorem mapOf_some {i:Nat} {es:List (Value × PV)} (h:mapOf H i=some es):H[i]? = some (.map es):=by
 simp only [mapOf,jK] at h;obtain ⟨b,h1,h2⟩:=h;rw [h1];cases b with
 | map es=>simp only [Blk.mapOf] at h2; split at h2 <;> cases h2; rfl
 | box|tok|mt|hole=>simp [Blk.mapOf] at h2

theorem mapOf_keys {i:Nat} {es:List (Value × PV)} (h:mapOf H i=some es):es.all (fun e=>notTup e.1)=true:=by
 simp only [mapOf,jK] at h;obtain ⟨b,h1,h2⟩:=h;cases b with
 | map es=>simp only [Blk.mapOf] at h2; split at h2 <;> cases h2; assumption
 | box|tok|mt|hole=>simp [Blk.mapOf] at h2
theorem entries_map {o:Obj} {arr:Array MapEntry} {es:List (Value × PV)} (h:entriesOf o=some arr) (hl:arr.size=es.length) (hk:∀ (j:Nat) m c,arr[j]? = some m→es[j]? = some c→m.key=c.1) (hn:es.all (fun e=>notTup e.1)=true):∃ clock,o=.map arr clock∧arr.all (fun e=>notTup e.key)=true∧stampE arr clock:=by
 cases o <;> simp only [entriesOf,reduceCtorEq] at h
 ·split at h
  ·cases h; exact ⟨_,rfl,by assumption⟩
  ·cases h
 ·cases h
  match es,hl,hk,hn with
  | [c],_,hk,hn =>
   have:=hk 0 _ c rfl rfl;simp [← this,notTup] at hn
theorem iterIn_eq {es:List (Value × PV)} {s:ByteArray} {pos:Nat} (h:iterIn es=some (s,pos)):es=iterE s pos:=by
 unfold iterIn at h;split at h
 case h_2=>cases h
 rename_i vs n;split at h
 case h_2=>cases h
 rename_i s' hv;split at h
 case isFalse=>cases h
 rename_i hn;have hvs:vs=#[.string s']:=by rw [← Array.toArray_toList (xs:=vs),hv]
 simp only [j9,jI] at h;obtain ⟨rfl,rfl⟩:=h;rw [hvs,iterE,Int.toNat_of_nonneg hn]
theorem iterOf_some {i:Nat} {s:ByteArray} {pos:Nat} (h:iterOf H i=some (s,pos)):H[i]? = some (.map (iterE s pos)):=by
 unfold iterOf at h;split at h
 ·rename_i es he; rw [he,iterIn_eq h]
 ·cases h
theorem entries_iter {o:Obj} {arr:Array MapEntry} {s:ByteArray} {pos:Nat} (h:entriesOf o=some arr) (hl:arr.size=(iterE s pos).length) (hk:∀ (j:Nat) m c,arr[j]? = some m→(iterE s pos)[j]? = some c→m.key=c.1∧RepV g H.length w m.val c.2):o=.stringIter s pos:=by
 have h0:0 < arr.size:=by rw [hl]; exact Nat.zero_lt_one
 obtain ⟨k1,k2⟩:=hk 0 arr[0] _ (jA h0) rfl;cases o <;> simp only [entriesOf,reduceCtorEq] at h
 ·split at h
  ·rename_i ha;cases h;have:=Array.all_eq_true.1 ha.1 0 h0;rw [k1] at this;simp [notTup] at this
  ·cases h
 ·cases h;simp only [List.getElem_toArray,List.getElem_cons_zero,Value.tuple.injEq] at k1;have e1:=congrArg (fun a:Array Value=>a.toList) k1;simp only [List.cons.injEq,Value.string.injEq,and_true] at e1;have e2:=k2.toVal (u:=.int .i64 pos) rfl;simp only [List.getElem_toArray,List.getElem_cons_zero,Value.int.injEq,true_and] at e2;rw [e1,show _=pos from Int.ofNat.inj e2]
theorem new_obj {ob:Obj} {arr:Array MapEntry} {es:List (Value × PV)} {q:PV} {v:Value} (ha:entriesOf ob=some arr) (hl:arr.size=es.length) (hr:∀ (j:Nat) m c,arr[j]? = some m→es[j]? = some c→m.key=c.1∧∀ G N W,RepV G N W m.val c.2)
  (hv:RepV (g.box H.length w.heap.size) (H++[Blk.map es]).length (w.alloc ob) v q) (hH:Ql P g B0 H.length H w) (hi:Inv B0 w0 S0 g w):Good P B0 w0 S0 H g w q (H++[.map es]) v (g.box H.length w.heap.size) (w.alloc ob):=by
 have hi':=hi.alloc ob;have he:Ext H.length g w (g.box H.length w.heap.size) (w.alloc ob):=(Ext.alloc hi H.length _).trans (Ext.box H.length _ (j7 _)) (j7 _);have hblk:(g.box H.length w.heap.size).blk H.length=w.heap.size:=by simp [Gh.box]
 refine ⟨he,by simp,hv,?_,⟨hi'.below,hi'.size,hi'.old,hi'.lt⟩,Fr.old y7 (fun b hb=>Below.heap_alloc w _ b hb) fun i b h hb=>?_⟩
 ·refine Ql.snoc (hH.keep he y7 (j7 _) (fun i b hb=>Below.heap_alloc w _ b (hH.occ_lt hb).2.1) (fun _ _ _ _ h=>h) (fun _ _=>rfl)) _ (fun cs' h=>by cases h) (fun _ _ h=>by cases h) (fun i b h h2=>?_) (hmap:=fun es' h=>?_)
  ·rw [occ_map (es:=es) y7,hblk] at h2;cases h2;have hb:occ g H i=some w.heap.size:=occ_ghost (g:=g) h (fun j hj=>by simp only [Gh.box]; rw [if_neg y5]) (fun j hj=>rfl);exact jZ _ (hH.occ_lt hb).2.1
  ·cases h;rw [hblk];exact ⟨hi.size,⟨arr,ob,⟨World.alloc_heap_new w _,ha⟩,hl,fun j m c g1 g2=>⟨(hr j m c g1 g2).1,(hr j m c g1 g2).2 _ _ _⟩⟩,fun o hs=>jZ _ (hi.lt _ o hs)⟩
 ·rcases occ_snoc_map h with h|⟨_,rfl⟩
  ·exact ⟨i,occ_ghost (g:=g) h (fun j hj=>by simp only [Gh.box]; rw [if_neg y5]) (fun j hj=>rfl)⟩
  ·rw [hblk] at hb; exact absurd hb (jZ _)
theorem makeMap_ok {t:TypeId} (ho:o.op=.makeMap t none) (hH:Ql P g B0 H.length H w) (hi:Inv B0 w0 S0 g w) :
  ∃ v g' w',OpRes P o a w v w'∧Good P B0 w0 S0 H g w (.mapv H.length) (H++[.map []]) v g' w':=by
 refine ⟨.map (some w.heap.size),g.box H.length w.heap.size,w.alloc (.map #[] 0),.inl ?_,new_obj (arr:=#[]) (by simp [entriesOf,stampE]) rfl (fun j m c g1 g2=>by simp at g2) ?_ hH hi⟩
 ·simp only [execOp,ho];simp [Instr.makeMap]
 ·have:=RepV.mapv (g:=g.box H.length w.heap.size) (N:=(H++[Blk.map []]).length) (w:=w.alloc (.map #[] 0)) H.length ⟨by simp,.inl rfl⟩
  rwa [show (g.box H.length w.heap.size).blk H.length=w.heap.size by simp [Gh.box]] at this

theorem map_turn {q:PV} {v:Value} {i:Nat} {es es':List (Value × PV)} {o o':Obj} (hm:H[i]? = some (.map es)) (arr':Array MapEntry) (ho:o.isCells=false∧o'.isCells=false) (ha:entriesOf o'=some arr')
  (hq:RepV g H.length w v q) (hl:arr'.size=es'.length) (hr:∀ (j:Nat) m c,arr'[j]? = some m→es'[j]? = some c→m.key=c.1∧RepV g H.length w m.val c.2) (hb:w.heap[g.blk i]? = some o)
  (hH:Ql P g B0 H.length H w) (hi:Inv B0 w0 S0 g w):Good P B0 w0 S0 H g w q (H.set i (.map es')) v g (w.putObj (g.blk i) o'):=by
 have hlt:i < H.length:=(List.getElem?_eq_some_iff.1 hm).1;have hil:g.live i:=hH.liveM hm;obtain ⟨q1,_,q3⟩:=hH.map i es hm;have he:Ext H.length g w g (w.putObj (g.blk i) o'):=Ext.put _ g hb ho.1 ho.2
 refine ⟨he,by simp,hq.ext he y7,?_,⟨Below.putObj hi.below q1,by simpa using hi.size,hi.old,fun b o h=>by simpa using hi.lt b o h⟩,
  ⟨by simp,fun b _ hn=>World.putObj_heap_other (fun e=>hn i (by rw [occ_map hm,e])),fun j b hj _=>?_,fun b o h=>.inl h⟩⟩
 ·refine hH.turn he y7 (j7 _) _ hlt (fun j b hj hb'=>World.putObj_heap_other (fun e=>hj (hH.sep j i b hb' (by rw [occ_map hm,e]))))
   (fun _ _ _ _ _ h=>h) (fun _ _ _=>rfl) (fun cs' hc=>by cases hc) (fun _ _ h=>by cases h) (fun j b hj hb' h=>?_) (hmap:=fun es2 h=>?_)
  ·rw [occ_map (es:=es') (by simp [hlt])] at h;cases h;exact hj (hH.sep j i _ hb' (occ_map hm))
  ·cases h;exact ⟨q1,⟨arr',o',⟨World.putObj_heap_same (lt_of_heap hb),ha⟩,hl,fun j m c g1 g2=>⟨(hr j m c g1 g2).1,(hr j m c g1 g2).2.ext he y7⟩⟩,q3⟩
 ·rcases occ_set_map hlt hj with ⟨_,h⟩|⟨_,rfl⟩
  ·exact ⟨j,h⟩
  ·exact ⟨i,occ_map hm⟩

theorem sameK_eq (kd:TypeDesc) (x y:Value):Instr.sameNow kd x y=sameK kd x y:=by
 cases kd <;> cases x <;> cases y <;> rfl

theorem findK_now {kd:TypeDesc} {k:Value}:∀ (l:List MapEntry) (es:List (Value × PV)) (i:Nat) (r:Option (Nat × PV)),l.length=es.length→(∀ (j:Nat) m c,l[j]? = some m→es[j]? = some c→m.key=c.1)→findK kd k es i=some r →
  (r=none∧Instr.findNow kd k l i=some none)∨∃ (j:Nat) (m:MapEntry) (c:Value × PV),r=some (i+j,c.2)∧l[j]? = some m∧es[j]? = some c∧Instr.findNow kd k l i=some (some (i+j,m.val))∧sameK kd k c.1=some true
 | [],[],i,r,_,_,h=>by simp [findK] at h; exact .inl ⟨h.symm,rfl⟩
 | [],_::_,i,r,hl,_,h=>by simp at hl
 | _::_,[],i,r,hl,_,h=>by simp at hl
 | m::l,e::es,i,r,hl,hk,h=>by
  have h0:m.key=e.1:=hk 0 m e rfl rfl;simp only [findK] at h;split at h
  ·rename_i hs;cases h;exact .inr ⟨0,m,e,rfl,rfl,rfl,by simp only [Instr.findNow,sameK_eq,h0,hs]; rfl,hs⟩
  ·rename_i hs;rcases findK_now l es (i+1) r (by simpa using hl) (fun j m c g1 g2=>hk (j+1) m c (by simpa using g1) (by simpa using g2)) h with ⟨h1,h2⟩|⟨j,m',c,h1,h2,h3,h4,h5⟩
   ·exact .inl ⟨h1,by simp only [Instr.findNow,sameK_eq,h0,hs]; exact h2⟩
   ·exact .inr ⟨j+1,m',c,by rw [h1,show i+1+j=i+(j+1) by omega],by simpa using h2,by simpa using h3,by simp only [Instr.findNow,sameK_eq,h0,hs]; rw [h4,show i+1+j=i+(j+1) by omega],h5⟩
  ·cases h

theorem sameK_true {kd:TypeDesc} {x y:Value} (h:sameK kd x y=some true):x=y∧∀ n,Instr.sameBits n y x=true:=by
 unfold sameK at h;split at h
 ·split at h
  ·rename_i hk;subst hk;simp at h;subst h;exact ⟨rfl,fun n=>by cases n <;> simp [Instr.sameBits]⟩
  ·cases h
 ·rename_i a b;simp only [j9] at h;have e:a=b:=MapKept.bytes_beq a b |>.1 h;subst e;exact ⟨rfl,fun n=>by cases n <;> (simp only [Instr.sameBits]; exact h)⟩
 ·simp at h;subst h;exact ⟨rfl,fun n=>by cases n <;> simp [Instr.sameBits]⟩
 ·cases h

theorem run_checkPlain {kt:TypeId} {kd:TypeDesc} {k:Value} (hd:P.underlying kt=some kd) (hk:plainKey kd=true) (e:Bool) (n:Nat):(Instr.checkKey e (n+1) kt k).run P w=.ok () w:=by
 unfold Instr.checkKey;simp only [Sem.run_bind,run_underlying hd,Result.andThen];cases kd <;> first|(cases hk; done)|(cases k <;> rfl)

theorem toVal_key {q:PV} {v u:Value} {N:Nat} (h:q.toVal=some u) (hr:RepV g N w v q):notTup u=true:=by
 have hv:=hr.toVal h;subst hv;unfold PV.toVal at h;split at h
 ·cases h;have:=hr.datInv;cases this;rename_i hu;cases v <;> first|rfl|cases hu
 ·simp only [j5] at h;obtain ⟨vs,_,rfl⟩:=h;rfl
 ·cases h
structure Found (P:Program) (g:Gh) (N:Nat) (w:World) (b:Nat) (es:List (Value × PV)) (kt:TypeId) (key:Value) (arr:Array MapEntry) (clock:Nat) (r:Option (Nat × PV)):Prop where
 at_:w.heap[b]? = some (.map arr clock)
 keys:arr.all (fun e=>notTup e.key)=true∧notTup key=true
 st:stampE arr clock
 size:arr.size=es.length
 rep:∀ (j:Nat) m c,arr[j]? = some m→es[j]? = some c→m.key=c.1∧RepV g N w m.val c.2
 check:∀ e n,(Instr.checkKey e (n+1) kt key).run P w=.ok () w
 none:r=none→(Instr.findKey kt key arr.toList).run P w=.ok none w
 some:∀ j v,r=some (j,v)→∃ m c,arr[j]? = some m∧es[j]? = some c∧c.2=v∧(Instr.findKey kt key arr.toList).run P w=.ok (some (j,m.val)) w∧m.key=key∧∀ n,Instr.sameBits n m.key key=true

theorem findIn_ok {t e:TypeId} {k:Operand} {i:Nat} {es:List (Value × PV)} {kv:Value} {r:Option (Nat × PV)} (hm:H[i]? = some (.map es)) (hn:es.all (fun e=>notTup e.1)=true) (hf:findIn P ρ k t es=some (kv,e,r))
  (hH:Ql P g B0 H.length H w) (hρ:∀ x,RepV g H.length w (a.eval x) (ρ x)):∃ kt arr clock,P.underlying t=some (.map kt e)∧a.eval k=kv∧Found P g H.length w (g.blk i) es kt kv arr clock r:=by
 unfold findIn at hf;split at hf
 case h_2=>cases hf
 rename_i kt e' kv' hu hkv;split at hf
 case h_2=>cases hf
 rename_i kd hkd;split at hf
 case isFalse=>cases hf
 rename_i hpk;simp only [j5,jI] at hf;obtain ⟨r',hr,rfl,rfl,rfl⟩:=hf;obtain ⟨_,⟨arr,o1,⟨q1,q0⟩,q2,q3⟩,_⟩:=hH.map i es hm;obtain ⟨clock,rfl,q4⟩:=entries_map q0 q2 (fun j m c g1 g2=>(q3 j m c g1 g2).1) hn;have hk:=(hρ k).toVal hkv;refine ⟨kt,arr,clock,hu,hk,q1,⟨q4.1,toVal_key hkv (hρ k)⟩,q4.2,q2,q3,fun e n=>run_checkPlain hkd hpk e n,fun hn=>?_,fun j v hj=>?_⟩
 ·rcases findK_now arr.toList es 0 r' (by simpa using q2) (fun j m c g1 g2=>(q3 j m c (by simpa using g1) g2).1) hr with ⟨_,h2⟩|⟨j,m,c,h1,_⟩
  ·exact MapKept.run_findKey hkd h2
  ·rw [hn] at h1; cases h1
 ·rcases findK_now arr.toList es 0 r' (by simpa using q2) (fun j m c g1 g2=>(q3 j m c (by simpa using g1) g2).1) hr with ⟨h1,_⟩|⟨j',m,c,h1,h2,h3,h4,h5⟩
  ·rw [hj] at h1; cases h1
  ·rw [hj] at h1;simp only [zW,j9,jI] at h1 h4;obtain ⟨rfl,rfl⟩:=h1;obtain ⟨s1,s2⟩:=sameK_true h5;have hmk:m.key=c.1:=(q3 j m c (by simpa using h2) h3).1;exact ⟨m,c,by simpa using h2,h3,rfl,MapKept.run_findKey hkd h4,by rw [hmk,s1],fun n=>by rw [hmk]; exact s2 n⟩

theorem keys_push {arr:Array MapEntry} {e:MapEntry} (h:arr.all (fun e=>notTup e.key)=true) (he:notTup e.key=true):(arr.push e).all (fun e=>notTup e.key)=true:=by
 rw [Array.all_push,h,he]; rfl
theorem keys_modify {arr:Array MapEntry} {j:Nat} {k:Value} {f:MapEntry→Value} (h:arr.all (fun e=>notTup e.key)=true) (hk:notTup k=true):(arr.modify j fun e=>{ e with key:=k,val:=f e }).all (fun e=>notTup e.key)=true:=by
 rw [Array.all_eq_true] at h ⊢;intro i hi;rw [Array.getElem_modify];split
 ·exact hk
 ·exact h i (by simpa using hi)
theorem stamp_push {arr:Array MapEntry} {clock:Nat} (h:stampE arr clock) (k v:Value):stampE (arr.push { key:=k,val:=v,born:=clock }) (clock+1):=by
 refine ⟨fun x hx=>?_,?_⟩
 ·rw [Array.toList_push,List.mem_append,jX] at hx;rcases hx with hx|rfl
  ·exact Nat.lt_succ_of_lt (h.1 x hx)
  ·exact Nat.lt_succ_self _
 ·rw [Array.toList_push,zJ];refine List.nodup_append.2 ⟨h.2,by simp,fun a ha b hb=>?_⟩;obtain ⟨x,hx,rfl⟩:=List.mem_map.1 ha;have:=h.1 x hx;simp at hb;omega
theorem stamp_modify {arr:Array MapEntry} {clock:Nat} (h:stampE arr clock) (j:Nat) (f:MapEntry→MapEntry) (hf:∀ e,(f e).born=e.born):stampE (arr.modify j f) clock:=by
 have e:(arr.modify j f).toList.map (·.born)=arr.toList.map (·.born):=by
  refine List.ext_getElem y7 fun i h1 h2=>?_
  simp only [List.getElem_map,Array.getElem_toList,Array.getElem_modify];split <;> simp [hf]
 refine ⟨fun x hx=>?_,by rw [e]; exact h.2⟩
 have:x.born∈arr.toList.map (·.born):=by rw [← e]; exact List.mem_map.2 ⟨x,hx,rfl⟩
 obtain ⟨y,hy,e2⟩:=List.mem_map.1 this;rw [← e2]; exact h.1 y hy
theorem mapUpdate_ok {t e:TypeId} {m k x:Operand} {i:Nat} {es:List (Value × PV)} {kv:Value} {r:Option (Nat × PV)} (ho:o.op=.mapUpdate t m k x∨o.op=.insert t m k x) (hmv:ρ m=.mapv i) (hm:H[i]? = some (.map es)) (hn:es.all (fun e=>notTup e.1)=true) (hf:findIn P ρ k t es=some (kv,e,r))
  (hH:Ql P g B0 H.length H w) (hi:Inv B0 w0 S0 g w) (hρ:∀ x,RepV g H.length w (a.eval x) (ρ x)) :
  ∃ v g' w',OpRes P o a w v w'∧Good P B0 w0 S0 H g w (.tup []) (H.set i (.map (match r with|some (j,_)=>es.set j (kv,ρ x)|none=>es++[(kv,ρ x)]))) v g' w':=by
 obtain ⟨kt,arr,clock,hu,hk,F⟩:=findIn_ok hm hn hf hH hρ;have hr:=hρ m;rw [hmv] at hr;generalize hv:a.eval m=v at hr;cases hr with
 | mapv _ hlt =>
  cases r with
  | none =>
   have hfind:=F.none rfl
   have hrun:(execOp a.eval o).run P w=.ok .skip (w.putObj (g.blk i) (.map (arr.push { key:=kv,val:=a.eval x,born:=clock }) (clock+1))):=by
    rcases ho with ho|ho <;> simp only [execOp,ho,hv,hk] <;> simp [Instr.mapUpdate,run_underlying hu,MapKept.run_getObj_map F.at_,F.check,hfind,MapKept.run_setObj_map _ F.at_,World.putObj]
   refine ⟨undef,g,_,.inr ⟨hrun,rfl⟩,map_turn hm _ ⟨rfl,rfl⟩ (if_pos ⟨keys_push F.keys.1 F.keys.2,stamp_push F.st _ _⟩) (.tup _ _ rfl fun j v c h=>by simp at h) (by simp [F.size]) (fun j m' c g1 g2=>?_) F.at_ hH hi⟩;rw [Array.getElem?_push] at g1;rw [jT] at g2;by_cases hj:j < es.length
   ·rw [if_pos hj] at g2;rw [if_neg (by rw [F.size]; omega)] at g1;exact F.rep j m' c g1 g2
   ·rw [if_neg hj] at g2;by_cases hj2:j=es.length
    ·subst hj2;rw [if_pos F.size.symm] at g1;simp at g1 g2;subst g1; subst g2;exact ⟨rfl,hρ x⟩
    ·have:([(kv,ρ x)]:List (Value × PV))[j - es.length]? = none:=List.getElem?_eq_none y6
     rw [this] at g2; cases g2
  | some q =>
   obtain ⟨j,v0⟩:=q;obtain ⟨m',c,h1,h2,h3,h4,h5,h6⟩:=F.some j v0 rfl
   have hrun:(execOp a.eval o).run P w=.ok .skip (w.putObj (g.blk i) (.map (arr.modify j fun e=>{ e with key:=kv,val:=a.eval x }) clock)):=by
    rcases ho with ho|ho <;> simp only [execOp,ho,hv,hk] <;> simp [Instr.mapUpdate,run_underlying hu,MapKept.run_getObj_map F.at_,F.check,h4,MapKept.run_setObj_map _ F.at_,World.putObj,Instr.keyThatStays,h1,h6]
   refine ⟨undef,g,_,.inr ⟨hrun,rfl⟩,map_turn hm _ ⟨rfl,rfl⟩ (if_pos ⟨keys_modify F.keys.1 F.keys.2,stamp_modify F.st _ _ fun _=>rfl⟩) (.tup _ _ rfl fun j v c h=>by simp at h) (by simp [F.size]) (fun j' m2 c2 g1 g2=>?_) F.at_ hH hi⟩;rw [Array.getElem?_modify] at g1;rw [zC] at g2;by_cases hj:j=j'
   ·subst hj;rw [if_pos rfl,h1] at g1;rw [if_pos rfl] at g2;split at g2
    ·simp at g1 g2;subst g1; subst g2;exact ⟨rfl,hρ x⟩
    ·cases g2
   ·rw [if_neg hj] at g1 g2;exact F.rep j' m2 c2 g1 g2

theorem lookup_ok {t e:TypeId} {m k:Operand} {ok:Bool} {i:Nat} {es:List (Value × PV)} {kv:Value} {r:Option (Nat × PV)} (ho:o.op=.lookup t m k ok) (hmv:ρ m=.mapv i) (hm:H[i]? = some (.map es)) (hn:es.all (fun e=>notTup e.1)=true) (hf:findIn P ρ k t es=some (kv,e,r))
  {q:PV} (hq:match r with|some (_,v)=>q=v|none=>∃ z,zeroOf P e=some z∧q=.dat z)
  (hH:Ql P g B0 H.length H w) (hi:Inv B0 w0 S0 g w) (hρ:∀ x,RepV g H.length w (a.eval x) (ρ x)) :
  ∃ v g' w',OpRes P o a w v w'∧Good P B0 w0 S0 H g w (if ok then .tup [q,Qq r.isSome] else q) H v g' w':=by
 obtain ⟨kt,arr,clock,hu,hk,F⟩:=findIn_ok hm hn hf hH hρ;have hr:=hρ m;rw [hmv] at hr;generalize hv:a.eval m=v at hr
 have fin:∀ u b,RepV g H.length w u q→RepV g H.length w (if ok then .tuple #[u,.bool b] else u) (if ok then .tup [q,Qq b] else q):=fun u b h=>by
  cases ok with
  | false=>exact h
  | true =>
   refine .tup _ _ rfl fun j v c g1 g2=>?_
   match j,g1,g2 with
   | 0,g1,g2=>simp at g1 g2; subst g1; subst g2; exact h
   | 1,g1,g2=>simp at g1 g2; subst g1; subst g2; exact .dat _ _ (.raw _ rfl)
   | j+2,g1,g2=>simp at g2
 cases hr with
 | mapv _ hlt =>
  cases r with
  | none =>
   obtain ⟨z,hz,rfl⟩:=hq;obtain ⟨ie,zv,i1,i2,i3,_⟩:=zeroOf_ok hz;have hfind:=F.none rfl;refine ⟨if ok then .tuple #[zv,.bool false] else zv,g,w,.inl ?_,.same hH hi (fin zv false (.dat _ _ (i3 w g.S)))⟩;simp only [execOp,ho,hv,hk];simp [Instr.lookup,run_underlying hu,MapKept.run_getObj_map F.at_,F.check,hfind,zeroValue,typeInfo,i1,i2]
  | some x =>
   obtain ⟨j,v0⟩:=x;obtain ⟨m',c,h1,h2,h3,h4,h5,h6⟩:=F.some j v0 rfl;obtain rfl:q=v0:=hq;refine ⟨if ok then .tuple #[m'.val,.bool true] else m'.val,g,w,.inl ?_,.same hH hi (fin m'.val true (by rw [← h3]; exact (F.rep j m' c h1 h2).2))⟩;simp only [execOp,ho,hv,hk];simp [Instr.lookup,run_underlying hu,MapKept.run_getObj_map F.at_,F.check,h4]

theorem len_map_ok {x:Operand} {ts:Array TypeId} {t kt et:TypeId} {i:Nat} {es:List (Value × PV)} (ho:o.op=.call { callee:=.builtin .len,args:=#[x],argTypes:=ts }) (ht:ts[0]? = some t) (hu:P.underlying t=some (.map kt et))
  (hx:ρ x=.mapv i) (hm:mapOf H i=some es) (hH:Ql P g B0 H.length H w) (hi:Inv B0 w0 S0 g w) (hρ:∀ x,RepV g H.length w (a.eval x) (ρ x)) :
  ∃ v g' w',OpRes P o a w v w'∧Good P B0 w0 S0 H g w (Qd (es.length:Int)) H v g' w':=by
 have hr:=hρ x;rw [hx] at hr;generalize hv:a.eval x=v at hr;cases hr with
 | mapv _ hlt =>
  obtain ⟨_,⟨arr,o1,⟨q1,q0⟩,q2,q3⟩,_⟩:=hH.map i es (mapOf_some hm);obtain ⟨clock,rfl,_⟩:=entries_map q0 q2 (fun j m c g1 g2=>(q3 j m c g1 g2).1) (mapOf_keys hm);refine ⟨.int .i64 es.length,g,w,.inl ?_,.same hH hi (.dat _ _ (.raw _ rfl))⟩;simp [execOp,ho,resolve,invoke,builtin,Builtin.len_,ht,run_underlying hu,hv,MapKept.run_getObj_map q1,goInt,q2]

theorem rangeStr_ok {t:TypeId} {x:Operand} {s:ByteArray} (ho:o.op=.range t x) (hu:P.underlying t=some .string) (hx:ρ x=.dat (.raw (.string s))) (hH:Ql P g B0 H.length H w) (hi:Inv B0 w0 S0 g w) (hρ:∀ x,RepV g H.length w (a.eval x) (ρ x)) :
  ∃ v g' w',OpRes P o a w v w'∧Good P B0 w0 S0 H g w (.ptr H.length 0) (H++[.map (iterE s 0)]) v g' w':=by
 have hr:=hρ x;rw [hx] at hr;have hv:=hr.toVal (u:=.string s) rfl;refine ⟨.pointer (some ⟨w.heap.size,0,none⟩),g.box H.length w.heap.size,w.alloc (.stringIter s 0),.inl ?_,new_obj (arr:=#[{ key:=.tuple #[.string s],val:=.int .i64 0,born:=0 }]) rfl rfl (fun j m c g1 g2=>?_) ?_ hH hi⟩
 ·simp only [execOp,ho,hv];simp [Instr.range,run_underlying hu]
 ·match j,g1,g2 with
  | 0,g1,g2=>cases g1; cases g2; exact ⟨rfl,fun G N W=>.dat _ _ (.raw _ rfl)⟩
  | j+1,g1,g2=>simp [iterE] at g2
 ·have:=RepV.ptr (g:=g.box H.length w.heap.size) (N:=(H++[Blk.map (iterE s 0)]).length) (w:=w.alloc (.stringIter s 0)) H.length 0 ⟨by simp,.inl rfl⟩
  rwa [show (g.box H.length w.heap.size).blk H.length=w.heap.size by simp [Gh.box]] at this

theorem next_ok {x:Operand} {i:Nat} {s:ByteArray} {pos:Nat} (ho:o.op=.next x true) (hx:ρ x=.ptr i 0) (hm:iterOf H i=some (s,pos)) (hH:Ql P g B0 H.length H w) (hi:Inv B0 w0 S0 g w) (hρ:∀ x,RepV g H.length w (a.eval x) (ρ x)) :
  ∃ v g' w',OpRes P o a w v w'∧Good P B0 w0 S0 H g w (nextSem s pos i H).1 (nextSem s pos i H).2 v g' w':=by
 have hr:=hρ x;rw [hx] at hr;have hb:=iterOf_some hm;generalize hv:a.eval x=v at hr;cases hr with
 | ptr _ _ hlt =>
  obtain ⟨_,⟨arr,o1,⟨q1,q0⟩,q2,q3⟩,_⟩:=hH.map i _ hb;obtain rfl:=entries_iter q0 q2 q3;by_cases hp:pos < s.size
  ·rw [nextSem,if_pos hp];refine ⟨.tuple #[.bool true,.int .i64 pos,.int .i32 (Utf8.decode s pos).1],_,_,.inl ?_,map_turn (o':=.stringIter s (pos+(Utf8.decode s pos).2)) hb _ ⟨rfl,rfl⟩ rfl (.tup _ _ rfl fun j v c g1 g2=>?_) rfl (fun j m c g1 g2=>?_) q1 hH hi⟩
   ·simp only [execOp,ho,hv,Sem.run_bind,Lib.run_next_any_at w _ s pos _ q1 hp,Result.andThen];rfl
   ·match j,g1,g2 with
    | 0,g1,g2=>cases g1; cases g2; exact .dat _ _ (.raw _ rfl)
    | 1,g1,g2=>cases g1; cases g2; exact .dat _ _ (.raw _ rfl)
    | 2,g1,g2=>cases g1; cases g2; exact .dat _ _ (.raw _ rfl)
    | j+3,g1,g2=>simp at g2
   ·match j,g1,g2 with
    | 0,g1,g2=>cases g1; cases g2; exact ⟨rfl,.dat _ _ (.raw _ rfl)⟩
    | j+1,g1,g2=>simp [iterE] at g2
  ·rw [nextSem,if_neg hp];refine ⟨.tuple #[.bool false],g,w,.inl ?_,.same hH hi (.tup #[.bool false] _ rfl fun j v c g1 g2=>?_)⟩
   ·simp only [execOp,ho,hv,Sem.run_bind,Lib.run_next_end_at w _ s pos _ q1 hp,Result.andThen];rfl
   ·match j,g1,g2 with
    | 0,g1,g2=>cases g1; cases g2; exact .dat _ _ (.raw _ rfl)
    | j+1,g1,g2=>simp at g2

theorem buildSlice_mt_ok {t e:TypeId} {len size:Nat} {parts:Array (Nat × Operand)} {ds:List Dat} (ho:o.op=.buildSlice t len parts) (he:elemOfSlice P t=some e) (hs:szOf P e=some size) (hz:(zeroOf P e).isSome=true)
  (hp:pures H (parts.toList.map fun (_,x)=>ρ x)=some ds) (hl:parts.size=len) (hd:dense 0 parts.toList=true) (hf:ds.all (Dat.fits size)=true) (h0:0 < size) (h24:len * size≤16777216)
  (hnl:parts.toList.any (fun (_,x)=>(ρ x).lends)=false) (hemp:ds=[])
  (hH:Ql P g B0 H.length H w) (hi:Inv B0 w0 S0 g w) (hρ:∀ x,RepV g H.length w (a.eval x) (ρ x)) :
  ∃ v g' w',OpRes P o a w v w'∧Good P B0 w0 S0 H g w (.ms H.length 0 0 0 0) (H++[.mt e 0 []]) v g' w':=by
 obtain ⟨vals,r1,r2,r3,r4⟩:=buildSlice_run (S0:=S0) (w0:=w0) ho he hs hz hp hl hd hf h0 h24 hnl hH hi hρ;subst hemp;obtain rfl:len=0:=by simpa using r3.symm
 have hi':=hi.alloc (.cells vals e);have hk:=hH.alloc hi (j7 _) (.cells vals e);obtain ⟨g',hg⟩:=own_mt_at (P:=P) (S0:=S0) (w0:=w0) hk hi' e (some ⟨w.heap.size,0,none⟩);have hx:Ext H.length g w g (w.alloc (.cells vals e)):=Ext.alloc hi H.length _;exact ⟨_,g',_,.inl r1,hx.trans hg.ext (j7 _),hg.len,hg.rep,hg.heap,hg.inv,(Fr.old y7 (fun b hb=>Below.heap_alloc w _ b hb) fun i b h _=>⟨i,h⟩).trans hg.fr⟩

theorem lstNil_run {op:BinOp} {t yt:TypeId} {x y:Operand} {b:Bool} (ho:o.op=.binOp op t x y yt) (hρ:∀ x,RepV g H.length w (a.eval x) (ρ x)) (hb:lstNil P op t (ρ x) y=some b) :
  (execOp a.eval o).run P w=.ok (.value (.bool b)) w:=by
 unfold lstNil at hb;split at hb
 ·rename_i e hu;simp only [jK] at hb;obtain ⟨c,hc,hb⟩:=hb;have hx:=hρ x
  have key:∃ ad n cap,a.eval x=.slice ad n cap∧ad.isNone=c:=by
   split at hc
   ·rename_i b' hp;cases hc;rw [hp] at hx;generalize a.eval x=v at hx;cases hx with
    | empv b v h1 h2 =>
     cases hcc:c with
     | true=>exact ⟨none,0,0,h1 hcc,rfl⟩
     | false=>obtain ⟨a,cap,rfl⟩:=h2 hcc; exact ⟨some a,0,cap,rfl,rfl⟩
   ·rename_i d ds hp;cases hc;rw [hp] at hx;have:=hx.datInv;generalize a.eval x=v at this;cases this with
    | lst b off len cap k es cc h1=>exact ⟨_,_,_,rfl,rfl⟩
   ·cases hc
  obtain ⟨ad,n,cap,hv,had⟩:=key
  have he0:∀ d,(Op.equalIn (d+1) t (.slice ad n cap) (.slice none 0 0)).run P w=.ok c w:=fun d=>by
   subst had;cases ad <;> simp [Op.equalIn,run_underlying hu]
  have he:=he0 9999;have hy:a.eval (.const (.slice none 0 0))=.slice none 0 0:=rfl;split at hb
  ·cases hb;simp only [execOp,ho,hv,hy];simp [binOp,eqGuard,Op.equal,Op.maxDepth,he]
  ·cases hb;simp only [execOp,ho,hv,hy];simp [binOp,eqGuard,Op.equal,Op.maxDepth,he]
  ·cases hb
 ·cases hb

theorem slice_arr_ok {t e:TypeId} {x:Operand} {lo hi:Option Operand} {size i off len cap:Nat} (ho:o.op=.slice t x lo hi none) (he:elemOfSlice P t=some e) (hsz:szOf P e=some size)
  (hx:ρ x=.arr i off len cap) (hp:cutArr ρ lo hi size i off len cap=some p)
  (hH:Ql P g B0 H.length H w) (hi':Inv B0 w0 S0 g w) (hρ:∀ x,RepV g H.length w (a.eval x) (ρ x)) :
  ∃ v g' w',OpRes P o a w v w'∧Good P B0 w0 S0 H g w p H v g' w':=by
 have hr:=hρ x;rw [hx] at hr;generalize hv:a.eval x=v at hr;unfold cutArr at hp;split at hp
 ·rename_i l h hlo hhi;split at hp
  ·rename_i hc;obtain ⟨hlh,hhc⟩:=hc;cases hr with
   | arr _ _ _ _ k1 k2 =>
    have hb:(Instr.sliceBounds true len cap (lo.map a.eval) (hi.map a.eval) none).run P w=.ok (l,h,cap) w:=by
     unfold Instr.sliceBounds;cases hi with
     | none =>
      cases lo with
      | none=>simp [bndOf] at hlo hhi; subst hlo hhi; simp
      | some lo =>
       obtain ⟨k,hk⟩:=natOf_rep (hρ lo) hlo;simp [bndOf] at hhi; subst hhi;simp [run_bound (P:=P) .sliceB hk hlh w]
     | some hi =>
      obtain ⟨k',hk'⟩:=natOf_rep (hρ hi) hhi;cases lo with
      | none=>simp [bndOf] at hlo; subst hlo; simp [run_bound (P:=P) .sliceAcap hk' hhc w]
      | some lo =>
       obtain ⟨k,hk⟩:=natOf_rep (hρ lo) hlo;simp [run_bound (P:=P) .sliceB hk hlh w,run_bound (P:=P) .sliceAcap hk' hhc w]
    have hrun:OpRes P o a w (.slice (if cap=l then some ⟨g.blk i,off,none⟩ else (some (⟨g.blk i,off,none⟩:Addr)).map (·.add (l * size))) (h - l) (cap - l)) w:=.inl (by simp [execOp,ho,Instr.sliceAt,Instr.slice,run_underlying (Qx he),hv,hb,run_szOf hsz]);refine ⟨_,g,w,hrun,.same hH hi' ?_⟩;cases hp;by_cases hz:l=0∨l < h
    ·rw [if_pos hz]
     have hv':(if cap=l then some ⟨g.blk i,off,none⟩ else (some (⟨g.blk i,off,none⟩:Addr)).map (·.add (l * size)))=some ⟨g.blk i,off+l * size,none⟩:=by
      split
      ·rename_i e
       have:l=0:=by omega
       subst this;simp
      ·simp [add_lit]
     rw [hv'];exact .arr _ _ _ _ k1 y5
    ·rw [if_neg hz]
     have:h - l=0:=by omega
     rw [this];refine .dat _ _ ?_;split <;> exact .empty _ _
  ·cases hp
 ·cases hp

theorem copied_ok {N:Nat} {v:Value} {p:PV} {es:List PV} (hH:Ql P g B0 N H w) (h:RepV g N w v p) (hp:copied H p=some es) (hcell:es.all PV.cell=true):∃ news,SrcV g N w v es news:=by
 cases p with
 | arr i off len cap =>
  simp only [copied] at hp;split at hp
  ·rename_i cs hb;obtain ⟨c1,c2,c3⟩:=cut_some hp;cases h with
   | arr _ _ _ _ k1 k2 =>
    obtain ⟨_,⟨vals,ty,q1,q2,q3⟩,_⟩:=hH.box i cs hb;refine ⟨(vals.toList.drop off).take len,.inr ⟨⟨g.blk i,off,none⟩,cap,by rw [c1],fun j u hu=>?_⟩,by simp only [zT,zZ,Array.length_toList]; omega,fun j u c g1 g2=>?_⟩
    ·rw [jR] at hu;split at hu
     ·rw [add_lit,cell_of_row w _ _ vals ty (0,0) q1]; simpa using hu
     ·cases hu
    ·rw [jR] at g1;split at g1
     ·rename_i hj;rw [c3 j hj] at g2;exact q3 (off+j) u c (by simpa using g1) g2
     ·cases g1
  ·cases hp
 | dat d=>exact srcV_ok (P:=P) hH h (by
   cases d with
   | lst es'=>simp only [copied] at hp; simp only [sourceOf,appended]; exact hp
   | _=>cases hp) hcell
 | vec t es'=>exact srcV_ok (P:=P) hH h (by simp only [copied] at hp; simp only [sourceOf,appended]; exact hp) hcell
 | ms t gg lo len cap=>exact srcV_ok (P:=P) hH h hp hcell
 | _=>cases hp

theorem copy_ok {x y:Operand} {ts:Array TypeId} {t e:TypeId} {i off len cap:Nat} {cs es ds:List PV} (ho:o.op=.call { callee:=.builtin .copy,args:=#[x,y],argTypes:=ts }) (ht:ts[0]? = some t) (he:elemOfSlice P t=some e) (hs:szOf P e=some 1)
  (hx:ρ x=.arr i off len cap) (hb:H[i]? = some (.box cs)) (hy:copied H (ρ y)=some es) (hc:es.all PV.cell=true) (hp:paste cs off (es.take (min es.length len))=some ds)
  (hH:Ql P g B0 H.length H w) (hi:Inv B0 w0 S0 g w) (hρ:∀ x,RepV g H.length w (a.eval x) (ρ x)) :
  ∃ v g' w',OpRes P o a w v w'∧Good P B0 w0 S0 H g w (Qd ((min es.length len:Nat):Int)) (H.set i (.box ds)) v g' w':=by
 obtain ⟨p1,p2⟩:=paste_some hp;obtain ⟨news,src⟩:=copied_ok (P:=P) hH (hρ y) hy hc;have hone:=src.one hc;have hr:=hρ x;rw [hx] at hr;generalize hv:a.eval x=v at hr;generalize hn:min es.length len=n at *;have hnl:(es.take n).length=n:=by simp; omega
 rw [hnl] at p1;cases hr with
 | arr _ _ _ _ hio hcap =>
  obtain ⟨hio,hil⟩:=hio;obtain ⟨q1,⟨vals,ty,k1,k2,k3⟩,q3⟩:=hH.box i cs hb;have hnews:news.length=es.length:=src.len;have hst:=run_storeCells_at P (g.blk i) off ty (news.take n) 0 vals w k1 (by simp only [zT]; omega) (fun u hu=>hone u (zP hu));simp only [zV] at hst;have hntl:(news.take n).length=n:=by simp; omega
  generalize hnew:(vals.toList.take off++news.take n++vals.toList.drop (off+(news.take n).length))=new at hst
  have hget:∀ j,new[j]? = if j < off then vals[j]? else if j < off+n then (news.take n)[j - off]? else vals[j]?:=fun j=>by
   rw [← hnew,pasted_get _ _ _ (by rw [hntl]; simp; omega),hntl]; simp
  have hds:∀ j,ds[j]? = if j < off then cs[j]? else if j < off+n then (es.take n)[j - off]? else cs[j]?:=fun j=>by
   rw [p2,pasted_get _ _ _ (by rw [hnl]; exact p1),hnl]
  have hheap:(w.setRow (g.blk i) new.toArray).heap[g.blk i]? = some (.cells new.toArray ty (0,0)):=setRow_heap w _ _ _ _ _ k1
  have hext:Ext H.length g w g (w.setRow (g.blk i) new.toArray):=⟨fun _ _ h=>h,fun b o' hs=>cell_setRow_other w _ _ _ (fun e=>by
   simp only at e; subst e; exact q3 o' hs),fun _ _ h=>⟨rfl,h⟩,fun _ _ v n h=>⟨v,n,h,j7 _,fun _=>rfl⟩⟩
  have hfc:∃ m,(Builtin.lenOf (a.eval y)).run P w=.ok m w∧Nat.min m len=n∧(Builtin.firstCells 1 n (a.eval y)).run P w=.ok (news.take n).toArray w:=by
   rcases src.shape with ⟨h1,h2⟩|⟨ad,c,h1,h2⟩
   ·subst h2;refine ⟨0,by rw [h1]; rfl,by simp at hn; simp [← hn],?_⟩
    have:n=0:=by simp at hn; omega
    subst this;rw [h1]; simp [Builtin.firstCells]
   ·refine ⟨es.length,by rw [h1]; rfl,hn,?_⟩;rw [h1];simp only [Builtin.firstCells,Nat.mul_one]
    have hl:=run_loadCells_list (P:=P) w ad (news.take n) (fun j u hu=>by
     rw [jR] at hu;split at hu
     ·exact h2 j u hu
     ·cases hu)
    rw [hntl] at hl;exact hl
  obtain ⟨m,f1,f2,f3⟩:=hfc;refine ⟨.int .i64 n,g,_,.inl ?_,hext,by simp,.dat _ _ (.raw _ rfl),?_,⟨?_,by simp; exact hi.size,hi.old,fun b o' hs=>by simp; exact hi.lt b o' hs⟩,⟨by simp,fun b _ hn=>setRow_other w _ _ _ (fun e=>hn i (by rw [occ_box hb,e])),fun j b hj _=>?_,fun b o h=>.inl h⟩⟩
  ·simp only [execOp,ho];simp [resolve,invoke,builtin,Builtin.copy_,ht,run_underlying (Qx he),hv,f1,f2,run_szOf hs,f3,hst,goInt]
  ·refine hH.turn hext y7 (j7 _) _ hio (fun j b hj hb'=>setRow_other w _ _ _ (fun e=>hj (hH.sep j i b hb' (by rw [occ_box hb,e]))))
    (fun _ _ _ _ _ h=>h) (fun _ _ _=>rfl) (fun cs' hc=>?_) (fun _ _ h=>by cases h) (fun j b hj hb' h=>?_)
   ·cases hc;refine ⟨q1,⟨new.toArray,ty,hheap,?_,fun j u c g1 g2=>?_⟩,q3⟩
    ·rw [p2,← hnew]; simp only [List.size_toArray,jV,zT,zZ,Array.length_toList]; omega
    ·simp only [List.getElem?_toArray] at g1;rw [hget] at g1; rw [hds] at g2;split at g1
     ·rename_i h; rw [if_pos h] at g2; exact (k3 j u c g1 g2).ext hext y7
     ·rename_i h; rw [if_neg h] at g2;split at g1
      ·rename_i h'; rw [if_pos h'] at g2;rw [jR] at g1 g2;split at g1
       ·rename_i h2; rw [if_pos h2] at g2;exact (src.rep _ u c g1 g2).ext hext y7
       ·cases g1
      ·rename_i h'; rw [if_neg h'] at g2; exact (k3 j u c g1 g2).ext hext y7
   ·rw [occ_box (cs:=ds) (by simp [hio])] at h;cases h;exact hj (hH.sep j i _ hb' (occ_box hb))
  ·exact below_setRow hi.below q1 _
  ·rcases occ_set hio hj with ⟨_,h⟩|⟨_,⟨cs',_,rfl⟩|⟨e,n,h,_⟩⟩
   ·exact ⟨j,h⟩
   ·exact ⟨i,occ_box hb⟩
   ·cases h

theorem empty_ms {tt te len lo cap:Nat} {cs:List PV} {v:Value} (hm:mtOf H tt=some (te,0,cs)) (hlo:lo=0) (hlen:len=0) (hH:Ql P g B0 H.length H w) (hr:RepV g H.length w v (.ms tt 0 lo len cap)) :
  (∃ ad,v=.slice ad 0 0)∧∃ v0,g.own tt=some (v0,0):=by
 subst hlo hlen;cases hr with
 | ms _ _ _ _ _ _ v0 m k1 k2 k3 k4 k5 =>
  obtain ⟨v1,j1,j2⟩:=hH.mt tt _ _ _ (QH hm);obtain ⟨v2,j3,j4⟩:=hH.mt0 tt _ _ (QH hm);simp only at j1 j2 j3 j4;have hown:=k2;rw [k2] at j1 j3;simp only [j9,jI] at j1 j3;obtain ⟨rfl,rfl⟩:=j1;obtain ⟨rfl,_⟩:=j3;obtain ⟨hv,_⟩:=k4 rfl;refine ⟨?_,_,hown⟩;rcases j2 with ⟨_,rfl|⟨a,rfl⟩⟩|⟨b,l,cap',cur,rfl,q0,q1,q2,q3,q4,q5,q6,q7,q8⟩|hmul
  ·exact ⟨none,hv⟩
  ·exact ⟨some (a.add 0),by rw [hv]; rfl⟩
  ·simp [mtBlock] at j4; omega
  ·exact absurd j4 hmul.pos

theorem cap_ok {x:Operand} {ts:Array TypeId} {t u:TypeId} {tt te lo len cap:Nat} {cs:List PV} (ho:o.op=.call { callee:=.builtin .cap,args:=#[x],argTypes:=ts }) (ht:ts[0]? = some t) (hu:P.underlying t=some (.slice u))
  (hx:ρ x=.ms tt 0 lo len cap) (hm:mtOf H tt=some (te,0,cs)) (hlo:lo=0) (hlen:len=0) (hH:Ql P g B0 H.length H w) (hi:Inv B0 w0 S0 g w) (hρ:∀ x,RepV g H.length w (a.eval x) (ρ x)) :
  ∃ v g' w',OpRes P o a w v w'∧Good P B0 w0 S0 H g w (Qd 0) H v g' w':=by
 have hr:=hρ x;rw [hx] at hr;obtain ⟨⟨ad,hv⟩,_⟩:=empty_ms hm hlo hlen hH hr;refine ⟨.int .i64 0,g,w,.inl ?_,.same hH hi (.dat _ _ (.raw _ rfl))⟩;simp [execOp,ho,resolve,invoke,builtin,Builtin.cap_,ht,run_underlying hu,hv,goInt]

theorem run_append_some_zeros (w:World) (t tn ty e:TypeId) (i:TypeInfo) (z:Value) (k kn:IntKind) (ht:P.underlying t=some (.slice e)) (htn:P.underlying tn=some (.int kn)) (hi:P.info? e=some i) (hz:i.zero=some z)
  (ad:Option Addr) (n:Nat) (h0:0 < n) (hs:0 < i.size) (h63:(n:Int)≤9223372036854775807) (h48:n * i.bytes≤281474976710656) :
  (Builtin.append_ #[t,tn] ty #[.slice ad 0 0,.int k n]).run P w =
   .ok (.slice (some ⟨w.heap.size,0,none⟩) n (grownCap w n 0 e)) (w.drew.alloc (.cells (Builtin.zeroCells z.cells n++Builtin.zeroCells z.cells (grownCap w n 0 e - n)) e)):=by
 cases ad with
 | none=>exact Lib.run_append_nil_zeros w t tn ty e i z k kn ht htn hi hz n h0 hs h63 h48
 | some ad =>
  have hn:n≠0:=by omega
  have hw:IntKind.i64.wrap (n:Int)=n:=by rw [IntKind.wrap_i64]; omega
  have h63':¬ (9223372036854775807 < (n:Int)):=by omega
  have h48':¬ (281474976710656 < Builtin.nextslicecap n 0 * i.bytes):=by rw [nextslicecap_zero h0]; omega
  have h48i:¬ (281474976710656 < (n:Int) * (i.bytes:Int)):=by
   rw [← Int.natCast_mul];omega
  have hneg:¬ ((n:Int) < 0):=by omega
  have hns:¬ (n * i.size=0):=Nat.mul_ne_zero hn y5;simp [Builtin.append_,run_underlying ht,run_underlying htn,sizeOf,typeInfo,zeroValue,hi,hz,asInt,asIntOf,hw,hn,hneg,hns,h63',h48',h48i,Question.forced,Builtin.firstCells,loadCells,loadCellsFrom,newRow,grownCap]

theorem append_zeros_ok {e bytes tt lo len cap:Nat} {n:Nat} {k kn:IntKind} {x s:Operand} {ts tn:TypeId} {z:Dat} {te:Nat} {cs:List PV} (ho:o.op=.call { callee:=.builtin .append,args:=#[s,x],argTypes:=#[ts,tn] })
  (hty:elemOfSlice P ts=some e) (htn:P.underlying tn=some (.int kn)) (hs:szOf P e=some 1) (hb:bytesOf P e=some bytes) (hz:zeroOf P e=some z) (hzc:z.isCell=true) (h0b:0 < bytes)
  (hsv:ρ s=.ms tt 0 lo len cap) (hxv:ρ x=.dat (.raw (.int k (n:Int)))) (hm:mtOf H tt=some (te,0,cs)) (hte:te=e) (hcs:cs=[]) (hlo:lo=0) (hlen:len=0) (h0:0 < n) (hroom:n * bytes≤room)
  (hH:Ql P g B0 H.length H w) (hi:Inv B0 w0 S0 g w) (hρ:∀ x,RepV g H.length w (a.eval x) (ρ x)) :
  ∃ v g' w',OpRes P o a w v w'∧Good P B0 w0 S0 H g w (.ms tt 1 0 n n) (H.set tt (.mt e 1 (List.replicate n (.dat z)))) v g' w':=by
 subst hte hcs;obtain ⟨ie,zv,i1,i2,i3,_⟩:=zeroOf_ok hz;have hsz:ie.size=1:=by simp only [szOf,i1,jN,j9] at hs; exact hs
 have hby:ie.bytes=bytes:=by simp only [bytesOf,i1,jN,j9] at hb; exact hb
 have hzr:RepV g H.length w zv (.dat z):=.dat _ _ (i3 w g.S);have hcell:(PV.dat z).cell=true:=by cases z <;> first|rfl|(simp [Dat.isCell] at hzc)
 obtain ⟨y1,_⟩:=cell_one hzr hcell;have hr:=hρ s;rw [hsv] at hr;obtain ⟨⟨ad,hv⟩,v0,hown⟩:=empty_ms hm hlo hlen hH hr;have hx:=int_rep (by rw [← hxv]; exact hρ x);have hlb:n≤room:=jW (Nat.le_mul_of_pos_right _ h0b) hroom;have hmax:n≤maxLen:=by simp only [room] at hlb; simp only [maxLen]; omega
 have hrun:=run_append_some_zeros (P:=P) w ts tn o.type te ie zv k kn (Qx hty) htn i1 i2 ad n h0 (by rw [hsz]; decide) (by simp only [room] at hlb; omega) (by rw [hby]; simp only [room] at hroom; omega);have hge:=grownCap_ge w n 0 te;have hcm:=grownCap_le_maxLen w n 0 te hmax
 have hzl:∀ m,(Builtin.zeroCells zv.cells m).toList=List.replicate m zv:=fun m=>by
  rw [y1];simp [Builtin.zeroCells];apply List.ext_getElem
  ·simp
  ·intro i h1 h2;simp [Nat.mod_one]
 obtain ⟨g',hg⟩:=mt_new (P:=P) (S0:=S0) (w0:=w0) (cs:=[]) (es:=List.replicate n (PV.dat z)) (olds:=[]) (news:=List.replicate n zv) (zs:=Builtin.zeroCells zv.cells (grownCap w n 0 te - n)) (cap:=grownCap w n 0 te) (QH hm) hown hs (by simpa using hge) rfl (by rw [j8]; intro x hx; rw [List.eq_of_mem_replicate hx]; exact flat_of_cell hcell) hcm (by simpa using h0) rfl y7
  (by simp [size_zeroCells,y1]) (fun j u c h=>by simp at h) (fun j u c g1 g2=>by
   rw [List.eq_of_mem_replicate (jF g1),List.eq_of_mem_replicate (jF g2)]; exact hzr) hH hi (Builtin.zeroCells zv.cells n++Builtin.zeroCells zv.cells (grownCap w n 0 te - n)) (by
   have:Builtin.zeroCells zv.cells n=(List.replicate n zv).toArray:=by rw [← hzl n]
   rw [this]; simp)
 simp only [jL,zW,jQ,zH] at hg;exact ⟨_,g',_,.inl (by simp [execOp,ho,resolve,invoke,builtin,hv,hx,hrun]),hg⟩

def Gh.give0 (g:Gh) (H:List Blk) (t n m:Nat):Gh:={ g with S:=fun b o=>g.S b o∨(occ g H t=some b∧o < m),own:=fun j=>if j=t then some (.slice none 0 0,n+1) else g.own j }
theorem give_ok {te:TypeId} {cs:List PV} {t n:Nat} (hb:H[t]? = some (.mt te n cs)) (hH:Ql P g B0 H.length H w) (hi:Inv B0 w0 S0 g w) :
  Ext H.length g w (g.give0 H t n (mtLen cs)) w∧Ql P (g.give0 H t n (mtLen cs)) B0 H.length (H.set t (.mt te (n+1) [])) w∧Inv B0 w0 S0 (g.give0 H t n (mtLen cs)) w∧Fr g H w (g.give0 H t n (mtLen cs)) (H.set t (.mt te (n+1) [])) w:=by
 have hlt:t < H.length:=(List.getElem?_eq_some_iff.1 hb).1;obtain ⟨v1,k1,_⟩:=hH.mt t _ _ _ hb;have hown:(g.give0 H t n (mtLen cs)).own t=some (.slice none 0 0,n+1):=by simp [Gh.give0]
 have he:Ext H.length g w (g.give0 H t n (mtLen cs)) w:=⟨fun _ _ h=>.inl h,fun _ _ _=>rfl,fun _ _ h=>⟨rfl,h⟩,fun j _ v m h=>by
  by_cases e:j=t
  ·subst e;rw [k1] at h;cases h;exact ⟨_,_,hown,by omega,fun h=>by omega⟩
  ·exact ⟨v,m,by simpa [Gh.give0,e] using h,j7 _,fun _=>rfl⟩⟩
 have hocc:∀ b,occ (g.give0 H t n (mtLen cs)) (H.set t (.mt te (n+1) [])) t≠some b:=fun b h=>by
  rw [occ_mt (e:=te) (n:=n+1) (cs:=[]) (by simp [hlt]),hown] at h;simp [mtBlock] at h
 refine ⟨he,?_,⟨hi.below,hi.size,fun b o h=>?_,fun b o h=>?_⟩,⟨j7 _,fun _ _ _=>rfl,fun i b hi' _=>?_,fun b o h=>?_⟩⟩
 ·refine hH.turn he (j7 _) (j7 _) _ hlt (fun _ _ _ _=>rfl) (fun i b hik hb' o h=>?_) (fun j _ hj=>by simp [Gh.give0,hj]) (fun cs' hc=>by cases hc) (fun _ _ h=>by cases h) (fun i b hik hb' h=>hocc b h) (fun e' n' cs' hc=>?_)
  ·rcases h with h|⟨h,_⟩
   ·exact h
   ·exact absurd (hH.sep i t b hb' h) hik
  ·cases hc;exact ⟨_,hown,.inl ⟨rfl,.inl rfl⟩⟩
 ·rcases h with h|⟨h,_⟩
  ·exact hi.old b o h
  ·exact .inr (hH.occ_lt h).1
 ·rcases h with h|⟨h,_⟩
  ·exact hi.lt b o h
  ·exact (hH.occ_lt h).2.1
 ·by_cases e:i=t
  ·subst e; exact absurd hi' (hocc b)
  ·refine ⟨i,?_⟩;unfold occ at hi' ⊢;rw [List.getElem?_set_ne (fun h=>e h.symm)] at hi'
   simpa [Gh.give0,e] using hi'
 ·rcases h with h|⟨h,_⟩
  ·exact .inl h
  ·exact .inr (.inr ⟨t,h⟩)
theorem give_rep {t gg lo len cp:Nat} {v:Value} {te:TypeId} {cs:List PV} {d:Dat} (hb:H[t]? = some (.mt te gg cs)) (hH:Ql P g B0 H.length H w) (hr:RepV g H.length w v (.ms t gg lo len cp)) (hd:pureC H (.ms t gg lo len cp)=some d) :
  RepD w (g.give0 H t gg (mtLen cs)).S v d:=by
 have he:∀ b o,g.S b o→(g.give0 H t gg (mtLen cs)).S b o:=fun _ _ h=>.inl h
 have hex:Ext 0 g w (g.give0 H t gg (mtLen cs)) w:=⟨he,fun _ _ _=>rfl,fun _ h=>absurd h (Nat.not_lt_zero _),fun _ h=>absurd h (Nat.not_lt_zero _)⟩;cases hr with
 | ms t gg lo len cp v v0 n h1 h2 h3 h4 h5 =>
  have hm9:mtOf H t=some (te,gg,cs):=by simp [mtOf,hb,Blk.mtOf]
  simp only [pureC,hm9,if_true] at hd;rw [jK] at hd;obtain ⟨ds,hcut,hd⟩:=hd;split at hd
  ·rename_i hev;cases hd;obtain ⟨v1,k1,k2⟩:=hH.mt t _ _ _ hb;rw [h2] at k1;simp only [j9,jI] at k1;obtain ⟨rfl,rfl⟩:=k1;exact mt_read k2 (h4 rfl).1 hcut hev (by obtain ⟨a,c,e1,_,e2,_⟩:=h5; exact ⟨a,c,e1,e2⟩) he (fun b o hb' ho=>.inr ⟨by rw [occ_mt hb,h2]; exact hb',ho⟩)
  ·cases hd
theorem consume_ok:∀ (cs:List PV) (vs:List Value) (g:Gh) (H:List Blk) (ds:List Dat) (H':List Blk),Ql P g B0 H.length H w→Inv B0 w0 S0 g w→(∀ (j:Nat) v c,vs[j]? = some v→cs[j]? = some c→RepV g H.length w v c)→consumeL H cs=some (ds,H') →
  ∃ g',H'.length=H.length∧Ext H.length g w g' w∧Ql P g' B0 H.length H' w∧Inv B0 w0 S0 g' w∧Fr g H w g' H' w∧ds.length=cs.length∧∀ (j:Nat) v d,vs[j]? = some v→ds[j]? = some d→RepD w g'.S v d
 | [],vs,g,H,ds,H',hH,hi,hr,h=>by
  simp only [consumeL,j9,jI] at h;obtain ⟨rfl,rfl⟩:=h;exact ⟨g,rfl,Ext.refl _ _ _,hH,hi,Fr.refl _ _ _,rfl,fun j v d _ h=>by simp at h⟩
 | c::cs,vs,g,H,ds,H',hH,hi,hr,h=>by
  simp only [consumeL] at h;cases h1:consume1 H c with
  | none=>rw [h1] at h; cases h
  | some x =>
   obtain ⟨d,H1⟩:=x;rw [h1] at h;simp only at h;cases h2:consumeL H1 cs with
   | none=>rw [h2] at h; cases h
   | some y =>
    obtain ⟨ds',H2⟩:=y;rw [h2] at h;simp only [j9,jI] at h;obtain ⟨rfl,rfl⟩:=h
    have key:∃ g1,H1.length=H.length∧Ext H.length g w g1 w∧Ql P g1 B0 H.length H1 w∧Inv B0 w0 S0 g1 w∧Fr g H w g1 H1 w∧∀ v,RepV g H.length w v c→RepD w g1.S v d:=by
     cases c with
     | dat d0 =>
      simp only [consume1,j9,jI] at h1;obtain ⟨rfl,rfl⟩:=h1;exact ⟨g,rfl,Ext.refl _ _ _,hH,hi,Fr.refl _ _ _,fun v hv=>hv.datInv⟩
     | vec t es =>
      simp only [consume1,j9,jI] at h1;obtain ⟨rfl,rfl⟩:=h1;exact ⟨g,rfl,Ext.refl _ _ _,hH,hi,Fr.refl _ _ _,fun v hv=>by cases hv; assumption⟩
     | ms t gg lo len cp =>
      simp only [consume1] at h1;cases hp:pureC H (.ms t gg lo len cp) with
      | none=>rw [hp] at h1; cases h1
      | some d0 =>
       cases hm:mtOf H t with
       | none=>rw [hp,hm] at h1; cases h1
       | some z =>
        obtain ⟨te,g',cs0⟩:=z;rw [hp,hm] at h1;simp only [j9,jI] at h1;obtain ⟨rfl,rfl⟩:=h1
        have hgg:g'=gg:=by
         simp only [pureC,hm] at hp;split at hp
         ·assumption
         ·cases hp
        subst hgg;obtain ⟨k1,k2,k3,k4⟩:=give_ok (QH hm) hH hi;exact ⟨_,by simp,k1,k2,k3,k4,fun v hv=>give_rep (QH hm) hH hv hp⟩
     | _=>simp [consume1] at h1
    obtain ⟨g1,l1,e1,hH1,hi1,f1,r1⟩:=key
    obtain ⟨g2,l2,e2,hH2,hi2,f2,l3,r2⟩:=consume_ok cs vs.tail g1 H1 ds' H2 (by rw [l1]; exact hH1) hi1 (fun j v c' hv hc=>by
     have:=hr (j+1) v c' (by rw [List.getElem?_tail] at hv; exact hv) (by simpa using hc);rw [l1];exact this.ext e1 (j7 _)) h2
    rw [l1] at l2 e2 hH2;refine ⟨g2,l2,e1.trans e2 (j7 _),hH2,hi2,f1.trans f2,by simp [l3],fun j v d' hv hd=>?_⟩;cases j with
    | zero =>
     simp at hd;subst hd;exact (r1 v (hr 0 v c hv rfl)).ext e2
    | succ j=>exact r2 j v d' (by rw [List.getElem?_tail]; exact hv) (by simpa using hd)
end
end Go.Pm
