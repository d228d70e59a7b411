/-
 The pure machine: soundness of one operation that calls no Go function.
-/
import Derived.Test.YtjcfpjpdopfefaaGreatPmArr
namespace Go.Pm
open Go Go.RowKit
set_option linter.unusedVariables false
section
variable {P:Program} {B0 N:Nat} {w0:World} {S0:Nat→Nat→Prop} {g:Gh} {H H':List Blk} {w:World} {p:PV} {o:Oper} {a:Act} {ρ:Operand→PV}

def Done (P:Program) (B0:Nat) (w0:World) (S0:Nat→Nat→Prop) (H:List Blk) (g:Gh) (w:World) (o:Oper) (a:Act) (p:PV) (H':List Blk):Prop :=
 ∃ v g' w',OpRes P o a w v w'∧Good P B0 w0 S0 H g w p H' v g' w'

theorem plain_done (hs:∀ cs b,o.op≠.select cs b) (hH:Ql P g B0 H.length H w) (hi:Inv B0 w0 S0 g w) (hρ:∀ x,RepV g H.length w (a.eval x) (ρ x)) (h:plainSem P o ρ H=some (p,H')) :
  Done P B0 w0 S0 H g w o a p H':=by
 obtain ⟨v,h1,h2,rfl⟩:=plain_sound hs hρ h;exact ⟨v,g,w,h1,.same hH hi h2⟩

theorem builtin_done {b:Builtin} {args:Array Operand} {ts:Array TypeId} (ho:o.op=.call { callee:=.builtin b,args,argTypes:=ts }) (hH:Ql P g B0 H.length H w) (hi:Inv B0 w0 S0 g w)
  (hρ:∀ x,RepV g H.length w (a.eval x) (ρ x)) (h:builtinSem P b ts (args.toList.map ρ) H=some (p,H')):Done P B0 w0 S0 H g w o a p H':=by
 unfold builtinSem at h;split at h
 ·rename_i x hx
  obtain ⟨y,rfl,rfl⟩:∃ y,args=#[y]∧x=ρ y:=by
   obtain ⟨l⟩:=args
   match l,hx with
   | [y],hx=>simp at hx; exact ⟨y,rfl,hx.symm⟩
  split at h
  ·rename_i e hu;simp only [jK] at hu;obtain ⟨t,ht,hu⟩:=hu;split at h
   ·rename_i n hn;cases h;obtain ⟨ad,cap,hv⟩:=lenPV_rep (hρ y) hn;exact ⟨.int .i64 n,g,w,.inl (by simp [execOp,ho,resolve,invoke,builtin,Builtin.len_,ht,run_underlying hu,hv,goInt]),.same hH hi (.dat _ _ (.raw _ rfl))⟩
   ·cases h
  ·rename_i kt et hu;simp only [jK] at hu;obtain ⟨t,ht,hu⟩:=hu;split at h
   ·rename_i i hx2;split at h
    ·rename_i es hes;cases h;exact len_map_ok ho ht hu hx2 hes hH hi hρ
    ·cases h
   ·cases h
  ·cases h
 ·rename_i i off len cap x hx;obtain ⟨s',x',rfl,hsv,rfl⟩:=args_two hx;replace hsv:=hsv.symm;split at h
  ·rename_i e hte;simp only [jK] at hte;obtain ⟨t,ht,he⟩:=hte;split at h
   ·rename_i hs1;split at h
    ·rename_i cs es hb hes;split at h
     ·rename_i hall;simp only [j5] at h;obtain ⟨ds,hp,h⟩:=h;cases h;exact copy_ok ho ht he hs1 hsv hb hes hall hp hH hi hρ
     ·cases h
    ·cases h
   ·cases h
  ·cases h
 ·rename_i tt gg lo len cap hx;obtain ⟨s',rfl,hsv⟩:=args_one hx;replace hsv:=hsv.symm;split at h
  ·rename_i u hu;simp only [jK] at hu;obtain ⟨t,ht,hu⟩:=hu;split at h
   ·rename_i te g' cs hm;split at h
    ·rename_i hc;obtain ⟨rfl,rfl,rfl,c1,c2⟩:=hc;cases h;exact cap_ok ho ht hu hsv hm c1 c2 hH hi hρ
    ·cases h
   ·cases h
  ·cases h
 ·rename_i tt gg lo len cap k n hx;obtain ⟨s',x',rfl,hsv,hxv⟩:=args_two hx;replace hsv:=hsv.symm;replace hxv:=hxv.symm;split at h
  ·rename_i t t' ht;have hts:ts=#[t,t']:=by apply Array.ext'; exact ht
   subst hts;split at h
   ·rename_i e kn he htn;split at h
    ·rename_i bytes z hb hz;split at h
     ·rename_i hc;obtain ⟨c1,c2,c3,c4⟩:=hc;obtain ⟨n,rfl⟩:=z7 c3;unfold appendZeros at h;split at h
      ·rename_i te g' cs hm;split at h
       ·rename_i hc2;obtain ⟨rfl,rfl,rfl,rfl,d4,d5,d6,d7,d8⟩:=hc2;cases h;simp only [Int.toNat_natCast] at d6 d7 ⊢;exact append_zeros_ok ho he htn c1 hb hz d8 c2 hsv hxv hm rfl rfl d4 d5 d6 d7 hH hi hρ
       ·cases h
      ·cases h
     ·cases h
    ·cases h
   ·cases h
  ·cases h
 ·rename_i tt gg lo len cap x hx;obtain ⟨s',x',rfl,hsv,rfl⟩:=args_two hx;replace hsv:=hsv.symm;split at h
  ·rename_i t t' ht;split at h
   ·rename_i e he;split at h
    ·rename_i bytes es hb hes;split at h
     ·rename_i hc;obtain ⟨c1,c2,rfl,c4⟩:=hc;have hts:ts=#[t',t']:=by apply Array.ext'; exact ht
      subst hts;exact append_ms_ok ho he c1 hb c4 c2 hsv hes h hH hi hρ
     ·split at h
      ·rename_i hc;obtain ⟨c1,rfl,rfl,c4⟩:=hc;have hts:ts=#[t',t']:=by apply Array.ext'; exact ht
       subst hts;obtain rfl:es=[]:=by simpa using c1
       obtain ⟨size,hs⟩:=Option.isSome_iff_exists.1 c4;cases h;exact append_empty_ok ho he hs hsv hes hH hi hρ
      ·cases h
    ·rename_i bytes hb hes;split at h
     ·rename_i size hs;split at h
      ·rename_i hc;obtain ⟨c2,rfl,c4⟩:=hc;have hts:ts=#[t',t']:=by apply Array.ext'; exact ht
       subst hts;exact append_mul_ok ho he hs hb c4 c2 hsv h hH hi hρ
      ·cases h
     ·cases h
    ·cases h
   ·cases h
  ·cases h
 ·rename_i i off es hx;obtain ⟨s',x',rfl,hsv,hxv⟩:=args_two hx;replace hsv:=hsv.symm;replace hxv:=hxv.symm;split at h
  ·rename_i t t' ht;split at h
   ·rename_i e he;split at h
    ·rename_i bytes hb;split at h
     ·rename_i hc;obtain ⟨c1,c2,rfl,c4⟩:=hc;have hts:ts=#[t',t']:=by apply Array.ext'; exact ht
      subst hts;exact append_new_ok ho he c1 hb c4 c2 hsv hxv h hH hi hρ
     ·cases h
    ·cases h
   ·cases h
  ·cases h
 ·rename_i s x hms0 hms hms1 hx;obtain ⟨s',x',rfl,rfl,rfl⟩:=args_two hx;split at h
  ·rename_i t t' ht;split at h
   ·rename_i e he;split at h
    ·rename_i size bytes es hs hb hes;split at h
     ·rename_i hc;obtain ⟨c1,c2,rfl,c4⟩:=hc;obtain ⟨z,hz,c4'⟩:=Option.map_eq_some_iff.1 c4;have hts:ts=#[t',t']:=by apply Array.ext'; exact ht
      subst hts;unfold appendTo at h;split at h
      ·rename_i hfe;split at h
       ·rename_i t xs hsv;split at h
        ·rename_i e'' n htk;split at h
         ·rename_i hc';obtain ⟨d1,rfl,rfl,d4⟩:=hc';cases h;exact append_ok ho he hs hb hz c4' c1 c2 hsv hes d1 hfe htk rfl d4 hH hi hρ
         ·cases h
        ·cases h
       ·cases h
      ·cases h
     ·cases h
    ·cases h
   ·cases h
  ·cases h
 ·rename_i tt gg lo len cap hx;obtain ⟨s',rfl,hsv⟩:=args_one hx;replace hsv:=hsv.symm;split at h
  ·rename_i t ht;have hts:ts=#[t]:=by apply Array.ext'; exact ht
   subst hts;split at h
   ·rename_i e he;split at h
    ·rename_i z te g' cs hz hm;split at h
     ·rename_i hc;obtain ⟨rfl,rfl,c1,c2,c3,c4⟩:=hc;cases h;exact clear_ms_ok ho he c2 hz c1 hsv hm rfl c3 c4 hH hi hρ
     ·cases h
    ·cases h
   ·cases h
  ·cases h
 ·rename_i i off len cap hx;obtain ⟨s',rfl,hsv⟩:=args_one hx;replace hsv:=hsv.symm;split at h
  ·rename_i t ht;have hts:ts=#[t]:=by apply Array.ext'; exact ht
   subst hts;split at h
   ·rename_i e he;split at h
    ·rename_i z size cs hz hs hb;split at h
     ·rename_i hc;obtain ⟨c1,c2,c3⟩:=hc;cases h;exact clear_arr_ok ho he hz c3 hsv hb c1 c2 hH hi hρ
     ·cases h
    ·cases h
   ·cases h
  ·cases h
 ·rename_i hx;obtain ⟨s',rfl,hsv⟩:=args_one hx;replace hsv:=hsv.symm;split at h
  ·rename_i t ht;have hts:ts=#[t]:=by apply Array.ext'; exact ht
   subst hts;split at h
   ·rename_i he;cases h;exact clear_nil_ok ho he hsv hH hi hρ
   ·cases h
  ·cases h
 ·cases h

theorem ptrNil_run {op:BinOp} {t yt:TypeId} {x y:Operand} {b:Bool} {v:Addr} (hb:(match P.underlying t with
   | some (.pointer _)=>match op with|.eql=>some false|.neq=>some true|_=>none
   | _=>none)=some b) (ho:o.op=.binOp op t x y yt) (hvx:a.eval x=.pointer (some v)) (hvy:a.eval y=.pointer none):(execOp a.eval o).run P w=.ok (.value (.bool b)) w:=by
 split at hb
 ·rename_i e hu;have he0:∀ d,(Op.equalIn (d+1) t (.pointer (some v)) (.pointer none)).run P w=.ok false w:=fun d=>by simp [Op.equalIn,run_underlying hu]
  have he:=he0 9999;cases op <;> first|(cases hb; done)|(cases hb; simp only [execOp,ho,hvx,hvy]; simp [binOp,eqGuard,Op.equal,Op.maxDepth,he])
 ·cases hb
theorem fnNil_run {op:BinOp} {t yt:TypeId} {x y:Operand} {b:Bool} (ho:o.op=.binOp op t x y yt) (hρ:∀ x,RepV g H.length w (a.eval x) (ρ x)) (hb:fnNil P op t (ρ x) (ρ y)=some b) :
  (execOp a.eval o).run P w=.ok (.value (.bool b)) w:=by
 have hx:=hρ x;have hy:=hρ y;unfold fnNil at hb;split at hb
 ·rename_i f cap px py;rw [px] at hx;rw [py] at hy;have hy':=hy.toVal (u:=.nilFunc) rfl;generalize hvx:a.eval x=vx at hx;cases hx with
  | fn f vs cs h1 h2 =>
   split at hb
   ·rename_i p q r hu;have he0:∀ d,(Op.equalIn (d+1) t (.func (.func f) #[] vs) .nilFunc).run P w=.ok false w:=fun d=>by simp [Op.equalIn,run_underlying hu]
    have he:=he0 9999;split at hb
    ·cases hb;simp only [execOp,ho,hvx,hy'];simp [binOp,eqGuard,Op.equal,Op.maxDepth,he]
    ·cases hb;simp only [execOp,ho,hvx,hy'];simp [binOp,eqGuard,Op.equal,Op.maxDepth,he]
    ·cases hb
   ·cases hb
 ·rename_i i o' px py;rw [px] at hx;rw [py] at hy;generalize hvx:a.eval x=vx at hx;cases hx with
  | ptr=>exact ptrNil_run hb ho hvx (hy.toVal (u:=.pointer none) rfl)
 ·rename_i cs px py;rw [px] at hx;rw [py] at hy;generalize hvx:a.eval x=vx at hx;cases hx with
  | iptr=>exact ptrNil_run hb ho hvx (hy.toVal (u:=.pointer none) rfl)
 ·cases hb

theorem load_sound {t:TypeId} {x:Operand} (ho:o.op=.load t x) (hH:Ql P g B0 H.length H w) (hi:Inv B0 w0 S0 g w)
  (hρ:∀ x,RepV g H.length w (a.eval x) (ρ x)) (h:loadSem P t (ρ x) H=some (p,H')):Done P B0 w0 S0 H g w o a p H':=by
 unfold loadSem at h;split at h
 ·rename_i ag size hg hs;split at h
  ·rename_i i off hx;split at h
   ·rename_i cs hb;simp only [j5,jK] at h;obtain ⟨q,⟨ds,hc,hd⟩,h⟩:=h;cases h; exact load_ptr_ok ho hx hb hg hs hc hd hH hi hρ
   ·cases h
  ·rename_i cs hx;simp only [j5,jK] at h;obtain ⟨q,⟨ds,hc,hd⟩,h⟩:=h;cases h; exact load_iptr_ok ho hx hg hs hc hd hH hi hρ
  ·rename_i tt gg j hx;split at h
   ·rename_i te g' cs hb;split at h
    ·rename_i hc;obtain ⟨rfl,h1,hfl⟩:=hc;simp only [j5,jK] at h;obtain ⟨q,⟨ds,hc,hd⟩,h⟩:=h;cases h; exact load_mp_ok ho hx (QH hb) hg hs h1 (by simpa using hfl) hc hd hH hi hρ
    ·split at h
     ·rename_i hc;obtain ⟨rfl,h1,rfl,h2,h3⟩:=hc;simp only [j5] at h;obtain ⟨q,hq,h⟩:=h;cases h; exact load_mul_ok ho hx (QH hb) hg hs h1 h2 h3 hq hH hi hρ
     ·cases h
   ·cases h
  ·cases h
 ·cases h
theorem load_use {t:TypeId} {x:Operand} {cs:List PV} {H1:List Blk} {ds:List Dat} (ho:o.op=.load t x) (hH:Ql P g B0 H.length H w) (hi:Inv B0 w0 S0 g w)
  (hρ:∀ x,RepV g H.length w (a.eval x) (ρ x)) (h:loadSem P t (ρ x) H=some (.agg cs,H1)) (hc:consumeL H1 cs=some (ds,H')):Done P B0 w0 S0 H g w o a (.dat (.agg ds)) H':=by
 obtain ⟨v,g1,w1,hres,hgood⟩:=load_sound ho hH hi hρ h;have hrep:=hgood.rep;cases hrep with
 | agg vs cs h1 h2 =>
  obtain ⟨g2,l2,e2,k2,i2,f2,l3,r2⟩:=consume_ok cs vs.toList g1 H1 ds H' hgood.heap hgood.inv (fun j v c hv hc=>h2 j v c (by simpa using hv) hc) hc;refine ⟨_,g2,w1,hres,⟨hgood.ext.trans e2 hgood.len,by rw [l2]; exact hgood.len,.dat _ _ (.agg vs ds y5 fun j v d hv hd=>r2 j v d (by simpa using hv) hd),by rw [l2]; exact k2,i2,hgood.fr.trans f2⟩⟩
theorem buildSem_sound {t:TypeId} {parts:Array (Nat × Operand)} {ow:List (Nat × TypeId)} (ho:o.op=.build t parts) (hH:Ql P g B0 H.length H w) (hi:Inv B0 w0 S0 g w)
  (hρ:∀ x,RepV g H.length w (a.eval x) (ρ x)) (h:buildSem P ow ρ t parts H=some (p,H')):Done P B0 w0 S0 H g w o a p H':=by
 unfold buildSem at h;split at h
 ·rename_i z pl hz hpl;split at h
  ·rename_i cs hf;split at h
   ·rename_i hall;split at h
    ·rename_i hun;split at h
     ·rename_i cs' bs ht; cases h; exact build_ok ho hz hpl hf hall hun ht hH hi hρ
     ·cases h
    ·cases h
   ·cases h
  ·cases h
 ·cases h
theorem store_sound {t:TypeId} {x y:Operand} (ho:o.op=.store t x y) (hH:Ql P g B0 H.length H w) (hi:Inv B0 w0 S0 g w)
  (hρ:∀ x,RepV g H.length w (a.eval x) (ρ x)) (h:storeSem P t (ρ x) (ρ y) H=some (p,H')):Done P B0 w0 S0 H g w o a p H':=by
 unfold storeSem at h;split at h
 ·rename_i size hs;split at h
  ·rename_i i off hx;split at h
   ·rename_i cs hb;split at h
    ·rename_i hc;simp only [j5] at h;obtain ⟨ds,hp,h⟩:=h;cases h; exact store_ok ho hx hb hs hc.1 hc.2 hp hH hi hρ
    ·cases h
   ·cases h
  ·rename_i tt gg j hx;split at h
   ·rename_i te g' cs hb;split at h
    ·rename_i hc;obtain ⟨rfl,rfl,hcell,hj⟩:=hc;cases h; exact store_mp_ok ho hx (QH hb) hs hcell (by simpa using hj) hH hi hρ
    ·split at h
     ·rename_i d hd;split at h
      ·rename_i hc;obtain ⟨rfl,h1,h2,h3,h4⟩:=hc;cases h; exact store_mul_ok ho hx hd (QH hb) hs h1 h2 h3 h4 hH hi hρ
      ·cases h
     ·cases h
   ·cases h
  ·cases h
 ·cases h
theorem Good.more {H1:List Blk} {g1:Gh} {p1:PV} {v1:Value} (h:Good P B0 w0 S0 H g w p1 H1 v1 g1 w) (k:Done P B0 w0 S0 H1 g1 w o a p H'):Done P B0 w0 S0 H g w o a p H':=by
 obtain ⟨v,g',w',h1,h2⟩:=k;exact ⟨v,g',w',h1,⟨h.ext.trans h2.ext h.len,jW h.len h2.len,h2.rep,h2.heap,h2.inv,h.fr.trans h2.fr⟩⟩
open Classical in
theorem store_own {t e:TypeId} {x:Operand} (ho:o.op=.store t x (.const (.slice none 0 0))) (hH:Ql P g B0 H.length H w) (hi:Inv B0 w0 S0 g w)
  (hρ:∀ x,RepV g H.length w (a.eval x) (ρ x)) (h:storeSem P t (ρ x) (.vec H.length []) (H++[.tok e 0])=some (p,H')):Done P B0 w0 S0 H g w o a p H':=by
 have g1:=own_nil_ok hH hi e;by_cases hx:x=.const (.slice none 0 0)
 ·exfalso
  have hr:=hρ x;have hev:a.eval x=.slice none 0 0:=by rw [hx]; rfl
  rw [hev] at hr;generalize ρ x=q at h hr;cases hr <;> first|(rename_i hp; obtain ⟨_,hp⟩:=hp; cases hp; done)|(unfold storeSem at h; split at h <;> cases h)
 ·refine g1.more (store_sound (ρ:=fun z=>if z=.const (.slice none 0 0) then .vec H.length [] else ρ z) ho g1.heap g1.inv (fun z=>?_) ?_)
  ·by_cases hz:z=.const (.slice none 0 0)
   ·simp only [hz,if_true]; exact g1.rep
   ·simp only [hz,if_false]; exact (hρ z).ext g1.ext g1.len
  ·simp only [hx,if_false,if_true]; exact h
open Classical in
theorem store_free {t:TypeId} {x y:Operand} {k:Nat} {es:List Dat} (ho:o.op=.store t x y) (hy:ρ y=.vec k es) (hH:Ql P g B0 H.length H w) (hi:Inv B0 w0 S0 g w)
  (hρ:∀ x,RepV g H.length w (a.eval x) (ρ x)) (h:storeSem P t (ρ x) (.dat (.lst es)) H=some (p,H')):Done P B0 w0 S0 H g w o a p H':=by
 by_cases hx:x=y
 ·exfalso
  subst hx;rw [hy] at h;unfold storeSem at h;split at h <;> cases h
 ·refine store_sound (ρ:=fun z=>if z=y then .dat (.lst es) else ρ z) ho hH hi (fun z=>?_) ?_
  ·by_cases hz:z=y
   ·simp only [hz,if_true];have hr:=hρ y;rw [hy] at hr;generalize a.eval y=v at hr;cases hr with
    | vec _ _ _ _ _ _ hd=>exact .dat _ _ hd
   ·simp only [hz,if_false]; exact hρ z
  ·simp only [hx,if_false,if_true]; exact h
theorem store_trim {t:TypeId} {x y:Operand} {te:TypeId} {cs:List PV} {tt gg n:Nat} (ho:o.op=.store t x y) (hb:H[tt]? = some (.mt te gg cs)) (hH:Ql P g B0 H.length H w) (hi:Inv B0 w0 S0 g w)
  (hρ:∀ x,RepV g H.length w (a.eval x) (ρ x)) (h:storeSem P t (ρ x) (ρ y) (H.set tt (.mt te gg (cs.take n)))=some (p,H')):Done P B0 w0 S0 H g w o a p H':=by
 have k:=trim_ok (n:=n) hb hH hi;exact k.more (store_sound ho k.heap k.inv (fun z=>(hρ z).ext k.ext k.len) h)
theorem sem_done {call:CallF} {ow:List (Nat × TypeId)} (hnc:∀ f args ts,o.op≠.call { callee:=.value f,args,argTypes:=ts }) (hH:Ql P g B0 H.length H w) (hi:Inv B0 w0 S0 g w)
  (hρ:∀ x,RepV g H.length w (a.eval x) (ρ x)) (h:sem P call ow o ρ H=some (p,H')):Done P B0 w0 S0 H g w o a p H':=by
 unfold sem at h;split at h
 ·rename_i x ho;obtain ⟨v,g1,w1,hres,hgood⟩:=move_ok (P:=P) (B0:=B0) (w0:=w0) (S0:=S0) x (.inl ho) hH hi hρ;split at h
  ·simp only [j5] at h;obtain ⟨⟨d,H2⟩,hc1,h⟩:=h;cases h
   obtain ⟨g2,l2,e2,k2,i2,f2,l3,r2⟩:=consume_ok [ρ x] [v] g1 H [d] H2 hgood.heap hgood.inv (fun j u c hv hc=>by
    cases j with
    | zero=>simp at hv hc; subst hv hc; exact hgood.rep
    | succ j=>simp at hv) (by simp [consumeL,hc1])
   exact ⟨_,g2,w1,hres,⟨hgood.ext.trans e2 hgood.len,by rw [l2]; exact hgood.len,.dat _ _ (r2 0 v d rfl rfl),by rw [l2]; exact k2,i2,hgood.fr.trans f2⟩⟩
  ·cases h; exact ⟨v,g1,w1,hres,hgood⟩
 ·rename_i x ho;split at h
  ·cases h; exact move_ok x (.inr ho) hH hi hρ
  ·split at h
   ·split at h
    ·cases h; exact assign_mt_ok ho hH hi
    ·cases h; exact assign_own_ok ho hH hi
   ·cases h
 ·rename_i c x y ho;simp only [j5] at h;obtain ⟨t,ht,h⟩:=h;cases h; exact pick_ok ho ht hH hi hρ
 ·rename_i t ho;split at h
  ·rename_i z hz;split at h
   ·rename_i cs bs hc; cases h; exact alloc_ok ho hz hc hH hi
   ·cases h
  ·cases h
 ·rename_i t x ho;split at h
  ·split at h
   ·rename_i hall; cases h; exact box_ok ho hall hH hi hρ
   ·cases h
  ·simp only [j5] at h;obtain ⟨ds,hds,h⟩:=h;cases h; exact box_pub_ok ho hds hH hi hρ
 ·rename_i t parts ho;split at h
  ·split at h
   ·rename_i cs H1 hb;split at h
    ·rename_i ds H2 hc;cases h;obtain ⟨v,g1,w1,hres,hgood⟩:=buildSem_sound ho hH hi hρ hb;have hrep:=hgood.rep;cases hrep with
     | agg vs cs h1 h2 =>
      obtain ⟨g2,l2,e2,k2,i2,f2,l3,r2⟩:=consume_ok cs vs.toList g1 H1 ds _ hgood.heap hgood.inv (fun j v c hv hc=>h2 j v c (by simpa using hv) hc) hc;exact ⟨_,g2,w1,hres,⟨hgood.ext.trans e2 hgood.len,by rw [l2]; exact hgood.len,.dat _ _ (.agg vs ds y5 fun j v d hv hd=>r2 j v d (by simpa using hv) hd),by rw [l2]; exact k2,i2,hgood.fr.trans f2⟩⟩
    ·cases h
   ·cases h
  ·exact buildSem_sound ho hH hi hρ h
 ·rename_i t len parts ho;split at h
  ·rename_i e he;split at h
   ·split at h
    ·rename_i size hs;split at h
     ·rename_i hc;cases h;obtain ⟨c1,c2,c3,c4,c5,c6⟩:=hc;exact buildArr_ok ho he hs c1 c2 c3 c4 c5 c6 hH hi hρ
     ·cases h
    ·cases h
   split at h
   ·rename_i hfp;split at h
    ·rename_i hc;cases h;obtain ⟨c1,c2,c3,c4,c5⟩:=hc;simp only [fnParts,jE] at hfp;exact buildFns_ok ho he c1 c2 c3 c4 c5 hfp.2.2 (fun hn=>by rw [hn] at hfp; simp at hfp) hH hi hρ
    ·cases h
   split at h
   ·rename_i size ds hs hp;split at h
    ·rename_i hc;obtain ⟨c1,c2,c3,c4,c5,c6,c7⟩:=hc;have c7':parts.toList.any (fun (_,x)=>(ρ x).lends)=false:=by simpa using c7
     split at h
     ·cases h; exact buildSlice_ok ho he hs c1 hp c2 c3 c4 c5 c6 c7' hH hi hρ
     ·split at h
      ·rename_i he';split at h
       ·split at h
        ·rename_i hem;cases h;subst he';exact buildSlice_mt_ok ho he hs c1 hp c2 c3 c4 c5 c6 c7' (by simpa using hem) hH hi hρ
        ·rename_i hem;split at h
         ·rename_i hel;cases h;exact buildSlice_mul_ok ho he hs c1 hp c2 c3 c4 c5 c6 c7' (by simpa using hem) hel hH hi hρ
         ·cases h
       ·cases h; exact buildSlice_own_ok ho he hs c1 hp c2 c3 c4 c5 c6 c7' hH hi hρ
      ·cases h
    ·cases h
   ·cases h
  ·cases h
 ·rename_i t x ho;split at h
  ·exact load_sound ho hH hi hρ h
  ·split at h
   ·rename_i cs H1 h1;simp only [j5] at h;obtain ⟨y,hy,h⟩:=h;cases h;exact load_use ho hH hi hρ h1 hy
   ·cases h
 ·rename_i t x y ho;split at h
  ·exact store_sound ho hH hi hρ h
  ·split at h
   ·exact store_own ho hH hi hρ h
   ·split at h
    ·rename_i hy; exact store_free ho hy hH hi hρ h
    ·split at h
     ·rename_i hb;split at h
      ·rename_i hg;subst hg;exact store_trim ho (QH hb) hH hi hρ h
      ·cases h
     ·cases h
    ·cases h
 ·rename_i x ho;split at h
  ·rename_i i off hx; cases h; exact nilCheck_ok ho hx (.inl ⟨_,_,rfl⟩) hH hi hρ
  ·rename_i cs hx; cases h; exact nilCheck_ok ho hx (.inr (.inl ⟨_,rfl⟩)) hH hi hρ
  ·rename_i f cap hx; cases h; exact nilCheck_ok ho hx (.inr (.inr (.inl ⟨_,_,rfl⟩))) hH hi hρ
  ·rename_i f fi cap hx; cases h; exact nilCheck_ok ho hx (.inr (.inr (.inr ⟨_,_,_,rfl⟩))) hH hi hρ
  ·cases h
 ·rename_i f first cap ho
  split at h
  ·rename_i hf;obtain rfl:first=#[]:=by simpa using hf
   split at h
   ·rename_i hc;obtain rfl:cap=#[]:=by simpa using hc
    cases h; exact makeFunc0_ok ho hH hi
   ·cases h; exact makeFunc_ok ho hH hi hρ
  ·cases h
 ·rename_i t l c ho;split at h
  ·split at h
   ·rename_i e he;split at h
    ·rename_i z bytes l' c' hz hs hb hl hc;split at h
     ·rename_i hcond;obtain ⟨c1,c2,c3,c4,c5⟩:=hcond;cases h; exact makeSlice_ok ho he hz hs hb hl hc c1 c2 c3 c4 c5 hH hi hρ
     ·cases h
    ·cases h
   ·cases h
  ·rename_i jj ee ow';by_cases h80:8000≤jj
   ·rw [if_pos h80] at h;split at h
    ·rename_i e he;split at h
     ·rename_i z bytes l' c' hz hs hb hl hc;split at h
      ·rename_i hcond;obtain ⟨c1,rfl,c3,c4,c5⟩:=hcond;cases h; exact makeSlice_pub_ok ho he hz hs hb hl hc c1 c3 c4 c5 hH hi hρ
      ·cases h
     ·cases h
    ·cases h
   rw [if_neg h80] at h;by_cases h10:jj=1000
   ·rw [if_pos h10] at h;split at h
    ·rename_i e he;split at h
     ·rename_i z size bytes l' c' hz hs hb hl hc;split at h
      ·rename_i hcond;obtain ⟨rfl,rfl⟩:=hcond;exact ownMake_ok ho he hz hs hb hl hc h hH hi hρ
      ·cases h
     ·cases h
    ·cases h
   rw [if_neg h10] at h;split at h
   ·rename_i e he;split at h
    ·rename_i z bytes l' c' hz hs hb hl hc;split at h
     ·rename_i hcond;obtain ⟨rfl,rfl,c2,c3,c4,c5⟩:=hcond;cases h; exact makeSlice_own_ok ho he hz hs hb hl hc c2 c3 c4 c5 hH hi hρ
     ·cases h
    ·cases h
   ·cases h
 ·rename_i t ho;split at h
  ·cases h; exact makeMap_ok ho hH hi
  ·cases h
 ·rename_i t x ho;split at h
  ·rename_i s hu hx;cases h; exact rangeStr_ok ho hu hx hH hi hρ
  ·cases h
 ·rename_i x ho;split at h
  ·rename_i i hx;split at h
   ·rename_i s pos hm;rw [j9,Prod.ext_iff] at h;obtain ⟨rfl,rfl⟩:=h; exact next_ok ho hx hm hH hi hρ
   ·cases h
  ·cases h
 ·rename_i t m k x ho;split at h
  ·rename_i i hm;split at h
   ·rename_i es hes;split at h
    ·rename_i kv e j v hf;cases h;exact mapUpdate_ok (.inl ho) hm (mapOf_some hes) (mapOf_keys hes) hf hH hi hρ
    ·rename_i kv e hf;cases h;exact mapUpdate_ok (.inl ho) hm (mapOf_some hes) (mapOf_keys hes) hf hH hi hρ
    ·cases h
   ·cases h
  ·cases h
 ·rename_i t m k x ho;split at h
  ·rename_i i hm;split at h
   ·rename_i es hes;split at h
    ·rename_i kv e j v hf;cases h;exact mapUpdate_ok (.inr ho) hm (mapOf_some hes) (mapOf_keys hes) hf hH hi hρ
    ·rename_i kv e hf;cases h;exact mapUpdate_ok (.inr ho) hm (mapOf_some hes) (mapOf_keys hes) hf hH hi hρ
    ·cases h
   ·cases h
  ·cases h
 ·rename_i t m k ok ho;split at h
  ·rename_i i hm;split at h
   ·rename_i es hes;split at h
    ·rename_i kv e j v hf;cases h;exact lookup_ok (q:=v) ho hm (mapOf_some hes) (mapOf_keys hes) hf rfl hH hi hρ
    ·rename_i kv e hf;simp only [j5] at h;obtain ⟨z,hz,h⟩:=h;cases h;exact lookup_ok (q:=.dat z) ho hm (mapOf_some hes) (mapOf_keys hes) hf ⟨z,hz,rfl⟩ hH hi hρ
    ·cases h
   ·cases h
  ·cases h
 ·rename_i s x f ho;split at h
  ·rename_i fs hfs;split at h
   ·rename_i fd hfd;split at h
    ·rename_i k hk;split at h
     ·rename_i i off hx; cases h; exact fieldAddr_ptr_ok ho hfs hfd hk hx hH hi hρ
     ·rename_i cs hx; cases h; exact fieldAddr_iptr_ok ho hfs hfd hk hx hH hi hρ
     ·cases h
    ·cases h
   ·cases h
  ·cases h
 ·rename_i t x ix ho;split at h
  ·rename_i k n hix;split at h
   ·rename_i e he;split at h
    ·rename_i size hs;split at h
     ·rename_i h0;split at h
      ·rename_i es hx;split at h
       ·rename_i d hd;split at h
        ·rename_i hn; cases h; exact indexAddr_lst_ok ho he hs hix (by rw [hx]; rfl) h0 hd hn hH hi hρ
        ·cases h
       ·cases h
      ·rename_i t' es hx;split at h
       ·rename_i d hd;split at h
        ·rename_i hn; cases h; exact indexAddr_lst_ok ho he hs hix (by rw [hx]; rfl) h0 hd hn hH hi hρ
        ·cases h
       ·cases h
      ·rename_i i off len cap hx;split at h
       ·rename_i hn; cases h; exact indexAddr_arr_ok ho he hs hix hx h0 hn hH hi hρ
       ·cases h
      ·rename_i tt gg lo len cap hx;split at h
       ·rename_i hn;obtain ⟨_,hn⟩:=hn;cases h; exact indexAddr_ms_ok ho he hs hix hx h0 hn hH hi hρ
       ·cases h
      ·cases h
     ·cases h
    ·cases h
   ·split at h
    ·rename_i len e he;split at h
     ·rename_i size cs hs hx;split at h
      ·rename_i hn;cases h; exact indexAddr_iptr_ok ho he hs hix hx hn.1 hn.2 hH hi hρ
      ·cases h
     ·rename_i size i off hs hx;split at h
      ·rename_i hn;cases h; exact indexAddr_ptr_ok ho he hs hix hx hn.1 hn.2 hH hi hρ
      ·cases h
     ·cases h
    ·cases h
  ·cases h
 ·rename_i t x lo hi' ho
  have key:∀ es,asLst (ρ x)=some es→(match elemOfSlice P t with
    | some e =>
     match bndOf ρ 0 lo,bndOf ρ es.length hi',szOf P e with
     | some l,some h,some size=>if l≤h∧h≤es.length∧(l == 0 || es.all fun d=>d.num == size) then some (PV.dat (.lst ((es.take h).drop l)),H) else none
     | _,_,_=>none
    | none=>none)=some (p,H')→Done P B0 w0 S0 H g w o a p H':=fun es hx h=>by
   split at h
   ·rename_i e he;split at h
    ·rename_i l hh size hl hhh hs;split at h
     ·rename_i hc;obtain ⟨c1,c2,c3⟩:=hc;cases h;refine slice_lst_ok ho he hs hx hl hhh c1 c2 ?_ hH hi hρ;simp only [zQ,beq_iff_eq,j8] at c3;exact c3
     ·cases h
    ·cases h
   ·cases h
  split at h
  ·rename_i es hx; exact key es (by rw [hx]; rfl) h
  ·rename_i t' es hx; exact key es (by rw [hx]; rfl) h
  ·rename_i tt gg l0 len cap hx;split at h
   ·rename_i e he;split at h
    ·rename_i hs;simp only [j5] at h;obtain ⟨q,hq,h⟩:=h;cases h;exact slice_ms_ok ho he hs hx hq hH hi hρ
    ·cases h
   ·cases h
  ·rename_i i off len cap hx;split at h
   ·rename_i e he;split at h
    ·rename_i size hs;simp only [j5] at h;obtain ⟨q,hq,h⟩:=h;cases h;exact slice_arr_ok ho he hs hx hq hH hi hρ
    ·cases h
   ·cases h
  ·exact plain_done (by simp [ho]) hH hi hρ h
 ·rename_i t x lo hi' mx ho;split at h
  ·rename_i e he;split at h
   ·rename_i n l hh m hn hl hhh hm;split at h
    ·rename_i hc;obtain ⟨c1,c2,c3,c4⟩:=hc;obtain ⟨ad,hrun,hnil⟩:=slice3_run (P:=P) (o:=o) ho he c4 hn hl hhh hm c1 c2 c3 hρ;split at h
     ·rename_i e; subst e;rw [Nat.sub_self] at hrun;split at h
      ·cases h;refine ⟨_,g,w,hrun,.same hH hi (.dat _ _ ?_)⟩;cases ad with
       | none=>rw [hnil rfl]; exact .nil
       | some a=>exact .empty _ _
      ·split at h
       ·rename_i hz;obtain ⟨rfl,rfl⟩:=hz;cases h;obtain ⟨g',hg⟩:=own_mt_at (P:=P) hH hi _ ad;exact ⟨_,g',w,hrun,hg⟩
       ·cases h
     ·cases h;exact ⟨_,g,w,hrun,.same hH hi (.undef _)⟩
    ·cases h
   ·cases h
  ·cases h
 ·rename_i t x f ho;split at h
  ·rename_i cs hx;simp only [Option.bind_eq_bind,jK] at h;obtain ⟨fs,hfs,fd,hfd,size,hs,ag,hg,d,⟨ds,hc,hd⟩,h⟩:=h;cases h; exact field_dat_ok ho hx hfs hfd hs hg hc hd hH hi hρ
  ·rename_i cs hx;simp only [Option.bind_eq_bind,jK] at h;obtain ⟨fs,hfs,fd,hfd,size,hs,ag,hg,d,⟨ds,hc,hd⟩,h⟩:=h;cases h; exact field_agg_ok ho hx hfs hfd hs hg hc hd hH hi hρ
  ·cases h
 ·rename_i x k ho;split at h
  ·rename_i vs hx;simp only [j5] at h;obtain ⟨q,hq,h⟩:=h;cases h; exact extract_ok ho hx hq hH hi hρ
  ·cases h
 ·rename_i c ho;obtain ⟨callee,args,ts⟩:=c;simp only at h;split at h
  ·rename_i f;exact absurd ho (hnc _ _ _)
  ·rename_i b;split at h
   ·rename_i r hr; cases h; exact builtin_done ho hH hi hρ hr
   ·exact plain_done (by simp [ho]) hH hi hρ h
  ·cases h
 ·rename_i ho;split at h
  ·rename_i hn;cases h;exact ⟨_,g,w,.inl (fnNil_run ho hρ hn),Good.same hH hi (.dat _ _ (.raw _ rfl))⟩
  ·split at h
   ·rename_i hn;cases h;exact ⟨_,g,w,.inl (lstNil_run ho hρ hn),Good.same hH hi (.dat _ _ (.raw _ rfl))⟩
   ·exact plain_done (by simp [ho]) hH hi hρ h
 ·rename_i ho; exact plain_done (by simp [ho]) hH hi hρ h
 ·rename_i ho; exact plain_done (by simp [ho]) hH hi hρ h
 ·rename_i ho; exact plain_done (by simp [ho]) hH hi hρ h
 ·cases h

end
end Go.Pm
