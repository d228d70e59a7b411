/-
 The pure machine: indices of the heap renamed; an operation that makes the heap longer does so at any place.
-/
import Derived.Test.YtjcfpjpdopfefaaGreatPmDraw
namespace Go.Pm
open Go Go.RowKit
set_option linter.unusedVariables false
set_option linter.unusedSimpArgs false

def shf (n k i:Nat):Nat:=if i < n then i else k+(i - n)
theorem shf_end (n k i:Nat):shf n k (n+i)=k+i:=by
 unfold shf; rw [if_neg y5]; congr 1; omega
theorem shf_old {n k i:Nat} (h:i < n):shf n k i=i:=by unfold shf; rw [if_pos h]

section
variable {P:Program} {call:CallF} {pf:FuncId→Bool} {ow:List (Nat × TypeId)} {o:Oper} {ρ:Operand→PV} {H H' H2:List Blk} {p:PV}

def Placed (P:Program) (call:CallF) (ow:List (Nat × TypeId)) (o:Oper) (ρ:Operand→PV) (H H2 H':List Blk) (p:PV):Prop :=
 ∃ p2 bs2,sem P call ow o ρ H2=some (p2,H2++bs2)∧p=p2.ren (shf H2.length H.length)∧H'=H++bs2.map (Blk.ren (shf H2.length H.length))∧∀ x∈bs2,x≠Blk.hole

theorem sem_place (hs:sens pf ow o ρ=2) (h:sem P call ow o ρ H=some (p,H')) (hρ:∀ x,(ρ x).ren (shf H2.length H.length)=ρ x):Placed P call ow o ρ H H2 H' p:=by
 have h0:shf H2.length H.length H2.length=H.length:=shf_end _ _ 0;have hcells:∀ x,(ρ x).cells.map (PV.ren (shf H2.length H.length))=(ρ x).cells:=fun x=>by rw [← cells_ren,hρ]
 have hnh:∀ b:Blk,b≠.hole→∀ x∈[b],x≠Blk.hole:=fun b hb x hx=>by rw [List.mem_singleton.1 hx]; exact hb
 unfold Placed;cases ho:o.op with
 | alloc e =>
  simp only [sem,ho] at h ⊢;split at h
  ·rename_i z hz;split at h
   ·rename_i cs bs ht;cases h;rw [← map_dat (shf H2.length H.length)] at ht;obtain ⟨cs2,h1,rfl⟩:=tokCells_ren _ ow (H.length+1) (H2.length+1) _ _ _ (fun i=>by rw [Nat.add_assoc,shf_end,Nat.add_assoc]) ht;obtain ⟨t1,t2⟩:=tokCells_toks _ _ _ _ _ h1 (shf H2.length H.length);simp only [h1];refine ⟨_,_,rfl,by simp [PV.ren,h0],by simp [Blk.ren,t1],fun x hx=>?_⟩;rcases List.mem_cons.1 hx with rfl|hx
    ·intro h; cases h
    ·exact t2 x hx
   ·cases h
  ·cases h
 | box e x =>
  cases ow with
  | cons=>simp [sens,ho] at hs
  | nil =>
  simp only [sem,ho] at h ⊢;split at h
  ·rename_i hc;cases h;rw [if_pos hc];exact ⟨_,_,rfl,by simp [PV.ren,h0],by simp [Blk.ren,hcells],hnh _ (by intro h; cases h)⟩
  ·cases h
 | makeSlice t x y =>
  simp only [sem,ho] at h ⊢;split at h
  ·split at h
   ·split at h
    ·split at h
     ·rename_i hc;cases h;simp only [*,and_self,if_true];exact ⟨_,_,rfl,by simp [PV.ren,h0],by simp [Blk.ren,PV.ren],hnh _ (by intro h; cases h)⟩
     ·cases h
    ·cases h
   ·cases h
  ·rename_i jj ee ow';have h80:¬ 8000≤jj:=fun hc=>by simp [sens,ho,hc] at hs
   rw [if_neg h80] at h;rw [if_neg h80];by_cases h10:jj=1000
   ·rw [if_pos h10] at h;rw [if_pos h10];split at h
    ·split at h
     ·split at h
      ·rename_i hc;simp only [*,and_self,if_true];unfold ownMake at h ⊢;split at h
       ·rename_i hc1;rw [if_pos hc1];split at h
        ·rename_i hc2;cases h;rw [if_pos hc2];exact ⟨_,_,rfl,by simp [PV.ren,h0],by simp [Blk.ren],hnh _ (by intro h; cases h)⟩
        ·rename_i hc2;cases h;rw [if_neg hc2];exact ⟨_,_,rfl,by simp [PV.ren,h0],by simp [Blk.ren,PV.ren],hnh _ (by intro h; cases h)⟩
       ·cases h
      ·cases h
     ·cases h
    ·cases h
   rw [if_neg h10] at h;rw [if_neg h10];split at h
   ·split at h
    ·split at h
     ·rename_i hc;cases h;simp only [*,and_self,if_true];exact ⟨_,_,rfl,by simp [PV.ren,h0],by simp [Blk.ren,PV.ren],hnh _ (by intro h; cases h)⟩
     ·cases h
    ·cases h
   ·cases h
 | assign x =>
  cases ow with
  | nil=>simp [sens,ho] at hs
  | cons =>
   simp only [sem,ho] at h ⊢;split at h
   ·split at h <;> rename_i hc <;> cases h <;> simp only [hc] <;> exact ⟨_,_,rfl,by simp [PV.ren,h0],by simp [Blk.ren],hnh _ (by intro h; cases h)⟩
   ·cases h
 | slice t x lo hi mx =>
  cases ow with
  | nil=>cases hi <;> cases mx <;> simp [sens,ho] at hs
  | cons =>
   cases hi with
   | none=>cases mx <;> simp [sens,ho] at hs
   | some hi =>
    cases mx with
    | none=>simp [sens,ho] at hs
    | some mx =>
     simp only [sem,ho] at h ⊢;split at h
     ·split at h
      ·split at h
       ·rename_i hc;simp only [*,and_self,if_true];split at h
        ·rename_i hl;rw [if_pos hl];split at h
         ·rename_i hl0;cases h;rw [if_pos hl0];exact ⟨_,_,rfl,by simp [PV.ren,h0],by simp [Blk.ren],hnh _ (by intro h; cases h)⟩
         ·cases h
        ·rename_i hl;cases h;rw [if_neg hl];exact ⟨.undef,[],by simp,by simp [PV.ren],by simp,by simp⟩
       ·cases h
      ·cases h
     ·cases h
 | build t ps =>
  have hg:giveHint ow=false:=by
   cases ow with
   | nil=>rfl
   | cons x xs =>
    simp only [sens,ho] at hs;split at hs
    ·cases hs
    ·rename_i hj; simpa [giveHint] using hj
  simp only [sem,ho,buildSem,hg,j6,if_false] at h ⊢;split at h
  ·rename_i z pl hz hpl;split at h
   ·rename_i cs hfill;split at h
    ·rename_i hall;split at h
     ·rename_i hunc;split at h
      ·rename_i cs1 bs ht;cases h;simp only [hz,hpl,hfill,hall,hunc,if_true]
       have hcs:cs.map (PV.ren (shf H2.length H.length))=cs:=by
        have:=fillA_map (PV.ren (shf H2.length H.length)) pl (ps.toList.map fun (i,x)=>(i,(ρ x).cells)) (z.cells.map PV.dat);rw [map_dat,hfill] at this
        have e:(List.map (fun x:Nat × List PV=>(x.1,x.2.map (PV.ren (shf H2.length H.length)))) (ps.toList.map fun (i,x)=>(i,(ρ x).cells)))=ps.toList.map fun (i,x)=>(i,(ρ x).cells):=by
         rw [zD];apply List.map_congr_left;intro x _;simp [hcells]
        rw [e,hfill] at this
        simpa using this.symm
       rw [← hcs] at ht;obtain ⟨cs2,h1,rfl⟩:=tokCells_ren _ ow H.length H2.length _ _ _ (fun i=>shf_end _ _ i) ht;obtain ⟨t1,t2⟩:=tokCells_toks _ _ _ _ _ h1 (shf H2.length H.length);simp only [h1];exact ⟨_,_,rfl,by rw [mkAgg_ren],by rw [t1],t2⟩
      ·cases h
     ·cases h
    ·cases h
   ·cases h
  ·cases h
 | buildSlice t n ps =>
  cases ow with
  | nil=>simp [sens,ho] at hs
  | cons jj xs =>
   simp only [sem,ho] at h ⊢;split at h
   ·rename_i e he;split at h
    ·rename_i har;split at h
     ·rename_i size hsz;split at h
      ·rename_i hc;cases h;rw [if_pos har,if_pos hc];refine ⟨_,_,rfl,by simp [PV.ren,h0],?_,hnh _ (by intro h; cases h)⟩;simp only [zS,List.map_nil,Blk.ren,List.map_flatMap,hcells]
      ·cases h
     ·cases h
    rename_i har;rw [if_neg har];split at h
    ·rename_i hf;split at h
     ·rename_i hc;cases h;simp only [hf,hc,if_true];refine ⟨_,_,rfl,by simp [PV.ren,h0],?_,hnh _ (by intro h; cases h)⟩;simp only [zS,List.map_nil,Blk.ren,zD];congr 3;apply List.map_congr_left;intro x _;exact (hρ x.2).symm
     ·cases h
    ·rename_i hf;split at h
     ·rename_i size ds hsz hp;split at h
      ·rename_i hc
       have hnl:(ps.toList.map fun (_,x)=>ρ x).any PV.lends=false:=by
        have:=hc.2.2.2.2.2.2;rw [List.any_map]
        simpa [Function.comp_def] using this
       have hp2:=pures_indep (H2:=H2) _ _ hp hnl;simp only [hf,hsz,hp2,hc,if_false,if_true,j6,and_self,not_true_eq_false] at h ⊢;split at h
       ·rename_i he';simp only [he',if_true];split at h
        ·rename_i hj;simp only [hj,if_true];split at h
         ·rename_i hd;cases h;simp only [hd,if_true];exact ⟨_,_,rfl,by simp [PV.ren,h0],by simp [Blk.ren],hnh _ (by intro h; cases h)⟩
         ·rename_i hd;split at h
          ·rename_i hel;cases h;rw [if_neg hd,if_pos hel];exact ⟨_,_,rfl,by simp [PV.ren,h0],by simp [Blk.ren,PV.ren],hnh _ (by intro h; cases h)⟩
          ·cases h
        ·rename_i hj;cases h;simp only [hj,if_false];exact ⟨_,_,rfl,by simp [PV.ren,h0],by simp [Blk.ren],hnh _ (by intro h; cases h)⟩
       ·cases h
      ·cases h
     ·cases h
   ·cases h
 | makeMap t r =>
  cases r with
  | none =>
   simp only [sem,ho] at h ⊢;split at h
   ·cases h;exact ⟨_,_,rfl,by simp [PV.ren,h0],by simp [Blk.ren],hnh _ (by intro h; cases h)⟩
   ·cases h
  | some r=>simp [sem,ho] at h
 | load t x =>
  cases ow with
  | cons=>simp [sens,ho] at hs
  | nil =>
  simp only [sens,ho] at hs;split at hs <;> cases hs
 | call c =>
  obtain ⟨callee,args,ts⟩:=c;cases callee with
  | value f =>
   cases ow with
   | cons jj xs =>
    have h13:¬ 13000≤jj.1:=fun hc=>by simp only [sens,ho,if_pos hc] at hs; cases hs
    have h12:¬ 12000≤jj.1:=fun hc=>by simp only [sens,ho,if_neg h13,if_pos hc] at hs; cases hs
    have h6:¬ 6000≤jj.1:=fun hc=>by simp only [sens,ho,if_neg h13,if_neg h12,if_pos hc] at hs; cases hs
    have hn:¬ 2000≤jj.1:=fun hc=>by simp only [sens,ho,if_neg h13,if_neg h12,if_neg h6,if_pos hc] at hs; cases hs
    have hl:(args.toList.map ρ).any PV.lends=false:=by
     simp only [sens,ho,if_neg h13,if_neg h12,if_neg h6,if_neg hn] at hs;split at hs
     ·cases hs
     ·rename_i hl; simpa using hl
    simp only [sem,ho] at h ⊢;rw [if_neg h13,if_neg h12,if_neg (show ¬ jj.1=7000 by omega),if_neg h6] at h ⊢;split at h
    ·rename_i fi x1 x2 hfi;rw [if_neg (show ¬ jj.1=5000 by omega),if_neg hn] at h ⊢;unfold freshCall at h ⊢;split at h
     ·rename_i ds hp;rw [pures_indep (H2:=H2) _ _ hp hl];simp only;split at h
      ·split at h
       ·split at h
        ·rename_i hcc;cases h;rw [if_pos hcc];refine ⟨_,_,rfl,by simp [PV.ren,h0],?_,hnh _ (by intro h; cases h)⟩;obtain ⟨d1,d2⟩:=Option.isSome_iff_exists.1 hcc.2.2.1;simp only [zS,List.map_nil,Blk.ren];congr 3;symm;refine (List.map_congr_left (g:=id) fun c hcm=>?_).trans (List.map_id _);obtain ⟨d,rfl⟩:=allDat_mem _ hcc.2.2.1 c hcm;rfl
        ·cases h
       ·cases h
      ·split at h
       ·rename_i hcc;cases h;rw [if_pos hcc];refine ⟨_,_,rfl,by simp [PV.ren,h0],?_,hnh _ (by intro h; cases h)⟩;simp only [zS,List.map_nil,Blk.ren];congr 3;symm;refine (List.map_congr_left (g:=id) fun c hcm=>?_).trans (List.map_id _);have hp:=List.all_eq_true.1 hcc.2 c hcm;obtain ⟨k,v⟩:=c;cases v <;> first|rfl|(simp [PV.plainCell] at hp)
       ·cases h
      ·cases h
     ·cases h
    ·cases h
   | nil =>
   simp only [sens,ho] at hs;split at hs
   ·split at hs
    ·split at hs <;> cases hs
    ·cases hs
   ·cases hs
  | builtin b =>
   cases b with
   | len=>simp only [sens,ho] at hs; split at hs <;> cases hs
   | append =>
    simp only [sens,ho] at hs;split at hs
    ·cases hs
    split at hs
    case isFalse=>cases hs
    rename_i hv;simp only [sem,ho] at h ⊢;generalize hl:args.toList.map ρ=l at h hv ⊢
    match l,hv with
    | [.arr i off 0 0,.dat (.lst es)],_ =>
     have hpl:∀ H:List Blk,plainSem P o ρ H=none:=fun H=>by
      unfold plainSem
      have:(o.op.operands.toList.map fun x=>(ρ x).toVal).all Option.isSome=false:=by
       rw [ho];have hm:PV.arr i off 0 0∈args.toList.map ρ:=by rw [hl]; simp
       obtain ⟨x,hx,e⟩:=List.mem_map.1 hm;rw [List.all_eq_false];exact ⟨none,List.mem_map.2 ⟨x,by simpa [Op.operands,Call.operands] using hx,by rw [e]; rfl⟩,by simp⟩
      simp only [this]; rfl
     rw [hpl] at h;rw [hpl];cases hb:builtinSem P .append ts [.arr i off 0 0,.dat (.lst es)] H with
     | none=>rw [hb] at h; cases h
     | some y =>
      rw [hb] at h;cases h;simp only [builtinSem] at hb ⊢;split at hb
      ·split at hb
       ·split at hb
        ·split at hb
         ·rename_i hc;unfold newApp at hb ⊢;split at hb
          ·rename_i hcc;cases hb;simp only [*,and_self,if_true];exact ⟨_,_,rfl,by simp [PV.ren,h0],by simp [Blk.ren,PV.ren],hnh _ (by intro h; cases h)⟩
          ·cases hb
         ·cases hb
        ·cases hb
       ·cases hb
      ·cases hb
   | _=>simp [sens,ho] at hs
  | invoke x n=>simp [sens,ho] at hs
 | move x=>simp only [sens,ho] at hs; split at hs <;> cases hs
 | _=>simp [sens,ho] at hs
end

section
variable {P:Program} {pf:FuncId→Bool} {ow:List (Nat × TypeId)} {o:Oper} {ρ ρ':Operand→PV} {B0:Nat} {w0:World} {S0:Nat→Nat→Prop} {Nb:Nat} {g g2:Gh} {s:List PV} {H:List Blk} {a:Act} {w w':World}

theorem sens_congr (h:∀ x∈o.op.operands,ρ x=ρ' x):sens pf ow o ρ=sens pf ow o ρ':=by
 unfold sens;cases ho:o.op with
 | load t x=>simp only; rw [h x (by simp [ho,Op.operands])]
 | call c =>
  obtain ⟨callee,args,ts⟩:=c;have ha:args.toList.map ρ=args.toList.map ρ':=args_congr fun x hx=>h x (by simp only [ho,Op.operands,Call.operands]; simp; exact .inr (by simpa using hx))
  cases callee with
  | value f=>simp only; rw [h f (by simp [ho,Op.operands,Call.operands]),ha]
  | builtin b=>simp only; rw [ha]; cases b <;> rfl
  | invoke x n=>rfl
 | slice t x lo hi mx=>cases hi <;> cases mx <;> rfl
 | _=>rfl

theorem StOK.holes (hst:StOK P B0 w0 S0 Nb g ⟨s,H⟩ a w) (d:Nat):∃ g',Ext H.length g w g' w∧Fr g H w g' (H++List.replicate d .hole) w∧StOK P B0 w0 S0 Nb g' ⟨s,H++List.replicate d .hole⟩ a w:=by
 obtain ⟨h1,h2,h3,h4⟩:=hst
 let g':Gh:={ g with live:=fun i=>i < H.length∧g.live i,own:=fun i=>if i < H.length then g.own i else none }
 have ht:Turn id g H.length g' (H++List.replicate d Blk.hole).length :=
  ⟨rfl,fun i hi hl=>⟨by simp only [id]; simp; omega,⟨hi,hl⟩,rfl⟩,fun t ht x hx=>⟨by simp only [id]; simp; omega,by simp only [g',id]; rw [if_pos ht]; exact hx⟩⟩
 have hs:From id g' H (H++List.replicate d Blk.hole):=fun i y hy=>by
  rw [jT] at hy;split at hy
  ·rename_i hi;by_cases e:y=.hole
   ·subst e;obtain ⟨k1,k2⟩:=h1.noHole hy;exact .inl ⟨rfl,fun hl=>k1 hl.2,by simp only [g']; rw [if_pos hi]; exact k2⟩
   ·exact .inr ⟨i,y,hy,e,rfl,(h1.fix (fun _ _=>rfl) hy).symm⟩
  ·rename_i hi;rw [zK] at hy;split at hy
   ·cases hy;exact .inl ⟨rfl,fun hl=>hi hl.1,by simp only [g']; rw [if_neg hi]⟩
   ·cases hy
 have he:Ext H.length g w g' w:=⟨fun _ _ h=>h,fun _ _ _=>rfl,fun i hi hl=>⟨rfl,hi,hl⟩,fun t ht v n hv=>⟨v,n,by simp only [g']; rw [if_pos ht]; exact hv,j7 _,fun _=>rfl⟩⟩;refine ⟨g',he,⟨j7 _,fun _ _ _=>rfl,fun i b hb _=>?_,fun _ _ h=>.inl h⟩,⟨h1.ren ht (j7 _) hs,⟨h2.below,h2.size,h2.old,h2.lt⟩,h3.ext he y7,by simp only [jV]; exact jW h4 (Nat.le_add_right _ _)⟩⟩;obtain ⟨j,_,hj⟩:=occ_ren ht h1 (j7 _) hs hb;exact ⟨j,hj⟩

theorem StOK.place {p2:PV} {u:Value} {bs2 bs:List Blk} {k0:Nat} (hst:StOK P B0 w0 S0 Nb g ⟨s,H⟩ a w) (hg:Good P B0 w0 S0 H g w p2 (H++bs2) u g2 w')
  (hbs:bs=bs2.map (Blk.ren (shf H.length k0))) (hne:∀ x∈bs2,x≠.hole) (hk:k0+bs.length≤H.length) (hhole:∀ i,k0≤i→i < k0+bs.length→H[i]? = some .hole) (d:Option Tmp) :
  ∃ g3,Ext H.length g w g3 w'∧Fr g H w g3 (H.take k0++bs++H.drop (k0+bs.length)) w' ∧
   StOK P B0 w0 S0 Nb g3 ⟨putS s d (p2.ren (shf H.length k0)),H.take k0++bs++H.drop (k0+bs.length)⟩ (a.put d u) w':=by
 obtain ⟨h1,h2,h3,h4⟩:=hst;have hbl:bs.length=bs2.length:=by rw [hbs]; simp
 have hlen:(H.take k0++bs++H.drop (k0+bs.length)).length=H.length:=by simp; omega
 let seg:Nat→Prop:=fun i=>k0≤i∧i < k0+bs.length
 let g3:Gh:={ g2 with blk:=fun i=>if k0≤i∧i < k0+bs.length then g2.blk (H.length+(i - k0)) else g2.blk i,live:=fun i=>if k0≤i∧i < k0+bs.length then g2.live (H.length+(i - k0)) else g2.live i,own:=fun i=>if k0≤i∧i < k0+bs.length then g2.own (H.length+(i - k0)) else g2.own i }
 -- no hole has been alive
 have hdead2:∀ i,k0≤i→i < k0+bs.length→¬ g2.live i∧g2.own i=none:=fun i a1 a2=>hg.heap.noHole (by
  rw [jT,if_pos y5]; exact hhole i a1 a2)
 have hdead:∀ i,k0≤i→i < k0+bs.length→¬ g.live i∧g.own i=none:=fun i a1 a2=>h1.noHole (hhole i a1 a2)
 have ht:Turn (shf H.length k0) g2 (H++bs2).length g3 H.length:=by
  refine ⟨rfl,fun i hi hl=>?_,fun t ht x hx=>?_⟩
  ·by_cases c:i < H.length
   ·have hns:¬ (k0≤i∧i < k0+bs.length):=fun hs=>(hdead2 i hs.1 hs.2).1 hl
    rw [shf_old c];exact ⟨c,by simp only [g3]; rw [if_neg hns]; exact hl,by simp only [g3]; rw [if_neg hns]⟩
   ·have e:i=H.length+(i - H.length):=by omega
    have hi':i - H.length < bs.length:=by simp at hi; omega
    have e2:shf H.length k0 i=k0+(i - H.length):=by rw [e,shf_end]; congr 1; omega
    have e3:H.length+(k0+(i - H.length) - k0)=i:=by omega
    rw [e2];refine ⟨by omega,?_,?_⟩
    ·simp only [g3]; rw [if_pos y5,e3]; exact hl
    ·simp only [g3]; rw [if_pos y5,e3]
  ·by_cases c:t < H.length
   ·have hns:¬ (k0≤t∧t < k0+bs.length):=fun hs=>by rw [(hdead2 t hs.1 hs.2).2] at hx; cases hx
    rw [shf_old c];exact ⟨c,by simp only [g3]; rw [if_neg hns]; exact hx⟩
   ·have e:t=H.length+(t - H.length):=by omega
    have hi':t - H.length < bs.length:=by simp at ht; omega
    have e2:shf H.length k0 t=k0+(t - H.length):=by rw [e,shf_end]; congr 1; omega
    have e3:H.length+(k0+(t - H.length) - k0)=t:=by omega
    rw [e2];exact ⟨by omega,by simp only [g3]; rw [if_pos y5,e3]; exact hx⟩
 have hs:From (shf H.length k0) g3 (H++bs2) (H.take k0++bs++H.drop (k0+bs.length)):=fun i y hy=>by
  rw [pasted_get _ _ _ y5] at hy;by_cases hsg:k0≤i∧i < k0+bs.length
  ·rw [if_neg y5,if_pos hsg.2,hbs,jD,j5] at hy;obtain ⟨x,hx,rfl⟩:=hy;refine .inr ⟨H.length+(i - k0),x,by rw [zL y5]; simpa using hx,hne x (jF hx),by rw [shf_end]; omega,rfl⟩
  ·have hy':H[i]? = some y:=by
    by_cases c:i < k0
    ·rwa [if_pos c] at hy
    ·rwa [if_neg c,if_neg y5] at hy
   have hil:i < H.length:=(List.getElem?_eq_some_iff.1 hy').1;have hy2:(H++bs2)[i]? = some y:=by rw [jT,if_pos hil]; exact hy'
   by_cases e:y=.hole
   ·subst e;obtain ⟨k1,k2⟩:=hg.heap.noHole hy2;exact .inl ⟨rfl,by simp only [g3]; rw [if_neg hsg]; exact k1,by simp only [g3]; rw [if_neg hsg]; exact k2⟩
   ·exact .inr ⟨i,y,hy2,e,shf_old hil,(h1.fix (fun _ h=>shf_old h) hy').symm⟩
 have he:Ext H.length g w g3 w':=by
  refine ⟨hg.ext.S,hg.ext.cell,fun i hi hl=>?_,fun t ht v n hv=>?_⟩
  ·have hns:¬ (k0≤i∧i < k0+bs.length):=fun hs=>(hdead i hs.1 hs.2).1 hl
   obtain ⟨k1,k2⟩:=hg.ext.blk i hi hl;exact ⟨by simp only [g3]; rw [if_neg hns]; exact k1,by simp only [g3]; rw [if_neg hns]; exact k2⟩
  ·have hns:¬ (k0≤t∧t < k0+bs.length):=fun hs=>by rw [(hdead t hs.1 hs.2).2] at hv; cases hv
   obtain ⟨v',n',k1,k2⟩:=hg.ext.own t ht v n hv;exact ⟨v',n',by simp only [g3]; rw [if_neg hns]; exact k1,k2⟩
 refine ⟨g3,he,⟨hg.fr.size,hg.fr.keep,fun i b hb hlt=>?_,hg.fr.pub⟩,⟨?_,⟨hg.inv.below,hg.inv.size,hg.inv.old,hg.inv.lt⟩,?_,by rw [hlen]; exact h4⟩⟩
 ·obtain ⟨j,_,hj⟩:=occ_ren ht hg.heap (j7 _) hs hb;exact hg.fr.occ j b hj hlt
 ·rw [hlen]; exact hg.heap.ren ht (j7 _) hs
 ·rw [hlen]; exact (h3.ext he (j7 _)).put d (hg.rep.ren ht)
end
end Go.Pm
