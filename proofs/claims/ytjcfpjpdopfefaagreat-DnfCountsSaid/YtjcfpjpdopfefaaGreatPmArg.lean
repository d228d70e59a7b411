/-
 The pure machine: the arguments of a statement, read as data.
-/
import Derived.Test.YtjcfpjpdopfefaaGreatPmFun
import Derived.Test.YtjcfpjpdopfefaaGreatRows
import Derived.ProofKit
namespace Go.Pm
open Go Go.RowKit Go.Proofs.YtjcfpjpdopfefaaGreat
set_option linter.unusedVariables false

theorem mapM_get {α β:Type} {f:α→Option β}:∀ {l:List α} {ys:List β},l.mapM f=some ys→ys.length=l.length∧∀ (i:Nat) x y,l[i]? = some x→ys[i]? = some y→f x=some y
 | [],ys,h=>by simp at h; subst h; exact ⟨rfl,fun i x y hx _=>by simp at hx⟩
 | a::l,ys,h=>by
  rw [List.mapM_cons] at h;simp only [Option.pure_def,Option.bind_eq_bind,jK,j9] at h;obtain ⟨y,hy,ys',hys,rfl⟩:=h;obtain ⟨h1,h2⟩:=mapM_get hys;refine ⟨by simp [h1],fun i x z hx hz=>?_⟩;cases i with
  | zero=>simp at hx hz; subst hx; subst hz; exact hy
  | succ i=>simp at hx hz; exact h2 i x z hx hz

section
variable (P:Program)
def aggB (t:TypeId):Bool:=match P.underlying t with|some (.struct _)=>true|_=>false
def contig:Nat→List Field→Option Nat
 | o,[]=>some o
 | o,f::fs=>if f.offset=o then contig (o+P.cellsOf f.type) fs else none
def closedTs (T:List TypeId):Bool :=
 T.all fun t=>match P.underlying t with
  | some .bool|some (.int _)|some .string=>P.cellsOf t == 1
  | some (.slice e)=>T.contains e && P.cellsOf t == 1 && P.cellsOf e != 0 && decide (1≤P.bytesOf e)
  | some (.struct fs)=>fs.toList.all (fun f=>T.contains f.type) && contig P 0 fs.toList == some (P.cellsOf t)
  | _=>false
def elemD (e:TypeId) (cs:List Dat):Dat:=if aggB P e then .agg cs else cs.headD (.agg [])
def TyC (B:Nat):Nat→TypeId→List Dat→Prop
 | 0,_,_=>False
 | n+1,t,ds=>match P.underlying t with
  | some .bool=>∃ b,ds=[.raw (.bool b)]
  | some (.int k)=>∃ m,ds=[.raw (.int k m)]∧(Lit.int k m).wf=true
  | some .string=>∃ s:ByteArray,ds=[.raw (.string s)]∧s.size≤B
  | some (.slice e)=>∃ L:List (List Dat),ds=[.lst (L.map (elemD P e))]∧L.length≤B∧∀ x∈L,TyC B n e x
  | some (.struct fs)=>fs.toList.foldr (fun f K ds=>∃ a b,ds=a++b∧TyC B n f.type a∧K b) (fun ds=>ds=[]) ds
  | _=>False
end

def RepC (w:World) (cs:List Value) (ds:List Dat):Prop :=
 ds.length=cs.length∧∀ (j:Nat) v c,cs[j]? = some v→ds[j]? = some c→RepD w (fun b _=>b < w.heap.size) v c∧c.isCell=true

section
variable {P:Program} {w:World}
theorem RepC.nil:RepC w [] []:=⟨rfl,fun j v c h=>by simp at h⟩
theorem RepC.one {v:Value} {d:Dat} (h:RepD w (fun b _=>b < w.heap.size) v d) (hc:d.isCell=true):RepC w [v] [d]:=⟨rfl,fun j v' c hv hd=>by
 cases j with
 | zero=>simp at hv hd; subst hv; subst hd; exact ⟨h,hc⟩
 | succ j=>simp at hv⟩
theorem RepC.append {cs cs':List Value} {ds ds':List Dat} (h:RepC w cs ds) (h':RepC w cs' ds'):RepC w (cs++cs') (ds++ds'):=⟨by simp [h.1,h'.1],fun j v c hv hd=>by
 by_cases hj:j < cs.length
 ·rw [zM hj] at hv;rw [zM (by rw [h.1]; exact hj)] at hd;exact h.2 j v c hv hd
 ·rw [zL y5] at hv;rw [zL (by rw [h.1]; omega),h.1] at hd;exact h'.2 _ v c hv hd⟩

theorem bulk_part {H:Type} {d:DataW H} {l:List (DataW H)} (h:d∈l):Rows.uptoBulk d≤Rows.uptoBulkAll l:=by
 induction l with
 | nil=>cases h
 | cons x r ih =>
  simp only [Rows.uptoBulkAll];cases List.mem_cons.1 h with
  | inl e=>subst e; omega
  | inr e=>have:=ih e; omega
theorem bulk_one {H:Type} (d:DataW H):1≤Rows.uptoBulk d:=by
 cases d with
 | lit l=>cases l <;> simp [Rows.uptoBulk]
 | nil=>simp [Rows.uptoBulk]
 | ptr d=>simp [Rows.uptoBulk]
 | slice elems spare=>simp [Rows.uptoBulk]
 | agg parts=>simp [Rows.uptoBulk]
 | iface t d=>simp [Rows.uptoBulk]
 | map entries=>simp [Rows.uptoBulk]
 | held h=>simp [Rows.uptoBulk]
theorem bulk_len {H:Type} (l:List (DataW H)):l.length≤Rows.uptoBulkAll l:=by
 induction l with
 | nil=>simp [Rows.uptoBulkAll]
 | cons x r ih=>have:=bulk_one x; simp only [Rows.uptoBulkAll,zE]; omega
def Bnd (P:Program) (B:Nat) (t:TypeId) {H:Type} (d:DataW H):Prop:=maxLen≤B∨Rows.uptoBulk d≤B∨∀ x∈d.weights P t,x≤B
def BndE (P:Program) (B:Nat) (ts:List TypeId) {H:Type} (l:List (DataW H)):Prop:=maxLen≤B∨Rows.uptoBulkAll l≤B∨∀ x∈DataW.weightsEach P ts l,x≤B
def BndA (P:Program) (B:Nat) (e:TypeId) {H:Type} (l:List (DataW H)):Prop:=maxLen≤B∨Rows.uptoBulkAll l≤B∨∀ x∈DataW.weightsAll P e l,x≤B
theorem BndE.head {P:Program} {B:Nat} {t:TypeId} {ts:List TypeId} {H:Type} {d:DataW H} {l:List (DataW H)} (hb:BndE P B (t::ts) (d::l)):Bnd P B t d:=by
 rcases hb with hb|hb|hb
 ·exact Or.inl hb
 ·rw [Rows.uptoBulkAll] at hb; exact Or.inr (Or.inl y5)
 ·exact Or.inr (Or.inr fun x hx=>hb x (by rw [DataW.weightsEach]; exact List.mem_append_left _ hx))
theorem BndE.tail {P:Program} {B:Nat} {t:TypeId} {ts:List TypeId} {H:Type} {d:DataW H} {l:List (DataW H)} (hb:BndE P B (t::ts) (d::l)):BndE P B ts l:=by
 rcases hb with hb|hb|hb
 ·exact Or.inl hb
 ·rw [Rows.uptoBulkAll] at hb; exact Or.inr (Or.inl y5)
 ·exact Or.inr (Or.inr fun x hx=>hb x (by rw [DataW.weightsEach]; exact List.mem_append_right _ hx))
theorem weights_mem {P:Program} {e:TypeId} {H:Type} {d:DataW H}:∀ {l:List (DataW H)},d∈l→∀ x∈d.weights P e,x∈DataW.weightsAll P e l
 | y::l,h,x,hx=>by
  rw [DataW.weightsAll];rcases List.mem_cons.1 h with rfl|h
  ·exact List.mem_append_left _ hx
  ·exact List.mem_append_right _ (weights_mem h x hx)
theorem BndA.part {P:Program} {B:Nat} {e:TypeId} {H:Type} {d:DataW H} {l:List (DataW H)} (h:d∈l) (hb:BndA P B e l):Bnd P B e d:=by
 rcases hb with hb|hb|hb
 ·exact Or.inl hb
 ·exact Or.inr (Or.inl (by have:=bulk_part h; omega))
 ·exact Or.inr (Or.inr fun x hx=>hb x (weights_mem h x hx))

theorem cells?_get {a:Addr} {n:Nat} {cs:List Value} (h:w.cells? 0 a n=some cs):cs.length=n∧∀ i v,cs[i]? = some v→w.cell? (a.add i)=some v:=by
 unfold World.cells? at h;rw [if_pos (zN _)] at h;obtain ⟨h1,h2⟩:=mapM_get h;rw [List.length_range] at h1;refine ⟨h1,fun i v hv=>?_⟩;have hi:i < n:=by have:=(List.getElem?_eq_some_iff.1 hv).1; omega
 exact h2 i i v (by simp [hi]) hv
theorem cell?_spot {a:Addr} {v:Value} (h:w.cell? a=some v):a.spot=none∧a.block < w.heap.size:=by
 unfold World.cell? at h;split at h
 ·rename_i c _ _ hb;split at h
  ·cases h
  ·rename_i hs;refine ⟨by simpa using hs,?_⟩;exact (Array.getElem?_eq_some_iff.1 hb).1
 ·cases h

theorem list_of {α:Type} {p:Nat→α→Prop}:∀ n,(∀ i,i < n→∃ x,p i x)→∃ L:List α,L.length=n∧∀ i x,L[i]? = some x→p i x
 | 0,_=>⟨[],rfl,fun i x h=>by simp at h⟩
 | n+1,h=>by
  obtain ⟨L,h1,h2⟩:=list_of n (fun i hi=>h i y5);obtain ⟨x,hx⟩:=h n (Nat.lt_succ_self n);refine ⟨L++[x],by simp [h1],fun i y hy=>?_⟩;by_cases hi:i < L.length
  ·rw [zM hi] at hy; exact h2 i y hy
  ·rw [zL y5] at hy
   have:i=n:=by
    have:=(List.getElem?_eq_some_iff.1 hy).1;simp at this; omega
   subst this;rw [h1,Nat.sub_self] at hy;simp at hy; subst hy; exact hx
theorem add_add {a:Addr} (h:a.spot=none) (m n:Nat):(a.add m).add n=⟨a.block,a.off+m+n,none⟩:=by
 obtain ⟨b,o,s⟩:=a;simp only at h; subst h;unfold Addr.add;by_cases h1:m=0 <;> by_cases h2:n=0 <;> simp [h1,h2]
theorem closed_at {T:List TypeId} (hT:closedTs P T=true) {t:TypeId} (ht:T.contains t=true):(match P.underlying t with
  | some .bool|some (.int _)|some .string=>P.cellsOf t == 1
  | some (.slice e)=>T.contains e && P.cellsOf t == 1 && P.cellsOf e != 0 && decide (1≤P.bytesOf e)
  | some (.struct fs)=>fs.toList.all (fun f=>T.contains f.type) && contig P 0 fs.toList == some (P.cellsOf t)
  | _=>false)=true:=by
 simp only [closedTs,j8] at hT;exact hT t (by simpa using ht)
theorem closed_one {T:List TypeId} (hT:closedTs P T=true) {t:TypeId} (ht:T.contains t=true) (h:aggB P t=false):P.cellsOf t=1:=by
 have:=closed_at hT ht;revert this h;unfold aggB;split
 ·intro h; cases h
 ·rename_i hne;intro _;split
  ·intro h; simpa using h
  ·intro h; simpa using h
  ·intro h; simpa using h
  ·intro h; simp at h; exact h.1.1.2
  ·rename_i hs; exact absurd hs (hne _)
  ·intro h; cases h
theorem cell_num {d:Dat} (h:d.isCell=true):d.num=1∧d.cells=[d]:=by
 cases d with
 | agg cs=>cases h
 | _=>exact ⟨rfl,rfl⟩
theorem elemD_cells {e:TypeId} {ds:List Dat} (hk:aggB P e=false→ds.length=1) (hc:∀ d∈ds,d.isCell=true):(elemD P e ds).cells=ds∧(elemD P e ds).num=ds.length:=by
 unfold elemD;cases h:aggB P e with
 | true=>exact ⟨rfl,rfl⟩
 | false =>
  have h1:=hk h
  match ds,h1,hc with
  | [d],_,hc =>
   have:=cell_num (hc d y7);exact ⟨by simpa using this.2,by simpa using this.1⟩

variable {H:Type} {enc:TypeId × Value→H} {T:List TypeId} {B:Nat} {spare:Nat→Bool} {held:Bool}
theorem fields_rep {fuel:Nat} {cs:List Value} (ih:∀ (t:TypeId) (cs:List Value) (d:DataW H) (ps:List MemPlace),T.contains t=true→Bnd P B t d→DataW.trod enc P w 0 spare held fuel t cs=some (d,ps)→∃ ds,RepC w cs ds∧TyC P B fuel t ds∧cs.length=P.cellsOf t) :
  ∀ (fs:List Field) (o:Nat) (xs:List (DataW H × List MemPlace)),fs.all (fun f=>T.contains f.type)=true→contig P o fs=some cs.length→BndE P B (fs.map (·.type)) (xs.map (·.1))→xs.length=fs.length →
   (∀ (i:Nat) (f:Field),fs[i]? = some f→DataW.trod enc P w 0 spare held fuel f.type ((cs.drop f.offset).take (P.cellsOf f.type))=xs[i]?) →
   ∃ ds,RepC w (cs.drop o) ds∧fs.foldr (fun f K ds=>∃ a b,ds=a++b∧TyC P B fuel f.type a∧K b) (fun ds=>ds=[]) ds
 | [],o,xs,_,hc,_,_,_=>by
  simp only [contig,j9] at hc;refine ⟨[],?_,rfl⟩;rw [hc,List.drop_length]; exact .nil
 | f::fs,o,[],_,_,_,hl,_=>by simp at hl
 | f::fs,o,(d,ps)::ys,hall,hc,hb,hl,hm=>by
  simp only [contig] at hc;split at hc
  ·rename_i ho;subst ho;have hy:=hm 0 f rfl;rw [List.getElem?_cons_zero] at hy;simp only [List.all_cons,jE] at hall;have hb1:Bnd P B f.type d:=BndE.head hb;have hb2:BndE P B (fs.map (·.type)) (ys.map (·.1)):=BndE.tail hb;obtain ⟨a,h1,h2,h3⟩:=ih _ _ _ _ hall.1 hb1 hy;obtain ⟨b,h4,h5⟩:=fields_rep ih fs _ ys hall.2 hc hb2 (by simpa using hl) (fun i f' hf=>by have:=hm (i+1) f' (by simpa using hf); simpa using this);refine ⟨a++b,?_,a,b,rfl,h2,h5⟩;have:=h1.append h4
   rwa [← List.drop_drop,y3] at this
  ·cases hc

theorem trod_rep (hT:closedTs P T=true):∀ (fuel:Nat) (t:TypeId) (cs:List Value) (d:DataW H) (ps:List MemPlace),T.contains t=true→Bnd P B t d→DataW.trod enc P w 0 spare held fuel t cs=some (d,ps) →
  ∃ ds,RepC w cs ds∧TyC P B fuel t ds∧cs.length=P.cellsOf t
 | 0,t,cs,d,ps,_,_,h=>by simp [DataW.trod] at h
 | fuel+1,t,cs,d,ps,ht,hb,h=>by
  have hcl:=closed_at hT ht;cases hu:P.underlying t with
  | none=>rw [hu] at hcl; cases hcl
  | some u =>
   simp only [hu] at hcl;cases u with
   | bool =>
    obtain ⟨b,rfl,hx⟩:=DataW.trod_bool hu h;exact ⟨[.raw (.bool b)],.one (.raw _ rfl) rfl,by simp only [TyC,hu]; exact ⟨b,rfl⟩,by simp at hcl; simp [hcl]⟩
   | int k =>
    obtain ⟨n,rfl,hx,hw⟩:=DataW.trod_int hu h;exact ⟨[.raw (.int k n)],.one (.raw _ rfl) rfl,by simp only [TyC,hu]; exact ⟨n,rfl,hw⟩,by simp at hcl; simp [hcl]⟩
   | string =>
    obtain ⟨s,rfl,hx,hs⟩:=DataW.trod_string hu h;refine ⟨[.raw (.string s)],.one (.raw _ rfl) rfl,?_,by simp at hcl; simp [hcl]⟩;simp only [TyC,hu];refine ⟨s,rfl,?_⟩;have h9:s.data.toList.length=s.size:=by rw [Array.length_toList]; rfl
    simp only [jI] at hx;rcases hb with hb|hb|hb
    ·omega
    ·rw [hx.1,Rows.uptoBulk] at hb;omega
    ·rw [hx.1,DataW.weights] at hb;have:=hb _ (List.mem_singleton.2 rfl);omega
   | struct fs =>
    obtain ⟨xs,n,hn,hx,hl,hxl,hg⟩:=DataW.trod_struct hu h;cases hn;simp only [jE,beq_iff_eq] at hcl;simp only [jI] at hx
    obtain ⟨ds,h1,h2⟩:=fields_rep (cs:=cs) (fun t cs d ps=>trod_rep hT fuel t cs d ps) fs.toList 0 xs hcl.1 (by rw [hcl.2,hl]) (by
     rcases hb with hb|hb|hb
     ·exact Or.inl hb
     ·rw [hx.1,Rows.uptoBulk] at hb; exact Or.inr (Or.inl y5)
     ·rw [hx.1,DataW.weights,hu] at hb; exact Or.inr (Or.inr hb)) (by simpa using hxl) (fun i f hf=>hg i f (by simpa using hf))
    rw [List.drop_zero] at h1;exact ⟨ds,h1,by simp only [TyC,hu]; exact h2,hl⟩
   | slice e =>
    simp only [jE,beq_iff_eq,bne_iff_ne] at hcl;obtain ⟨⟨⟨hce,hc1⟩,hk0⟩,hby⟩:=hcl;replace hby:1≤P.bytesOf e:=of_decide_eq_true hby;rcases DataW.trod_slice hu h with ⟨rfl,hx⟩|⟨a,len,cap,elems,rest,n,hn,rfl,hx,_,hlc,hcm,hel,hg,_⟩
    ·exact ⟨[.lst []],.one .nil rfl,by simp only [TyC,hu]; exact ⟨[],rfl,zN _,fun x hx=>by cases hx⟩,by simp [hc1]⟩
    ·cases hn;simp only [jI] at hx
     have hlB:len≤B:=by
      rcases hb with hb|hb|hb
      ·omega
      ·rw [hx.1,Rows.uptoBulk] at hb;have:=bulk_len (elems.map (·.1));rw [jY] at this; omega
      ·rw [hx.1,DataW.weights,hu] at hb;have h8:=hb _ (jM ..);rw [jY,jY] at h8;have h9:len * 1≤(elems.length+rest.length) * P.bytesOf e:=Nat.mul_le_mul y5 hby;omega
     have hbe:∀ x∈elems,Bnd P B e x.1:=fun x hx'=>BndA.part (l:=elems.map (·.1)) (List.mem_map_of_mem hx') (by
      rcases hb with hb|hb|hb
      ·exact Or.inl hb
      ·rw [hx.1,Rows.uptoBulk] at hb; exact Or.inr (Or.inl y5)
      ·rw [hx.1,DataW.weights,hu] at hb;exact Or.inr (Or.inr fun y hy=>hb y (jG _ (List.mem_append_left _ hy))))
     obtain ⟨L,hL1,hL2⟩:=list_of (p:=fun i (ds:List Dat)=>∃ ecs,w.cells? 0 (a.add (i * P.cellsOf e)) (P.cellsOf e)=some ecs∧RepC w ecs ds∧TyC P B fuel e ds∧ecs.length=P.cellsOf e) len (fun i hi=>by
      have he:=hg i hi;have hi':i < elems.length:=by omega
      rw [jC hi',jK] at he;obtain ⟨ecs,h1,h2⟩:=he;obtain ⟨ds,h3,h4,h5⟩:=trod_rep hT fuel e ecs elems[i].1 elems[i].2 hce (hbe _ (z8 hi')) h2;exact ⟨ds,ecs,h1,h3,h4,h5⟩)
     have hmem:∀ x∈L,TyC P B fuel e x∧x.length=P.cellsOf e∧∀ d∈x,d.isCell=true:=fun x hx'=>by
      obtain ⟨i,hi,rfl⟩:=List.getElem_of_mem hx';obtain ⟨ecs,h1,h2,h3,h4⟩:=hL2 i _ (jC hi);refine ⟨h3,by rw [h2.1,h4],fun d hd=>?_⟩;obtain ⟨j,hj,rfl⟩:=List.getElem_of_mem hd;have hj':j < ecs.length:=by rw [← h2.1]; exact hj
      exact (h2.2 j _ _ (jC hj') (jC hj)).2
     have hec:∀ x∈L,(elemD P e x).cells=x∧(elemD P e x).num=P.cellsOf e:=fun x hx'=>by
      obtain ⟨h1,h2,h3⟩:=hmem x hx';have:=elemD_cells (P:=P) (e:=e) (ds:=x) (fun h=>by rw [h2]; exact closed_one hT hce h) h3;exact ⟨this.1,by rw [this.2,h2]⟩
     refine ⟨[.lst (L.map (elemD P e))],.one ?_ rfl,by simp only [TyC,hu]; exact ⟨L,rfl,by omega,fun x hx'=>(hmem x hx').1⟩,by simp [hc1]⟩;cases len with
     | zero =>
      have:L=[]:=List.eq_nil_of_length_eq_zero hL1
      subst this;exact .empty a cap
     | succ len =>
      have hsp:a.spot=none:=by
       have h0:0 < L.length:=by omega
       obtain ⟨ecs,h1,_⟩:=hL2 0 _ (jC h0);obtain ⟨h3,h4⟩:=cells?_get h1;have h5:0 < ecs.length:=by omega
       have:=(cell?_spot (h4 0 _ (jC h5))).1
       simpa [Addr.add] using this
      have hcell:∀ i j,i < L.length→j < P.cellsOf e→∃ v,w.cell? ⟨a.block,a.off+(i * P.cellsOf e+j),none⟩=some v∧a.block < w.heap.size∧∀ ds d,L[i]? = some ds→ds[j]? = some d→RepD w (fun b _=>b < w.heap.size) v d:=fun i j hi hj=>by
       obtain ⟨ecs,h1,h2,_,_⟩:=hL2 i _ (jC hi);obtain ⟨h3,h4⟩:=cells?_get h1;have h5:j < ecs.length:=by omega
       have h6:=h4 j _ (jC h5);rw [add_add hsp,Nat.add_assoc] at h6;refine ⟨_,h6,(cell?_spot h6).2,fun ds d hds hd=>?_⟩;rw [jC hi] at hds; cases hds;exact (h2.2 j _ d (jC h5) hd).1
      have hpos:0 < P.cellsOf e:=Nat.pos_of_ne_zero hk0;obtain ⟨ab,ao,as'⟩:=a;simp only at hsp hcell; subst hsp;refine .lst ab ao (len+1) cap (P.cellsOf e) _ (fun q=>(w.cell? ⟨ab,ao+q,none⟩).getD default) (by rw [jY,hL1]) hlc (fun d hd=>?_) (fun q hq=>?_) (fun i j d u hd hu'=>?_)
      ·obtain ⟨x,hx',rfl⟩:=List.mem_map.1 hd;exact (hec x hx').2
      ·have hi:q / P.cellsOf e < L.length:=by rw [hL1]; exact Nat.div_lt_of_lt_mul (by rw [Nat.mul_comm]; exact hq)
       obtain ⟨v,h1,h2,_⟩:=hcell (q / P.cellsOf e) (q % P.cellsOf e) hi (Nat.mod_lt _ hpos);rw [Nat.mul_comm,Nat.div_add_mod] at h1;exact ⟨by rw [h1]; rfl,h2⟩
      ·rw [jD,j5] at hd;obtain ⟨x,hx',rfl⟩:=hd;have hi:=(List.getElem?_eq_some_iff.1 hx').1;have hxm:=jF hx';rw [(hec x hxm).1] at hu';have hj:j < P.cellsOf e:=by have:=(List.getElem?_eq_some_iff.1 hu').1; have:=(hmem x hxm).2.1; omega
       obtain ⟨v,h1,_,h3⟩:=hcell i j hi hj;have:=h3 x u hx' hu';simp only [h1,Option.getD_some];exact this
   | _=>cases hcl
end
end Go.Pm
