/-
 Models of functions, their walks, and plain laws.
-/
import Derived.Test.YtjcfpjpdopfefaaGreatPmSx
import Derived.Test.YtjcfpjpdopfefaaGreatLay0
import Derived.Test.YtjcfpjpdopfefaaGreatRows
import Derived.WalkKit
import Derived.WalkSpells
import Derived.Test.YtjcfpjpdopfefaaGreatPmFx
import Derived.Test.YtjcfpjpdopfefaaGreatLay1
import Derived.Test.YtjcfpjpdopfefaaGreatProg
import Derived.Test.YtjcfpjpdopfefaaGreatPmMap
import Derived.Test.YtjcfpjpdopfefaaGreatPmPk
namespace Go.Proofs.Tryz
open Go Go.Pm
set_option linter.unusedVariables false
set_option linter.unusedSimpArgs false
set_option maxRecDepth 2000
def Sm (n:Nat):Prop:=n≤9223372036854775807
theorem Sm_of {n m:Nat} (h:n≤m) (hm:m≤9223372036854775807:=by decide):Sm n:=Nat.le_trans h hm
theorem idx_ok {α:Type} {l:List α} {j:Nat} (h:j < l.length):idx l (j:Int)=some l[j]:=by simp [idx,h]
theorem app_ok {α:Type} {b:Nat} {l es:List α} (h:(l.length+es.length) * b≤room):app b l es=some (l++es):=if_pos h
theorem W_ok {n:Int} (h1:-9223372036854775808≤n) (h2:n < 9223372036854775808):W n=n:=by
 simp only [W,IntKind.wrap,IntKind.bits,IntKind.signed]; simp; split <;> omega
section
variable {α:Type} {p s:List α} {x:α}
theorem Zg:((p.length:Int) < ((p++x::s).length:Int)):=by simp; omega
theorem Zc:¬ ((p.length:Int) < ((p++([]:List α)).length:Int)):=by simp
theorem Qz:idx (p++x::s) (p.length:Int)=some x:=by simp [idx]
theorem Qv:p++x::s=(p++[x])++s:=by simp
theorem mid_W (hs:Sm (p++x::s).length):W ((p.length:Int)+1)=((p++[x]).length:Int):=by
 unfold Sm at hs
 rw [W_ok (by omega) (by simp at hs; omega)]; simp
end
theorem Qe {α β:Type} (a:α) (f:α→Option β):(some a>>=f)=f a:=rfl
open Go Go.RowKit Go.Sort
def cmpL:List Int→List Int→Int
 | [],[]=>0
 | [],_::_=>-1
 | _::_,[]=>1
 | x::a,y::b=>if x < y then -1 else if y < x then 1 else cmpL a b
theorem wrap_one {j n:Nat} (h:j < n) (hn:n≤1000000):wrap64 ((j:Int)+1)=((j+1:Nat):Int):=by
 unfold wrap64; omega
def cmpI (x y:Int):Int:=if x < y then -1 else if y < x then 1 else 0
set_option maxHeartbeats 1600000 in
set_option maxRecDepth 1000000 in
theorem cmp_int (x y:Int) (w:World):Calls prog 133 #[.int .i64 x,.int .i64 y] w fun e w'=>e=.returned (.int .i64 (cmpI x y))∧w'=w:=by
 go_enter func133,ntmps133
 go_wp2
 all_goals (go_ret; exact ⟨by rw [cmpI]; first|rw [if_pos (by omega)]; rfl|rw [if_neg (by omega),if_pos (by omega)]; rfl|rw [if_neg (by omega),if_neg (by omega)]; rfl,rfl⟩)
theorem cmpL_at (a b:List Int):∀ i (ha:i < a.length) (hb:i < b.length),cmpL (a.drop i) (b.drop i)=if cmpI a[i] b[i]=0 then cmpL (a.drop (i+1)) (b.drop (i+1)) else cmpI a[i] b[i]:=fun i ha hb=>by
 rw [List.drop_eq_getElem_cons ha,List.drop_eq_getElem_cons hb,cmpL]
 unfold cmpI
 by_cases h1:a[i] < b[i]
 ·simp [h1]
 ·by_cases h2:b[i] < a[i]
  ·simp [h1,h2]
  ·simp [h1,h2]
def IntsAt (w:World) (v:Value) (a:List Int):Prop:=(a=[]∧∃ ad c,v=.slice ad 0 c)∨∃ b off c,v=.slice (some ⟨b,off,none⟩) a.length c∧∀ j (h:j < a.length),w.cell? ⟨b,off+j,none⟩=some (.int .i64 a[j])
theorem IntsAt.sl {w:World} {v:Value} {a:List Int} (h:IntsAt w v a):∃ ad c,v=.slice ad a.length c∧∀ j (h:j < a.length),∃ b off,ad=some ⟨b,off,none⟩∧w.cell? ⟨b,off+j,none⟩=some (.int .i64 a[j]):=by
 rcases h with ⟨rfl,ad,c,rfl⟩|⟨b,off,c,rfl,h⟩
 ·exact ⟨ad,c,rfl,fun j h=>absurd h (Nat.not_lt_zero _)⟩
 ·exact ⟨_,c,rfl,fun j hj=>⟨b,off,rfl,h j hj⟩⟩
set_option maxHeartbeats 1600000 in
set_option maxRecDepth 1000000 in
theorem cmp_lists (a b:List Int) (u v:Value) (w:World) (hu:IntsAt w u a) (hv:IntsAt w v b) (hl:a.length≤1000000):Calls prog 98 #[u,v] w fun e w'=>e=.returned (.int .i64 (cmpL a b))∧w'=w:=by
 obtain ⟨ua,uc,rfl,hU⟩:=hu.sl
 obtain ⟨va,vc,rfl,hV⟩:=hv.sl
 have hcmp:=fun x y=>cmp_int x y w
 have HU:Hid (∀ j (h:j < a.length),∃ b off,ua=some ⟨b,off,none⟩∧w.cell? ⟨b,off+j,none⟩=some (.int .i64 a[j])):=hU
 have HV:Hid (∀ j (h:j < b.length),∃ b' off,va=some ⟨b',off,none⟩∧w.cell? ⟨b',off+j,none⟩=some (.int .i64 b[j])):=hV
 have HL:Hid (a.length≤1000000):=hl
 clear hU hV hu hv hl
 go_enter func98,ntmps98
 go_wp2_with fail
 go_loopw [11] (fun i wr=>∃ j:Nat,j≤a.length∧j≤b.length∧i=.int .i64 j∧wr=w∧cmpL (a.drop j) (b.drop j)=cmpL a b) (fun i _=>a.length - (Lib.intOf i).toNat)
 case atStart=>exact ⟨0,Nat.zero_le _,Nat.zero_le _,rfl,rfl,rfl⟩
 case round =>
  obtain ⟨j,hj,hjb,rfl,rfl,hcm⟩:=hrel
  have HCM:Hid (cmpL (a.drop j) (b.drop j)=cmpL a b):=hcm
  clear hcm
  by_cases hlt:j < a.length
  ·obtain ⟨ub,uo,rfl,hx⟩:=HU.out j hlt
   by_cases hltb:j < b.length
   ·obtain ⟨vb,vo,rfl,hy⟩:=HV.out j hltb
    have hnb:¬ b.length≤j:=by omega
    have HAT:=cmpL_at a b j hlt hltb
    rw [HCM.out] at HAT
    have HAT:=@id (Hid _) HAT
    generalize a[j]=x at *
    generalize b[j]=y at *
    go_wp2_with (go_at_call 133; refine (hcmp _ _).mono ?_; rintro e w' ⟨rfl,rfl⟩)
    ·rename_i hne
     go_ret
     exact ⟨by rw [HAT.out,if_neg (by simpa using hne)]; rfl,rfl⟩
    ·rename_i heq
     have hw:=wrap_one hlt HL.out
     have hm:a.length - (j+1) < a.length - j:=Nat.sub_lt_sub_left hlt (Nat.lt_succ_self j)
     refine ⟨⟨j+1,hlt,hltb,by rw [hw],trivial,?_⟩,by rw [hw]; exact hm⟩
     rw [HAT.out,if_pos (by simpa using heq)]
   ·have hnb:b.length≤j:=by omega
    go_wp2_with fail
    go_ret
    refine ⟨?_,rfl⟩
    rw [← HCM.out,List.drop_eq_getElem_cons hlt,List.drop_of_length_le hnb]
    rfl
  ·have hja:j=a.length:=by omega
   subst hja
   by_cases hltb:a.length < b.length
   ·go_wp2_with fail
    go_ret
    refine ⟨?_,rfl⟩
    rw [← HCM.out,List.drop_of_length_le (Nat.le_refl _),List.drop_eq_getElem_cons hltb]
    rfl
   ·go_wp2_with fail
    go_ret
    refine ⟨?_,rfl⟩
    rw [← HCM.out,List.drop_of_length_le (Nat.le_refl _),List.drop_of_length_le (by omega)]
    rfl
open Go Go.RowKit Go.Sort Go.Proofs
theorem IntsAt.alloc {w:World} {v:Value} {a:List Int} (h:IntsAt w v a) (o:Obj):IntsAt (w.alloc o) v a:=by
 rcases h with ⟨rfl,ad,c,rfl⟩|⟨b,off,c,rfl,h⟩
 ·exact .inl ⟨rfl,ad,c,rfl⟩
 ·exact .inr ⟨b,off,c,rfl,fun j hj=>Lib.cell?_alloc_some _ (h j hj)⟩
set_option maxHeartbeats 1600000 in
set_option maxRecDepth 1000000 in
theorem before_at (A B:List Int) (a0 a1 a2 a3 a4 a5 a6 a7 a8 b0 b1 b2 b3 b4 b5 b6 b7 b8:Value) (w:World) (hA:IntsAt w a0 A) (hB:IntsAt w b0 B) (hl:A.length≤1000000) :
  Calls prog 51 #[.agg #[a0,a1,a2,a3,a4,a5,a6,a7,a8],.agg #[b0,b1,b2,b3,b4,b5,b6,b7,b8]] w fun e w'=>e=.returned (.int .i64 (cmpL A B))∧∃ q os',w'=grow (w.drewN q) os':=by
 have hcon:=fun o o'=>cmp_lists A B a0 b0 ((w.alloc o).alloc o') ((hA.alloc _).alloc _) ((hB.alloc _).alloc _) hl
 obtain ⟨aa,ac,rfl,_⟩:=hA.sl
 obtain ⟨ba,bc,rfl,_⟩:=hB.sl
 clear hA hB hl
 generalize cmpL A B=r at hcon ⊢
 go_enter func51,ntmps51
 go_wp2_with (go_at_call 98; refine (hcon _ _).mono ?_; rintro e w' ⟨rfl,rfl⟩)
 go_ret
 exact ⟨rfl,0,_,by rw [alloc_eq_grow,alloc_eq_grow,grow_grow]; rfl⟩
open Go Go.RowKit Go.Sort Go.Proofs Go.Pm
theorem cmpL_self:∀ a:List Int,cmpL a a=0
 | []=>rfl
 | x::a=>by rw [cmpL,if_neg (by omega),if_neg (by omega),cmpL_self a]
theorem cmpL_trans:∀ {a b c:List Int},cmpL a b < 0→cmpL b c < 0→cmpL a c < 0
 | a,b,[],h1,h2=>by cases b <;> simp [cmpL] at h2
 | [],b,z::c,h1,h2=>by simp [cmpL]
 | x::a,[],z::c,h1,h2=>by simp [cmpL] at h1
 | x::a,y::b,z::c,h1,h2=>by
  simp only [cmpL] at h1 h2 ⊢
  split at h1
  ·split at h2
   ·rw [if_pos (by omega)]; decide
   ·split at h2
    ·omega
    ·rw [if_pos (by omega)]; decide
  ·split at h1
   ·omega
   ·split at h2
    ·rw [if_pos (by omega)]; decide
    ·split at h2
     ·omega
     ·rw [if_neg (by omega),if_neg (by omega)]; exact cmpL_trans h1 h2
theorem cmpL_ntrans:∀ {a b c:List Int},¬ cmpL a b < 0→¬ cmpL b c < 0→¬ cmpL a c < 0
 | [],b,[],h1,h2=>by simp [cmpL]
 | x::a,b,[],h1,h2=>by simp [cmpL]
 | [],[],z::c,h1,h2=>by simp [cmpL] at h2
 | [],y::b,z::c,h1,h2=>by simp [cmpL] at h1
 | x::a,[],z::c,h1,h2=>by simp [cmpL] at h2
 | x::a,y::b,z::c,h1,h2=>by
  simp only [cmpL] at h1 h2 ⊢
  split at h1
  ·exact absurd (show (-1:Int) < 0 by decide) h1
  ·split at h2
   ·exact absurd (show (-1:Int) < 0 by decide) h2
   ·rw [if_neg (by omega)]
    split at h1
    ·rw [if_pos (by omega)]; decide
    ·split at h2
     ·rw [if_pos (by omega)]; decide
     ·rw [if_neg (by omega)]; exact cmpL_ntrans h1 h2
def intOfD:Dat→Int
 | .raw (.int .i64 n)=>n
 | _=>0
def isI:Dat→Bool
 | .raw (.int .i64 _)=>true
 | _=>false
def keyD:Dat→List Int
 | .agg (.lst es::_)=>es.map intOfD
 | _=>[]
def okD:Dat→Bool
 | .agg (.lst es::r)=>decide (es.length≤1000000) && es.all isI && Dat.fits 9 (.agg (.lst es::r))
 | _=>false
def insD (x:Dat):List Dat→List Dat
 | []=>[x]
 | y::l=>if cmpL (keyD y) (keyD x) < 0 then y::insD x l else x::y::l
def sortD (l:List Dat):List Dat:=l.foldr insD []
def strictD:List Dat→Bool
 | a::b::l=>decide (cmpL (keyD a) (keyD b) < 0) && strictD (b::l)
 | _=>true
theorem insD_perm (x:Dat):∀ l,(insD x l).Perm (x::l)
 | []=>.refl _
 | y::l=>by
  rw [insD]
  split
  ·exact ((insD_perm x l).cons y).trans (.swap x y l)
  ·exact .refl _
theorem sortD_perm:∀ l,(sortD l).Perm l
 | []=>.refl _
 | x::l=>(insD_perm x (sortD l)).trans ((sortD_perm l).cons x)
theorem strict_pair:∀ {l:List Dat},strictD l=true→l.Pairwise fun a b=>cmpL (keyD a) (keyD b) < 0
 | [],_=>.nil
 | [a],_=>by simp
 | a::b::l,h=>by
  simp only [strictD,Bool.and_eq_true,decide_eq_true_eq] at h
  have ih:=strict_pair h.2
  refine List.pairwise_cons.2 ⟨fun c hc=>?_,ih⟩
  rcases List.mem_cons.1 hc with rfl|hc
  ·exact h.1
  ·exact cmpL_trans h.1 ((List.pairwise_cons.1 ih).1 c hc)
theorem sorted_only {α:Type} (lt:α→α→Prop) (irr:∀ a,¬ lt a a):∀ {l m:List α},l.Perm m→l.Pairwise lt→m.Pairwise (fun a b=>¬ lt b a)→l=m
 | [],m,hp,_,_=>hp.nil_eq
 | a::l,[],hp,_,_=>(List.cons_ne_nil _ _ (List.perm_nil.1 hp)).elim
 | a::l,b::m,hp,hl,hm=>by
  have hl':=List.pairwise_cons.1 hl
  have hm':=List.pairwise_cons.1 hm
  have e:a=b:=by
   rcases List.mem_cons.1 (hp.mem_iff.1 (List.mem_cons_self ..)) with e|h1
   ·exact e
   ·rcases List.mem_cons.1 (hp.mem_iff.2 (List.mem_cons_self ..)) with e|h2
    ·exact e.symm
    ·exact absurd (hl'.1 b h2) (hm'.1 a h1)
  subst e
  rw [sorted_only lt irr hp.cons_inv hl'.2 hm'.2]
open Go Go.RowKit Go.Sort Go.Proofs Go.Pm Go.Shelf
set_option maxHeartbeats 1600000 in
set_option maxRecDepth 1000000 in
theorem ins_empty (ad:Option Addr) (c:Nat) (f:Value) (w:World):Calls prog 213 #[.slice ad 0 c,.int .i64 0,.int .i64 0,f] w fun e w'=>e=.returned (.tuple #[])∧w'=w:=by
 go_enter func213,ntmps213
 go_wp2_with fail
 go_loopw [8] (fun i wr=>i=.int .i64 1∧wr=w) (fun _ _=>0)
 case atStart=>exact ⟨rfl,rfl⟩
 case round =>
  obtain ⟨rfl,rfl⟩:=hrel
  go_wp2_with fail
  go_end0
  exact ⟨rfl,rfl⟩
set_option maxHeartbeats 1600000 in
set_option maxRecDepth 1000000 in
theorem sort_empty (ad:Option Addr) (c:Nat) (w:World):Calls prog 153 #[.slice ad 0 c,.func (.func 51) #[] #[]] w fun e w'=>e=.returned (.tuple #[])∧w'=w:=by
 have hl:Calls prog 147 #[.int .u64 0] w fun e w'=>e=.returned (.int .i64 0)∧w'=w :=
  Any.bits_Len (SlLaysF0.n15.bits (P:=prog) (ρ:=sortP_ren) { Tryz.sortP with }) 0 w (by omega) (by omega)
 have hi:=fun f=>ins_empty ad c f w
 have hp:∀ f,Calls prog 191 #[.slice ad 0 c,.int .i64 0,.int .i64 0,.int .i64 0,f] w fun e w'=>e=.returned (.tuple #[])∧w'=w:=fun f=>by
  clear hl
  go_enter func191,ntmps191
  go_wp2_with fail
  go_loopw [1,2,3] (fun a b l wr=>a=.int .i64 0∧b=.int .i64 0∧wr=w) (fun _ _ _ _=>0)
  case atStart=>exact ⟨rfl,rfl,rfl⟩
  case round =>
   obtain ⟨rfl,rfl,rfl⟩:=hrel
   go_wp2_with (go_at_call 213; refine (hi _).mono ?_; rintro e w' ⟨rfl,rfl⟩)
   refine bodyPost_ret (results_none rfl _ _ _) rfl ?_
   exact ⟨rfl,rfl⟩
 clear hi
 go_enter func153,ntmps153
 go_wp2_with (first|(go_at_call 147; refine hl.mono ?_; rintro e w' ⟨rfl,rfl⟩)|(go_at_call 191; refine (hp _).mono ?_; rintro e w' ⟨rfl,rfl⟩))
 go_end0
 exact ⟨rfl,rfl⟩
theorem good_late {P:Program} {B0:Nat} {w0:World} {S0:Nat→Nat→Prop} {H H':List Blk} {g g':Gh} {w w1 w2:World} {p:PV} {v:Value} (h:Pm.Good P B0 w0 S0 H g w p H' v g' w1) (ho:w2.os=w1.os) (ht:w2.tape=w1.tape) (hu:w2.output=w1.output)
  (hs:w1.heap.size≤w2.heap.size) (hb:∀ b,b < w1.heap.size→w2.heap[b]? = w1.heap[b]?):Pm.Good P B0 w0 S0 H g w p H' v g' w2:=by
 have he:∀ N,Ext N g' w1 g' w2:=fun N=>⟨fun _ _ h=>h,fun b o hs=>World.cell?_of_block (w:=w1) (hb b (h.inv.lt b o hs)),fun _ _ h=>⟨rfl,h⟩,fun _ _ v n h=>⟨v,n,h,Nat.le_refl _,fun _=>rfl⟩⟩
 exact ⟨h.ext.trans (he H.length) (Nat.le_refl _),h.len,h.rep.ext (he _) (Nat.le_refl _),h.heap.keep (he _) (Nat.le_refl _) (Nat.le_refl _) (fun i b hi=>hb b (h.heap.occ_lt hi).2.1) (fun _ _ _ _ h=>h) (fun _ _=>rfl),
  ⟨h.inv.below.trans ⟨ho,ht,hu,hs,fun k hk=>hb k (Nat.lt_of_lt_of_le hk h.inv.size)⟩,Nat.le_trans h.inv.size hs,h.inv.old,fun b o hs'=>Nat.lt_of_lt_of_le (h.inv.lt b o hs') hs⟩,
  h.fr.trans ⟨hs,fun b hb' _=>hb b hb',fun i b hi _=>⟨i,hi⟩,fun _ _ h=>.inl h⟩⟩
theorem cell_of {w:World} {g:Nat} {cur:Array Value} {e:TypeId} (h:w.heap[g]? = some (.cells cur e (0,0))) (j:Nat):w.cell? ⟨g,j,none⟩=cur[j]?∧w.frozen? ⟨g,j,none⟩=false:=by
 constructor
 ·simp [World.cell?,h]
 ·simp [World.frozen?,h]
def cellAt (cur:Array Value) (n i j:Nat):Value:=cur[(if i < n then i else 0) * 9+j]!
def encP (cur:Array Value) (n i:Nat):List Value:=[cellAt cur n i 0,cellAt cur n i 1,cellAt cur n i 2,cellAt cur n i 3,cellAt cur n i 4,cellAt cur n i 5,cellAt cur n i 6,cellAt cur n i 7,cellAt cur n i 8]
theorem encP_get (cur:Array Value) (n i:Nat):∀ j,j < 9→(encP cur n i)[j]! = cellAt cur n i j
 | 0,_=>rfl|1,_=>rfl|2,_=>rfl|3,_=>rfl|4,_=>rfl|5,_=>rfl|6,_=>rfl|7,_=>rfl|8,_=>rfl
 | j+9,h=>by omega
theorem encP_mem {cur:Array Value} {n i:Nat} {v:Value} (h:v∈encP cur n i):∃ j,j < 9∧v=cellAt cur n i j:=by
 simp only [encP,List.mem_cons,List.not_mem_nil,or_false] at h
 rcases h with h|h|h|h|h|h|h|h|h
 ·exact ⟨0,by decide,h⟩
 ·exact ⟨1,by decide,h⟩
 ·exact ⟨2,by decide,h⟩
 ·exact ⟨3,by decide,h⟩
 ·exact ⟨4,by decide,h⟩
 ·exact ⟨5,by decide,h⟩
 ·exact ⟨6,by decide,h⟩
 ·exact ⟨7,by decide,h⟩
 ·exact ⟨8,by decide,h⟩
theorem cellAt_get {cur:Array Value} {n i j:Nat} (hi:i < n) (hj:j < 9) (hn:n * 9≤cur.size):cur[i * 9+j]? = some (cellAt cur n i j):=by
 have:i * 9+j < cur.size:=by omega
 rw [cellAt,if_pos hi,getElem!_pos cur _ this,Array.getElem?_eq_getElem this]
theorem range_get {n i:Nat} (h:i < n):(Array.range n)[i]! = i:=by
 rw [getElem!_pos _ _ (by simpa using h)]; simp
theorem holdsP {w:World} {b n:Nat} {cur:Array Value} (hb:w.heap[b]? = some (.cells cur 62 (0,0))) (hn:n * 9≤cur.size):HoldsK (encP cur n) 9 w b 0 (Array.range n):=by
 intro t ht
 simp only [size_flatK,Array.size_range] at ht
 have h1:t / 9 < n:=by omega
 have h2:t % 9 < 9:=Nat.mod_lt _ (by decide)
 have hg:=get_flatK (encP cur n) 9 (Array.range n) t (by simpa using ht)
 rw [range_get h1,encP_get cur n _ _ h2] at hg
 rw [Nat.zero_add,hg]
 refine ⟨?_,(cell_of hb t).2⟩
 rw [(cell_of hb t).1,show t=t / 9 * 9+t % 9 by omega,cellAt_get h1 h2 hn]
 congr 2 <;> omega
theorem swoK (K:Nat→List Int):SWO (ltOf fun x y=>cmpL (K x) (K y)):=by
 refine ⟨fun x=>by simp [ltOf,cmpL_self],fun x y z h1 h2=>?_,fun x y z h1 h2=>?_⟩
 ·simp only [ltOf,decide_eq_true_eq] at *; exact cmpL_trans h1 h2
 ·simp only [ltOf,decide_eq_false_iff_not] at *; exact cmpL_ntrans h1 h2
theorem rep_raw {w:World} {S:Nat→Nat→Prop} {v x:Value} (h:RepD w S v (.raw x)):v=x:=by cases h; rfl
theorem isI_eq {d:Dat} (h:isI d=true):d=.raw (.int .i64 (intOfD d)):=by
 unfold isI at h
 split at h
 ·rfl
 ·cases h
theorem rep_ints {w:World} {S:Nat→Nat→Prop} {v:Value} {es:List Dat} (h:RepD w S v (.lst es)) (hI:es.all isI=true):IntsAt w v (es.map intOfD):=by
 cases h with
 | nil=>exact .inl ⟨rfl,_,_,rfl⟩
 | empty a cap=>exact .inl ⟨rfl,_,_,rfl⟩
 | lst b off len cap k es c h1 h1' h2 h3 h4 =>
  refine .inr ⟨b,off,cap,by rw [h1,List.length_map],fun j hj=>?_⟩
  simp only [List.length_map] at hj
  have hd:=isI_eq (List.all_eq_true.1 hI es[j] (List.getElem_mem hj))
  have hk:k=1:=by rw [← h2 es[j] (List.getElem_mem hj),hd]; rfl
  subst hk
  rw [(h3 j (by omega)).1]
  have:=h4 j 0 es[j] (.raw (.int .i64 (intOfD es[j]))) (List.getElem?_eq_getElem hj) (by rw [hd]; rfl)
  rw [Nat.mul_one,Nat.add_zero] at this
  rw [rep_raw this]; simp
theorem map_set {w:World} {b:Nat} {cur:Array Value} {ty:TypeId} {fz:Nat × Nat} (hb:w.heap[b]? = some (.cells cur ty fz)) (f:Array Value→Array Value):mapBlock w b f=w.setRow b (f cur):=by
 unfold mapBlock World.setRow
 congr 1
 apply Array.ext_getElem?
 intro i
 simp only [Array.getElem?_modify]
 by_cases h:b=i
 ·subst h
  rw [if_pos rfl,if_pos rfl,hb]; rfl
 ·rw [if_neg h,if_neg h]
def dO:Dat:=.raw undef
theorem ok_cells {d:Dat} (h:okD d=true):∃ es r,d=.agg (.lst es::r)∧es.length≤1000000∧es.all isI=true∧Dat.fits 9 d=true:=by
 unfold okD at h
 split at h
 ·simp only [Bool.and_eq_true,decide_eq_true_eq] at h
  exact ⟨_,_,rfl,h.1.1,h.1.2,h.2⟩
 ·cases h
theorem perm_list {n:Nat} {d':Array Nat} (h:PermIn 0 n (Array.range n) d'):d'.toList.Perm (List.range n):=by
 obtain ⟨h1,_,h3⟩:=h
 simp only [Array.size_range] at h1
 have e1:d'.extract 0 n=d':=by rw [← h1]; simp
 have e2:(Array.range n).extract 0 n=Array.range n:=by
  simp
 rw [e1,e2,Array.toList_range] at h3
 exact h3
theorem sorted_list {n:Nat} {d':Array Nat} {ds:List Dat} (hn:n=ds.length) (hp:PermIn 0 n (Array.range n) d') (hs:SortedIn (ltOf fun x y=>cmpL (keyD (ds.getD (if x < n then x else 0) dO)) (keyD (ds.getD (if y < n then y else 0) dO))) 0 n d') (hst:strictD (sortD ds)=true) :
  d'.toList.map (fun x=>ds.getD x dO)=sortD ds:=by
 have hl:=perm_list hp
 have hds:(List.range n).map (fun x=>ds.getD x dO)=ds:=by
  subst hn
  apply List.ext_getElem
  ·simp
  ·intro i h1 h2
   simp [List.getD_eq_getElem?_getD,h2]
 have hsz:d'.size=n:=by have:=hp.1; simpa using this
 have hmem:∀ x∈d'.toList,x < n:=fun x hx=>by simpa using hl.mem_iff.1 hx
 refine (sorted_only (fun a b=>cmpL (keyD a) (keyD b) < 0) (fun a=>by simp [cmpL_self]) ((sortD_perm ds).trans ?_) (strict_pair hst) ?_).symm
 ·have:=(hl.map fun x=>ds.getD x dO).symm
  rwa [hds] at this
 ·rw [List.pairwise_map,List.pairwise_iff_getElem]
  intro i j hi hj hij
  simp only [Array.length_toList] at hi hj
  have:=hs i j (Nat.zero_le _) hij (by omega)
  rw [getElem!_pos d' j hj,getElem!_pos d' i hi] at this
  simp only [ltOf,decide_eq_false_iff_not] at this
  rw [if_pos (hmem _ (Array.getElem_mem_toList hj)),if_pos (hmem _ (Array.getElem_mem_toList hi))] at this
  simpa using this
theorem sort_row {w:World} {S:Nat→Nat→Prop} {b n cap:Nat} {cur:Array Value} {ds:List Dat} (hb:w.heap[b]? = some (.cells cur 62 (0,0))) (hn:n=ds.length) (hcur:n * 9≤cur.size) (h0:0 < n) (hm:n≤1000000)
  (hok:ds.all okD=true) (hS:∀ b' o,S b' o→b'≠b∧b' < w.heap.size) (q8:RowD w S 9 ds cur) (hst:strictD (sortD ds)=true) :
  Calls prog 153 #[.slice (some ⟨b,0,none⟩) n cap,.func (.func 51) #[] #[]] w fun e w'=>e=.returned (.tuple #[])∧∃ new m os,new.size=cur.size∧w'=grow (Sort.ahead (w.setRow b new) m) os∧RowD w S 9 (sortD ds) new:=by
 have eg:∀ args w,(callFunc 51 args).run prog w=.ok (.enter 51 args) w:=enters_of func51 (by kernel_rfl) rfl
 have hblk:b < w.heap.size:=(Array.getElem?_eq_some_iff.1 hb).1
 have hI:∀ x,(if x < n then x else 0) < ds.length:=fun x=>by split <;> omega
 have hgd:∀ x,ds[if x < n then x else 0]? = some (ds.getD (if x < n then x else 0) dO):=fun x=>by
  rw [List.getD_eq_getElem?_getD,List.getElem?_eq_getElem (hI x)]; rfl
 have hokx:∀ x,okD (ds.getD (if x < n then x else 0) dO)=true:=fun x=>List.all_eq_true.1 hok _ (List.mem_of_getElem? (hgd x))
 have hcell:∀ x j u,(ds.getD (if x < n then x else 0) dO).cells[j]? = some u→j < 9→RepD w S (cellAt cur n x j) u:=fun x j u hu hj=>by
  have hlt:(if x < n then x else 0) * 9+j < cur.size:=by have:=hI x; omega
  refine q8 _ j _ u _ (hgd x) hu ?_
  rw [cellAt,getElem!_pos cur _ hlt,Array.getElem?_eq_getElem hlt]
 have h1:∀ x,∀ v∈encP cur n x,v.oneCell'=true:=fun x v hv=>by
  obtain ⟨j,hj,rfl⟩:=encP_mem hv
  obtain ⟨es,r,he,_,_,hf⟩:=ok_cells (hokx x)
  simp only [Dat.fits,Bool.and_eq_true,beq_iff_eq] at hf
  have hlen:j < (ds.getD (if x < n then x else 0) dO).cells.length:=by rw [← Dat.num_eq,hf.1]; exact hj
  have hu:=List.getElem?_eq_getElem hlen
  have hc:=List.all_eq_true.1 hf.2 _ (List.getElem_mem hlen)
  have hr:=hcell x j _ hu hj
  exact one_of_cell (g:=⟨fun _=>0,fun _=>False,fun _=>none,S⟩) (N:=0) (.dat _ _ hr) (by
   generalize (ds.getD (if x < n then x else 0) dO).cells[j]=u at hc
   cases u <;> first|rfl|(simp [Dat.isCell] at hc))
 have hcmp:CmpLays prog 51 #[] (encP cur n) 9 (fun x y=>cmpL (keyD (ds.getD (if x < n then x else 0) dO)) (keyD (ds.getD (if y < n then y else 0) dO))) b 0 n w:=fun m os dk hdk x y=>by
  have key:∀ x,IntsAt (sortWorldK (encP cur n) 9 w b 0 m dk os) (cellAt cur n x 0) (keyD (ds.getD (if x < n then x else 0) dO))∧(keyD (ds.getD (if x < n then x else 0) dO)).length≤1000000:=fun x=>by
   obtain ⟨es,r,he,hl,hi,_⟩:=ok_cells (hokx x)
   have hr:=hcell x 0 (.lst es) (by rw [he]; rfl) (by decide)
   have hr':RepD (sortWorldK (encP cur n) 9 w b 0 m dk os) S (cellAt cur n x 0) (.lst es):=hr.mono (fun _ _ h=>h) fun b' o hs=>by
    obtain ⟨s1,s2⟩:=hS b' o hs
    unfold sortWorldK
    rw [cell?_grow _ _ _ (by show b' < (putRow _ _ _ _ _).heap.size; rw [size_putRow]; exact s2),cell?_putRowK_other _ _ _ _ _ _ _ s1]
    rfl
   have:=rep_ints hr' hi
   have hk:keyD (ds.getD (if x < n then x else 0) dO)=es.map intOfD:=by rw [he]; rfl
   rw [hk]
   exact ⟨this,by simpa using hl⟩
  exact before_at _ _ _ _ _ _ _ _ _ _ _ _ _ _ _ _ _ _ _ _ _ (key x).1 (key y).1 (key x).2
 have hcon:=AnyQ.slices_SortFunc Tryz.sortP 9 isAgg62 sizeOf62 (encP cur n) (fun _=>rfl) h1 _ (swoK fun x=>keyD (ds.getD (if x < n then x else 0) dO)) 51 #[] b 0 cap (Array.range n) w eg (by rw [Array.size_range]; exact hcmp) (holdsP hb hcur) hblk (by rw [Array.size_range]; omega)
 rw [Array.size_range] at hcon
 change Calls prog 153 _ _ _ at hcon
 refine hcon.mono ?_
 rintro e w' ⟨rfl,d',m,os,hp,hs,rfl⟩
 have hL:=sorted_list hn hp hs hst
 have hsz:d'.size=n:=by have:=hp.1; simpa using this
 refine ⟨rfl,putCells id 0 (flatK (encP cur n) 9 d') cur,m,os,by simp [putCells],?_,?_⟩
 ·unfold sortWorldK putRowK
  rw [putRow_ahead,putRow,map_set hb]
 ·intro i j d u v g1 g2 g3
  rw [← hL,List.getElem?_map,Option.map_eq_some_iff] at g1
  obtain ⟨x,hx,rfl⟩:=g1
  have hxn:x < n:=by simpa using (perm_list hp).mem_iff.1 (List.mem_of_getElem? hx)
  have hi:i < n:=by have:=(List.getElem?_eq_some_iff.1 hx).1; simp at this; omega
  have hxd:d'[i]! = x:=by
   have:=(List.getElem?_eq_some_iff.1 hx).2
   rw [getElem!_pos d' i (by omega)]; simpa using this
  have hox:=hokx x
  rw [if_pos hxn] at hox
  obtain ⟨es,r,he,_,_,hf⟩:=ok_cells hox
  simp only [Dat.fits,Bool.and_eq_true,beq_iff_eq] at hf
  have hj:j < 9:=by rw [← hf.1,Dat.num_eq]; exact (List.getElem?_eq_some_iff.1 g2).1
  have ht:i * 9+j < (flatK (encP cur n) 9 d').size:=by rw [size_flatK]; omega
  have hlt:i * 9+j < cur.size:=by omega
  have hv:v=cellAt cur n x j:=by
   simp only [putCells,Array.getElem?_mapIdx,Array.getElem?_eq_getElem hlt,Option.map_some,Option.some.injEq] at g3
   rw [if_pos ⟨Nat.zero_le _,by omega⟩,Nat.sub_zero,get_flatK _ _ _ _ (by rw [← size_flatK (encP cur n) 9 d']; exact ht),show (i * 9+j) / 9=i by omega,show (i * 9+j) % 9=j by omega,hxd,encP_get _ _ _ _ hj] at g3
   exact g3.symm
  rw [hv]
  have:=hcell x j u
  rw [if_pos hxn] at this
  exact this g2 hj
def sortG (args:List PV) (H:List Blk):Option (PV × List Blk) :=
 match args,H with
 | [.ms 0 gg 0 len _,.dat (.raw (.func (.func 51) fx cx))],[.mt e g' cs]=>match allDat cs with
  | some ds=>if (fx.size=0∧cx.size=0∧g'=gg∧e=62)∧len=ds.length∧len≤1000000∧ds.all okD=true∧strictD (sortD ds)=true then some (.tup [],[.mt e gg ((sortD ds).map .dat)]) else none
  | none=>none
 | _,_=>none
theorem size62:szOf prog 62=some 9:=by kernel_rfl
theorem dat_inj:∀ {a b:List Dat},a.map PV.dat=b.map PV.dat→a=b
 | [],[],_=>rfl
 | [],_::_,h=>by simp at h
 | _::_,[],h=>by simp at h
 | x::a,y::b,h=>by
  simp only [List.map_cons,List.cons.injEq,PV.dat.injEq] at h
  rw [h.1,dat_inj h.2]
theorem grow_old {w:World} {os:Array Obj} {b:Nat} (h:b < w.heap.size):(grow w os).heap[b]? = w.heap[b]?:=by
 show (w.heap++os)[b]? = _
 rw [Array.getElem?_append_left h]
theorem sort_call (args:List PV) (H:List Blk) (p:PV) (H':List Blk) (h:sortG args H=some (p,H')):HeapCall prog 153 args H p H':=by
 unfold sortG at h
 split at h
 ·rename_i gg len cp fx cx e g' cs
  split at h
  ·rename_i ds hds
   split at h
   ·rename_i hc
    cases h
    obtain ⟨⟨f0,c0,rfl,rfl⟩,hl,hm,hok,hst⟩:=hc
    have hcs:=allDat_some _ _ hds
    subst hcs
    have hfx:fx=#[]:=Array.eq_empty_of_size_eq_zero f0
    have hcx:cx=#[]:=Array.eq_empty_of_size_eq_zero c0
    subst hfx; subst hcx
    intro B0 w0 S0 g w vals hn hr hH hi hG
    obtain ⟨l⟩:=vals
    match l,hn with
    | [v0,v1],_ =>
    have h1:v1=.func (.func 51) #[] #[]:=rep_raw (hr 1 v1 _ rfl rfl).datInv
    subst h1
    have h0:=hr 0 v0 _ rfl rfl
    obtain ⟨u0,j1,j2⟩:=hH.mt 0 _ _ _ rfl
    have hfits:(sortD ds).all (Dat.fits 9)=true:=List.all_eq_true.2 fun d hd=>by
     obtain ⟨_,_,_,_,_,hf⟩:=ok_cells (List.all_eq_true.1 hok d ((sortD_perm ds).mem_iff.1 hd))
     exact hf
    cases h0 with
    | ms _ _ _ _ _ _ u1 n k1 k2 k3 k4 k5 =>
     have hown:=k2
     rw [k2] at j1
     simp only [Option.some.injEq,Prod.mk.injEq] at j1
     obtain ⟨rfl,rfl⟩:=j1
     obtain ⟨hv,_⟩:=k4 rfl
     by_cases hz:ds=[]
     ·subst hz
      have hl0:len=0:=by simpa using hl
      subst hl0
      obtain ⟨ad,c,rfl,_⟩:=k5
      refine (sort_empty ad c w).mono ?_
      rintro e w' ⟨rfl,rfl⟩
      exact ⟨_,g,rfl,.same hH hi (.tup _ _ rfl fun j v c h=>by simp at h)⟩
     ·have hne:0 < ds.length:=List.length_pos_iff.2 hz
      rcases j2 with ⟨hnil,_⟩|⟨b,l',cap',cur,_,_,_,_,_,⟨_,hflat⟩,_⟩|⟨b,l',cap',cur,size,ds',rfl,q0,q1,q2,q3,q3',q4,q5,q5',q6,q7,q8,q9⟩
      ·exact absurd (by simpa using hnil) hz
      ·exfalso
       obtain ⟨d,r,rfl⟩:=List.exists_cons_of_ne_nil hz
       obtain ⟨es,r',rfl,_⟩:=ok_cells (List.all_eq_true.1 hok d (by simp))
       simp [PV.flat] at hflat
      ·have:=dat_inj q4
       subst this
       rw [size62] at q3
       cases q3
       have hv':v0=.slice (some ⟨b,0,none⟩) len cap':=by rw [hv]; simp [subOf,Addr.add]
       subst hv'
       refine (sort_row (S:=g.S) (n:=len) (cap:=cap') q2 hl (by rw [q7]; exact Nat.mul_le_mul_right _ (by omega)) (by omega) hm hok (fun b' o hs=>⟨fun e=>by subst e; exact q8 o hs,hi.lt b' o hs⟩) q9 hst).mono ?_
       rintro e w' ⟨rfl,new,m,os,hnew,rfl,hrow⟩
       have hg:=mul_put (P:=prog) (S0:=S0) (w0:=w0) (gg':=n) (l1:=l') (v:=.tuple #[]) (p:=.tup []) (ds':=sortD ds) (new:=new) (H:=[.mt 62 n (ds.map .dat)]) (tt:=0) rfl hown q0 q1 q2 size62 (by decide) q6 q7 q8 hfits (by rw [(sortD_perm ds).length_eq]; exact q5') hnew hrow (.inl ⟨rfl,rfl⟩) hH hi
        (.tup _ _ rfl fun j v c h=>by simp at h)
       exact ⟨_,_,rfl,good_late hg rfl rfl rfl (by simp [grow,Sort.ahead]) fun b hb=>by
        rw [grow_old (by exact hb)]; rfl⟩
   ·cases h
  ·cases h
 ·cases h
open Go Go.RowKit Go.Proofs Go.Pm Go.Shelf
def keysZ:List (Value × PV)→Option (List Int)
 | []=>some []
 | (.int .i64 n,.dat (.raw (.bool true)))::l=>if -9223372036854775808≤n∧n≤9223372036854775807 then (keysZ l).map (n::·) else none
 | _::_=>none
def insZ (x:Int):List Int→List Int
 | []=>[x]
 | y::l=>if x≤y then x::y::l else y::insZ x l
def sortZ (l:List Int):List Int:=l.foldr insZ []
def nodZ:List Int→Bool
 | []=>true
 | x::l=>!(l.contains x) && nodZ l
def sortedG (args:List PV) (H:List Blk):Option (PV × List Blk) :=
 match args with
 | [.fn 108 [.ptr b 0]]=>match H[b]? with
  | some (.box [.mapv m])=>match mapOf H m with
   | some es=>match keysZ es with
    | some ns=>if nodZ ns=true∧ns.length≤1000000 then some (.dat (.lst ((sortZ ns).map fun n=>.raw (.int .i64 n))),H) else none
    | none=>none
   | none=>none
  | _=>none
 | _=>none
theorem insZ_perm (x:Int):∀ l,(insZ x l).Perm (x::l)
 | []=>.refl _
 | y::l=>by
  rw [insZ]
  split
  ·exact .refl _
  ·exact ((insZ_perm x l).cons y).trans (.swap x y l)
theorem sortZ_perm:∀ l,(sortZ l).Perm l
 | []=>.refl _
 | x::l=>(insZ_perm x (sortZ l)).trans ((sortZ_perm l).cons x)
theorem insZ_le (x:Int):∀ l:List Int,l.Pairwise (·≤·)→(insZ x l).Pairwise (·≤·)
 | [],_=>List.pairwise_singleton _ _
 | y::l,h=>by
  obtain ⟨h1,h2⟩:=List.pairwise_cons.1 h
  rw [insZ]
  split
  ·rename_i c
   refine List.pairwise_cons.2 ⟨fun z hz=>?_,h⟩
   rcases List.mem_cons.1 hz with rfl|hz
   ·exact c
   ·exact Int.le_trans c (h1 z hz)
  ·rename_i c
   refine List.pairwise_cons.2 ⟨fun z hz=>?_,insZ_le x l h2⟩
   rcases List.mem_cons.1 ((insZ_perm x l).mem_iff.1 hz) with rfl|hz
   ·omega
   ·exact h1 z hz
theorem sortZ_le:∀ l:List Int,(sortZ l).Pairwise (·≤·)
 | []=>.nil
 | x::l=>insZ_le x _ (sortZ_le l)
theorem nodZ_nodup:∀ {l:List Int},nodZ l=true→l.Nodup
 | [],_=>.nil
 | x::l,h=>by
  simp only [nodZ,Bool.and_eq_true,Bool.not_eq_true',List.contains_eq_mem,decide_eq_false_iff_not] at h
  exact List.nodup_cons.2 ⟨h.1,nodZ_nodup h.2⟩
theorem sorted_same:∀ {l m:List Int},l.Perm m→l.Pairwise (·≤·)→m.Pairwise (·≤·)→l=m
 | [],m,hp,_,_=>hp.nil_eq
 | a::l,[],hp,_,_=>(List.cons_ne_nil _ _ (List.perm_nil.1 hp)).elim
 | a::l,b::m,hp,hl,hm=>by
  have hl':=List.pairwise_cons.1 hl
  have hm':=List.pairwise_cons.1 hm
  have e:a=b:=by
   rcases List.mem_cons.1 (hp.mem_iff.1 (List.mem_cons_self ..)) with e|h1
   ·exact e
   ·rcases List.mem_cons.1 (hp.mem_iff.2 (List.mem_cons_self ..)) with e|h2
    ·exact e.symm
    ·have:=hl'.1 b h2; have:=hm'.1 a h1; omega
  subst e
  rw [sorted_same (hp.cons_inv) hl'.2 hm'.2]
theorem merge_le (ss:List Int):(ss.mergeSort fun x y=>decide (x≤y)).Pairwise (·≤·):=by
 have:=List.pairwise_mergeSort (le:=fun x y:Int=>decide (x≤y)) (fun a b c h1 h2=>by simp at h1 h2 ⊢; omega) (fun a b=>by simp; omega) ss
 exact this.imp fun h=>by simpa using h
theorem good_new {P:Program} {B0:Nat} {w0:World} {S0:Nat→Nat→Prop} {g:Gh} {H:List Blk} {w w':World} {v:Value} {d:Dat} (hH:Qh P g B0 H.length H w) (hi:Pm.Inv B0 w0 S0 g w) (hb:Below w.heap.size w w')
  (hv:RepD w' (fun b o=>g.S b o∨(w.heap.size≤b∧b < w'.heap.size)) v d):∃ g',Pm.Good P B0 w0 S0 H g w (.dat d) H v g' w':=by
 have he:Ext H.length g w { g with S:=fun b o=>g.S b o∨(w.heap.size≤b∧b < w'.heap.size) } w' :=
  ⟨fun _ _ h=>.inl h,fun b o hs=>hb.cell (p:=⟨b,o,none⟩) (hi.lt b o hs),fun _ _ h=>⟨rfl,h⟩,fun _ _ v n h=>⟨v,n,h,Nat.le_refl _,fun _=>rfl⟩⟩
 refine ⟨_,he,Nat.le_refl _,.dat _ _ hv,hH.keep he (Nat.le_refl _) (Nat.le_refl _) (fun i b h=>hb.block b (hH.occ_lt h).2.1) (fun i b h o hs=>?_) (fun _ _=>rfl),⟨hi.below.trans (hb.mono hi.size),Nat.le_trans hi.size hb.size,fun b o hs=>?_,fun b o hs=>?_⟩,Fr.old hb.size (fun b h=>hb.block b h) (fun i b h _=>⟨i,occ_ghost (g:=g) h (fun _ _=>rfl) (fun _ _=>rfl)⟩) (fun b o h=>h.imp id fun h=>.inl h.1)⟩
 ·rcases hs with hs|⟨hs,_⟩
  ·exact hs
  ·exact absurd (hH.occ_lt h).2.1 (by omega)
 ·rcases hs with hs|⟨hs,_⟩
  ·exact hi.old b o hs
  ·exact .inr (Nat.le_trans hi.size hs)
 ·rcases hs with hs|⟨_,hs⟩
  ·exact Nat.lt_of_lt_of_le (hi.lt b o hs) hb.size
  ·exact hs
theorem keysZ_get:∀ {es:List (Value × PV)} {ns:List Int},keysZ es=some ns→es.map (·.1)=ns.map (fun n=>Value.int .i64 n)∧∀ n∈ns,-9223372036854775808≤n∧n≤9223372036854775807
 | [],ns,h=>by
  simp only [keysZ,Option.some.injEq] at h
  subst h
  exact ⟨rfl,fun n hn=>by simp at hn⟩
 | e::es,ns,h=>by
  unfold keysZ at h
  split at h
  ·rename_i h0; cases h0
  ·rename_i n l h0
   cases h0
   split at h
   ·rename_i hr
    simp only [Option.map_eq_some_iff] at h
    obtain ⟨ns',h1,rfl⟩:=h
    obtain ⟨k1,k2⟩:=keysZ_get h1
    refine ⟨by simp [k1],fun m hm=>?_⟩
    rcases List.mem_cons.1 hm with rfl|hm
    ·exact hr
    ·exact k2 m hm
   ·cases h
  ·cases h
abbrev RB:Value→Option (DataW Unit × List MemPlace):=fun _=>some (.lit (.bool true),[])
theorem wf_in {n:Int} (h:-9223372036854775808≤n∧n≤9223372036854775807):(Lit.int .i64 n).wf=true:=by
 have h1:IntKind.i64.min=-9223372036854775808:=by decide
 have h2:IntKind.i64.max=9223372036854775807:=by decide
 simp only [Lit.wf,h1,h2,h.1,h.2,decide_true,Bool.and_self]
theorem sortsA (m:Nat):AnyZI.SortsIn Tryz.prog Tryz.sortedA_ren Fence.wide m :=
 ⟨fun blk off cap ss W hH hblk hsz=>callsIn_wide.2 (AnyM.slices_Sort_int Tryz.sortA blk off cap ss W hH hblk hsz),
  fun p cap W=>callsIn_wide.2 (AnyM.slices_Sort_int_none Tryz.sortA p cap W)⟩
theorem sorted_keys {bm b:Nat} {D0:DataW Unit} {nn:Nat} {w:World} (hown:w.ownsMap Tryz.prog 3 RB b nn D0) (hbm:bm < w.heap.size) (hcell:w.cell? ⟨bm,0,none⟩=some (.map (some b))) (hmax:Maps.size D0≤maxLen) (hbytes:Maps.size D0 * 8≤140737488355328) :
  Calls Tryz.prog 57 #[.func (.func 108) #[] #[.pointer (some ⟨bm,0,none⟩)]] w fun e w'=>∃ (v:Value) (ss:List Int),e=.returned v∧ss.Perm (intKeys D0) ∧
   w'.ownsRow w.heap.size 3 1 v ss.length ((ss.mergeSort (fun x y=>decide (x≤y))).map encZ)∧(v=.slice none 0 0↔ss=[])∧Below w.heap.size w w':=by
 refine (callsIn_wide (n:=5)).1 ?_
 have hseq:SeqGives Fence.wide 2 Tryz.prog 108 #[.pointer (some ⟨bm,0,none⟩)] encZ (fun ss=>ss.Perm (intKeys D0)) (Maps.size D0) w :=
  AnyZI.keys_gives (ρ:=Tryz.keysA_ren) { Tryz.keysA with } Fence.wide _ trivial rfl (by omega) bm b nn D0 _ hbm hcell hown
 have cS:=AnyZI.sorted_in Tryz.sortedA Fence.wide 5 trivial trivial trivial trivial rfl (by omega) (sortsA _) (enters_of Tryz.func107 (by kernel_rfl) rfl) 108 #[.pointer (some ⟨bm,0,none⟩)] trivial (enters_of Tryz.func108 (by kernel_rfl) rfl) _ _ hmax hbytes _ hseq
 change CallsIn _ _ Tryz.prog 57 _ _ _ at cS
 exact cS
theorem map_size {l:List (Lit × DataW Unit)}:Maps.size (.map l)=l.length:=rfl
theorem owns_of {w:World} {b:Nat} {arr:Array MapEntry} {clock:Nat} {ns:List Int} (hb:w.heap[b]? = some (.map arr clock)) (hs:stampE arr clock) (hk:arr.toList.map (·.key)=ns.map (fun n=>Value.int .i64 n)) (hn:ns.Nodup) (hr:∀ n∈ns,-9223372036854775808≤n∧n≤9223372036854775807) (hl:ns.length≤1000000) :
  ∃ D0:DataW Unit,w.ownsMap Tryz.prog 3 RB b ns.length D0∧Maps.size D0=ns.length∧(intKeys D0).Perm ns:=by
 have hlen:arr.size=ns.length:=by have:=congrArg List.length hk; simpa using this
 have hkey:∀ x∈arr.toList,∃ n∈ns,x.key=.int .i64 n∧Go.WideElems.rd Tryz.prog 3 RB x=some (.int .i64 n,.lit (.bool true)):=fun x hx=>by
  have:x.key∈ns.map (fun n=>Value.int .i64 n):=by rw [← hk]; exact List.mem_map.2 ⟨x,hx,rfl⟩
  obtain ⟨n,h1,h2⟩:=List.mem_map.1 this
  refine ⟨n,h1,h2.symm,?_⟩
  have:=Go.WideElems.rd_mk (P:=Tryz.prog) (k:=3) (R:=RB) (key:=x.key) (val:=x.val) (born:=x.born) (kl:=.int .i64 n) (yv:=(.lit (.bool true),[])) (by rw [← h2]; exact Go.Maps.keyOf_int_mk Tryz.underlying3 (wf_in (hr n h1))) rfl
  exact this
 have hrg:arr.toList.map (Go.WideElems.rg Tryz.prog 3 RB)=ns.map fun n=>((.int .i64 n:Lit),(.lit (.bool true):DataW Unit)):=by
  refine List.ext_getElem (by simp [hlen]) fun i h1 h2=>?_
  simp only [List.getElem_map]
  have hi:i < arr.toList.length:=by simpa using h1
  obtain ⟨n,_,k1,k2⟩:=hkey _ (List.getElem_mem hi)
  rw [Go.WideElems.rg_of k2]
  have e:=congrArg (fun l=>l[i]?) hk
  simp only [List.getElem?_map] at e
  rw [List.getElem?_eq_getElem hi,List.getElem?_eq_getElem (by simpa using h2)] at e
  simp only [Option.map_some,Option.some.injEq,k1,Value.int.injEq,true_and] at e
  rw [e]
 refine ⟨.map ((arr.toList.map (Go.WideElems.rg Tryz.prog 3 RB)).foldr DataW.insert []),⟨arr,clock,hb,⟨by rw [hlen]; exact Nat.le_trans hl (by decide),⟨hs.1,hs.2,?_⟩,fun x hx=>?_⟩,by omega,rfl⟩,?_,?_⟩
 ·rw [hk]
  exact List.Pairwise.map _ (fun a b h=>fun e=>h (by simpa using e)) hn
 ·obtain ⟨n,_,_,k2⟩:=hkey x hx
  exact ⟨_,k2⟩
 ·rw [map_size,length_sorted,hrg]; simp
 ·have:=(Go.WideShapes.sorted_perm (arr.toList.map (Go.WideElems.rg Tryz.prog 3 RB))).map fun p=>Go.intOf p.1
  rw [hrg] at this ⊢
  simp only [intKeys]
  refine this.trans ?_
  rw [List.map_map]
  have e:(fun p:Lit × DataW Unit=>Go.intOf p.1) ∘ (fun n:Int=>((.int .i64 n:Lit),(.lit (.bool true):DataW Unit)))=id:=by
   funext n; rfl
  rw [e,List.map_id]
theorem sorted_call (args:List PV) (H:List Blk) (p:PV) (H':List Blk) (h:sortedG args H=some (p,H')):HeapCall prog 57 args H p H':=by
 unfold sortedG at h
 split at h
 case h_2=>cases h
 rename_i b
 split at h
 case h_2=>cases h
 rename_i m hb
 split at h
 case h_2=>cases h
 rename_i es hm
 split at h
 case h_2=>cases h
 rename_i ns hns
 split at h
 case isFalse=>cases h
 rename_i hc
 cases h
 intro B0 w0 S0 g w vals hn hr hH hi hG
 obtain ⟨l⟩:=vals
 match l,hn with
 | [v0],_ =>
 have h0:=hr 0 v0 _ rfl rfl
 cases h0 with
 | fn f vs cs q1 q2 =>
  obtain ⟨vl⟩:=vs
  match vl,q1 with
  | [u],_ =>
  have hu:=q2 0 u _ rfl rfl
  cases hu with
  | ptr i o hio =>
   obtain ⟨_,⟨cv,ty,c1,c2,c3⟩,_⟩:=hH.box b _ hb
   obtain ⟨cl⟩:=cv
   match cl,c2 with
   | [z],_ =>
   have hz:=c3 0 z _ rfl rfl
   cases hz with
   | mapv i hi2 =>
    obtain ⟨_,⟨arr,o1,⟨m1,m2⟩,m3,m4⟩,_⟩:=hH.map m es (mapOf_some hm)
    obtain ⟨clock,rfl,_,hst⟩:=entries_map m2 m3 (fun j x c g1 g2=>(m4 j x c g1 g2).1) (mapOf_keys hm)
    obtain ⟨k1,k2⟩:=keysZ_get hns
    have hk:arr.toList.map (·.key)=ns.map (fun n=>Value.int .i64 n):=by
     rw [← k1]
     refine List.ext_getElem (by simpa using m3) fun i h1 h2=>?_
     simp only [List.getElem_map]
     have hi1:i < arr.size:=by simpa using h1
     have hi2:i < es.length:=by simpa using h2
     have:=(m4 i arr[i] es[i] (Array.getElem?_eq_getElem hi1) (List.getElem?_eq_getElem hi2)).1
     simpa using this
    obtain ⟨D0,d1,d2,d3⟩:=owns_of m1 hst hk (nodZ_nodup hc.1) k2 hc.2
    have hbl:g.blk b < w.heap.size:=(Array.getElem?_eq_some_iff.1 c1).1
    have hcell:w.cell? ⟨g.blk b,0,none⟩=some (.map (some (g.blk m))):=by
     rw [cell_of_row _ _ _ _ ty (0,0) c1]; rfl
    refine (sorted_keys d1 hbl hcell (by rw [d2]; exact Nat.le_trans hc.2 (by decide)) (by rw [d2]; have:=hc.2; omega)).mono ?_
    rintro e w' ⟨v,ss,rfl,hp,hrow,hnil,hbw⟩
    have hpn:=hp.trans d3
    have hsort:ss.mergeSort (fun x y=>decide (x≤y))=sortZ ns:=sorted_same ((List.mergeSort_perm ss _).trans (hpn.trans (sortZ_perm ns).symm)) (merge_le ss) (sortZ_le ns)
    rw [hsort] at hrow
    have hlen:ss.length=(sortZ ns).length:=by rw [hpn.length_eq,(sortZ_perm ns).length_eq]
    have hv:RepD w' (fun b o=>g.S b o∨(w.heap.size≤b∧b < w'.heap.size)) v (.lst ((sortZ ns).map fun n=>.raw (.int .i64 n))):=by
     rcases hrow.2 with ⟨rfl,hz⟩|⟨gb,cap,cur,rfl,hbase,hgb,r1,r2,r3,r4⟩
     ·have:sortZ ns=[]:=List.eq_nil_of_length_eq_zero (by omega)
      rw [this]; exact .nil
     ·rw [Nat.mul_one] at r3 r4
      refine .lst gb 0 ss.length cap 1 _ (fun j=>cur.getD j undef) (by simp [hlen]) r1 (fun d hd=>?_) (fun i hi=>⟨?_,.inr ⟨hbase,(Array.getElem?_eq_some_iff.1 hgb).1⟩⟩) (fun i j d u g1 g2=>?_)
      ·obtain ⟨n,_,rfl⟩:=List.mem_map.1 hd
       rfl
      ·rw [cell_of_row _ _ _ cur 3 (0,0) hgb]
       have:i < cur.size:=by omega
       simp [Array.getD_eq_getD_getElem?,this]
      ·rw [List.getElem?_map,Option.map_eq_some_iff] at g1
       obtain ⟨n,g1,rfl⟩:=g1
       have hj:j=0∧u=.raw (.int .i64 n):=by
        cases j with
        | zero=>simp [Dat.cells] at g2; exact ⟨rfl,g2.symm⟩
        | succ j=>simp [Dat.cells] at g2
       obtain ⟨rfl,rfl⟩:=hj
       have hi3:i < ss.length:=by rw [hlen]; exact (List.getElem?_eq_some_iff.1 g1).1
       have e4:=congrArg (fun l=>l[i]?) r4
       simp only [List.getElem?_take,List.getElem?_map,g1,Option.map_some,hi3,if_true] at e4
       have e5:cur[i]? = some (encZ n):=by simpa using e4
       rw [Nat.mul_one,Nat.add_zero,Array.getD_eq_getD_getElem?,e5]
       exact .raw _ rfl
    obtain ⟨g',hg⟩:=good_new hH hi hbw hv
    exact ⟨v,g',rfl,hg⟩
set_option maxHeartbeats 2000000
def hintOf:FuncId→Pm.Hint
 | 3=>{ own:=[],keep:=[(10,[7,8,9])] }
 | 4=>{ own:=[],keep:=[(8,[1,5,6,7,8,9])] }
 | 9=>{ own:=[((0,0),[(9000,3)]),((4,2),[(12500,0)])],keep:=[] }
 | 10=>{ own:=[((1,14),[(7,33)]),((1,15),[(7,33)])],keep:=[(3,[1,2,3,4])] }
 | 12=>{ own:=[],keep:=[(4,[0,1,5])] }
 | 13=>{ own:=[((1,0),[(0,83)])],keep:=[(3,[0,3,4])] }
 | 14=>{ own:=[((1,0),[(0,80)])],keep:=[(3,[0,1,5,6])] }
 | 15=>{ own:=[((1,0),[(0,60)])],keep:=[(3,[0,1,5,8,9,10])] }
 | 16=>{ own:=[((1,0),[(0,45)])],keep:=[(4,[1,5,6,7])] }
 | 17=>{ own:=[((1,0),[(0,45)])],keep:=[(4,[1,3,4,5])] }
 | 18=>{ own:=[((1,0),[(0,62)])],keep:=[(3,[0,3,4])] }
 | 19=>{ own:=[],keep:=[(3,[3,7,8,9])] }
 | 20=>{ own:=[],keep:=[(2,[0,1,5])] }
 | 21=>{ own:=[],keep:=[(3,[2,3,6,7,8])] }
 | 22=>{ own:=[],keep:=[(3,[0,1,5,6])] }
 | 23=>{ own:=[],keep:=[(4,[1,3])] }
 | 25=>{ own:=[],keep:=[(4,[1,3])] }
 | 26=>{ own:=[],keep:=[(7,[6,7,8])] }
 | 27=>{ own:=[],keep:=[(4,[0,1,5])] }
 | 30=>{ own:=[],keep:=[(4,[1,2,5])] }
 | 32=>{ own:=[((0,0),[(9000,3)]),((1,0),[(0,29)]),((5,3),[(12500,0)])],keep:=[(3,[1,2,3,5,9,10,11])] }
 | 34=>{ own:=[((6,0),[(0,3),(1,3)]),((6,1),[(0,3),(1,3)]),((14,0),[(0,3),(1,3)]),((14,1),[(0,3),(1,3)])],keep:=[(3,[0,1,2,3,9,10]),(8,[0,1,2,3,9,10,11,12,13]),(16,[1,2,3,9,14,15]),(22,[9,16,17])] }
 | 35=>{ own:=[],keep:=[(3,[0,1,2,7,8])] }
 | 36=>{ own:=[],keep:=[(3,[0,1,2,3,9,10])] }
 | 37=>{ own:=[((5,0),[(0,3),(1,3)]),((5,1),[(0,3),(1,3)])],keep:=[(3,[0,1,2,7,8]),(7,[0,1,2,7,8,9,10]),(12,[0,1,2,7,8,9,10,11,12,13])] }
 | 38=>{ own:=[],keep:=[(3,[0,1,2,3,9,10]),(7,[1,2,3,9,11])] }
 | 39=>{ own:=[((0,0),[(1000,3)]),((14,0),[(1000,83)]),((25,4),[(1,3)]),((25,5),[(1,3)]),((30,0),[(3,3)]),((32,26),[(1000,3)]),((36,2),[(5000,3)])],keep:=[(18,[0,1,5,7,8,9,10]),(27,[0,1,5,7,8,9,10,11,12,14,15])],flat:=[(24,[(5,[1]),(6,[1])]),(25,[(4,[2,1,0,1])]),(36,[(4,[3]),(5,[4])]),(37,[(0,[5])])] }
 | 40=>{ own:=[((1,0),[(0,126)])],keep:=[(3,[0,3,4]),(5,[0,3,4,5])] }
 | 43=>{ own:=[],keep:=[(4,[1,3])] }
 | 44=>{ own:=[],keep:=[(2,[1,3])] }
 | 46=>{ own:=[],keep:=[(2,[0,1,5])] }
 | 47=>{ own:=[],keep:=[(2,[0,1,5]),(7,[0,1,5,6]),(13,[1,7,8]),(17,[1,7,8,9,10])] }
 | 48=>{ own:=[],keep:=[(4,[1,19,20,21])] }
 | 50=>{ own:=[((1,17),[(0,3)])],keep:=[] }
 | 53=>{ own:=[],keep:=[(3,[0,1,5,12,13,14]),(9,[0,1,5,7,12,13,14,29,30,31])] }
 | 54=>{ own:=[((5,0),[(0,22)]),((12,1),[(0,3)])],keep:=[(3,[0,3,4]),(7,[0,3,4,5,6]),(10,[0,3,4,5,6,7])] }
 | 55=>{ own:=[],keep:=[(2,[0,1,4,6])] }
 | 59=>{ own:=[],keep:=[(2,[0,3])] }
 | 60=>{ own:=[],keep:=[(3,[0,4,5]),(9,[0,4,6]),(17,[0,7,8])] }
 | 61=>{ own:=[],keep:=[(5,[1,2,5])] }
 | 62=>{ own:=[],keep:=[(3,[1,3,4])] }
 | 63=>{ own:=[],keep:=[(4,[1,2,5])] }
 | 64=>{ own:=[],keep:=[(5,[0,1,5,6])] }
 | 66=>{ own:=[((1,1),[(7000,3)])],keep:=[] }
 | 68=>{ own:=[((1,0),[(0,62)]),((13,2),[(8000,3)]),((14,1),[(7000,3)])],keep:=[(3,[1,2,3,9,18,19,20]),(7,[1,2,3,9,11,12,18,19,20,26,27,28]),(15,[9,63,64,65])] }
 | 70=>{ own:=[((0,0),[(9000,3)]),((1,0),[(0,62)])],keep:=[(3,[1,5,7,10,11,12])] }
 | 72=>{ own:=[((1,0),[(0,62)])],keep:=[(3,[1,2,3,9,12,13,14])] }
 | 74=>{ own:=[((1,0),[(0,62)]),((12,8),[(5000,3)])],keep:=[(3,[1,2,7,13,14,15]),(7,[1,2,7,9,10,13,14,15,21,22,23])] }
 | 78=>{ own:=[((1,1),[(0,62)]),((12,0),[(5000,62)])],keep:=[(3,[0,2,3,9,16,17,18]),(8,[2,9,33,34,35])] }
 | 79=>{ own:=[((6,0),[(0,83)])],keep:=[(4,[0,3,5])] }
 | 83=>{ own:=[((6,0),[(0,80)]),((13,0),[(0,3),(1,3)])],keep:=[(8,[2,5,7,8]),(11,[2,5,7,8,9]),(15,[2,5,7,8,9,10,11])] }
 | 84=>{ own:=[((1,0),[(1000,3)]),((1,4),[(1000,3)])],keep:=[] }
 | 85=>{ own:=[((3,0),[(1000,3)])],keep:=[] }
 | 86=>{ own:=[((3,0),[(0,3)])],keep:=[(5,[1,2,3,6,7,8]),(9,[1,2,3,6,7,8,9,10])] }
 | 87=>{ own:=[],keep:=[(3,[0,3,4])] }
 | 88=>{ own:=[((1,2),[(8000,3)])],keep:=[] }
 | 89=>{ own:=[((1,1),[(0,3)])],keep:=[(3,[1,5,6])] }
 | 90=>{ own:=[],keep:=[(2,[0,1,5])] }
 | 91=>{ own:=[],keep:=[(2,[0,3])] }
 | 92=>{ own:=[],keep:=[(2,[1,2,5])] }
 | 93=>{ own:=[],keep:=[(4,[1,2,5])] }
 | 94=>{ own:=[],keep:=[(3,[0,1,5,9,10]),(9,[0,1,5,24,25])] }
 | 97=>{ own:=[((0,0),[(9000,3)]),((0,1),[(9000,3)])],keep:=[] }
 | 98=>{ own:=[],keep:=[(2,[0,1,9,10,11])] }
 | 100=>{ own:=[],keep:=[(4,[0,19,20,21])] }
 | 104=>{ own:=[],keep:=[(5,[0,1,5,6])] }
 | 105=>{ own:=[((3,0),[(1000,3)]),((18,0),[(0,3)])],keep:=[(8,[2,7,8,9]),(20,[1,2,7,8,10])] }
 | 108=>{ own:=[],keep:=[(1,[0,5])] }
 | 109=>{ own:=[],keep:=[(15,[2,6])] }
 | 110=>{ own:=[((1,1),[(0,62)])],keep:=[] }
 | 111=>{ own:=[((1,2),[(1000,3)]),((1,4),[(0,3)])],keep:=[] }
 | 114=>{ own:=[((1,0),[(0,3),(1,3)])],keep:=[(3,[0,1,2,8,9,13,14,15])] }
 | 115=>{ own:=[((3,2),[(7000,3)]),((3,5),[(7000,3)]),((3,7),[(1001,60)]),((4,0),[(0,60)]),((9,27),[(1001,60)])],keep:=[(7,[2,5,7,8,30,31])] }
 | 116=>{ own:=[((0,1),[(9000,3)]),((1,3),[(0,3)]),((1,7),[(0,3)]),((2,17),[(6000,3)]),((3,0),[(5000,3)])],keep:=[],late:=[(2,1),(2,4),(2,22),(2,24)] }
 | 119=>{ own:=[((0,1),[(9000,3)]),((0,2),[(9000,3)]),((0,3),[(9000,3)])],keep:=[] }
 | 122=>{ own:=[((10,0),[(0,62)])],keep:=[(12,[0,1,5,6,7,8,9])] }
 | 123=>{ own:=[((1,0),[(0,193)])],keep:=[(3,[0,3,4]),(5,[0,3,4,5])] }
 | 124=>{ own:=[((1,2),[(1000,198)])],keep:=[(3,[3,5,16,17,18,29])] }
 | 125=>{ own:=[((2,0),[(1000,62)]),((3,0),[(1000,62)])],keep:=[] }
 | 126=>{ own:=[((2,0),[(1000,3)]),((3,0),[(1000,3)])],keep:=[(5,[0,3,4]),(11,[0,3,4,5,6])] }
 | 128=>{ own:=[],keep:=[(2,[1,3])] }
 | 129=>{ own:=[((3,0),[(0,3),(1,3)])],keep:=[(5,[2,3,4,6,7])] }
 | 131=>{ own:=[],keep:=[(2,[0,1,7,8])] }
 | 132=>{ own:=[],keep:=[(4,[0,1,12,13])] }
 | 139=>{ own:=[((1,0),[(0,3)])],keep:=[(3,[1,2,7,10,11,12])] }
 | 142=>{ own:=[],keep:=[(3,[0,1,5,6])] }
 | 143=>{ own:=[],keep:=[(4,[0,1,5])] }
 | 144=>{ own:=[],keep:=[(3,[0,1,5,6])] }
 | 146=>{ own:=[],keep:=[(2,[0,1,2,3,8,9])] }
 | 149=>{ own:=[],keep:=[(5,[1,3,4]),(10,[1,3,5]),(14,[1,3,5,6,7])] }
 | 150=>{ own:=[],keep:=[(6,[1,3,4,5])] }
 | 151=>{ own:=[((1,0),[(1000,62)])],keep:=[(3,[1,5,8,9,10])] }
 | 154=>{ own:=[((2,0),[(1000,3)]),((3,0),[(1000,3)])],keep:=[] }
 | 155=>{ own:=[],keep:=[(8,[0,3,4,18,19])] }
 | 160=>{ own:=[((1,2),[(0,3)]),((1,5),[(0,3)])],keep:=[],late:=[(2,1),(2,4),(2,9),(2,11)] }
 | 165=>{ own:=[((0,1),[(1000,3)])],keep:=[(2,[0,6,11,12,13])] }
 | 166=>{ own:=[((1,1),[(7000,3)])],keep:=[] }
 | 169=>{ own:=[((1,0),[(0,62)]),((5,1),[(0,3)]),((5,3),[(0,3)]),((17,1),[(5000,62)])],keep:=[(2,[0,1,2,3,4,11]),(7,[0,1,2,3,4,11,12,13,15,16,44,45])] }
 | 172=>{ own:=[((1,1),[(0,3)]),((1,3),[(0,3)])],keep:=[] }
 | 178=>{ own:=[],keep:=[(2,[0,1,7,8])] }
 | 179=>{ own:=[],keep:=[(3,[2,8,13,14,15])] }
 | 180=>{ own:=[],keep:=[(1,[0,1,2,6]),(4,[0,1,2,6,7])] }
 | 181=>{ own:=[],keep:=[(4,[0,6,7,8,9]),(8,[0,6,7,10])] }
 | 182=>{ own:=[],keep:=[(5,[0,1,6,7,8,9])] }
 | 184=>{ own:=[],keep:=[(2,[0,6,7])] }
 | 185=>{ own:=[],keep:=[(3,[0,1,2,7,8]),(5,[0,1,2,7,8]),(14,[0,1,2,7,8,9]),(20,[0,1,2,7,8,10])] }
 | 187=>{ own:=[],keep:=[(3,[0,1,9,10]),(5,[0,1,9,10])] }
 | 188=>{ own:=[],keep:=[(3,[0,1,10,11]),(5,[0,1,10,11]),(13,[0,1,10,11]),(15,[0,1,10,11])] }
 | 191=>{ own:=[],keep:=[(2,[0,1,2,3,4,10,11])] }
 | 192=>{ own:=[((1,4),[(0,3)])],keep:=[] }
 | 194=>{ own:=[],keep:=[(5,[0,1,5,6])] }
 | 196=>{ own:=[],keep:=[(3,[3,6,7,8])] }
 | 197=>{ own:=[((1,0),[(0,3)])],keep:=[(3,[1,5,8,9,10])] }
 | 199=>{ own:=[],keep:=[(3,[1,5,13,14,15])] }
 | 202=>{ own:=[((0,1),[(0,3)]),((4,2),[(5000,3)])],keep:=[(2,[0,1,2,4,5])] }
 | 203=>{ own:=[],keep:=[(2,[0,1,2,7])] }
 | 204=>{ own:=[],keep:=[(4,[0,12,13,14])] }
 | 208=>{ own:=[],keep:=[(1,[0,2,3,8])] }
 | 213=>{ own:=[],keep:=[(1,[0,1,2,3,8]),(4,[0,1,2,3,8,9])] }
 | 214=>{ own:=[],keep:=[(4,[0,3,8,9,10,11]),(8,[0,3,8,9,12])] }
 | 215=>{ own:=[],keep:=[(5,[0,1,8,9,10,11])] }
 | 217=>{ own:=[],keep:=[(2,[0,8,9])] }
 | 218=>{ own:=[],keep:=[(3,[0,1,2,3,9,10]),(5,[0,1,2,3,9,10]),(14,[0,1,2,3,9,10,11]),(20,[0,1,2,3,9,10,12])] }
 | 219=>{ own:=[],keep:=[(3,[0,1,4,11,12]),(5,[0,1,4,11,12])] }
 | 220=>{ own:=[],keep:=[(3,[0,1,4,12,13]),(5,[0,1,4,12,13]),(13,[0,1,4,12,13]),(15,[0,1,4,12,13])] }
 | 221=>{ own:=[],keep:=[(2,[0,1,7,8])] }
 | 222=>{ own:=[],keep:=[(3,[0,1,2,8,9,10])] }
 | 224=>{ own:=[],keep:=[(3,[0,1,5,11,12])] }
 | 226=>{ own:=[],keep:=[(1,[0,2,3,4,10])] }
 | _=>{}
def env:Env where
 summ:=fun f=>if f=153 then some (fun _=>none) else if f=57 then some (fun _=>none) else none
 hsum:=fun f=>if f=153 then some sortG else if f=57 then some sortedG else none
 hint:=hintOf
 pure:=fun f=>f != 31 && f != 32 && f != 57 && f != 58 && f != 111 && f != 116 && f != 117 && f != 125 && f != 126 && f != 151 && f != 153 && f != 154 && f != 156 && f != 157 && f != 158 && f != 159 && f != 161 && f != 162 && f != 163 && f != 164 && f != 165 && f != 168 && f != 169 && f != 191 && f != 192 && f != 193 && f != 194 && f != 199 && f != 203 && f != 213 && f != 221
 split:=fun f=>f == 154 || f == 125
abbrev FQ:=FP prog env
abbrev LQ:=LP prog env
structure Qb where
 kind:Int
 shape:(List Int)
 buffer:Int
 starts:(List Int)
 axis:Int
 amount:Int
 perm:(List Int)
 kids:(List Qb)
mutual
def Qb.toD:Qb→Dat
 | ⟨kind,shape,buffer,starts,axis,amount,perm,kids⟩=>.agg [(Qg kind),(.lst ((List.map Qg) shape)),(Qg buffer),(.lst ((List.map Qg) starts)),(Qg axis),(Qg amount),(.lst ((List.map Qg) perm)),(.lst (Qb.toDs kids))]
def Qb.toDs:List Qb→List Dat
 | []=>[]
 | k::ks=>Qb.toD k::Qb.toDs ks
end
theorem Qb.toDs_eq:∀ l:List Qb,Qb.toDs l=l.map Qb.toD
 | []=>rfl
 | k::ks=>by rw [Qb.toDs,Qb.toDs_eq ks]; rfl
def Qb.ex (x:Qb):Dat:=.agg [(Qg x.kind),(.lst ((List.map Qg) x.shape)),(Qg x.buffer),(.lst ((List.map Qg) x.starts)),(Qg x.axis),(Qg x.amount),(.lst ((List.map Qg) x.perm)),(.lst (Qb.toDs x.kids))]
theorem Qb.toD_eq (x:Qb):x.toD=x.ex:=by cases x; rfl
theorem Qb.fit (x:Qb):Dat.fits 8 x.toD=true:=by cases x; rfl
structure Qf where
 kind:Int
 shape:(List Int)
 buffer:Int
 starts:(List Int)
 axis:Int
 amount:Int
 perm:(List Int)
 kids:(List Qf)
mutual
def Qf.toD:Qf→Dat
 | ⟨kind,shape,buffer,starts,axis,amount,perm,kids⟩=>.agg [(Qg kind),(.lst ((List.map Qg) shape)),(Qg buffer),(.lst ((List.map Qg) starts)),(Qg axis),(Qg amount),(.lst ((List.map Qg) perm)),(.lst (Qf.toDs kids))]
def Qf.toDs:List Qf→List Dat
 | []=>[]
 | k::ks=>Qf.toD k::Qf.toDs ks
end
theorem Qf.toDs_eq:∀ l:List Qf,Qf.toDs l=l.map Qf.toD
 | []=>rfl
 | k::ks=>by rw [Qf.toDs,Qf.toDs_eq ks]; rfl
def Qf.ex (x:Qf):Dat:=.agg [(Qg x.kind),(.lst ((List.map Qg) x.shape)),(Qg x.buffer),(.lst ((List.map Qg) x.starts)),(Qg x.axis),(Qg x.amount),(.lst ((List.map Qg) x.perm)),(.lst (Qf.toDs x.kids))]
theorem Qf.toD_eq (x:Qf):x.toD=x.ex:=by cases x; rfl
theorem Qf.fit (x:Qf):Dat.fits 8 x.toD=true:=by cases x; rfl
structure Qj where
 lo:(List Int)
 hi:(List Int)
def Qj.toD (x:Qj):Dat:=.agg [(.lst ((List.map Qg) x.lo)),(.lst ((List.map Qg) x.hi))]
theorem Qj.fit (x:Qj):Dat.fits 2 x.toD=true:=rfl
structure Qk where
 kind:Int
 buffer:Int
 base:Int
 strides:(List Int)
 start:Int
 step:Int
 mod:Int
def Qk.toD (x:Qk):Dat:=.agg [(Qg x.kind),(Qg x.buffer),(Qg x.base),(.lst ((List.map Qg) x.strides)),(Qg x.start),(Qg x.step),(Qg x.mod)]
theorem Qk.fit (x:Qk):Dat.fits 7 x.toD=true:=rfl
structure Qa where
 box:Qj
 access:Qk
def Qa.toD (x:Qa):Dat:=.agg [(.lst ((List.map Qg) x.box.lo)),(.lst ((List.map Qg) x.box.hi)),(Qg x.access.kind),(Qg x.access.buffer),(Qg x.access.base),(.lst ((List.map Qg) x.access.strides)),(Qg x.access.start),(Qg x.access.step),(Qg x.access.mod)]
theorem Qa.fit (x:Qa):Dat.fits 9 x.toD=true:=rfl
structure S50 where
 c0:Int
 c1:Int
 c2:Int
def S50.toD (x:S50):Dat:=.agg [(Qg x.c0),(Qg x.c1),(Qg x.c2)]
theorem S50.fit (x:S50):Dat.fits 3 x.toD=true:=rfl
abbrev QE:=fun x0 x1=>((.box [(La x0),(La x1)]):Blk)
abbrev QL:=fun x0=>((.mt 3 1 (cellsOf Qg x0)):Blk)
abbrev X0:=fun x0 x1=>((.mt 3 x0 (cellsOf Qg x1)):Blk)
abbrev YI:=fun x0=>((.vec 0 ((List.map Qa.toD) x0)):PV)
abbrev Xu:=fun x0 x1=>((.mt 62 x0 (cellsOf Qa.toD x1)):Blk)
abbrev QaI:=((.mt 3 (1+1) (cellsOf Qg ([]:List Int))):Blk)
abbrev Qci:=fun x0 x1 x2 x3=>((.box [(La x0),(La x1),(La x2),(La x3)]):Blk)
abbrev QM:=fun x0=>((.dat (.lst ((List.map Qa.toD) x0))):PV)
abbrev Qap:=fun x0 x1=>((.box [(.ms 4 1 0 x0 x0),(.ms 5 1 0 x1 x1)]):Blk)
abbrev Qa2:=fun x0 x1=>((.mt 62 (x0+1) (cellsOf Qa.toD x1)):Blk)
abbrev Jk:=fun x0 x1 x2=>((.box [(.ms 3 x0 0 x1 x1),(.ms 4 1 0 x2 x2)]):Blk)
abbrev Yx:=fun x0=>((.dat (.lst ((List.map (fun l=>Dat.lst ((List.map Qg) l))) x0))):PV)
abbrev QS:=((.box [(Qc 0),(Qc 0),(Qc 0),Ea,(Qc 0),(Qc 0),(Qc 0)]):Blk)
abbrev JN:=((.box [Ea,Ea,(Qc 0),(Qc 0),(Qc 0),Ea,(Qc 0),(Qc 0),(Qc 0)]):Blk)
abbrev Qw:=fun x0 x1 x2 x3 x4 x5 x6=>((.box [(Qc x0),(Qc x1),(Qc x2),(La x3),(Qc x4),(Qc x5),(Qc x6)]):Blk)
abbrev XY:=fun x0 x1 x2 x3 x4 x5 x6=>((.dat (.agg [(Qg x0),(Qg x1),(Qg x2),(Lb x3),(Qg x4),(Qg x5),(Qg x6)])):PV)
abbrev XX:=fun x0 x1 x2 x3 x4 x5 x6=>((.box [(Qc x0),(Qc x1),(Qc x2),(.ms 7 1 0 x3 x3),(Qc x4),(Qc x5),(Qc x6)]):Blk)
abbrev QaG:=fun x0 x1 x2 x3 x4 x5 x6 x7=>((.box [(Qc x0),(Qc x1),(Qc x2),(.ms 9 x3 0 x4 x4),(Qc x5),(Qc x6),(Qc x7)]):Blk)
abbrev Zw:=fun x0 x1 x2 x3 x4 x5 x6 x7 x8=>((.box [(La x0),(La x1),(Qc x2),(Qc x3),(Qc x4),(La x5),(Qc x6),(Qc x7),(Qc x8)]):Blk)
abbrev QaH:=fun x0 x1 x2 x3 x4 x5 x6 x7 x8=>((.dat (.agg [(Lb x0),(Lb x1),(Qg x2),(Qg x3),(Qg x4),(Lb x5),(Qg x6),(Qg x7),(Qg x8)])):PV)
abbrev Qbk:=fun x0 x1 x2 x3 x4 x5 x6 x7=>((.box [(Qc x0),(La x1),(Qc x2),(La x3),(Qc x4),(Qc x5),(La x6),(.dat (.lst (Qb.toDs x7)))]):Blk)
abbrev X1:=fun x0 x1 x2 x3 x4 x5 x6 x7 x8=>((.box [(Qc x0),(.ms 7 1 0 x1 x1),(Qc x2),(Qc x3),(Qc x4),(La x5),(Qc x6),(Qc x7),(Qc x8)]):Blk)
abbrev Qbn:=fun x0 x1 x2 x3 x4 x5 x6 x7 x8 x9=>((.box [(Qc x0),(.ms 9 x1 0 x2 x2),(Qc x3),(Qc x4),(Qc x5),(La x6),(Qc x7),(Qc x8),(Qc x9)]):Blk)
abbrev Qs:=fun x0 x1 x2 x3 x4 x5 x6 x7=>([(Qbk x0 x1 x2 x3 x4 x5 x6 x7)]:List Blk)
abbrev XZ:=fun x0 x1 x2 x3 x4 x5 x6 x7=>([(QE x0 x1),(QE x2 x3),(QE x4 x5),(QE x6 x7)]:List Blk)
abbrev Qbj:=fun x0 x1 x2 x3 x4=>([(.box [(.ms 1 x0 0 x1 x1),(.ms 2 1 0 x2 x2)]),(X0 x0 x3),(QL x4)]:List Blk)
abbrev YJ:=fun x0 x1 x2 x3 x4 x5 x6 x7 x8 x9 x10 x11 x12=>([(QE x0 x1),(QE x2 x3),(QE x4 x5),(.tok 60 x6),(QE x7 x8),(Qci x9 x10 x11 x12)]:List Blk)
abbrev QbR:=fun x0 x1 x2 x3 x4 x5 x6 x7 x8=>([(Qw x0 x1 x2 x3 x4 x5 x6),(.box [(Qc x7)]),(.box [(Qc x8)]),QS,(Qw x0 x1 x2 x3 x4 x5 x6),(Qw x0 x1 x2 x3 x4 x5 x6)]:List Blk)
abbrev Qbl:=fun x0 x1 x2 x3 x4 x5 x6 x7 x8 x9 x10 x11=>([(Qw x0 x1 x2 x3 x4 x5 x6),(.box [(La x7)]),(.box [(Qc x8)]),QS,(Qw x0 x1 x2 x3 x4 x5 x6),QS,(Qw x0 x1 x2 x3 x4 x5 x6),(QL x9),(X1 x10 x11 x0 x1 x2 x3 x4 x5 x6)]:List Blk)
abbrev YU:=fun x0 x1 x2 x3 x4 x5 x6 x7 x8 x9 x10 x11=>([(Qw x0 x1 x2 x3 x4 x5 x6),(.box [(Qc x7)]),(.box [(Qc x8)]),QS,(Qw x0 x1 x2 x3 x4 x5 x6),QS,(Qw x0 x1 x2 x3 x4 x5 x6),(QL x9),(X1 x10 x11 x0 x1 x2 x3 x4 x5 x6)]:List Blk)
abbrev Qbm:=fun x0 x1 x2 x3 x4 x5 x6 x7 x8 x9 x10 x11 x12 x13=>([(Qw x0 x1 x2 x3 x4 x5 x6),(.box [(La x7)]),(.box [(Qc x8)]),QS,(Qw x0 x1 x2 x3 x4 x5 x6),QS,(Qw x0 x1 x2 x3 x4 x5 x6),(QL x9),(Qbn x10 x11 x12 x0 x1 x2 x3 x4 x5 x6),(X0 x11 x13)]:List Blk)
def insT (x:Qa):List Qa→List Qa
 | []=>[x]
 | y::l=>if cmpL y.box.lo x.box.lo < 0 then y::insT x l else x::y::l
def sortT (l:List Qa):List Qa:=l.foldr insT []
def strictT:List Qa→Bool
 | a::b::l=>decide (cmpL a.box.lo b.box.lo < 0) && strictT (b::l)
 | _=>true
def sortM (l:List Qa):Option (List Qa):=if l.length≤1000000∧(l.all fun p=>decide (p.box.lo.length≤1000000))=true∧strictT (sortT l)=true then some (sortT l) else none
theorem keyD_toD (p:Qa):keyD p.toD=p.box.lo:=by
 show (p.box.lo.map Qg).map intOfD=p.box.lo
 rw [List.map_map]
 exact List.map_id' _
theorem insD_toD (x:Qa):∀ l:List Qa,insD x.toD (l.map Qa.toD)=(insT x l).map Qa.toD
 | []=>rfl
 | y::l=>by
  rw [List.map_cons,insD,insT,keyD_toD,keyD_toD]
  split
  ·rw [List.map_cons,insD_toD x l]
  ·rfl
theorem sortD_toD:∀ l:List Qa,sortD (l.map Qa.toD)=(sortT l).map Qa.toD
 | []=>rfl
 | x::l=>by
  show insD x.toD (sortD (l.map Qa.toD))=_
  rw [sortD_toD l,insD_toD]; rfl
theorem strictD_toD:∀ l:List Qa,strictD (l.map Qa.toD)=strictT l
 | []=>rfl
 | [_]=>rfl
 | a::b::l=>by
  have:=strictD_toD (b::l)
  simp only [List.map_cons] at this
  simp only [List.map_cons,strictD,strictT,keyD_toD,this]
theorem all_isI (l:List Int):(l.map Qg).all isI=true:=by
 rw [List.all_eq_true]
 intro d hd
 obtain ⟨n,_,rfl⟩:=List.mem_map.1 hd
 rfl
theorem okD_toD (p:Qa) (h:p.box.lo.length≤1000000):okD p.toD=true:=by
 show (decide ((p.box.lo.map Qg).length≤1000000) && (p.box.lo.map Qg).all isI && Dat.fits 9 p.toD)=true
 rw [all_isI,Qa.fit,List.length_map]
 simp [h]
theorem insT_perm (x:Qa):∀ l,(insT x l).Perm (x::l)
 | []=>.refl _
 | y::l=>by
  rw [insT]
  split
  ·exact ((insT_perm x l).cons y).trans (.swap x y l)
  ·exact .refl _
theorem sortT_perm:∀ l,(sortT l).Perm l
 | []=>.refl _
 | x::l=>(insT_perm x (sortT l)).trans ((sortT_perm l).cons x)
theorem sort_some {l r:List Qa} (h:sortM l=some r):(l.length≤1000000∧(l.all fun p=>decide (p.box.lo.length≤1000000))=true∧strictT (sortT l)=true)∧r=sortT l:=by
 unfold sortM at h
 split at h
 ·exact ⟨by assumption,(Option.some.inj h).symm⟩
 ·cases h
theorem PC_hsum {P:Program} {E:Env} {f:FuncId} {F:List Dat→Option PV} {G:List PV→List Blk→Option (PV × List Blk)} {args:List PV} {H H':List Blk} {p:PV} (hen:enters P f=true) (hs:E.summ f=some F) (hh:E.hsum f=some G) (h:G args H=some (p,H')):PC P E f args H p H' :=
 ⟨1,fun k hk=>by
  obtain ⟨n,rfl⟩:∃ n,k=n+1:=⟨k - 1,by omega⟩
  simp [pfun,hen,hs,hh,h]⟩
theorem Qcw {l r:List Qa} {g cap:Nat} (h:sortM l=some r) :
  PC prog env 153 [.ms 0 g 0 l.length cap,.dat (.raw (.func (.func 51) #[] #[]))] [.mt 62 g (cellsOf Qa.toD l)] (.tup []) [.mt 62 g (cellsOf Qa.toD r)]:=by
 obtain ⟨⟨h1,h2,h3⟩,rfl⟩:=sort_some h
 refine PC_hsum (by kernel_rfl) rfl rfl ?_
 have ha:allDat (cellsOf Qa.toD l)=some (l.map Qa.toD):=cellsOf_allDat _ _
 have hok:(l.map Qa.toD).all okD=true:=by
  rw [List.all_eq_true]
  intro d hd
  obtain ⟨p,hp,rfl⟩:=List.mem_map.1 hd
  exact okD_toD p (of_decide_eq_true (List.all_eq_true.1 h2 p hp))
 simp only [sortG,ha]
 rw [if_pos ⟨by simp,by simp,h1,hok,by rw [sortD_toD,strictD_toD]; exact h3⟩,sortD_toD]
 simp only [cellsOf,List.map_map]
 rfl
theorem Qas {P:Program} {E:Env} {ow:List (Nat × Nat)} {o:Oper} {ρ:Operand→PV} {H:List Blk} {Kp:PV→List Blk→Prop} {t kt e:TypeId} {m k:Operand} {i j:Nat} {es:List (Value × PV)} {n K:Int} {ik:IntKind} {v:PV} (hc:n=K) (ht:P.underlying t=some (.map kt e)) (hk':P.underlying kt=some (.int ik)) (ho:o.op=.lookup t m k false) (hm:ρ m=.mapv i) (hb:mapOf H i=some es)
  (hn:ρ k=.dat (.raw (.int ik n))) (hf:findK (.int ik) (.int ik K) es 0=some (some (j,v))) (hk:Kp v H):SemE P E ow o ρ H Kp:=by
 subst hc
 have hv:(ρ k).toVal=some (.int ik n):=by rw [hn]; rfl
 have hff:findIn P ρ k t es=some (.int ik n,e,some (j,v)):=by simp only [findIn,ht,hv,hk',plainKey,if_true,hf,Option.map_some]
 exact Qca ho hm hb hff hk
theorem kc {n K:Int} {α:Type} {ma mb:Option α} {rr:α} {Pq:Prop} (hm:(if n=K then ma else mb)=some rr) (h1:n=K→ma=some rr→Pq) (h2:mb=some rr→Pq):Pq:=by
 by_cases h:n=K
 ·rw [if_pos h] at hm; exact h1 h hm
 ·rw [if_neg h] at hm; exact h2 hm
theorem Qb5 {P:Program} {E:Env} {ow:List (Nat × Nat)} {o:Oper} {ρ:Operand→PV} {H:List Blk} {K:PV→List Blk→Prop} {t e:TypeId} {x y:Operand} {tt g len cap h:Nat} (hh:h≤len) (he:elemOfSlice P t=some e) (hs:(szOf P e).isSome=true) (ho:o.op=.slice t x none (some y) none) (hx:ρ x=.ms tt g 0 len cap) (hy:ρ y=Qc (h:Int))
  (hk:K (.ms tt g 0 h (max len cap)) H):SemE P E ow o ρ H K:=by
 have hb:bndOf ρ len (some y)=some h:=by simp [bndOf,natOf,hy,Qc]
 have hc:cutMs ρ none (some y) tt g 0 len cap=some (.ms tt g 0 h (max len cap)):=by
  simp only [cutMs,bndOf] at hb ⊢
  rw [hb]
  simp [Nat.le_trans hh (Nat.le_max_left _ _)]
 exact SemE_of (fun call=>by simp only [sem,ho,hx,he,hs,Option.isNone_none,and_self,or_true,if_true,hc,Option.map_some]) hk
theorem Qb9 {P:Program} {E:Env} {ow:List (Nat × Nat)} {o:Oper} {ρ:Operand→PV} {H:List Blk} {K:PV→List Blk→Prop} {t e:TypeId} {x ix:Operand} {tt g len cap size:Nat} {n:Int} (hn:0≤n∧n.toNat < len) (he:elemOfSlice P t=some e) (hs:szOf P e=some size) (ho:o.op=.indexAddr t x ix) (hi:ρ ix=Qc n) (hx:ρ x=.ms tt g 0 len cap)
  (hk:K (.mp tt g (0+stepN size n.toNat)) H):SemE P E ow o ρ H K :=
 SemE_of (fun call=>by simp [sem,ho,hi,Qc,he,hs,hn.1,hx,hn.2]) hk
theorem stepN_div {size j:Nat} (h:1 < size):(0+stepN size j) % size=0∧(0+stepN size j) / size=j:=by
 rw [Nat.zero_add,stepN,if_neg (by omega)]
 exact ⟨Nat.mul_mod_left _ _,Nat.mul_div_cancel _ (by omega)⟩
theorem Qcq {P:Program} {E:Env} {ow:List (Nat × Nat)} {o:Oper} {ρ:Operand→PV} {H:List Blk} {K:PV→List Blk→Prop} {α:Type} (f:α→Dat) {l:List α} {n:Int} {y:α} {t e:TypeId} {x:Operand} {tt g size:Nat} (hs:idx l n=some y) (hf:∀ a,(f a).fits size=true) (h1:decide (1 < size)=true) (ha:aggT P t=some true) (hn:szOf P t=some size) (ho:o.op=.load t x) (hw:ow=[])
  (hx:ρ x=.mp tt g (0+stepN size n.toNat)) (hb:H[tt]? = some (.mt e g (cellsOf f l))) (hk:K (.dat (f y)) H):SemE P E ow o ρ H K:=by
 have h1:=of_decide_eq_true h1
 obtain ⟨q1,q2⟩:=stepN_div (j:=n.toNat) h1
 have hc:(cellsOf f l)[n.toNat]? = some (.dat (f y)):=by have:=cells_idx f hs; rwa [Nat.zero_add] at this
 exact SemE_of (fun call=>by simp only [sem,loadSem,hw,ho,hx,ha,hn,Yd hb]; rw [if_neg (fun h=>by omega),if_pos ⟨trivial,h1,trivial,q1,by rw [q2,hc]; simp [PV.numOf,fits_num (hf y)]⟩,q2,hc]; rfl) hk
theorem Qcs {P:Program} {E:Env} {ow:List (Nat × Nat)} {o:Oper} {ρ:Operand→PV} {H:List Blk} {K:PV→List Blk→Prop} {α:Type} (f:α→Dat) {l l2:List α} {n:Int} {y z:α} {t e:TypeId} {x w:Operand} {tt g size:Nat} (hs:setM l n y=some l2) (hz:idx l n=some z) (hf:∀ a,(f a).fits size=true) (h1:decide (1 < size)=true) (hn:szOf P t=some size) (ho:o.op=.store t x w) (hw:ow=[])
  (hx:ρ x=.mp tt g (0+stepN size n.toNat)) (hb:H[tt]? = some (.mt e g (cellsOf f l))) (hy:ρ w=.dat (f y)) (hk:K (.tup []) (H.set tt (.mt e g (cellsOf f l2)))):SemE P E ow o ρ H K:=by
 have h1:=of_decide_eq_true h1
 obtain ⟨q1,q2⟩:=stepN_div (j:=n.toNat) h1
 obtain ⟨q3,rfl⟩:=set_some hs
 have hc:(cellsOf f l)[n.toNat]? = some (.dat (f z)):=by have:=cells_idx f hz; rwa [Nat.zero_add] at this
 rw [← cellsOf_set] at hk
 exact SemE_of (fun call=>by simp only [sem,ho,hw,hx,hy,storeSem,hn,Yd hb]; rw [if_neg (fun h=>by omega),if_pos ⟨trivial,h1,hf y,q1,by rw [q2,hc]; simp [PV.numOf,fits_num (hf z)]⟩,q2]) hk
theorem cs_nil {H:List Blk}:consumeL H []=some ([],H):=rfl
theorem cs_dat {H H2:List Blk} {d:Dat} {cs:List PV} {ds:List Dat} (h:consumeL H cs=some (ds,H2)):consumeL H (.dat d::cs)=some (d::ds,H2):=by
 simp only [consumeL,consume1,h]
theorem cs_ms {H H2:List Blk} {α:Type} (f:α→Dat) (l:List α) {t g m cap e:Nat} {cs:List PV} {ds:List Dat} (hl:l.length=m) (hf:∀ a,(f a).isCell=true) (hb:H[t]? = some (.mt e g (cellsOf f l))) (h:consumeL (H.set t (.mt e (g+1) (cellsOf f ([]:List α)))) cs=some (ds,H2)):consumeL H (.ms t g 0 m cap::cs)=some (.lst (l.map f)::ds,H2):=by
 have h':consumeL (H.set t (.mt e (g+1) [])) cs=some (ds,H2):=h
 simp only [consumeL,consume1,pc_ms f l hl hf hb,Yd hb,h']
theorem Qcr {P:Program} {E:Env} {ow:List (Nat × Nat)} {o:Oper} {ρ:Operand→PV} {H:List Blk} {K:PV→List Blk→Prop} {α:Type} (f:α→Dat) {l:List α} {x:Operand} {tt e g m cap:Nat} (hl:l.length=m) (hf:∀ a,(f a).isCell=false) (ho:o.op=.move x) (hx:ρ x=.ms tt g 0 m cap) (hb:H[tt]? = some (.mt e g (cellsOf f l))) (hg:giveHint ow=true)
  (hk:K (.dat (.lst (l.map f))) (H.set tt (.mt e (g+1) (cellsOf f ([]:List α))))):SemE P E ow o ρ H K:=SemE_of (fun call=>by
 simp only [sem,ho,hg,if_true,hx,consume1,pc_mu f l hl hf hb,Yd hb,Option.map_some]; rfl) hk
theorem Qb2 {P:Program} {E:Env} {ow:List (Nat × Nat)} {o:Oper} {ρ:Operand→PV} {H H2:List Blk} {K:PV→List Blk→Prop} {t:TypeId} {parts:Array (Nat × Operand)} {cs:List PV} {ds:List Dat} (ho:o.op=.build t parts) (hg:giveHint ow=true) (hb:buildSem P [] ρ t parts H=some (.agg cs,H)) (hc:consumeL H cs=some (ds,H2)) (hk:K (.dat (.agg ds)) H2):SemE P E ow o ρ H K :=
 SemE_of (fun call=>by simp only [sem,ho,hg,if_true,hb,hc]) hk
theorem Qan {P:Program} {E:Env} {ow:List (Nat × Nat)} {o:Oper} {ρ:Operand→PV} {H:List Blk} {Kp:PV→List Blk→Prop} {t e:TypeId} {x ix:Operand} {i off len size:Nat} {n K:Int} (hc:n=K) (hl:decide (0≤K∧K < (len:Int))=true) (hn:elemOfSlice P t=none) (he:elemOfArray P t=some (len,e)) (hs:szOf P e=some size)
  (ho:o.op=.indexAddr t x ix) (hx:ρ x=.ptr i off) (hi:ρ ix=Qc n) (hk:Kp (.ptr i (off+K.toNat * size)) H):SemE P E ow o ρ H Kp:=by
 subst hc
 have hl:=of_decide_eq_true hl
 exact SemE_of (fun call=>by simp only [sem,ho,hi,Qc,hn,he,hs,hx]; rw [if_pos hl]) hk
def JJ (x:Unit):Option Bool:=some true
def Qbx:Unit→Bool→Prop:=fun x r=>∀ H,PC prog env 7 ([].map .dat) H (Qn r) H
theorem QaM:∀ x r,JJ x=some r→Qbx x r:=by
 intro x r hm
 cases hm
 intro H
 exact PC_of (n:=200) (by kernel_rfl)
mutual
def ZL (x:(Qb × Int × Int)):Option (Int) :=
 match x with
 | (p0,v203,v204) =>
 (if v204 < (p0.kids.length:Int) then
  some (decide (v203≥0))
 else
 some false
 )>>=fun (v604:Bool) =>
 if v604=true then
  idx p0.kids v204>>=fun v605 =>
  Xa (v605,v203)>>=fun v606 =>
  ZL (p0,v606,(W (v204+1)))
 else
 some v203
 partial_fixpoint
def Xa (x:(Qb × Int)):Option Int :=
 match x with
 | (p0,p1) =>
 ((if (p0.shape.length:Int) > 40 then
  some true
 else
 some (decide ((p0.starts.length:Int) > 40))
 )>>=fun (v2:Bool) =>
 if v2=true then
  some true
 else
 some (decide ((p0.perm.length:Int) > 40))
 )>>=fun (v1:Bool) =>
 if v1=true then
  some (-1)
 else
 ZL (p0,(W (p1 - 1)),0)>>=fun v603 =>
 some v603
 partial_fixpoint
end
def X9:(Qb × Int × Int)→(Int)→Prop:=fun x r=>match x with
 | (p0,v203,v204)=>LQ f61 61 [1,1,1,0,1,0,0] 1 ⟨kp 43 [(1,(Qc v203)),(2,(.ptr 0 0)),(5,(Qc v204))],(Qs p0.kind p0.shape p0.buffer p0.starts p0.axis p0.amount p0.perm p0.kids)⟩ (P1 (.exit 0) (fun v603 d=>⟨sl d 43 [(1,(Qc v603))],(Qs p0.kind p0.shape p0.buffer p0.starts p0.axis p0.amount p0.perm p0.kids)⟩) r)
def J3:(Qb × Int)→Int→Prop:=fun x r=>match x,r with
 | (p0,p1),r0=>∀ H,PC prog env 61 ([(Qb.ex p0),(Qg p1)].map .dat) H (Qc r0) H
theorem g_ref14_left_L1:(∀ x r,ZL x=some r→X9 x r)∧(∀ x r,Xa x=some r→J3 x r):=by
 refine ZL.mutual_partial_correctness X9 J3 ?_ ?_
 ·intro ZL Xa Jd Qaw x r hm
  unfold X9
  obtain ⟨p0,v203,v204⟩:=x
  exact lp (Qi (Qi (bi hm fun v604 hs hm=>Jx (fun d=>⟨sl d 43 [(1,(Qc v203)),(2,(.ptr 0 0)),(5,(Qc v204)),(32,(Qn v604))],(Qs p0.kind p0.shape p0.buffer p0.starts p0.axis p0.amount p0.perm p0.kids)⟩) (have hm:=hs;R_G (Qd 3 (Qaz Qb.toD p0.kids (es:=Qb.toDs p0.kids) (Qb.toDs_eq _) (Qd 2 (gs 29 hm (fun hm=>re 3 zf) (fun hm=>re 3 zf)))))) (fun d=>rib hm (fun hm=>Qo (Qi (Qm (R_G (Qd 3 (bi hm fun v605 hx hm=>YY 8 Qb.toD p0.kids v204 v605 (es:=Qb.toDs p0.kids) (d:=(Qb.ex v605)) (Qb.toDs_eq _) hx (Qb.toD_eq v605) rfl (Qd 2 (bi hm fun v606 hx hm=>Yb (Qaw _ _ hx []) (re 1 (R_G (re 3 (Jd _ _ hm _ kr)))))))))))) (fun hm=>QO zf)))))
 ·intro ZL Jd x r0 hm
  unfold J3
  obtain ⟨p0,p1⟩:=x
  intro H
  refine PC_sx (ds:=[(Qb.ex p0),(Qg p1)]) (fn:=f61) rfl ?_
  exact ge 2 (ge 3 (Qi (Qi (bi hm fun v1 hs hm=>Jx (fun d=>⟨sl d 43 [(1,(Qc (W (p1 - 1)))),(2,(.ptr 0 0)),(23,(Qn v1))],(Qs p0.kind p0.shape p0.buffer p0.starts p0.axis p0.amount p0.perm p0.kids)⟩) (have hm:=hs;QbO (Qd 2 (ZM Qg p0.shape (Qd 2 (bi hm fun v2 hs hm=>Xs (j:=10) (fun d=>⟨sl d 43 [(1,(Qc (W (p1 - 1)))),(2,(.ptr 0 0)),(17,(Qn v2))],(Qs p0.kind p0.shape p0.buffer p0.starts p0.axis p0.amount p0.perm p0.kids)⟩) (fun d=>Qd 1 (gsb 18 hm (fun hm=>re 5 ⟨kr,zf⟩) (fun hm=>Qd 2 (ZM Qg p0.perm (re 2 ⟨kr,zf⟩))))) (fun hJ=>gs 12 hs (fun hm=>Qd 5 zf) (fun hm=>Qd 2 (ZM Qg p0.starts (Qd 2 zf))))))))) (fun d=>rib hm (fun hm=>ge 1 (Ql zf)) (fun hm=>Qo (Qi (ge 1 (Qm (ru1 hm (Jd _) fun v603 d hm=>ge 2 (Ql zf)))))))))))
theorem Jd:∀ x r,ZL x=some r→X9 x r:=g_ref14_left_L1.1
theorem Qaw:∀ x r,Xa x=some r→J3 x r:=g_ref14_left_L1.2
def JQ (x:(Qb × Int)):Option Bool :=
 match x with
 | (p0,p1) =>
 Xa (p0,p1)>>=fun v1 =>
 some (decide (v1≥0))
theorem QbU {p0 p1 r0} (hm:JQ (p0,p1)=some r0):FQ 28 [(Qb.ex p0),(Qg p1)] (Qn r0):=by
 unfold JQ at hm
 exact fp (fn:=f28) rfl (ge 2 (gr 2 (bi hm fun v1 hx hm=>Yb (Qaw _ _ hx []) (re 2 (Ql zf)))))
mutual
def Zp (x:(Qb × Int × Int)):Option (Int) :=
 match x with
 | (p0,v201,v202) =>
 if v202 < (p0.kids.length:Int) then
  idx p0.kids v202>>=fun v602 =>
  YP v602>>=fun v603 =>
  Zp (p0,(if v201 < v603 then v603 else v201),(W (v202+1)))
 else
 some v201
 partial_fixpoint
def YP (x:Qb):Option Int :=
 match x with
 | p0 =>
 Zp (p0,0,0)>>=fun v601 =>
 some (W (v601+1))
 partial_fixpoint
end
def XG:(Qb × Int × Int)→(Int)→Prop:=fun x r=>match x with
 | (p0,v201,v202)=>LQ f62 62 [1,1,0,1,0,0] 1 ⟨kp 22 [(1,(.ptr 0 0)),(3,(Qc v201)),(4,(Qc v202))],(Qs p0.kind p0.shape p0.buffer p0.starts p0.axis p0.amount p0.perm p0.kids)⟩ (P1 (.exit 0) (fun v601 d=>⟨sl d 22 [(3,(Qc v601))],(Qs p0.kind p0.shape p0.buffer p0.starts p0.axis p0.amount p0.perm p0.kids)⟩) r)
def JF:Qb→Int→Prop:=fun x r=>match x,r with
 | p0,r0=>∀ H,PC prog env 62 ([(Qb.ex p0)].map .dat) H (Qc r0) H
theorem g_ref14_Depth_L1:(∀ x r,Zp x=some r→XG x r)∧(∀ x r,YP x=some r→JF x r):=by
 refine Zp.mutual_partial_correctness XG JF ?_ ?_
 ·intro Zp YP XP Qaj x r hm
  unfold XG
  obtain ⟨p0,v201,v202⟩:=x
  exact lp (Qi (gr 3 (Qaz Qb.toD p0.kids (es:=Qb.toDs p0.kids) (Qb.toDs_eq _) (re 1 (ri hm (fun hm=>Qo (Qi (Qm (R_G (Qd 4 (bi hm fun v602 hx hm=>YY 8 Qb.toD p0.kids v202 v602 (es:=Qb.toDs p0.kids) (d:=(Qb.ex v602)) (Qb.toDs_eq _) hx (Qb.toD_eq v602) rfl (Qd 1 (bi hm fun v603 hx hm=>Yb (Qaj _ _ hx []) (QD rfl (fun _=>Qbd (k:=.i64) (m:=v201) (n:=v603) rfl kr kr) (re 1 (R_G (re 3 (XP _ _ hm _ kr))))))))))))) (fun hm=>QO zf))))))
 ·intro Zp XP p0 r0 hm
  unfold JF
  intro H
  refine PC_sx (ds:=[(Qb.ex p0)]) (fn:=f62) rfl ?_
  exact ge 2 (ge 1 (Qi (ge 1 (Qm (ru1 hm (XP _) fun v601 d hm=>ge 3 (Ql zf))))))
theorem XP:∀ x r,Zp x=some r→XG x r:=g_ref14_Depth_L1.1
theorem Qaj:∀ x r,YP x=some r→JF x r:=g_ref14_Depth_L1.2
def Q5 (x:((List Int) × Bool × Int)):Option (Unit ⊕ Bool) :=
 match x with
 | (p0,v201,v202) =>
 if v202 < (p0.length:Int) then
  idx p0 v202>>=fun v602 =>
  if v602 < 0 then
   some (Sum.inl ())
  else
  if v201=true then
   Q5 (p0,true,(W (v202+1)))
  else
  idx p0 v202>>=fun v603 =>
  Q5 (p0,(v603 == 0),(W (v202+1)))
 else
 some (Sum.inr v201)
 partial_fixpoint
theorem Xd:∀ x r,Q5 x=some r→match x with|(p0,v201,v202)=>LQ f60 60 [1,1,0,1,0,0] 0 ⟨kp 55 [(0,(La p0)),(4,(Qn v201)),(5,(Qc v202))],[]⟩ (P2 .ret (fun _ d=>⟨sl d 55 [(2,(Qc 0)),(3,(Qc 6))],[]⟩) (.exit 0) (fun v601 d=>⟨sl d 55 [(0,(La p0)),(4,(Qn v601))],[]⟩) r):=by
 refine Q5.partial_correctness _ (fun Q5 Xd x r hm=>?_)
 obtain ⟨p0,v201,v202⟩:=x
 exact lp (Qi (gr 2 (ZM Qg p0 (re 1 (ri hm (fun hm=>Qo (Qi (Qm (Qi (gr 2 (ZX 1 Qg hm fun v602 hm=>re 2 (ri hm (fun hm=>ge 2 (Ql zf)) (fun hm=>Qo (R_G (Qd 2 (gsb 21 hm (fun hm=>re 7 (R_G (re 3 (Xd _ _ hm _ kr)))) (fun hm=>Qd 2 (ZX 1 Qg hm fun v603 hm=>re 4 (R_G (re 3 (Xd _ _ hm _ kr)))))))))))))))) (fun hm=>QO zf))))))
def Ze (x:((List Int) × Bool × Int)):Option (Unit ⊕ Unit) :=
 match x with
 | (p0,v601,v804) =>
 if v804 < (p0.length:Int) then
  idx p0 v804>>=fun v1204 =>
  if v1204 > 65536 then
   some (Sum.inl ())
  else
  Ze (p0,v601,(W (v804+1)))
 else
 some (Sum.inr ())
 partial_fixpoint
theorem Jh:∀ x r,Ze x=some r→match x with|(p0,v601,v804)=>LQ f60 60 [1,1,1,0,1,0,0] 0 ⟨kp 55 [(0,(La p0)),(4,(Qn v601)),(6,(Qc v804))],[]⟩ (P2 .ret (fun _ d=>⟨sl d 55 [(2,(Qc 0)),(3,(Qc 7))],[]⟩) (.exit 2) (fun _ d=>⟨sl d 55 [(0,(La p0)),(4,(Qn v601))],[]⟩) r):=by
 refine Ze.partial_correctness _ (fun Ze Jh x r hm=>?_)
 obtain ⟨p0,v601,v804⟩:=x
 exact lp (Qi (gr 2 (ZM Qg p0 (re 1 (ri hm (fun hm=>Qo (Qi (Qm (gr 2 (ZX 1 Qg hm fun v1204 hm=>re 2 (ri hm (fun hm=>ge 2 (Ql zf)) (fun hm=>Qo (R_G (re 3 (Jh _ _ hm _ kr)))))))))) (fun hm=>QO zf))))))
def Zf (x:((List Int) × Int × Int)):Option (Unit ⊕ Int) :=
 match x with
 | (p0,v1405,v1406) =>
 if v1406 < (p0.length:Int) then
  idx p0 v1406>>=fun v1806 =>
  if (W (v1405 * v1806)) > 65536 then
   some (Sum.inl ())
  else
  Zf (p0,(W (v1405 * v1806)),(W (v1406+1)))
 else
 some (Sum.inr v1405)
 partial_fixpoint
theorem Ji:∀ x r,Zf x=some r→match x with|(p0,v1405,v1406)=>LQ f60 60 [1,1,1,1,1,1,0,1,0,0] 0 ⟨kp 55 [(0,(La p0)),(7,(Qc v1405)),(8,(Qc v1406))],[]⟩ (P2 .ret (fun _ d=>⟨sl d 55 [(2,(Qc 0)),(3,(Qc 7))],[]⟩) (.exit 4) (fun v1805 d=>⟨sl d 55 [(7,(Qc v1805))],[]⟩) r):=by
 refine Zf.partial_correctness _ (fun Zf Ji x r hm=>?_)
 obtain ⟨p0,v1405,v1406⟩:=x
 exact lp (Qi (gr 2 (ZM Qg p0 (re 1 (ri hm (fun hm=>Qo (Qi (Qm (gr 3 (ZX 1 Qg hm fun v1806 hm=>re 3 (ge 2 (ri hm (fun hm=>ge 2 (Ql zf)) (fun hm=>Qo (R_G (re 3 (Ji _ _ hm _ kr))))))))))) (fun hm=>QO zf))))))
def YG (x:(List Int)):Option (Int × Int) :=
 match x with
 | p0 =>
 (
 Q5 (p0,false,0)>>=fun out =>
 match out with
 | .inl _ =>
  some (0,6)
 | .inr (v601) =>
  (
  Ze (p0,v601,0)>>=fun out =>
  match out with
  | .inl _ =>
   some (0,7)
  | .inr (_) =>
   if v601=true then
    some (0,0)
   else
   (
   Zf (p0,1,0)>>=fun out =>
   match out with
   | .inl _ =>
    some (0,7)
   | .inr (v1805) =>
    some (v1805,0)
   )
  )
 )
theorem QaB {p0 r0 r1} (hm:YG p0=some (r0,r1)):FQ 60 [(Lb p0)] (.tup [(Qc r0),(Qc r1)]):=by
 unfold YG at hm
 exact fp (fn:=f60) rfl (ge 2 (ge 1 (Qi (ge 1 (Qm (ru2 hm (Xd _) (fun _ d hm=>zf) fun v601 d hm=>Qi (ge 1 (Qm (ru2 hm (Jh _) (fun _ d hm=>zf) fun _ d hm=>Qi (ge 1 (rib hm (fun hm=>ge 2 (Ql zf)) (fun hm=>Qo (ge 1 (Qi (ge 1 (Qm (ru2 hm (Ji _) (fun _ d hm=>zf) fun v1805 d hm=>ge 3 (Ql zf))))))))))))))))))
def ZO (x:((List Int) × Int)):Option (Unit ⊕ Unit) :=
 match x with
 | (p0,v201) =>
 if v201 < (p0.length:Int) then
  idx p0 v201>>=fun v601 =>
  if v601 < 0 then
   some (Sum.inl ())
  else
  ZO (p0,(W (v201+1)))
 else
 some (Sum.inr ())
 partial_fixpoint
theorem JA:∀ x r,ZO x=some r→match x with|(p0,v201)=>LQ f59 59 [1,0,1,0,0] 0 ⟨kp 29 [(0,(La p0)),(3,(Qc v201))],[]⟩ (P2 .ret (fun _ d=>⟨sl d 29 [(2,(Qc 6))],[]⟩) (.exit 0) (fun _ d=>⟨sl d 29 [(0,(La p0))],[]⟩) r):=by
 refine ZO.partial_correctness _ (fun ZO JA x r hm=>?_)
 obtain ⟨p0,v201⟩:=x
 exact lp (Qi (gr 2 (ZM Qg p0 (re 1 (ri hm (fun hm=>Qo (Qi (Qm (gr 2 (ZX 1 Qg hm fun v601 hm=>re 2 (ri hm (fun hm=>ge 1 (Ql zf)) (fun hm=>Qo (R_G (re 3 (JA _ _ hm _ kr)))))))))) (fun hm=>QO zf))))))
def YO (x:(List Int)):Option Int :=
 match x with
 | p0 =>
 (
 ZO (p0,0)>>=fun out =>
 match out with
 | .inl _ =>
  some 6
 | .inr (_) =>
  YG p0>>=fun (v602,v603) =>
  (if (p0.length:Int) > 16 then
   some true
  else
  some (v603 != 0)
  )>>=fun (v604:Bool) =>
  if v604=true then
   some 7
  else
  some 0
 )
theorem Qah {p0 r0} (hm:YO p0=some r0):FQ 59 [(Lb p0)] (Qc r0):=by
 unfold YO at hm
 exact fp (fn:=f59) rfl (ge 1 (Qi (ge 1 (Qm (ru2 hm (JA _) (fun _ d hm=>zf) fun _ d hm=>gr 1 (bi2 hm fun v602 v603 hx hm=>cp (QaB hx) (re 5 (Qi (Qi (bi hm fun v604 hs hm=>Jx (fun d=>⟨sl d 29 [(28,(Qn v604))],[]⟩) (have hm:=hs;R_G (Qd 1 (ZM Qg p0 (Qd 2 (gs 25 hm (fun hm=>re 3 zf) (fun hm=>re 3 zf)))))) (fun d=>rib hm (fun hm=>ge 1 (Ql zf)) (fun hm=>Qo (ge 1 (Ql zf))))))))))))))
def ZP (x:((List Int) × (List Int) × Int)):Option (Unit ⊕ Unit) :=
 match x with
 | (p0,p1,v201) =>
 if v201 < (p0.length:Int) then
  idx p0 v201>>=fun v601 =>
  idx p1 v201>>=fun v602 =>
  if v601≠v602 then
   some (Sum.inl ())
  else
  ZP (p0,p1,(W (v201+1)))
 else
 some (Sum.inr ())
 partial_fixpoint
theorem JB:∀ x r,ZP x=some r→match x with|(p0,p1,v201)=>LQ f27 27 [1,1,0,1,0,0] 0 ⟨kp 26 [(0,(La p0)),(1,(La p1)),(5,(Qc v201))],[]⟩ (P2 .ret (fun _ d=>⟨sl d 26 [(4,(Qn false))],[]⟩) (.exit 0) (fun _ d=>⟨sl d 26 [],[]⟩) r):=by
 refine ZP.partial_correctness _ (fun ZP JB x r hm=>?_)
 obtain ⟨p0,p1,v201⟩:=x
 exact lp (Qi (gr 2 (ZM Qg p0 (re 1 (ri hm (fun hm=>Qo (Qi (Qm (Qi (Yq (Qd 2 (ZX 1 Qg hm fun v601 hm=>Qd 3 (ZX 1 Qg hm fun v602 hm=>re 2 ⟨kr,rix hm (fun hm=>ge 1 (Ql zf)) (fun hm=>Qo (R_G (re 3 (JB _ _ hm _ kr))))⟩)))))))) (fun hm=>QO zf))))))
def Yc (x:((List Int) × (List Int))):Option Bool :=
 match x with
 | (p0,p1) =>
 if (p0.length:Int)≠(p1.length:Int) then
  some false
 else
 (
 ZP (p0,p1,0)>>=fun out =>
 match out with
 | .inl _ =>
  some false
 | .inr (_) =>
  some true
 )
theorem Qai {p0 p1 r0} (hm:Yc (p0,p1)=some r0):FQ 27 [(Lb p0),(Lb p1)] (Qn r0):=by
 unfold Yc at hm
 exact fp (fn:=f27) rfl (ge 1 (Qi (gr 1 (ZM Qg p0 (Qd 1 (ZM Qg p1 (re 1 (rix hm (fun hm=>ge 1 (Ql zf)) (fun hm=>Qo (Qi (ge 1 (Qm (ru2 hm (JB _) (fun _ d hm=>zf) fun _ d hm=>ge 1 (Ql zf))))))))))))))
def Xj (x:Qb):Option Bool :=
 match x with
 | p0 =>
 idx p0.kids 0>>=fun v1 =>
 Yc (v1.shape,p0.shape)>>=fun v2 =>
 (if v2=true then
  some (decide (p0.axis≥0))
 else
 some false
 )>>=fun (v3:Bool) =>
 if v3=true then
  some (decide (p0.axis < (p0.shape.length:Int)))
 else
 some false
theorem QaO {p0 r0} (hm:Xj p0=some r0):FQ 148 [(Qb.ex p0)] (Qn r0):=by
 unfold Xj at hm
 exact fp (fn:=f148) rfl (ge 2 (Qi (Qco (Qd 2 (bi hm fun v1 hx hm=>YY 8 Qb.toD p0.kids 0 v1 (es:=Qb.toDs p0.kids) (d:=(Qb.ex v1)) (Qb.toDs_eq _) hx (Qb.toD_eq v1) rfl (Qd 4 (bi hm fun v2 hx hm=>cp (Qai hx) (Qd 1 (bi hm fun v3 hs hm=>Xs (j:=13) (fun d=>⟨sl d 24 [(1,(.ptr 0 0)),(2,(Qn false)),(15,(Qn v3))],(Qs p0.kind p0.shape p0.buffer p0.starts p0.axis p0.amount p0.perm p0.kids)⟩) (fun d=>Qd 1 (gsb 16 hm (fun hm=>Qd 4 (ZM Qg p0.shape (re 3 ⟨kr,Ql zf⟩))) (fun hm=>re 8 ⟨kr,Ql zf⟩))) (fun hJ=>gsb 11 hs (fun hm=>Qd 4 zf) (fun hm=>Qd 4 zf)))))))))))
def QV (x:(Qb × Qb × Int)):Option (Unit ⊕ Unit) :=
 match x with
 | (v1,p0,v202) =>
 if v202 < (v1.shape.length:Int) then
  (idx p0.perm v202>>=fun v603 =>
  if v603 < 0 then
   some true
  else
  idx p0.perm v202>>=fun v604 =>
  some (decide (v604≥(p0.shape.length:Int)))
  )>>=fun (v602:Bool) =>
  if v602=true then
   some (Sum.inl ())
  else
  QV (v1,p0,(W (v202+1)))
 else
 some (Sum.inr ())
 partial_fixpoint
theorem Xl:∀ x r,QV x=some r→match x with|(v1,p0,v202)=>LQ f149 149 [1,1,1,0,1,0,0] 1 ⟨kp 85 [(1,(.ptr 0 0)),(3,(La v1.shape)),(4,(Qc v202))],(Qs p0.kind p0.shape p0.buffer p0.starts p0.axis p0.amount p0.perm p0.kids)⟩ (P2 .ret (fun _ d=>⟨sl d 85 [(2,(Qn false))],(Qs p0.kind p0.shape p0.buffer p0.starts p0.axis p0.amount p0.perm p0.kids)⟩) (.exit 0) (fun _ d=>⟨sl d 85 [(1,(.ptr 0 0)),(3,(La v1.shape))],(Qs p0.kind p0.shape p0.buffer p0.starts p0.axis p0.amount p0.perm p0.kids)⟩) r):=by
 refine QV.partial_correctness _ (fun QV Xl x r hm=>?_)
 obtain ⟨v1,p0,v202⟩:=x
 exact lp (Qi (gr 2 (ZM Qg v1.shape (re 1 (ri hm (fun hm=>Qo (Qi (Qm (Qi (bi hm fun v602 hs hm=>Jx (fun d=>⟨sl d 85 [(1,(.ptr 0 0)),(3,(La v1.shape)),(4,(Qc v202)),(41,(Qn v602))],(Qs p0.kind p0.shape p0.buffer p0.starts p0.axis p0.amount p0.perm p0.kids)⟩) (have hm:=hs;Yq (Qd 3 (ZX 1 Qg hm fun v603 hm=>Qd 3 (gs 31 hm (fun hm=>re 10 ⟨kr,zf⟩) (fun hm=>Qd 3 (ZX 1 Qg hm fun v604 hm=>Qd 3 (ZM Qg p0.shape (re 2 ⟨kr,zf⟩)))))))) (fun d=>rib hm (fun hm=>ge 1 (Ql zf)) (fun hm=>Qo (R_G (re 3 (Xl _ _ hm _ kr)))))))))) (fun hm=>QO zf))))))
def QK (x:(Qb × Qb × Int × Int × Int)):Option (Int) :=
 match x with
 | (v1,p0,v805,v1405,v1406) =>
 if v1406 < (v1.shape.length:Int) then
  (idx p0.perm v1406>>=fun v1807 =>
  if v1807=v805 then
   if v1405 < 0 then
    some true
   else
   idx v1.shape v1406>>=fun v1808 =>
   some (decide (v1808 < v1405))
  else
  some false
  )>>=fun (v1806:Bool) =>
  if v1806=true then
   idx v1.shape v1406>>=fun v1809 =>
   QK (v1,p0,v805,v1809,(W (v1406+1)))
  else
  QK (v1,p0,v805,v1405,(W (v1406+1)))
 else
 some v1405
 partial_fixpoint
theorem YC:∀ x r,QK x=some r→match x with|(v1,p0,v805,v1405,v1406)=>LQ f149 149 [1,1,1,1,0,1,0,0,1,0,0,1,0,1,0,0] 1 ⟨kp 85 [(1,(.ptr 0 0)),(3,(La v1.shape)),(5,(Qc v805)),(6,(Qc v1405)),(7,(Qc v1406))],(Qs p0.kind p0.shape p0.buffer p0.starts p0.axis p0.amount p0.perm p0.kids)⟩ (P1 (.exit 4) (fun v1805 d=>⟨sl d 85 [(1,(.ptr 0 0)),(3,(La v1.shape)),(5,(Qc v805)),(6,(Qc v1805))],(Qs p0.kind p0.shape p0.buffer p0.starts p0.axis p0.amount p0.perm p0.kids)⟩) r):=by
 refine QK.partial_correctness _ (fun QK YC x r hm=>?_)
 obtain ⟨v1,p0,v805,v1405,v1406⟩:=x
 exact lp (Qi (gr 2 (ZM Qg v1.shape (re 1 (ri hm (fun hm=>Qo (Qi (Qm (Qi (bi hm fun v1806 hs hm=>Jx (fun d=>⟨sl d 85 [(1,(.ptr 0 0)),(3,(La v1.shape)),(5,(Qc v805)),(6,(Qc v1405)),(7,(Qc v1406)),(73,(Qn v1806))],(Qs p0.kind p0.shape p0.buffer p0.starts p0.axis p0.amount p0.perm p0.kids)⟩) (have hm:=hs;R_G (Qd 3 (ZX 1 Qg hm fun v1807 hm=>Qd 4 (gsq 62 hm (fun hm=>Qd 3 (gs 65 hm (fun hm=>re 8 zf) (fun hm=>Qd 2 (ZX 1 Qg hm fun v1808 hm=>re 5 zf)))) (fun hm=>re 11 zf))))) (fun d=>rib hm (fun hm=>R_G (Qd 2 (ZX 1 Qg hm fun v1809 hm=>re 2 (R_G (re 3 (YC _ _ hm _ kr)))))) (fun hm=>Qo (R_G (re 3 (YC _ _ hm _ kr)))))))))) (fun hm=>QO zf))))))
def QX (x:(Qb × Qb × Int)):Option (Unit ⊕ Unit) :=
 match x with
 | (p0,v1,v805) =>
 if v805 < (p0.shape.length:Int) then
  QK (v1,p0,v805,(-1),0)>>=fun v1805 =>
  idx p0.shape v805>>=fun v1810 =>
  if v1805≠v1810 then
   some (Sum.inl ())
  else
  QX (p0,v1,(W (v805+1)))
 else
 some (Sum.inr ())
 partial_fixpoint
theorem Xm:∀ x r,QX x=some r→match x with|(p0,v1,v805)=>LQ f149 149 [1,1,1,1,0,1,0,0] 1 ⟨kp 85 [(1,(.ptr 0 0)),(3,(La v1.shape)),(5,(Qc v805))],(Qs p0.kind p0.shape p0.buffer p0.starts p0.axis p0.amount p0.perm p0.kids)⟩ (P2 .ret (fun _ d=>⟨sl d 85 [(2,(Qn false))],(Qs p0.kind p0.shape p0.buffer p0.starts p0.axis p0.amount p0.perm p0.kids)⟩) (.exit 2) (fun _ d=>⟨sl d 85 [],(Qs p0.kind p0.shape p0.buffer p0.starts p0.axis p0.amount p0.perm p0.kids)⟩) r):=by
 refine QX.partial_correctness _ (fun QX Xm x r hm=>?_)
 obtain ⟨p0,v1,v805⟩:=x
 exact lp (Qi (gr 3 (ZM Qg p0.shape (re 1 (ri hm (fun hm=>Qo (Qi (Qm (ge 1 (Qi (ge 1 (Qm (ru1 hm (YC _) fun v1805 d hm=>gr 4 (ZX 1 Qg hm fun v1810 hm=>re 2 (rix hm (fun hm=>ge 1 (Ql zf)) (fun hm=>Qo (R_G (re 3 (Xm _ _ hm _ kr)))))))))))))) (fun hm=>QO zf))))))
def YA (x:Qb):Option Bool :=
 match x with
 | p0 =>
 idx p0.kids 0>>=fun v1 =>
 if (p0.perm.length:Int)≠(v1.shape.length:Int) then
  some false
 else
 (
 QV (v1,p0,0)>>=fun out =>
 match out with
 | .inl _ =>
  some false
 | .inr (_) =>
  (
  QX (p0,v1,0)>>=fun out =>
  match out with
  | .inl _ =>
   some false
  | .inr (_) =>
   some true
  )
 )
theorem Qa1 {p0 r0} (hm:YA p0=some r0):FQ 149 [(Qb.ex p0)] (Qn r0):=by
 unfold YA at hm
 exact fp (fn:=f149) rfl (ge 2 (gr 2 (bi hm fun v1 hx hm=>YY 8 Qb.toD p0.kids 0 v1 (es:=Qb.toDs p0.kids) (d:=(Qb.ex v1)) (Qb.toDs_eq _) hx (Qb.toD_eq v1) rfl (re 3 (Qi (gr 2 (ZM Qg p0.perm (Qd 1 (ZM Qg v1.shape (re 1 (rix hm (fun hm=>ge 1 (Ql zf)) (fun hm=>Qo (Qi (ge 1 (Qm (ru2 hm (Xl _) (fun _ d hm=>zf) fun _ d hm=>Qi (ge 1 (Qm (ru2 hm (Xm _) (fun _ d hm=>zf) fun _ d hm=>ge 1 (Ql zf))))))))))))))))))))
def ZD (x:(Qb × Qb × Qb × Int)):Option (Unit ⊕ Unit) :=
 match x with
 | (v1,p0,v2,v206) =>
 if v206 < (v1.shape.length:Int) then
  ((if v206=p0.axis then
   idx p0.shape v206>>=fun v608 =>
   idx v1.shape v206>>=fun v609 =>
   idx v2.shape v206>>=fun v610 =>
   some (v608 != (W (v609+v610)))
  else
  some false
  )>>=fun (v607:Bool) =>
  if v607=true then
   some true
  else
  if v206≠p0.axis then
   idx v1.shape v206>>=fun v611 =>
   idx v2.shape v206>>=fun v612 =>
   (if v611≠v612 then
    some true
   else
   idx v1.shape v206>>=fun v614 =>
   idx p0.shape v206>>=fun v615 =>
   some (v614 != v615)
   )>>=fun (v613:Bool) =>
   some v613
  else
  some false
  )>>=fun (v606:Bool) =>
  if v606=true then
   some (Sum.inl ())
  else
  ZD (v1,p0,v2,(W (v206+1)))
 else
 some (Sum.inr ())
 partial_fixpoint
theorem Jw:∀ x r,ZD x=some r→match x with|(v1,p0,v2,v206)=>LQ f150 150 [1,1,1,1,0,1,0,0] 1 ⟨kp 97 [(1,(.ptr 0 0)),(3,(La v1.shape)),(4,(La v2.shape)),(5,(Qc v206))],(Qs p0.kind p0.shape p0.buffer p0.starts p0.axis p0.amount p0.perm p0.kids)⟩ (P2 .ret (fun _ d=>⟨sl d 97 [(2,(Qn false))],(Qs p0.kind p0.shape p0.buffer p0.starts p0.axis p0.amount p0.perm p0.kids)⟩) (.exit 0) (fun _ d=>⟨sl d 97 [],(Qs p0.kind p0.shape p0.buffer p0.starts p0.axis p0.amount p0.perm p0.kids)⟩) r):=by
 refine ZD.partial_correctness _ (fun ZD Jw x r hm=>?_)
 obtain ⟨v1,p0,v2,v206⟩:=x
 exact lp (Qi (gr 2 (ZM Qg v1.shape (re 1 (ri hm (fun hm=>Qo (Qi (Qm (Qi (bi hm fun v606 hs hm=>Jx (fun d=>⟨sl d 97 [(1,(.ptr 0 0)),(3,(La v1.shape)),(4,(La v2.shape)),(5,(Qc v206)),(96,(Qn v606))],(Qs p0.kind p0.shape p0.buffer p0.starts p0.axis p0.amount p0.perm p0.kids)⟩) (have hm:=hs;Qco (Qd 5 (bi hm fun v607 hs hm=>Xs (j:=21) (fun d=>⟨sl d 97 [(1,(.ptr 0 0)),(3,(La v1.shape)),(4,(La v2.shape)),(5,(Qc v206)),(67,(Qn v607))],(Qs p0.kind p0.shape p0.buffer p0.starts p0.axis p0.amount p0.perm p0.kids)⟩) (fun d=>Qd 1 (gsb 68 hm (fun hm=>re 28 ⟨kr,zf⟩) (fun hm=>Qd 5 (gsx 73 hm (fun hm=>Qd 2 (ZX 1 Qg hm fun v611 hm=>Qd 3 (ZX 1 Qg hm fun v612 hm=>Qd 3 (bi hm fun v613 hs hm=>Xs (j:=48) (fun d=>⟨sl d 97 [(1,(.ptr 0 0)),(3,(La v1.shape)),(4,(La v2.shape)),(5,(Qc v206)),(68,(Qn false)),(73,(Qn true)),(94,(Qn v613))],(Qs p0.kind p0.shape p0.buffer p0.starts p0.axis p0.amount p0.perm p0.kids)⟩) (fun d=>re 2 ⟨kr,zf⟩) (fun hJ=>gsx 83 hs (fun hm=>Qd 11 zf) (fun hm=>Qd 2 (ZX 1 Qg hm fun v614 hm=>Qd 4 (ZX 1 Qg hm fun v615 hm=>Qd 3 zf)))))))) (fun hm=>re 23 ⟨kr,zf⟩))))) (fun hJ=>gsq 51 hs (fun hm=>Qd 3 (ZX 1 Qg hm fun v608 hm=>Qd 3 (ZX 1 Qg hm fun v609 hm=>Qd 3 (ZX 1 Qg hm fun v610 hm=>Qd 4 zf)))) (fun hm=>Qd 16 zf))))) (fun d=>rib hm (fun hm=>ge 1 (Ql zf)) (fun hm=>Qo (R_G (re 3 (Jw _ _ hm _ kr)))))))))) (fun hm=>QO zf))))))
def Xz (x:Qb):Option Bool :=
 match x with
 | p0 =>
 idx p0.kids 0>>=fun v1 =>
 idx p0.kids 1>>=fun v2 =>
 ((if (v1.shape.length:Int)≠(v2.shape.length:Int) then
  some true
 else
 some ((v1.shape.length:Int) != (p0.shape.length:Int))
 )>>=fun (v4:Bool) =>
 (if v4=true then
  some true
 else
 some (decide (p0.axis < 0))
 )>>=fun (v5:Bool) =>
 if v5=true then
  some true
 else
 some (decide (p0.axis≥(v1.shape.length:Int)))
 )>>=fun (v3:Bool) =>
 if v3=true then
  some false
 else
 (
 ZD (v1,p0,v2,0)>>=fun out =>
 match out with
 | .inl _ =>
  some false
 | .inr (_) =>
  some true
 )
theorem Qbu {p0 r0} (hm:Xz p0=some r0):FQ 150 [(Qb.ex p0)] (Qn r0):=by
 unfold Xz at hm
 exact fp (fn:=f150) rfl (ge 2 (gr 2 (bi hm fun v1 hx hm=>YY 8 Qb.toD p0.kids 0 v1 (es:=Qb.toDs p0.kids) (d:=(Qb.ex v1)) (Qb.toDs_eq _) hx (Qb.toD_eq v1) rfl (re 3 (gr 2 (bi hm fun v2 hx hm=>YY 8 Qb.toD p0.kids 1 v2 (es:=Qb.toDs p0.kids) (d:=(Qb.ex v2)) (Qb.toDs_eq _) hx (Qb.toD_eq v2) rfl (re 3 (Qi (Qi (bi hm fun v3 hs hm=>Jx (fun d=>⟨sl d 97 [(1,(.ptr 0 0)),(3,(La v1.shape)),(4,(La v2.shape)),(40,(Qn v3))],(Qs p0.kind p0.shape p0.buffer p0.starts p0.axis p0.amount p0.perm p0.kids)⟩) (have hm:=hs;QbO (Qd 1 (ZM Qg v1.shape (Qd 1 (ZM Qg v2.shape (Qd 2 (bi hm fun v4 hs hm=>Xs (j:=13) (fun d=>⟨sl d 97 [(1,(.ptr 0 0)),(3,(La v1.shape)),(4,(La v2.shape)),(28,(Qn v4))],(Qs p0.kind p0.shape p0.buffer p0.starts p0.axis p0.amount p0.perm p0.kids)⟩) (fun d=>Qd 1 (bi hm fun v5 hs hm=>Xs (j:=18) (fun d=>⟨sl d 97 [(1,(.ptr 0 0)),(3,(La v1.shape)),(4,(La v2.shape)),(33,(Qn v5))],(Qs p0.kind p0.shape p0.buffer p0.starts p0.axis p0.amount p0.perm p0.kids)⟩) (fun d=>Qd 1 (gsb 34 hm (fun hm=>re 6 ⟨kr,zf⟩) (fun hm=>Qd 3 (ZM Qg v1.shape (re 2 ⟨kr,zf⟩))))) (fun hJ=>gsb 29 hs (fun hm=>Qd 4 zf) (fun hm=>Qd 4 zf)))) (fun hJ=>gsx 21 hs (fun hm=>Qd 7 zf) (fun hm=>Qd 1 (ZM Qg v1.shape (Qd 2 (ZM Qg p0.shape (Qd 2 zf))))))))))))) (fun d=>rib hm (fun hm=>ge 1 (Ql zf)) (fun hm=>Qo (Qi (ge 1 (Qm (ru2 hm (Jw _) (fun _ d hm=>zf) fun _ d hm=>ge 1 (Ql zf)))))))))))))))))
def Z3 (x:(Qb × Int)):Option (Unit ⊕ Unit) :=
 match x with
 | (p0,v217) =>
 if v217 < (p0.starts.length:Int) then
  (idx p0.starts v217>>=fun v618 =>
  if v618 < (-65536) then
   some true
  else
  idx p0.starts v217>>=fun v619 =>
  some (decide (v619 > 65536))
  )>>=fun (v617:Bool) =>
  if v617=true then
   some (Sum.inl ())
  else
  Z3 (p0,(W (v217+1)))
 else
 some (Sum.inr ())
 partial_fixpoint
theorem JZ:∀ x r,Z3 x=some r→match x with|(p0,v217)=>LQ f109 109 [1,1,1,1,1,1,0,1,0,1,1,1,0,0,1,0,0] 1 ⟨kp 197 [(2,(.ptr 0 0)),(6,(Qc v217))],(Qs p0.kind p0.shape p0.buffer p0.starts p0.axis p0.amount p0.perm p0.kids)⟩ (P2 .ret (fun _ d=>⟨sl d 197 [(4,(Qn false))],(Qs p0.kind p0.shape p0.buffer p0.starts p0.axis p0.amount p0.perm p0.kids)⟩) (.exit 1) (fun _ d=>⟨sl d 197 [(2,(.ptr 0 0))],(Qs p0.kind p0.shape p0.buffer p0.starts p0.axis p0.amount p0.perm p0.kids)⟩) r):=by
 refine Z3.partial_correctness _ (fun Z3 JZ x r hm=>?_)
 obtain ⟨p0,v217⟩:=x
 exact lp (Qi (gr 3 (ZM Qg p0.starts (re 1 (ri hm (fun hm=>Qo (Qi (Qm (Qi (bi hm fun v617 hs hm=>Jx (fun d=>⟨sl d 197 [(2,(.ptr 0 0)),(6,(Qc v217)),(140,(Qn v617))],(Qs p0.kind p0.shape p0.buffer p0.starts p0.axis p0.amount p0.perm p0.kids)⟩) (have hm:=hs;R_G (Qd 3 (ZX 1 Qg hm fun v618 hm=>Qd 3 (gs 133 hm (fun hm=>re 7 zf) (fun hm=>Qd 3 (ZX 1 Qg hm fun v619 hm=>re 3 zf)))))) (fun d=>rib hm (fun hm=>ge 1 (Ql zf)) (fun hm=>Qo (R_G (re 3 (JZ _ _ hm _ kr)))))))))) (fun hm=>QO zf))))))
def Xb (x:(Qb × (List (List Int)))):Option Bool :=
 match x with
 | (p0,p1) =>
 (if p0.kind=1 then
  some 0
 else
 some 1
 )>>=fun (v1:Int) =>
 (if p0.kind=7 then
  some 2
 else
 some v1
 )>>=fun (v2:Int) =>
 ((if p0.kind < 1 then
  some true
 else
 some (decide (p0.kind > 7))
 )>>=fun (v4:Bool) =>
 (if v4=true then
  some true
 else
 some ((p0.kids.length:Int) != v2)
 )>>=fun (v5:Bool) =>
 if v5=true then
  some true
 else
 YO p0.shape>>=fun v6 =>
 some (v6 != 0)
 )>>=fun (v3:Bool) =>
 if v3=true then
  some false
 else
 ((if p0.kind≠1 then
  some (p0.buffer != 0)
 else
 some false
 )>>=fun (v8:Bool) =>
 (if v8=true then
  some true
 else
 if p0.kind≠2 then
  some (decide ((p0.starts.length:Int) > 0))
 else
 some false
 )>>=fun (v9:Bool) =>
 (if v9=true then
  some true
 else
 (if p0.kind≠3 then
  some (p0.kind != 4)
 else
 some false
 )>>=fun (v11:Bool) =>
 (if v11=true then
  some (p0.kind != 7)
 else
 some false
 )>>=fun (v12:Bool) =>
 if v12=true then
  some (p0.axis != 0)
 else
 some false
 )>>=fun (v10:Bool) =>
 (if v10=true then
  some true
 else
 if p0.kind≠4 then
  some (p0.amount != 0)
 else
 some false
 )>>=fun (v13:Bool) =>
 if v13=true then
  some true
 else
 if p0.kind≠5 then
  some (decide ((p0.perm.length:Int) > 0))
 else
 some false
 )>>=fun (v7:Bool) =>
 if v7=true then
  some false
 else
 if p0.kind=1 then
  (if p0.buffer≥0 then
   some (decide (p0.buffer < (p1.length:Int)))
  else
  some false
  )>>=fun (v14:Bool) =>
  if v14=true then
   idx p1 p0.buffer>>=fun v15 =>
   Yc (v15,p0.shape)>>=fun v16 =>
   some v16
  else
  some false
 else
 if p0.kind=2 then
  (
  Z3 (p0,0)>>=fun out =>
  match out with
  | .inl _ =>
   some false
  | .inr (_) =>
   if (p0.starts.length:Int)=(p0.shape.length:Int) then
    idx p0.kids 0>>=fun v620 =>
    some ((v620.shape.length:Int) == (p0.shape.length:Int))
   else
   some false
  )
 else
 if p0.kind=3 then
  Xj p0>>=fun v621 =>
  some v621
 else
 if p0.kind=4 then
  Xj p0>>=fun v622 =>
  (if v622=true then
   some (decide (p0.amount≥0))
  else
  some false
  )>>=fun (v623:Bool) =>
  if v623=true then
   if p0.amount=0 then
    some true
   else
   idx p0.shape p0.axis>>=fun v624 =>
   some (decide (p0.amount < v624))
  else
  some false
 else
 if p0.kind=5 then
  YA p0>>=fun v625 =>
  some v625
 else
 if p0.kind=7 then
  Xz p0>>=fun v626 =>
  some v626
 else
 some true
theorem QbL {p0 p1 r0} (hm:Xb (p0,p1)=some r0):FQ 109 [(Qb.ex p0),(.lst ((List.map (fun l=>Dat.lst ((List.map Qg) l))) p1))] (Qn r0):=by
 unfold Xb at hm
 exact fp (fn:=f109) rfl (ge 2 (ge 1 (Qi (ge 3 (bi hm fun v1 hs hm=>Jx (fun d=>⟨sl d 197 [(1,(Yx p1)),(2,(.ptr 0 0)),(5,(Qc v1))],(Qs p0.kind p0.shape p0.buffer p0.starts p0.axis p0.amount p0.perm p0.kids)⟩) (have hm:=hs;riq hm (fun hm=>R_G (re 1 zf)) (fun hm=>Qo zf)) (fun d=>Qi (ge 3 (bi hm fun v2 hs hm=>Jx (fun d=>⟨sl d 197 [(1,(Yx p1)),(2,(.ptr 0 0)),(5,(Qc v2))],(Qs p0.kind p0.shape p0.buffer p0.starts p0.axis p0.amount p0.perm p0.kids)⟩) (have hm:=hs;riq hm (fun hm=>R_G (re 1 zf)) (fun hm=>Qo zf)) (fun d=>Qi (Qi (bi hm fun v3 hs hm=>Jx (fun d=>⟨sl d 197 [(1,(Yx p1)),(2,(.ptr 0 0)),(33,(Qn v3))],(Qs p0.kind p0.shape p0.buffer p0.starts p0.axis p0.amount p0.perm p0.kids)⟩) (have hm:=hs;QbO (Qd 4 (bi hm fun v4 hs hm=>Xs (j:=8) (fun d=>⟨sl d 197 [(1,(Yx p1)),(2,(.ptr 0 0)),(5,(Qc v2)),(20,(Qn v4))],(Qs p0.kind p0.shape p0.buffer p0.starts p0.axis p0.amount p0.perm p0.kids)⟩) (fun d=>Qd 1 (bi hm fun v5 hs hm=>Xs (j:=15) (fun d=>⟨sl d 197 [(1,(Yx p1)),(2,(.ptr 0 0)),(27,(Qn v5))],(Qs p0.kind p0.shape p0.buffer p0.starts p0.axis p0.amount p0.perm p0.kids)⟩) (fun d=>Qd 1 (gsb 28 hm (fun hm=>re 5 ⟨kr,zf⟩) (fun hm=>Qd 2 (bi hm fun v6 hx hm=>cp (Qah hx) (re 2 ⟨kr,zf⟩))))) (fun hJ=>gsb 21 hs (fun hm=>Qd 6 zf) (fun hm=>Qd 2 (Qaz Qb.toD p0.kids (es:=Qb.toDs p0.kids) (Qb.toDs_eq _) (Qd 3 zf)))))) (fun hJ=>gs 16 hs (fun hm=>Qd 4 zf) (fun hm=>Qd 4 zf))))) (fun d=>rib hm (fun hm=>ge 1 (Ql zf)) (fun hm=>Qo (Qi (Qi (bi hm fun v7 hs hm=>Jx (fun d=>⟨sl d 197 [(1,(Yx p1)),(2,(.ptr 0 0)),(93,(Qn v7))],(Qs p0.kind p0.shape p0.buffer p0.starts p0.axis p0.amount p0.perm p0.kids)⟩) (have hm:=hs;QbO (Qd 4 (bi hm fun v8 hs hm=>Xs (j:=8) (fun d=>⟨sl d 197 [(1,(Yx p1)),(2,(.ptr 0 0)),(41,(Qn v8))],(Qs p0.kind p0.shape p0.buffer p0.starts p0.axis p0.amount p0.perm p0.kids)⟩) (fun d=>Qd 1 (bi hm fun v9 hs hm=>Xs (j:=19) (fun d=>⟨sl d 197 [(1,(Yx p1)),(2,(.ptr 0 0)),(52,(Qn v9))],(Qs p0.kind p0.shape p0.buffer p0.starts p0.axis p0.amount p0.perm p0.kids)⟩) (fun d=>Qd 1 (bi hm fun v10 hs hm=>Xs (j:=39) (fun d=>⟨sl d 197 [(1,(Yx p1)),(2,(.ptr 0 0)),(72,(Qn v10))],(Qs p0.kind p0.shape p0.buffer p0.starts p0.axis p0.amount p0.perm p0.kids)⟩) (fun d=>Qd 1 (bi hm fun v13 hs hm=>Xs (j:=49) (fun d=>⟨sl d 197 [(1,(Yx p1)),(2,(.ptr 0 0)),(82,(Qn v13))],(Qs p0.kind p0.shape p0.buffer p0.starts p0.axis p0.amount p0.perm p0.kids)⟩) (fun d=>Qd 1 (gsb 83 hm (fun hm=>re 10 ⟨kr,zf⟩) (fun hm=>Qd 4 (gsx 87 hm (fun hm=>Qd 2 (ZM Qg p0.perm (re 3 ⟨kr,zf⟩))) (fun hm=>re 6 ⟨kr,zf⟩))))) (fun hJ=>gsb 73 hs (fun hm=>Qd 9 zf) (fun hm=>Qd 4 (gsx 77 hm (fun hm=>Qd 5 zf) (fun hm=>Qd 5 zf)))))) (fun hJ=>gsb 53 hs (fun hm=>Qd 19 zf) (fun hm=>Qd 4 (bi hm fun v11 hs hm=>Xs (j:=28) (fun d=>⟨sl d 197 [(1,(Yx p1)),(2,(.ptr 0 0)),(53,(Qn false)),(61,(Qn v11))],(Qs p0.kind p0.shape p0.buffer p0.starts p0.axis p0.amount p0.perm p0.kids)⟩) (fun d=>Qd 1 (bi hm fun v12 hs hm=>Xs (j:=33) (fun d=>⟨sl d 197 [(1,(Yx p1)),(2,(.ptr 0 0)),(53,(Qn false)),(66,(Qn v12))],(Qs p0.kind p0.shape p0.buffer p0.starts p0.axis p0.amount p0.perm p0.kids)⟩) (fun d=>Qd 1 (gsb 67 hm (fun hm=>Qd 5 zf) (fun hm=>Qd 5 zf))) (fun hJ=>gsb 62 hs (fun hm=>Qd 4 zf) (fun hm=>Qd 4 zf)))) (fun hJ=>gsx 57 hs (fun hm=>Qd 4 zf) (fun hm=>Qd 4 zf))))))) (fun hJ=>gsb 42 hs (fun hm=>Qd 10 zf) (fun hm=>Qd 4 (gsx 46 hm (fun hm=>Qd 2 (ZM Qg p0.starts (Qd 3 zf))) (fun hm=>Qd 6 zf)))))) (fun hJ=>gsx 37 hs (fun hm=>Qd 4 zf) (fun hm=>Qd 4 zf))))) (fun d=>rib hm (fun hm=>ge 1 (Ql zf)) (fun hm=>Qo (Qi (ge 2 (Qm (ge 2 (riq hm (fun hm=>Qi (Qco (Qd 4 (bi hm fun v14 hs hm=>Xs (j:=10) (fun d=>⟨sl d 197 [(1,(Yx p1)),(2,(.ptr 0 0)),(107,(Qn v14))],(Qs p0.kind p0.shape p0.buffer p0.starts p0.axis p0.amount p0.perm p0.kids)⟩) (fun d=>Qd 1 (gsb 108 hm (fun hm=>Qd 3 (bi hm fun v15 hx hm=>YY 1 (fun l=>Dat.lst ((List.map Qg) l)) p1 p0.buffer v15 (es:=(List.map (fun l=>Dat.lst ((List.map Qg) l))) p1) (d:=(Lb v15)) rfl hx rfl rfl (Qd 3 (bi hm fun v16 hx hm=>cp (Qai hx) (re 2 ⟨kr,Ql zf⟩))))) (fun hm=>re 10 ⟨kr,Ql zf⟩))) (fun hJ=>gs 101 hs (fun hm=>Qd 3 (Qaz (fun l=>Dat.lst ((List.map Qg) l)) p1 (es:=(List.map (fun l=>Dat.lst ((List.map Qg) l))) p1) rfl (Qd 2 zf))) (fun hm=>Qd 6 zf)))))) (fun hm=>ge 2 (riq hm (fun hm=>Qi (ge 1 (Qm (ru2 hm (JZ _) (fun _ d hm=>zf) fun _ d hm=>Qi (Yq (Qd 2 (ZM Qg p0.starts (Qd 2 (ZM Qg p0.shape (Qd 2 (gsq 148 hm (fun hm=>Qd 2 (bi hm fun v620 hx hm=>YY 8 Qb.toD p0.kids 0 v620 (es:=Qb.toDs p0.kids) (d:=(Qb.ex v620)) (Qb.toDs_eq _) hx (Qb.toD_eq v620) rfl (Qd 2 (ZM Qg v620.shape (Qd 2 (ZM Qg p0.shape (re 3 ⟨kr,Ql zf⟩))))))) (fun hm=>re 12 ⟨kr,Ql zf⟩)))))))))))) (fun hm=>ge 2 (riq hm (fun hm=>gr 1 (bi hm fun v621 hx hm=>cp (QaO hx) (re 1 (Ql zf)))) (fun hm=>ge 2 (riq hm (fun hm=>Qi (Qco (Qd 1 (bi hm fun v622 hx hm=>cp (QaO hx) (Qd 1 (bi hm fun v623 hs hm=>Xs (j:=7) (fun d=>⟨sl d 197 [(2,(.ptr 0 0)),(172,(Qn v623))],(Qs p0.kind p0.shape p0.buffer p0.starts p0.axis p0.amount p0.perm p0.kids)⟩) (fun d=>Qd 1 (gsb 173 hm (fun hm=>Qd 4 (gsq 177 hm (fun hm=>re 12 ⟨kr,Ql zf⟩) (fun hm=>Qd 6 (ZX 1 Qg hm fun v624 hm=>re 5 ⟨kr,Ql zf⟩)))) (fun hm=>re 16 ⟨kr,Ql zf⟩))) (fun hJ=>gsb 168 hs (fun hm=>Qd 4 zf) (fun hm=>Qd 4 zf)))))))) (fun hm=>ge 2 (riq hm (fun hm=>gr 1 (bi hm fun v625 hx hm=>cp (Qa1 hx) (re 1 (Ql zf)))) (fun hm=>ge 2 (riq hm (fun hm=>gr 1 (bi hm fun v626 hx hm=>cp (Qbu hx) (re 1 (Ql zf)))) (fun hm=>Qo (ge 1 (Ql zf))))))))))))))))))))))))))))))))))))
mutual
def Zr (x:(Qb × (List (List Int)) × Int)):Option (Unit ⊕ Unit) :=
 match x with
 | (p0,p1,v202) =>
 if v202 < (p0.kids.length:Int) then
  idx p0.kids v202>>=fun v602 =>
  YR (v602,p1)>>=fun v603 =>
  if v603=false then
   some (Sum.inl ())
  else
  Zr (p0,p1,(W (v202+1)))
 else
 some (Sum.inr ())
 partial_fixpoint
def YR (x:(Qb × (List (List Int)))):Option Bool :=
 match x with
 | (p0,p1) =>
 Xb (p0,p1)>>=fun v1 =>
 if v1=false then
  some false
 else
 (
 Zr (p0,p1,0)>>=fun out =>
 match out with
 | .inl _ =>
  some false
 | .inr (_) =>
  some true
 )
 partial_fixpoint
end
def XI:(Qb × (List (List Int)) × Int)→(Unit ⊕ Unit)→Prop:=fun x r=>match x with
 | (p0,p1,v202)=>LQ f63 63 [1,1,0,1,0,0] 1 ⟨kp 25 [(1,(Yx p1)),(2,(.ptr 0 0)),(5,(Qc v202))],(Qs p0.kind p0.shape p0.buffer p0.starts p0.axis p0.amount p0.perm p0.kids)⟩ (P2 .ret (fun _ d=>⟨sl d 25 [(4,(Qn false))],(Qs p0.kind p0.shape p0.buffer p0.starts p0.axis p0.amount p0.perm p0.kids)⟩) (.exit 0) (fun _ d=>⟨sl d 25 [],(Qs p0.kind p0.shape p0.buffer p0.starts p0.axis p0.amount p0.perm p0.kids)⟩) r)
def JH:(Qb × (List (List Int)))→Bool→Prop:=fun x r=>match x,r with
 | (p0,p1),r0=>∀ H,PC prog env 63 ([(Qb.ex p0),(.lst ((List.map (fun l=>Dat.lst ((List.map Qg) l))) p1))].map .dat) H (Qn r0) H
theorem g_ref14_nodes_L1:(∀ x r,Zr x=some r→XI x r)∧(∀ x r,YR x=some r→JH x r):=by
 refine Zr.mutual_partial_correctness XI JH ?_ ?_
 ·intro Zr YR XR Qal x r hm
  unfold XI
  obtain ⟨p0,p1,v202⟩:=x
  exact lp (Qi (gr 3 (Qaz Qb.toD p0.kids (es:=Qb.toDs p0.kids) (Qb.toDs_eq _) (re 1 (ri hm (fun hm=>Qo (Qi (Qm (gr 3 (bi hm fun v602 hx hm=>YY 8 Qb.toD p0.kids v202 v602 (es:=Qb.toDs p0.kids) (d:=(Qb.ex v602)) (Qb.toDs_eq _) hx (Qb.toD_eq v602) rfl (Qd 2 (bi hm fun v603 hx hm=>Yb (Qal _ _ hx []) (re 1 (rin hm (fun hm=>ge 1 (Ql zf)) (fun hm=>Qo (R_G (re 3 (XR _ _ hm _ kr))))))))))))) (fun hm=>QO zf))))))
 ·intro Zr XR x r0 hm
  unfold JH
  obtain ⟨p0,p1⟩:=x
  intro H
  refine PC_sx (ds:=[(Qb.ex p0),(.lst ((List.map (fun l=>Dat.lst ((List.map Qg) l))) p1))]) (fn:=f63) rfl ?_
  exact ge 2 (Qi (gr 2 (bi hm fun v1 hx hm=>cp (QbL hx) (re 1 (rin hm (fun hm=>ge 1 (Ql zf)) (fun hm=>Qo (Qi (ge 1 (Qm (ru2 hm (XR _) (fun _ d hm=>zf) fun _ d hm=>ge 1 (Ql zf)))))))))))
theorem XR:∀ x r,Zr x=some r→XI x r:=g_ref14_nodes_L1.1
theorem Qal:∀ x r,YR x=some r→JH x r:=g_ref14_nodes_L1.2
def JK (x:(Qb × (List (List Int)))):Option Bool :=
 match x with
 | (p0,p1) =>
 YP p0>>=fun v1 =>
 if v1≤300 then
  YR (p0,p1)>>=fun v2 =>
  some v2
 else
 some false
theorem QbB {p0 p1 r0} (hm:JK (p0,p1)=some r0):FQ 29 [(Qb.ex p0),(.lst ((List.map (fun l=>Dat.lst ((List.map Qg) l))) p1))] (Qn r0):=by
 unfold JK at hm
 exact fp (fn:=f29) rfl (ge 2 (gr 1 (bi hm fun v1 hx hm=>Yb (Qaj _ _ hx []) (Qd 2 (gs 8 hm (fun hm=>Qd 2 (bi hm fun v2 hx hm=>Yb (Qal _ _ hx []) (re 2 (Ql zf)))) (fun hm=>re 5 (Ql zf)))))))
def YN (x:(List Int)):Option Int :=
 match x with
 | p0 =>
 YO p0>>=fun v1 =>
 if v1≠0 then
  some 0
 else
 YG p0>>=fun (v2,v3) =>
 some v2
theorem QaN {p0 r0} (hm:YN p0=some r0):FQ 24 [(Lb p0)] (Qc r0):=by
 unfold YN at hm
 exact fp (fn:=f24) rfl (ge 1 (Qi (gr 1 (bi hm fun v1 hx hm=>cp (Qah hx) (re 1 (rix hm (fun hm=>ge 1 (Ql zf)) (fun hm=>Qo (gr 1 (bi2 hm fun v2 v3 hx hm=>cp (QaB hx) (re 5 (ge 2 (Ql zf))))))))))))
def ZQ (x:((List Int) × Int × Int × Int)):Option (Unit ⊕ Unit) :=
 match x with
 | (p0,p1,v205,v206) =>
 if v206 < (p0.length:Int) then
  idx p0 v206>>=fun v605 =>
  if (W (v205 * (if v605 < 1 then 1 else v605))) > (W (100 * p1)) then
   some (Sum.inl ())
  else
  ZQ (p0,p1,(W (v205 * (if v605 < 1 then 1 else v605))),(W (v206+1)))
 else
 some (Sum.inr ())
 partial_fixpoint
theorem JC:∀ x r,ZQ x=some r→match x with|(p0,p1,v205,v206)=>LQ f64 64 [1,1,1,0,1,0,0] 0 ⟨kp 38 [(0,(La p0)),(1,(Qc p1)),(5,(Qc v205)),(6,(Qc v206))],[]⟩ (P2 .ret (fun _ d=>⟨sl d 38 [(4,(Qn false))],[]⟩) (.exit 0) (fun _ d=>⟨sl d 38 [],[]⟩) r):=by
 refine ZQ.partial_correctness _ (fun ZQ JC x r hm=>?_)
 obtain ⟨p0,p1,v205,v206⟩:=x
 exact lp (Qi (gr 2 (ZM Qg p0 (re 1 (ri hm (fun hm=>Qo (Qi (Qm (gr 3 (ZX 1 Qg hm fun v605 hm=>Qd 1 (QD rfl (fun _=>Qbd (k:=.i64) (m:=v605) (n:=1) rfl kr kr) (re 2 (ge 4 (ri hm (fun hm=>ge 1 (Ql zf)) (fun hm=>Qo (R_G (re 3 (JC _ _ hm _ kr))))))))))))) (fun hm=>QO zf))))))
def X3 (x:((List Int) × Int)):Option Bool :=
 match x with
 | (p0,p1) =>
 ((if (p0.length:Int) > 6 then
  some true
 else
 YO p0>>=fun v3 =>
 some (v3 != 0)
 )>>=fun (v2:Bool) =>
 if v2=true then
  some true
 else
 YN p0>>=fun v4 =>
 some (decide (v4 > p1))
 )>>=fun (v1:Bool) =>
 if v1=true then
  some false
 else
 (
 ZQ (p0,p1,1,0)>>=fun out =>
 match out with
 | .inl _ =>
  some false
 | .inr (_) =>
  some true
 )
theorem QbA {p0 p1 r0} (hm:X3 (p0,p1)=some r0):FQ 64 [(Lb p0),(Qg p1)] (Qn r0):=by
 unfold X3 at hm
 exact fp (fn:=f64) rfl (ge 1 (Qi (Qi (bi hm fun v1 hs hm=>Jx (fun d=>⟨sl d 38 [(0,(La p0)),(1,(Qc p1)),(20,(Qn v1))],[]⟩) (have hm:=hs;QbO (Qd 1 (ZM Qg p0 (Qd 2 (bi hm fun v2 hs hm=>Xs (j:=8) (fun d=>⟨sl d 38 [(0,(La p0)),(1,(Qc p1)),(14,(Qn v2))],[]⟩) (fun d=>Qd 1 (gsb 15 hm (fun hm=>re 5 ⟨kr,zf⟩) (fun hm=>Qd 1 (bi hm fun v4 hx hm=>cp (QaN hx) (re 3 ⟨kr,zf⟩))))) (fun hJ=>gs 10 hs (fun hm=>Qd 4 zf) (fun hm=>Qd 1 (bi hm fun v3 hx hm=>cp (Qah hx) (Qd 2 zf))))))))) (fun d=>rib hm (fun hm=>ge 1 (Ql zf)) (fun hm=>Qo (ge 1 (Qi (ge 1 (Qm (ru2 hm (JC _) (fun _ d hm=>zf) fun _ d hm=>ge 1 (Ql zf))))))))))))
mutual
def Zq (x:(Qb × Int × Int)):Option (Unit ⊕ Unit) :=
 match x with
 | (p0,p1,v202) =>
 if v202 < (p0.kids.length:Int) then
  idx p0.kids v202>>=fun v602 =>
  YQ (v602,p1)>>=fun v603 =>
  if v603=false then
   some (Sum.inl ())
  else
  Zq (p0,p1,(W (v202+1)))
 else
 some (Sum.inr ())
 partial_fixpoint
def YQ (x:(Qb × Int)):Option Bool :=
 match x with
 | (p0,p1) =>
 X3 (p0.shape,p1)>>=fun v1 =>
 if v1=false then
  some false
 else
 (
 Zq (p0,p1,0)>>=fun out =>
 match out with
 | .inl _ =>
  some false
 | .inr (_) =>
  some true
 )
 partial_fixpoint
end
def XH:(Qb × Int × Int)→(Unit ⊕ Unit)→Prop:=fun x r=>match x with
 | (p0,p1,v202)=>LQ f30 30 [1,1,0,1,0,0] 1 ⟨kp 26 [(1,(Qc p1)),(2,(.ptr 0 0)),(5,(Qc v202))],(Qs p0.kind p0.shape p0.buffer p0.starts p0.axis p0.amount p0.perm p0.kids)⟩ (P2 .ret (fun _ d=>⟨sl d 26 [(4,(Qn false))],(Qs p0.kind p0.shape p0.buffer p0.starts p0.axis p0.amount p0.perm p0.kids)⟩) (.exit 0) (fun _ d=>⟨sl d 26 [],(Qs p0.kind p0.shape p0.buffer p0.starts p0.axis p0.amount p0.perm p0.kids)⟩) r)
def JG:(Qb × Int)→Bool→Prop:=fun x r=>match x,r with
 | (p0,p1),r0=>∀ H,PC prog env 30 ([(Qb.ex p0),(Qg p1)].map .dat) H (Qn r0) H
theorem g_ref14_cells_L1:(∀ x r,Zq x=some r→XH x r)∧(∀ x r,YQ x=some r→JG x r):=by
 refine Zq.mutual_partial_correctness XH JG ?_ ?_
 ·intro Zq YQ XQ Qak x r hm
  unfold XH
  obtain ⟨p0,p1,v202⟩:=x
  exact lp (Qi (gr 3 (Qaz Qb.toD p0.kids (es:=Qb.toDs p0.kids) (Qb.toDs_eq _) (re 1 (ri hm (fun hm=>Qo (Qi (Qm (gr 3 (bi hm fun v602 hx hm=>YY 8 Qb.toD p0.kids v202 v602 (es:=Qb.toDs p0.kids) (d:=(Qb.ex v602)) (Qb.toDs_eq _) hx (Qb.toD_eq v602) rfl (Qd 2 (bi hm fun v603 hx hm=>Yb (Qak _ _ hx []) (re 1 (rin hm (fun hm=>ge 1 (Ql zf)) (fun hm=>Qo (R_G (re 3 (XQ _ _ hm _ kr))))))))))))) (fun hm=>QO zf))))))
 ·intro Zq XQ x r0 hm
  unfold JG
  obtain ⟨p0,p1⟩:=x
  intro H
  refine PC_sx (ds:=[(Qb.ex p0),(Qg p1)]) (fn:=f30) rfl ?_
  exact ge 2 (Qi (gr 3 (bi hm fun v1 hx hm=>cp (QbA hx) (re 1 (rin hm (fun hm=>ge 1 (Ql zf)) (fun hm=>Qo (Qi (ge 1 (Qm (ru2 hm (XQ _) (fun _ d hm=>zf) fun _ d hm=>ge 1 (Ql zf)))))))))))
theorem XQ:∀ x r,Zq x=some r→XH x r:=g_ref14_cells_L1.1
theorem Qak:∀ x r,YQ x=some r→JG x r:=g_ref14_cells_L1.2
def X4 (x:(Qb × (List (List Int)) × Int)):Option Bool :=
 match x with
 | (p0,p1,p2) =>
 (if (p1.length:Int)≤20 then
  JQ (p0,60)>>=fun v2 =>
  some v2
 else
 some false
 )>>=fun (v1:Bool) =>
 (if v1=true then
  JK (p0,p1)>>=fun v4 =>
  some v4
 else
 some false
 )>>=fun (v3:Bool) =>
 if v3=true then
  YQ ((⟨p0.kind,p0.shape,p0.buffer,p0.starts,p0.axis,p0.amount,p0.perm,p0.kids⟩:Qb),p2)>>=fun v5 =>
  some v5
 else
 some false
theorem QbC {p0 p1 p2 r0} (hm:X4 (p0,p1,p2)=some r0):FQ 8 [(Qb.ex p0),(.lst ((List.map (fun l=>Dat.lst ((List.map Qg) l))) p1)),(Qg p2)] (Qn r0):=by
 unfold X4 at hm
 exact fp (fn:=f8) rfl (ge 2 (Qi (QbO (Qd 1 (Qaz (fun l=>Dat.lst ((List.map Qg) l)) p1 (es:=(List.map (fun l=>Dat.lst ((List.map Qg) l))) p1) rfl (Qd 2 (bi hm fun v1 hs hm=>Xs (j:=7) (fun d=>⟨sl d 24 [(1,(Yx p1)),(2,(Qc p2)),(3,(.ptr 0 0)),(6,(Qn false)),(13,(Qn v1))],(Qs p0.kind p0.shape p0.buffer p0.starts p0.axis p0.amount p0.perm p0.kids)⟩) (fun d=>Qd 1 (bi hm fun v3 hs hm=>Xs (j:=12) (fun d=>⟨sl d 24 [(2,(Qc p2)),(3,(.ptr 0 0)),(6,(Qn false)),(18,(Qn v3))],(Qs p0.kind p0.shape p0.buffer p0.starts p0.axis p0.amount p0.perm p0.kids)⟩) (fun d=>Qd 1 (gsb 19 hm (fun hm=>Qd 2 (bi hm fun v5 hx hm=>Yb (Qak _ _ hx []) (re 2 ⟨kr,Ql zf⟩))) (fun hm=>re 5 ⟨kr,Ql zf⟩))) (fun hJ=>gsb 14 hs (fun hm=>Qd 2 (bi hm fun v4 hx hm=>cp (QbB hx) (Qd 1 zf))) (fun hm=>Qd 4 zf)))) (fun hJ=>gs 10 hs (fun hm=>Qd 1 (bi hm fun v2 hx hm=>cp (QbU hx) (Qd 1 zf))) (fun hm=>Qd 3 zf)))))))))
mutual
def Zs (x:(Qb × Int)):Option (Unit ⊕ Unit) :=
 match x with
 | (p0,v204) =>
 if v204 < (p0.kids.length:Int) then
  idx p0.kids v204>>=fun v604 =>
  YS v604>>=fun v605 =>
  if v605=false then
   some (Sum.inl ())
  else
  Zs (p0,(W (v204+1)))
 else
 some (Sum.inr ())
 partial_fixpoint
def YS (x:Qb):Option Bool :=
 match x with
 | p0 =>
 (if p0.kind=6 then
  idx p0.kids 0>>=fun v2 =>
  Yc (p0.shape,v2.shape)>>=fun v3 =>
  some (!v3)
 else
 some false
 )>>=fun (v1:Bool) =>
 if v1=true then
  some false
 else
 (
 Zs (p0,0)>>=fun out =>
 match out with
 | .inl _ =>
  some false
 | .inr (_) =>
  some true
 )
 partial_fixpoint
end
def XJ:(Qb × Int)→(Unit ⊕ Unit)→Prop:=fun x r=>match x with
 | (p0,v204)=>LQ f23 23 [1,1,0,1,0,0] 1 ⟨kp 32 [(1,(.ptr 0 0)),(3,(Qc v204))],(Qs p0.kind p0.shape p0.buffer p0.starts p0.axis p0.amount p0.perm p0.kids)⟩ (P2 .ret (fun _ d=>⟨sl d 32 [(2,(Qn false))],(Qs p0.kind p0.shape p0.buffer p0.starts p0.axis p0.amount p0.perm p0.kids)⟩) (.exit 0) (fun _ d=>⟨sl d 32 [],(Qs p0.kind p0.shape p0.buffer p0.starts p0.axis p0.amount p0.perm p0.kids)⟩) r)
def JI:Qb→Bool→Prop:=fun x r=>match x,r with
 | p0,r0=>∀ H,PC prog env 23 ([(Qb.ex p0)].map .dat) H (Qn r0) H
theorem g_ref20_Plain_L1:(∀ x r,Zs x=some r→XJ x r)∧(∀ x r,YS x=some r→JI x r):=by
 refine Zs.mutual_partial_correctness XJ JI ?_ ?_
 ·intro Zs YS XS Qam x r hm
  unfold XJ
  obtain ⟨p0,v204⟩:=x
  exact lp (Qi (gr 3 (Qaz Qb.toD p0.kids (es:=Qb.toDs p0.kids) (Qb.toDs_eq _) (re 1 (ri hm (fun hm=>Qo (Qi (Qm (gr 3 (bi hm fun v604 hx hm=>YY 8 Qb.toD p0.kids v204 v604 (es:=Qb.toDs p0.kids) (d:=(Qb.ex v604)) (Qb.toDs_eq _) hx (Qb.toD_eq v604) rfl (Qd 1 (bi hm fun v605 hx hm=>Yb (Qam _ _ hx []) (re 1 (rin hm (fun hm=>ge 1 (Ql zf)) (fun hm=>Qo (R_G (re 3 (XS _ _ hm _ kr))))))))))))) (fun hm=>QO zf))))))
 ·intro Zs XS p0 r0 hm
  unfold JI
  intro H
  refine PC_sx (ds:=[(Qb.ex p0)]) (fn:=f23) rfl ?_
  exact ge 2 (Qi (Qi (bi hm fun v1 hs hm=>Jx (fun d=>⟨sl d 32 [(1,(.ptr 0 0)),(17,(Qn v1))],(Qs p0.kind p0.shape p0.buffer p0.starts p0.axis p0.amount p0.perm p0.kids)⟩) (have hm:=hs;Yq (Qd 4 (gsq 7 hm (fun hm=>Qd 4 (bi hm fun v2 hx hm=>YY 8 Qb.toD p0.kids 0 v2 (es:=Qb.toDs p0.kids) (d:=(Qb.ex v2)) (Qb.toDs_eq _) hx (Qb.toD_eq v2) rfl (Qd 2 (bi hm fun v3 hx hm=>cp (Qai hx) (re 2 ⟨kr,zf⟩))))) (fun hm=>re 10 ⟨kr,zf⟩)))) (fun d=>rib hm (fun hm=>ge 1 (Ql zf)) (fun hm=>Qo (Qi (ge 1 (Qm (ru2 hm (XS _) (fun _ d hm=>zf) fun _ d hm=>ge 1 (Ql zf))))))))))
theorem XS:∀ x r,Zs x=some r→XJ x r:=g_ref20_Plain_L1.1
theorem Qam:∀ x r,YS x=some r→JI x r:=g_ref20_Plain_L1.2
mutual
def ZK (x:(Qb × (List Qf) × Int)):Option ((List Qf)) :=
 match x with
 | (p0,v201,v202) =>
 if v202 < (p0.kids.length:Int) then
  idx p0.kids v202>>=fun v602 =>
  Y8 v602>>=fun v603 =>
  app 128 v201 ([v603]:List Qf)>>=fun v604 =>
  ZK (p0,v604,(W (v202+1)))
 else
 some v201
 partial_fixpoint
def Y8 (x:Qb):Option Qf :=
 match x with
 | p0 =>
 ZK (p0,([]:List Qf),0)>>=fun v601 =>
 some (⟨p0.kind,p0.shape,p0.buffer,p0.starts,p0.axis,p0.amount,p0.perm,v601⟩:Qf)
 partial_fixpoint
end
def X7:(Qb × (List Qf) × Int)→((List Qf))→Prop:=fun x r=>match x with
 | (p0,v201,v202)=>LQ f10 10 [1,1,0,1,0,0] 5 ⟨kp 39 [(1,(.ptr 0 0)),(2,(.ptr 1 0)),(3,(.ptr 3 0)),(4,(Qc v202))],[(Qbk p0.kind p0.shape p0.buffer p0.starts p0.axis p0.amount p0.perm p0.kids),(.box [(Qc 0),Ea,(Qc 0),Ea,(Qc 0),(Qc 0),Ea,(.dat (.lst (Qf.toDs [])))]),(.tok 33 v201.length),(.box [(Qc p0.kind),(La p0.shape),(Qc p0.buffer),(La p0.starts),(Qc p0.axis),(Qc p0.amount),(La p0.perm),(.vec 2 (Qf.toDs v201))]),(.tok 33 (([]:List Qf).length))]⟩ (P1 (.exit 0) (fun v601 d=>⟨sl d 39 [(2,(.ptr 1 0)),(3,(.ptr 3 0))],[(Qbk p0.kind p0.shape p0.buffer p0.starts p0.axis p0.amount p0.perm p0.kids),(.box [(Qc 0),Ea,(Qc 0),Ea,(Qc 0),(Qc 0),Ea,(.dat (.lst (Qf.toDs [])))]),(.tok 33 v601.length),(.box [(Qc p0.kind),(La p0.shape),(Qc p0.buffer),(La p0.starts),(Qc p0.axis),(Qc p0.amount),(La p0.perm),(.vec 2 (Qf.toDs v601))]),(.tok 33 (([]:List Qf).length))]⟩) r)
def J2:Qb→Qf→Prop:=fun x r=>match x,r with
 | p0,r0=>∀ H,PC prog env 10 ([(Qb.ex p0)].map .dat) H (.dat (Qf.ex r0)) H
theorem g_law14_Core_L1:(∀ x r,ZK x=some r→X7 x r)∧(∀ x r,Y8 x=some r→J2 x r):=by
 refine ZK.mutual_partial_correctness X7 J2 ?_ ?_
 ·intro ZK Y8 Jc Qav x r hm
  unfold X7
  obtain ⟨p0,v201,v202⟩:=x
  exact lp (Qi (gr 3 (Qaz Qb.toD p0.kids (es:=Qb.toDs p0.kids) (Qb.toDs_eq _) (re 1 (ri hm (fun hm=>Qo (Qi (Qm (Yq (Qd 5 (bi hm fun v602 hx hm=>YY 8 Qb.toD p0.kids v202 v602 (es:=Qb.toDs p0.kids) (d:=(Qb.ex v602)) (Qb.toDs_eq _) hx (Qb.toD_eq v602) rfl (Qd 1 (bi hm fun v603 hx hm=>Yb (Qav _ _ hx []) (Qd 1 (bi hm fun v604 hx hm=>Qac 33 8 128 2 Qf.toD v201 ([v603]:List Qf) v604 (xs:=Qf.toDs v201) (es:=[(Qf.ex v603)]) (L:=Qf.toDs) Qf.toDs_eq rfl (by simp only [Qf.toDs,Qf.toD_eq]) Qf.fit hx (re 2 ⟨kr,R_G (re 3 (Jc _ _ hm _ kr))⟩))))))))))) (fun hm=>QO zf))))))
 ·intro ZK Jc p0 r0 hm
  unfold J2
  intro H
  refine PC_sx (ds:=[(Qb.ex p0)]) (fn:=f10) rfl ?_
  exact ge 2 (ge 17 (Qi (ge 1 (Qm (ru1 hm (Jc _) fun v601 d hm=>ge 2 (Ql zf))))))
theorem Jc:∀ x r,ZK x=some r→X7 x r:=g_law14_Core_L1.1
theorem Qav:∀ x r,Y8 x=some r→J2 x r:=g_law14_Core_L1.2
def Yr (x:Unit):Option (Unit) :=
 match x with
 | _ =>
 some ()
theorem Qau (hm:Yr ()=some ()):PC prog env 31 [] [] (.mapv 0) [(.map [(.int .i64 1,(.dat (.raw (.func (.func 65) #[] #[])))),(.int .i64 2,(.dat (.raw (.func (.func 67) #[] #[])))),(.int .i64 3,(.dat (.raw (.func (.func 69) #[] #[])))),(.int .i64 4,(.dat (.raw (.func (.func 71) #[] #[])))),(.int .i64 5,(.dat (.raw (.func (.func 73) #[] #[])))),(.int .i64 6,(.dat (.raw (.func (.func 75) #[] #[])))),(.int .i64 7,(.dat (.raw (.func (.func 77) #[] #[]))))])]:=by
 unfold Yr at hm
 exact PC_sxB (fn:=f31) rfl (ge 1 (gr 1 (Qd 1 (Qd 1 (Qd 1 (Qd 1 (Qd 1 (Qd 1 (Qd 1 (re 2 (Ql zf)))))))))))
def Qp (x:List Int):Option (List Int):=app 8 [] x
def cgm_slices_Clone_int_int (l:List Int):Nat:=match l with|[]=>0|_=>1
theorem QF {x r} (hm:Qp x=some r):PC prog env 154 ([.lst ((List.map Qg) x)].map .dat) [] (.ms 0 (cgm_slices_Clone_int_int r) 0 r.length r.length) [.mt 3 (cgm_slices_Clone_int_int r) (cellsOf Qg r)]:=by
 obtain ⟨hroom,hr⟩:=app_some hm
 have hr:r=x:=hr
 subst hr
 cases r with
 | nil=>exact PC_of (n:=20) (by kernel_rfl)
 | cons a l =>
  exact PC_sxB (fn:=f154) rfl (ge 1 (Qi (gr 1 (QD rfl (fun _=>QbN (p:=.dat (Lb (a::l))) (b:=false) rfl kr kr kr) (QP (Ja kr (Qo (gr 2 (Ym (v:=.ms 0 1 0 (a::l).length (a::l).length) (fun H=>H.set 0 (.mt 3 1 (cellsOf Qg (a::l)))) rfl kr (fun _ hk=>Qcp Qg (l:=[]) (es:=a::l) (bytes:=8) (e:=3) (tt:=0) (g:=0) (m:=0) hm (fun _=>rfl) kr kr kr kr rfl rfl kr rfl kr (source_lst (fun _=>rfl)) hk) (re 1 (Ql zf)))))))))))
def Yj (x:(List Int)):Option ((Nat × (List Int) × (List Int))) :=
 match x with
 | q0 =>
 makeM 8 (q0.length:Int) 0>>=fun v1 =>
 Qp q0>>=fun v2 =>
 some ((mg v1),v1,v2)
theorem Qad {q0 v5001 v5002 v5003} (hm:Yj q0=some (v5001,v5002,v5003)):PC prog env 111 [(La q0)] [] (.agg [(.ms 1 v5001 0 v5002.length v5002.length),(.ms 2 1 0 v5003.length v5003.length)]) (Qbj v5001 v5002.length v5003.length v5002 v5003):=by
 unfold Yj at hm
 exact PC_sxB (fn:=f111) rfl (ge 1 (Qi (Yq (Qd 1 (ZM Qg q0 (bi hm fun v1 hx hm=>Ym (v:=.ms 1 (mg v1) 0 v1.length v1.length) (fun H=>H++[.mt 3 (mg v1) (cellsOf Qg v1)]) rfl kr (by intro K hk; exact QbH 1 Qg (z:=0) (n:=(q0.length:Int)) (bytes:=8) (e:=3) (os:=[]) hx kr kr kr kr rfl rfl rfl kr kr kr hk) (Qd 1 (bi hm fun v2 hx hm=>go 2 3 Qg (QF hx) (re 2 ⟨kr,Ql zf⟩)))))))))
def Jm (x:Int):Option Bool :=
 match x with
 | p0 =>
 some (decide (p0 < 0))
theorem Qbv {p0 r0} (hm:Jm p0=some r0):FQ 176 [(Qg p0)] (Qn r0):=by
 unfold Jm at hm
 exact fp (fn:=f176) rfl (ge 1 (ge 3 (Ql zf)))
def Qq (x:((List Int) × Int)):Option (Int ⊕ Unit) :=
 match x with
 | (p0,v201) =>
 if v201 < (p0.length:Int) then
  idx p0 v201>>=fun v602 =>
  Jm v602>>=fun v603 =>
  if v603=true then
   some (Sum.inl v201)
  else
  Qq (p0,(W (v201+1)))
 else
 some (Sum.inr ())
 partial_fixpoint
theorem Zh:∀ x r,Qq x=some r→match x with|(p0,v201)=>LQ f131 131 [1,0,1,0,0] 0 ⟨kp 19 [(0,(La p0)),(1,(.dat (.raw (.func (.func 176) #[] #[])))),(7,(Qc (p0.length:Int))),(8,(Qc v201))],[]⟩ (P2 .ret (fun v601 d=>⟨sl d 19 [(4,(Qc v601))],[]⟩) (.exit 0) (fun _ d=>⟨sl d 19 [],[]⟩) r):=by
 refine Qq.partial_correctness _ (fun Qq Zh x r hm=>?_)
 obtain ⟨p0,v201⟩:=x
 exact lp (ge 1 (Qi (ri hm (fun hm=>Qo (Qi (Qm (ge 2 (gr 3 (ZX 1 Qg hm fun v602 hm=>Qd 1 (bi hm fun v603 hx hm=>cp (Qbv hx) (QP (rib hm (fun hm=>ge 2 (Ql zf)) (fun hm=>Qo (R_G (re 2 (Zh _ _ hm _ kr))))))))))))) (fun hm=>QO zf))))
def Q1 (x:(List Int)):Option Int :=
 match x with
 | p0 =>
 (
 Qq (p0,0)>>=fun out =>
 match out with
 | .inl v601 =>
  some v601
 | .inr (_) =>
  some (-1)
 )
theorem Xp {p0 r0} (hm:Q1 p0=some r0):FQ 131 [(Lb p0),(.raw (.func (.func 176) #[] #[]))] (Qc r0):=by
 unfold Q1 at hm
 exact fp (fn:=f131) rfl (ge 1 (Qi (gr 1 (ZM Qg p0 (re 1 (Qm (ru2 hm (Zh _) (fun v601 d hm=>zf) fun _ d hm=>ge 1 (Ql zf))))))))
def QG (x:(List Int)):Option Bool :=
 match x with
 | p0 =>
 Q1 p0>>=fun v1 =>
 some (decide (v1≥0))
theorem Xe {p0 r0} (hm:QG p0=some r0):FQ 95 [(Lb p0),(.raw (.func (.func 176) #[] #[]))] (Qn r0):=by
 unfold QG at hm
 exact fp (fn:=f95) rfl (ge 1 (gr 2 (bi hm fun v1 hx hm=>cp (Xp hx) (re 2 (Ql zf)))))
def Jn (x:Int):Option Bool :=
 match x with
 | p0 =>
 some (decide (p0 > 65536))
theorem Qbw {p0 r0} (hm:Jn p0=some r0):FQ 177 [(Qg p0)] (Qn r0):=by
 unfold Jn at hm
 exact fp (fn:=f177) rfl (ge 1 (ge 3 (Ql zf)))
def Qr (x:((List Int) × Int)):Option (Int ⊕ Unit) :=
 match x with
 | (p0,v201) =>
 if v201 < (p0.length:Int) then
  idx p0 v201>>=fun v602 =>
  Jn v602>>=fun v603 =>
  if v603=true then
   some (Sum.inl v201)
  else
  Qr (p0,(W (v201+1)))
 else
 some (Sum.inr ())
 partial_fixpoint
theorem Zi:∀ x r,Qr x=some r→match x with|(p0,v201)=>LQ f131 131 [1,0,1,0,0] 0 ⟨kp 19 [(0,(La p0)),(1,(.dat (.raw (.func (.func 177) #[] #[])))),(7,(Qc (p0.length:Int))),(8,(Qc v201))],[]⟩ (P2 .ret (fun v601 d=>⟨sl d 19 [(4,(Qc v601))],[]⟩) (.exit 0) (fun _ d=>⟨sl d 19 [],[]⟩) r):=by
 refine Qr.partial_correctness _ (fun Qr Zi x r hm=>?_)
 obtain ⟨p0,v201⟩:=x
 exact lp (ge 1 (Qi (ri hm (fun hm=>Qo (Qi (Qm (ge 2 (gr 3 (ZX 1 Qg hm fun v602 hm=>Qd 1 (bi hm fun v603 hx hm=>cp (Qbw hx) (QP (rib hm (fun hm=>ge 2 (Ql zf)) (fun hm=>Qo (R_G (re 2 (Zi _ _ hm _ kr))))))))))))) (fun hm=>QO zf))))
def Q2 (x:(List Int)):Option Int :=
 match x with
 | p0 =>
 (
 Qr (p0,0)>>=fun out =>
 match out with
 | .inl v601 =>
  some v601
 | .inr (_) =>
  some (-1)
 )
theorem Xq {p0 r0} (hm:Q2 p0=some r0):FQ 131 [(Lb p0),(.raw (.func (.func 177) #[] #[]))] (Qc r0):=by
 unfold Q2 at hm
 exact fp (fn:=f131) rfl (ge 1 (Qi (gr 1 (ZM Qg p0 (re 1 (Qm (ru2 hm (Zi _) (fun v601 d hm=>zf) fun _ d hm=>ge 1 (Ql zf))))))))
def QH (x:(List Int)):Option Bool :=
 match x with
 | p0 =>
 Q2 p0>>=fun v1 =>
 some (decide (v1≥0))
theorem Xf {p0 r0} (hm:QH p0=some r0):FQ 95 [(Lb p0),(.raw (.func (.func 177) #[] #[]))] (Qn r0):=by
 unfold QH at hm
 exact fp (fn:=f95) rfl (ge 1 (gr 2 (bi hm fun v1 hx hm=>cp (Xq hx) (re 2 (Ql zf)))))
def XO (x:(List Int)):Option Int :=
 match x with
 | p0 =>
 QG p0>>=fun v1 =>
 if v1=true then
  some 6
 else
 QH p0>>=fun v2 =>
 if v2=true then
  some 7
 else
 some 0
theorem Qa7 {p0 r0} (hm:XO p0=some r0):FQ 134 [(Lb p0)] (Qc r0):=by
 unfold XO at hm
 exact fp (fn:=f134) rfl (ge 1 (Qi (Qm (gr 1 (bi hm fun v1 hx hm=>cp (Xe hx) (re 1 (rib hm (fun hm=>ge 1 (Ql zf)) (fun hm=>gr 1 (bi hm fun v2 hx hm=>cp (Xf hx) (re 1 (rib hm (fun hm=>ge 1 (Ql zf)) (fun hm=>Qo (ge 1 (Ql zf))))))))))))))
def QJ (x:((List Int) × Int × Int)):Option (Int ⊕ Unit) :=
 match x with
 | (p0,p1,v201) =>
 if v201 < (p0.length:Int) then
  idx p0 v201>>=fun v602 =>
  if p1=v602 then
   some (Sum.inl v201)
  else
  QJ (p0,p1,(W (v201+1)))
 else
 some (Sum.inr ())
 partial_fixpoint
theorem YE:∀ x r,QJ x=some r→match x with|(p0,p1,v201)=>LQ f178 178 [1,0,1,0,0] 0 ⟨kp 19 [(0,(La p0)),(1,(Qc p1)),(7,(Qc (p0.length:Int))),(8,(Qc v201))],[]⟩ (P2 .ret (fun v601 d=>⟨sl d 19 [(4,(Qc v601))],[]⟩) (.exit 0) (fun _ d=>⟨sl d 19 [],[]⟩) r):=by
 refine QJ.partial_correctness _ (fun QJ YE x r hm=>?_)
 obtain ⟨p0,p1,v201⟩:=x
 exact lp (ge 1 (Qi (ri hm (fun hm=>Qo (Qi (Qm (ge 2 (gr 3 (ZX 1 Qg hm fun v602 hm=>re 2 (riq hm (fun hm=>ge 2 (Ql zf)) (fun hm=>Qo (R_G (re 2 (YE _ _ hm _ kr))))))))))) (fun hm=>QO zf))))
def Yt (x:((List Int) × Int)):Option Int :=
 match x with
 | (p0,p1) =>
 (
 QJ (p0,p1,0)>>=fun out =>
 match out with
 | .inl v601 =>
  some v601
 | .inr (_) =>
  some (-1)
 )
theorem Qay {p0 p1 r0} (hm:Yt (p0,p1)=some r0):FQ 178 [(Lb p0),(Qg p1)] (Qc r0):=by
 unfold Yt at hm
 exact fp (fn:=f178) rfl (ge 1 (Qi (gr 1 (ZM Qg p0 (re 1 (Qm (ru2 hm (YE _) (fun v601 d hm=>zf) fun _ d hm=>ge 1 (Ql zf))))))))
def ZT (x:((List Int) × Int)):Option Bool :=
 match x with
 | (p0,p1) =>
 Yt (p0,p1)>>=fun v1 =>
 some (decide (v1≥0))
theorem Qaa {p0 p1 r0} (hm:ZT (p0,p1)=some r0):FQ 135 [(Lb p0),(Qg p1)] (Qn r0):=by
 unfold ZT at hm
 exact fp (fn:=f135) rfl (ge 1 (gr 2 (bi hm fun v1 hx hm=>cp (Qay hx) (re 2 (Ql zf)))))
def J6 (x:(Int × Int × Int)):Option (Int × Bool) :=
 match x with
 | (p0,p1,p2) =>
 ((if p0 < 0 then
  some true
 else
 some (decide (p1 < 0))
 )>>=fun (v2:Bool) =>
 (if v2=true then
  some true
 else
 some (decide (p0 > p2))
 )>>=fun (v3:Bool) =>
 (if v3=true then
  some true
 else
 some (decide (p1 > p2))
 )>>=fun (v4:Bool) =>
 if v4=true then
  some true
 else
 if p1 > 0 then
  quoM p2 p1>>=fun v5 =>
  some (decide (p0 > v5))
 else
 some false
 )>>=fun (v1:Bool) =>
 if v1=true then
  some (0,false)
 else
 some ((W (p0 * p1)),true)
theorem QbY {p0 p1 p2 r0 r1} (hm:J6 (p0,p1,p2)=some (r0,r1)):FQ 138 [(Qg p0),(Qg p1),(Qg p2)] (.tup [(Qc r0),(Qn r1)]):=by
 unfold J6 at hm
 exact fp (fn:=f138) rfl (ge 2 (Qi (Qi (bi hm fun v1 hs hm=>Jx (fun d=>⟨sl d 38 [(0,(Qc p0)),(1,(Qc p1)),(34,(Qn v1))],[]⟩) (have hm:=hs;QbO (Qd 3 (bi hm fun v2 hs hm=>Xs (j:=6) (fun d=>⟨sl d 38 [(0,(Qc p0)),(1,(Qc p1)),(2,(Qc p2)),(13,(Qn v2))],[]⟩) (fun d=>Qd 1 (bi hm fun v3 hs hm=>Xs (j:=11) (fun d=>⟨sl d 38 [(0,(Qc p0)),(1,(Qc p1)),(2,(Qc p2)),(18,(Qn v3))],[]⟩) (fun d=>Qd 1 (bi hm fun v4 hs hm=>Xs (j:=16) (fun d=>⟨sl d 38 [(0,(Qc p0)),(1,(Qc p1)),(2,(Qc p2)),(23,(Qn v4))],[]⟩) (fun d=>Qd 1 (gsb 24 hm (fun hm=>re 10 ⟨kr,zf⟩) (fun hm=>Qd 3 (gs 27 hm (fun hm=>Qd 3 (bi hm fun v5 hx hm=>QD rfl (fun _=>Qcy (a:=p2) (b:=p1) hx rfl kr kr) (re 3 ⟨kr,zf⟩))) (fun hm=>re 7 ⟨kr,zf⟩))))) (fun hJ=>gsb 19 hs (fun hm=>Qd 4 zf) (fun hm=>Qd 4 zf)))) (fun hJ=>gsb 14 hs (fun hm=>Qd 4 zf) (fun hm=>Qd 4 zf)))) (fun hJ=>gs 10 hs (fun hm=>Qd 3 zf) (fun hm=>Qd 3 zf))))) (fun d=>rib hm (fun hm=>ge 2 (Ql zf)) (fun hm=>Qo (ge 5 (Ql zf))))))))
def XN (x:(Int × Int)):Option (Int × Bool) :=
 match x with
 | (p0,p1) =>
 J6 (p0,p1,65536)>>=fun (v1,v2) =>
 some (v1,v2)
theorem Qbc {p0 p1 r0 r1} (hm:XN (p0,p1)=some (r0,r1)):FQ 137 [(Qg p0),(Qg p1)] (.tup [(Qc r0),(Qn r1)]):=by
 unfold XN at hm
 exact fp (fn:=f137) rfl (ge 2 (gr 2 (bi2 hm fun v1 v2 hx hm=>cp (QbY hx) (re 4 (Ql zf)))))
def Qy (x:((List Int) × Int × Int)):Option (Int ⊕ Int) :=
 match x with
 | (p0,v201,v202) =>
 if v202 < (p0.length:Int) then
  idx p0 v202>>=fun v603 =>
  XN (v201,v603)>>=fun (v604,v605) =>
  if v605=false then
   some (Sum.inl v604)
  else
  Qy (p0,v604,(W (v202+1)))
 else
 some (Sum.inr v201)
 partial_fixpoint
theorem Z4:∀ x r,Qy x=some r→match x with|(p0,v201,v202)=>LQ f179 179 [1,1,0,1,0,0] 0 ⟨kp 31 [(2,(.dat (.raw (.func (.func 137) #[] #[])))),(8,(Qc v201)),(13,(La p0)),(14,(Qc (p0.length:Int))),(15,(Qc v202))],[]⟩ (P2 .ret (fun v601 d=>⟨sl d 31 [(6,(Qc v601)),(7,(Qn false))],[]⟩) (.exit 0) (fun v602 d=>⟨sl d 31 [(8,(Qc v602))],[]⟩) r):=by
 refine Qy.partial_correctness _ (fun Qy Z4 x r hm=>?_)
 obtain ⟨p0,v201,v202⟩:=x
 exact lp (ge 1 (Qi (ri hm (fun hm=>Qo (Qi (Qm (Qi (R_G (ZX 1 Qg hm fun v603 hm=>re 2 (gr 3 (bi2 hm fun v604 v605 hx hm=>cp (Qbc hx) (re 5 (ge 2 (rin hm (fun hm=>ge 3 (Ql zf)) (fun hm=>Qo (R_G (re 2 (Z4 _ _ hm _ kr))))))))))))))) (fun hm=>QO zf))))
def ZS (x:((List Int) × Int)):Option (Int × Bool) :=
 match x with
 | (p0,p1) =>
 (
 Qy (p0,p1,0)>>=fun out =>
 match out with
 | .inl v601 =>
  some (v601,false)
 | .inr (v602) =>
  some (v602,true)
 )
theorem JE {p0 p1 r0 r1} (hm:ZS (p0,p1)=some (r0,r1)):FQ 179 [(Lb p0),(Qg p1),(.raw (.func (.func 137) #[] #[]))] (.tup [(Qc r0),(Qn r1)]):=by
 unfold ZS at hm
 exact fp (fn:=f179) rfl (ge 2 (ge 3 (Qi (gr 1 (ZM Qg p0 (re 1 (Qm (ru2 hm (Z4 _) (fun v601 d hm=>zf) fun v602 d hm=>ge 3 (Ql zf)))))))))
def ZR (x:((List Int) × Int)):Option (Int × Int) :=
 match x with
 | (p0,p1) =>
 XO p0>>=fun v1 =>
 if v1≠0 then
  some (0,v1)
 else
 ZS (p0,p1)>>=fun (v2,v3) =>
 if v3=false then
  some (0,7)
 else
 some (v2,0)
theorem JD {p0 p1 r0 r1} (hm:ZR (p0,p1)=some (r0,r1)):FQ 136 [(Lb p0),(Qg p1),(.raw (.func (.func 137) #[] #[]))] (.tup [(Qc r0),(Qc r1)]):=by
 unfold ZR at hm
 exact fp (fn:=f136) rfl (ge 2 (Qi (gr 1 (bi hm fun v1 hx hm=>cp (Qa7 hx) (re 1 (ge 2 (rix hm (fun hm=>ge 3 (Ql zf)) (fun hm=>Qo (gr 3 (bi2 hm fun v2 v3 hx hm=>cp (JE hx) (re 5 (Qi (ge 2 (rin hm (fun hm=>ge 2 (Ql zf)) (fun hm=>Qo (ge 3 (Ql zf)))))))))))))))))
def YW (x:(List Int)):Option (Int × Int) :=
 match x with
 | p0 =>
 XO p0>>=fun v1 =>
 (if v1=0 then
  ZT (p0,0)>>=fun v3 =>
  some v3
 else
 some false
 )>>=fun (v2:Bool) =>
 if v2=true then
  some (0,0)
 else
 ZR (p0,1)>>=fun (v4,v5) =>
 some (v4,v5)
theorem QaK {p0 r0 r1} (hm:YW p0=some (r0,r1)):FQ 99 [(Lb p0)] (.tup [(Qc r0),(Qc r1)]):=by
 unfold YW at hm
 exact fp (fn:=f99) rfl (ge 2 (Qi (gr 1 (bi hm fun v1 hx hm=>cp (Qa7 hx) (re 1 (Qi (bi hm fun v2 hs hm=>Jx (fun d=>⟨sl d 17 [(0,(La p0)),(12,(Qn v2))],[]⟩) (have hm:=hs;R_G (Qd 3 (gsq 9 hm (fun hm=>Qd 1 (bi hm fun v3 hx hm=>cp (Qaa hx) (re 1 zf))) (fun hm=>re 3 zf)))) (fun d=>rib hm (fun hm=>ge 2 (Ql zf)) (fun hm=>Qo (gr 1 (bi2 hm fun v4 v5 hx hm=>cp (JD hx) (re 4 (Ql zf)))))))))))))
def Xk (x:(List Int)):Option Int :=
 match x with
 | p0 =>
 YW p0>>=fun (v1,v2) =>
 (if v2≠6 then
  some (decide ((p0.length:Int) > 16))
 else
 some false
 )>>=fun (v3:Bool) =>
 if v3=true then
  some 7
 else
 some v2
theorem QaP {p0 r0} (hm:Xk p0=some r0):FQ 52 [(Lb p0)] (Qc r0):=by
 unfold Xk at hm
 exact fp (fn:=f52) rfl (ge 1 (gr 1 (bi2 hm fun v1 v2 hx hm=>cp (QaK hx) (re 5 (Qi (Qi (bi hm fun v3 hs hm=>Jx (fun d=>⟨sl d 18 [(4,(Qc v2)),(16,(Qn v3))],[]⟩) (have hm:=hs;R_G (Qd 3 (gsx 12 hm (fun hm=>Qd 1 (ZM Qg p0 (re 2 zf))) (fun hm=>re 4 zf)))) (fun d=>rib hm (fun hm=>ge 1 (Ql zf)) (fun hm=>Qo (ge 2 (Ql zf)))))))))))
def X5 (x:(List Int)):Option Int :=
 match x with
 | p0 =>
 Xk p0>>=fun v1 =>
 if v1≠0 then
  some 0
 else
 YW p0>>=fun (v2,v3) =>
 some v2
theorem QbD {p0 r0} (hm:X5 p0=some r0):FQ 102 [(Lb p0)] (Qc r0):=by
 unfold X5 at hm
 exact fp (fn:=f102) rfl (ge 1 (Qi (gr 1 (bi hm fun v1 hx hm=>cp (QaP hx) (re 1 (rix hm (fun hm=>ge 1 (Ql zf)) (fun hm=>Qo (gr 1 (bi2 hm fun v2 v3 hx hm=>cp (QaK hx) (re 5 (ge 2 (Ql zf))))))))))))
def ZI (x:((List Int) × (List Int) × (List Int) × Int × Int)):Option ((List Int)) :=
 match x with
 | (p0,v2,v204,v205,v206) =>
 if v206 < (p0.length:Int) then
  ZE (v204.length=v2.length)>>=fun _ =>
  idx v204 (W ((W ((p0.length:Int) - 1)) - v206))>>=fun v605 =>
  setM v204 (W ((W ((p0.length:Int) - 1)) - v206)) v205>>=fun v607 =>
  idx p0 (W ((W ((p0.length:Int) - 1)) - v206))>>=fun v608 =>
  ZI (p0,v2,v607,(W (v205 * v608)),(W (v206+1)))
 else
 some v204
 partial_fixpoint
theorem Jj:∀ x r,ZI x=some r→match x with|(p0,v2,v204,v205,v206)=>LQ f155 155 [1,1,1,1,1,0,1,0,0] 1 ⟨kp 39 [(0,(La p0)),(3,(.arr 0 0 v2.length v2.length)),(4,(Qc v205)),(18,(Qc (p0.length:Int))),(19,(Qc v206))],[(.box (cellsOf Qg v204))]⟩ (P1 (.exit 0) (fun v604 d=>⟨sl d 39 [(3,(.arr 0 0 v2.length v2.length))],[(.box (cellsOf Qg v604))]⟩) r):=by
 refine ZI.partial_correctness _ (fun ZI Jj x r hm=>?_)
 obtain ⟨p0,v2,v204,v205,v206⟩:=x
 exact lp (ge 1 (Qi (ri hm (fun hm=>Qo (Qi (Qm (ge 2 (gr 1 (ZM Qg p0 (re 4 (gr 3 (gi hm fun hl606 hm=>bi hm fun v605 hx hm=>QD rfl (fun _=>Qcj (e:=3) (l:=v204) (n:=(W ((W ((p0.length:Int) - 1)) - v206))) (i:=0) (cap:=v2.length) (m:=v2.length) hx hl606 kr kr rfl kr kr) (bi hm fun v607 hx hm=>Ym (fun H=>H.set 0 (.box (cellsOf Qg v607))) rfl kr (fun _=>Qcm Qg (l:=v204) (n:=(W ((W ((p0.length:Int) - 1)) - v206))) (y:=v205) hx (fun _=>rfl) kr rfl kr kr kr kr) (QP (R_G (Qd 3 (ZX 1 Qg hm fun v608 hm=>re 3 (R_G (re 2 (Jj _ _ hm _ (prune_of2 [(.box (cellsOf Qg v607))] (fun _=>(pg_cons (purge_box Qg _ _ _) pg_nil)) rfl)))))))))))))))))) (fun hm=>QO zf))))
def Yo (x:(List Int)):Option (List Int) :=
 match x with
 | p0 =>
 Xk p0>>=fun v1 =>
 if v1≠0 then
  some ([]:(List Int))
 else
 makeM 8 (p0.length:Int) 0>>=fun v2 =>
 X5 p0>>=fun v3 =>
 if v3=0 then
  some v2
 else
 ZI (p0,v2,v2,1,0)>>=fun v604 =>
 ZE (v604.length=v2.length)>>=fun _ =>
 some v604
theorem Qbh {p0 r0} (hm:Yo p0=some r0):FQ 155 [(Lb p0)] (La r0):=by
 unfold Yo at hm
 exact fp (fn:=f155) rfl (ge 1 (Qi (gr 1 (bi hm fun v1 hx hm=>cp (QaP hx) (re 1 (rix hm (fun hm=>ge 1 (Ql zf)) (fun hm=>Qo (gr 1 (ZM Qg p0 (bi hm fun v2 hx hm=>Ym (v:=.arr 0 0 v2.length v2.length) (fun H=>H++[.box (cellsOf Qg v2)]) rfl kr (by intro K hk; exact Qcb 0 Qg (z:=0) (n:=(p0.length:Int)) (bytes:=8) hx (e:=3) kr kr kr kr rfl rfl kr kr hk) (re 1 (Qi (gr 1 (bi hm fun v3 hx hm=>cp (QbD hx) (re 1 (riq hm (fun hm=>ge 2 (Ql (by obtain rfl:=QaF hm; exact ⟨trivial,XK [(.arr 0 0 v2.length v2.length)] kr (po_arr (pc_arr Qg v2 rfl (fun _=>rfl) kr))⟩))) (fun hm=>Qo (ge 1 (Qi (gr 1 (ZM Qg p0 (re 1 (Qm (ru1 hm (Jj _) (fun v604 d hm=>ge 2 (Ql (gi hm fun hl609 hm=>(by obtain rfl:=QaF hm; exact ⟨trivial,XK [(.arr 0 0 v2.length v2.length)] kr (po_arr (pc_arr Qg v604 hl609 (fun _=>rfl) kr))⟩)))) (hst:=(prune_of2 [(.box (cellsOf Qg v2))] (fun _=>(pg_cons (purge_box Qg _ _ _) pg_nil)) rfl))))))))))))))))))))))))))
def Jb (x:(Int × (List Int))):Option Qk :=
 match x with
 | (p0,p1) =>
 Yo p1>>=fun v1 =>
 some (⟨2,p0,0,v1,0,0,0⟩:Qk)
theorem Qbe {p0 p1 r0} (hm:Jb (p0,p1)=some r0):FQ 112 [(Qg p0),(Lb p1)] (.dat (Qk.toD r0)):=by
 unfold Jb at hm
 exact fp (fn:=f112) rfl (ge 1 (gr 2 (bi hm fun v1 hx hm=>cp (Qbh hx) (re 2 (Ql zf)))))
def Zt (x:((List Int) × (List Int) × Int)):Option (Unit ⊕ Unit) :=
 match x with
 | (p0,p1,v201) =>
 if v201 < (p0.length:Int) then
  idx p0 v201>>=fun v601 =>
  idx p1 v201>>=fun v602 =>
  if v601≥v602 then
   some (Sum.inl ())
  else
  Zt (p0,p1,(W (v201+1)))
 else
 some (Sum.inr ())
 partial_fixpoint
theorem XT:∀ x r,Zt x=some r→match x with|(p0,p1,v201)=>LQ f94 94 [1,1,0,1,0,0] 0 ⟨kp 41 [(0,(La p0)),(1,(La p1)),(5,(Qc 1)),(9,(Qc (p0.length:Int))),(10,(Qc v201))],[]⟩ (P2 .ret (fun _ d=>⟨sl d 41 [(4,(Qc 0))],[]⟩) (.exit 0) (fun _ d=>⟨sl d 41 [(0,(La p0)),(1,(La p1)),(5,(Qc 1))],[]⟩) r):=by
 refine Zt.partial_correctness _ (fun Zt XT x r hm=>?_)
 obtain ⟨p0,p1,v201⟩:=x
 exact lp (ge 1 (Qi (ri hm (fun hm=>Qo (Qi (Qm (ge 2 (Qi (Yq (Qd 2 (ZX 1 Qg hm fun v601 hm=>Qd 3 (ZX 1 Qg hm fun v602 hm=>re 2 ⟨kr,ri hm (fun hm=>ge 1 (Ql zf)) (fun hm=>Qo (R_G (re 2 (XT _ _ hm _ kr))))⟩))))))))) (fun hm=>QO zf))))
def Zu (x:((List Int) × (List Int) × Int × Int)):Option (Int) :=
 match x with
 | (p0,p1,v803,v804) =>
 if v804 < (p0.length:Int) then
  idx p1 v804>>=fun v1204 =>
  idx p0 v804>>=fun v1205 =>
  Zu (p0,p1,(W (v803 * (W (v1204 - v1205)))),(W (v804+1)))
 else
 some v803
 partial_fixpoint
theorem XU:∀ x r,Zu x=some r→match x with|(p0,p1,v803,v804)=>LQ f94 94 [1,1,1,0,1,0,0] 0 ⟨kp 41 [(0,(La p0)),(1,(La p1)),(5,(Qc v803)),(24,(Qc (p0.length:Int))),(25,(Qc v804))],[]⟩ (P1 (.exit 2) (fun v1203 d=>⟨sl d 41 [(5,(Qc v1203))],[]⟩) r):=by
 refine Zu.partial_correctness _ (fun Zu XU x r hm=>?_)
 obtain ⟨p0,p1,v803,v804⟩:=x
 exact lp (ge 1 (Qi (ri hm (fun hm=>Qo (Qi (Qm (ge 2 (Yq (Qd 3 (ZX 1 Qg hm fun v1204 hm=>Qd 3 (ZX 1 Qg hm fun v1205 hm=>re 4 ⟨kr,R_G (re 2 (XU _ _ hm _ kr))⟩)))))))) (fun hm=>QO zf))))
def Yw (x:((List Int) × (List Int))):Option Int :=
 match x with
 | (p0,p1) =>
 (
 Zt (p0,p1,0)>>=fun out =>
 match out with
 | .inl _ =>
  some 0
 | .inr (_) =>
  Zu (p0,p1,1,0)>>=fun v1203 =>
  some v1203
 )
theorem Qaq {p0 p1 r0} (hm:Yw (p0,p1)=some r0):FQ 94 [(Lb p0),(Lb p1)] (Qc r0):=by
 unfold Yw at hm
 exact fp (fn:=f94) rfl (ge 1 (ge 1 (Qi (gr 1 (ZM Qg p0 (re 1 (Qm (ru2 hm (XT _) (fun _ d hm=>zf) fun _ d hm=>Qi (gr 1 (ZM Qg p0 (re 1 (Qm (ru1 hm (XU _) fun v1203 d hm=>ge 2 (Ql zf))))))))))))))
def Jy (x:Qj):Option Int :=
 match x with
 | p0 =>
 Yw (p0.lo,p0.hi)>>=fun v1 =>
 some v1
theorem Qbq {p0 r0} (hm:Jy p0=some r0):FQ 49 [(Qj.toD p0)] (Qc r0):=by
 unfold Jy at hm
 exact fp (fn:=f49) rfl (ge 2 (gr 4 (bi hm fun v1 hx hm=>cp (Qaq hx) (re 1 (Ql zf)))))
def XM (x:Qa):Option Bool :=
 match x with
 | p0 =>
 Jy (⟨p0.box.lo,p0.box.hi⟩:Qj)>>=fun v1 =>
 some (decide (v1 > 0))
theorem Qbb {p0 r0} (hm:XM p0=some r0):FQ 152 [(Qa.toD p0)] (Qn r0):=by
 unfold XM at hm
 exact fp (fn:=f152) rfl (ge 2 (gr 2 (bi hm fun v1 hx hm=>cp (Qbq hx) (re 2 (Ql zf)))))
def Qu (x:((List Qa) × Nat × (List Qa) × Int)):Option ((Nat × (List Qa))) :=
 match x with
 | (q0,v201,v202,v203) =>
 if v203 < (q0.length:Int) then
  idx q0 v203>>=fun v603 =>
  XM v603>>=fun v604 =>
  if v604=true then
   app 120 v202 ([v603]:List Qa)>>=fun v605 =>
   Qu (q0,(v201+1),v605,(W (v203+1)))
  else
  Qu (q0,v201,v202,(W (v203+1)))
 else
 some (v201,v202)
 partial_fixpoint
theorem Zn:∀ x r,Qu x=some r→match x with|(q0,v201,v202,v203)=>LQ f151 151 [1,1,0,1,0,0] 1 ⟨kp 23 [(1,(.dat (.raw (.func (.func 152) #[] #[])))),(5,(.ms 0 v201 0 v202.length v202.length)),(8,(QM q0)),(9,(Qc (q0.length:Int))),(10,(Qc v203))],[(Xu v201 v202)]⟩ (P1 (.exit 0) (fun (v601,v602) d=>⟨sl d 23 [(5,(.ms 0 v601 0 v602.length v602.length))],[(Xu v601 v602)]⟩) r):=by
 refine Qu.partial_correctness _ (fun Qu Zn x r hm=>?_)
 obtain ⟨q0,v201,v202,v203⟩:=x
 exact lp (ge 1 (Qi (ri hm (fun hm=>Qo (Qi (Qm (Qi (R_G (ZX 9 Qa.toD hm fun v603 hm=>re 3 (gr 2 (bi hm fun v604 hx hm=>cp (Qbb hx) (QP (rib hm (fun hm=>R_G (Qd 3 (bi hm fun v605 hx hm=>Ym (v:=.ms 0 (v201+1) 0 v605.length v605.length) (fun H=>H.set 0 (Qa2 v201 v605)) rfl kr (fun _ hk=>QbV Qa.toD (l:=v202) (es:=([v603]:List Qa)) (bytes:=120) (e:=62) (tt:=0) (g:=v201) (m:=v202.length) (size:=9) hx Qa.fit rfl kr kr rfl kr kr rfl rfl kr rfl kr kr hk) (re 1 (R_G (re 2 (Zn _ _ hm _ (prune_of2 [(Qa2 v201 v605)] (fun _=>(pg_cons (purge_mt Qa.toD _ _ _ _ _) pg_nil)) rfl)))))))) (fun hm=>Qo (R_G (re 2 (Zn _ _ hm _ (prune_of2 [(Xu v201 v202)] (fun _=>(pg_cons (purge_mt Qa.toD _ _ _ _ _) pg_nil)) rfl))))))))))))))) (fun hm=>QO zf))))
def ZN (x:(List Qa)):Option ((Nat × (List Qa))) :=
 match x with
 | q0 =>
 Qu (q0,0,([]:List Qa),0)>>=fun (v601,v602) =>
 some (v601,v602)
theorem Jz {q0 v5001 v5002} (hm:ZN q0=some (v5001,v5002)):PC prog env 151 [(QM q0),(.dat (.raw (.func (.func 152) #[] #[])))] [] (.ms 0 v5001 0 v5002.length v5002.length) [(Xu v5001 v5002)]:=by
 unfold ZN at hm
 exact PC_sxB (fn:=f151) rfl (ge 1 (ge 1 (Qi (gr 1 (ZM Qa.toD q0 (re 1 (Qm (ru1 hm (Zn _) (fun ⟨v601,v602⟩ d hm=>ge 2 (Ql zf)) (hst:=(prune_of2 [(.mt 62 0 (cellsOf Qa.toD ([]:List Qa)))] (fun _=>(pg_cons (purge_mt Qa.toD _ _ _ _ _) pg_nil)) rfl))))))))))
def Q8 (x:(List Qa)):Option (List Qa) :=
 match x with
 | p0 =>
 ZN p0>>=fun (v1,v2) =>
 sortM v2>>=fun v3 =>
 ZE (v3.length=v2.length)>>=fun _ =>
 some v3
theorem YX {p0 r0} (hm:Q8 p0=some r0):FQ 110 [(.lst ((List.map Qa.toD) p0))] (QM r0):=by
 unfold Q8 at hm
 exact fp (fn:=f110) rfl (ge 1 (gr 1 (bi2 hm fun v1 v2 hx hm=>go 0 62 Qa.toD (ds:=[(.lst ((List.map Qa.toD) p0)),(.raw (.func (.func 152) #[] #[]))]) (Jz hx) (re 1 (gr 1 (bi hm fun v3 hx hm=>QR (Qcw (g:=1) (cap:=v2.length) hx) (QP (ge 2 (Ql (gi hm fun hl4 hm=>(by obtain rfl:=QaF hm; exact ⟨trivial,XK [(.ms 0 1 0 v2.length v2.length)] kr (po_ms (pc_mu (e:=62) Qa.toD v3 hl4 (fun _=>rfl) kr))⟩)))))))))))
def X2 (x:(Int × (List Int))):Option (List Qa) :=
 match x with
 | (p0,p1) =>
 Yj p1>>=fun (v1,v2,v3) =>
 Jb (p0,p1)>>=fun v4 =>
 Q8 ([(⟨(⟨v2,v3⟩:Qj),v4⟩:Qa)]:List Qa)>>=fun v5 =>
 some v5
theorem Qbz {p0 p1 r0} (hm:X2 (p0,p1)=some r0):FQ 66 [(Qg p0),(Lb p1)] (QM r0):=by
 unfold X2 at hm
 exact fp (fn:=f66) rfl (ge 1 (gr 1 (bi3 hm fun v1 v2 v3 hx hm=>QD (v:=.dat (.agg [(Lb v2),(Lb v3)])) rfl (fun _=>Qab (f:=111) (first:=#[]) (cap:=#[]) (e:=3) (ow':=[]) (ds:=[(Lb p1)]) (p:=(.agg [(.ms 1 v1 0 v2.length v2.length),(.ms 2 1 0 v3.length v3.length)])) (H1:=(Qbj v1 v2.length v3.length v2 v3)) rfl kr kr kr kr (Qad hx) (p1_agg (pc_cons (pc_ms (e:=3) Qg v2 rfl (fun _=>rfl) kr) (pc_cons (pc_ms (e:=3) Qg v3 rfl (fun _=>rfl) kr) pc_nil)))) (Qd 2 (bi hm fun v4 hx hm=>cp (Qbe hx) (Qd 2 (bi hm fun v5 hx hm=>cp (YX hx) (re 1 (Ql zf)))))))))
def Y1 (x:(Qf × (List (List Qa)))):Option (List Qa) :=
 match x with
 | (p0,p1) =>
 X2 (p0.buffer,p0.shape)>>=fun v1 =>
 some v1
theorem QaS {p0 p1 r0} (hm:Y1 (p0,p1)=some r0):FQ 65 [(Qf.ex p0),(.lst ((List.map (fun l=>Dat.lst ((List.map Qa.toD) l))) p1))] (QM r0):=by
 unfold Y1 at hm
 exact fp (fn:=f65) rfl (ge 2 (gr 4 (bi hm fun v1 hx hm=>cp (Qbz hx) (re 1 (Ql zf)))))
def Z7 (x:(Int × Int × Int × (List Int) × Int × Int × Int × Int × Int)):Option (((List Int) × Int)) :=
 match x with
 | (q0,q1,q2,q3,q4,q5,q6,q7,q8) =>
 Qp q3>>=fun v1 =>
 if q0=3 then
  some (v1,q4)
 else
 some (v1,q2)
theorem J1 {q0 q1 q2 q3 q4 q5 q6 q7 q8 v5001 v5002} (hm:Z7 (q0,q1,q2,q3,q4,q5,q6,q7,q8)=some (v5001,v5002)):PC prog env 192 [(XY q0 q1 q2 q3 q4 q5 q6)] [(Qw q0 q1 q2 q3 q4 q5 q6),(.box [(Qc q7)]),(.box [(Qc q8)]),QS,(Qw q0 q1 q2 q3 q4 q5 q6),QS] (.ptr 8 0) (YU q0 q1 q2 q3 q4 q5 q6 q7 q8 v5001 v5002 v5001.length):=by
 unfold Z7 at hm
 exact PC_sxB (fn:=f192) rfl (ge 2 (Qi (Yq (Qd 4 (bi hm fun v1 hx hm=>go 7 3 Qg (QF hx) (re 5 ⟨kr,Qi (ge 3 (riq hm (fun hm=>R_G (re 7 (ge 2 (Ql zf)))) (fun hm=>Qo (ge 2 (Ql zf)))))⟩))))))
def Zx (x:(Int × Int × Int × Int × Int × (List Int) × Int × Int × Int × (List Int) × Int)):Option (Int) :=
 match x with
 | (q0,q1,q2,q3,q4,q5,q6,q7,q8,q9,q10) =>
 idx q9 q0>>=fun v1 =>
 idx q9 q0>>=fun v2 =>
 some (W (q10+(W (q1 * v2))))
theorem J4 {q0 q1 q2 q3 q4 q5 q6 q7 q8 q9 q10 v5001} (hm:Zx (q0,q1,q2,q3,q4,q5,q6,q7,q8,q9,q10)=some v5001):PC prog env 158 [(.ptr 8 0),(Qc q0),(Qc q1)] (YU q2 q3 q4 q5 q6 q7 q8 q0 q1 q9 q10 q9.length) (.tup []) (YU q2 q3 q4 q5 q6 q7 q8 q0 q1 q9 v5001 q9.length):=by
 unfold Zx at hm
 exact PC_sxB (fn:=f158) rfl (Yq (Qd 10 (bi hm fun v1 hx hm=>QD rfl (fun _=>Zo (e:=3) (n:=q0) (j:=(q0).toNat) (tt:=7) (g:=1) (lo:=0) (len:=q9.length) (cap:=q9.length) (k:=.i64) kr kr rfl kr kr (idx_nat hx) (Nat.lt_of_lt_of_eq (idx_lt hx) rfl)) (bi hm fun v2 hx hm=>QD rfl (fun _=>Xr (tt:=7) (g:=1) (j:=(0+(q0).toNat)) (e:=3) (cs:=cellsOf Qg q9) (v:=.dat (Qg v2)) kr kr rfl kr (Yd kr) (cells_idx Qg hx)) (re 5 ⟨kr,zf⟩)))))
def Z5 (x:(Int × Int × Int × (List Int) × Int × Int × Int × Int × Int × (List Int) × Int)):Option (Int) :=
 match x with
 | (q0,q1,q2,q3,q4,q5,q6,q7,q8,q9,q10) =>
 Zx (q7,q8,q0,q1,q2,q3,q4,q5,q6,q9,q10)>>=fun v1 =>
 some v1
theorem Qat {q0 q1 q2 q3 q4 q5 q6 q7 q8 q9 q10 v5001} (hm:Z5 (q0,q1,q2,q3,q4,q5,q6,q7,q8,q9,q10)=some v5001):PC prog env 157 [(.ptr 8 0),(.ptr 1 0),(.ptr 2 0)] (YU q0 q1 q2 q3 q4 q5 q6 q7 q8 q9 q10 q9.length) (.tup []) (YU q0 q1 q2 q3 q4 q5 q6 q7 q8 q9 v5001 q9.length):=by
 unfold Z5 at hm
 exact PC_sxB (fn:=f157) rfl (Yq (Qd 5 (bi hm fun v1 hx hm=>QR (J4 hx) (QP ⟨kr,zf⟩))))
def Zl (x:(Int × Int × Int × (List Int) × Int × Int × Int × Int × Int × (List Int) × Int)):Option ((Int × Int × Int × Int × Int × Int)) :=
 match x with
 | (q0,q1,q2,q3,q4,q5,q6,q7,q8,q9,q10) =>
 if q0=3 then
  some (q2,q10,q2,q10,q2,q10)
 else
 some (q10,q4,q10,q4,q10,q4)
theorem JX {q0 q1 q2 q3 q4 q5 q6 q7 q8 q9 q10 v5001 v5002 v5003 v5004 v5005 v5006} (hm:Zl (q0,q1,q2,q3,q4,q5,q6,q7,q8,q9,q10)=some (v5001,v5002,v5003,v5004,v5005,v5006)):PC prog env 193 [(.ptr 8 0)] (YU q0 q1 q2 q3 q4 q5 q6 q7 q8 q9 q10 q9.length) (.agg [(Qc q0),(Qc q1),(Qc v5005),(.ms 7 1 0 q9.length q9.length),(Qc v5006),(Qc q5),(Qc q6)]) [(Qw q0 q1 q2 q3 q4 q5 q6),(.box [(Qc q7)]),(.box [(Qc q8)]),QS,(Qw q0 q1 q2 q3 q4 q5 q6),QS,(Qw q0 q1 q2 q3 q4 q5 q6),(QL q9),(X1 q10 q9.length q0 q1 q2 q3 q4 q5 q6),(XX q0 q1 v5001 q9.length v5002 q5 q6),(XX q0 q1 v5003 q9.length v5004 q5 q6)]:=by
 unfold Zl at hm
 exact PC_sxB (fn:=f193) rfl (ge 1 (ge 6 (ge 7 (Qi (ge 3 (riq hm (fun hm=>R_G (re 7 (ge 2 (Ql zf)))) (fun hm=>R_G (re 7 (ge 2 (Ql zf))))))))))
def Yg (x:(Int × Int × Int × (List Int) × Int × Int × Int × Int × Int)):Option (Unit ⊕ ((List Int) × Int × Int × Int × Int × Int × Int × Int × Int × Int)) :=
 match x with
 | (q0,q1,q2,q3,q4,q5,q6,q7,q8) =>
 if q0=1 then
  some (Sum.inl ())
 else
 Z7 (q0,q1,q2,q3,q4,q5,q6,q7,q8)>>=fun (v1,v2) =>
 Z5 (q0,q1,q2,q3,q4,q5,q6,q7,q8,v1,v2)>>=fun v3 =>
 Zl (q0,q1,q2,q3,q4,q5,q6,q7,q8,v1,v3)>>=fun (v4,v5,v6,v7,v8,v9) =>
 some (Sum.inr (v1,v8,v9,v3,v4,v5,v6,v7,v8,v9))
theorem JT {q0 q1 q2 q3 q4 q5 q6 q7 q8 r} (hm:Yg (q0,q1,q2,q3,q4,q5,q6,q7,q8)=some r):PC prog env 156 [(XY q0 q1 q2 q3 q4 q5 q6),(.fn 157 [(.ptr 1 0),(.ptr 2 0)])] [(Qw q0 q1 q2 q3 q4 q5 q6),(.box [(Qc q7)]),(.box [(Qc q8)]),QS] (match r with|.inl _=>(XY q0 q1 q2 q3 q4 q5 q6)|.inr ((v5001,v5002,v5003,v5004,v5005,v5006,v5007,v5008,v5009,v5010))=>(.agg [(Qc q0),(Qc q1),(Qc v5009),(.ms 7 1 0 v5001.length v5001.length),(Qc v5010),(Qc q5),(Qc q6)])) (match r with|.inl _=>(QbR q0 q1 q2 q3 q4 q5 q6 q7 q8)|.inr ((v5001,v5002,v5003,v5004,v5005,v5006,v5007,v5008,v5009,v5010))=>[(Qw q0 q1 q2 q3 q4 q5 q6),(.box [(Qc q7)]),(.box [(Qc q8)]),QS,(Qw q0 q1 q2 q3 q4 q5 q6),(XX q0 q1 v5002 v5001.length v5003 q5 q6),(Qw q0 q1 q2 q3 q4 q5 q6),(QL v5001),(X1 v5004 v5001.length q0 q1 q2 q3 q4 q5 q6),(XX q0 q1 v5005 v5001.length v5006 q5 q6),(XX q0 q1 v5007 v5001.length v5008 q5 q6)]):=by
 unfold Yg at hm
 exact PC_sxB (fn:=f156) rfl (ge 2 (Qi (ge 3 (riq hm (fun hm=>ge 2 (Ql zf)) (fun hm=>Qo (gr 1 (bi2 hm fun v1 v2 hx hm=>QR (J1 hx) (re 1 (gr 2 (bi hm fun v3 hx hm=>QR (Qat hx) (QP (gr 1 (bi6 hm fun v4 v5 v6 v7 v8 v9 hx hm=>QR (JX hx) (re 1 (Ql zf)))))))))))))))
def Ye (x:(Qk × Int × Int)):Option Qk :=
 match x with
 | (p0,p1,p2) =>
 (
 Yg (p0.kind,p0.buffer,p0.base,p0.strides,p0.start,p0.step,p0.mod,p1,p2)>>=fun out =>
 match out with
 | .inl _ =>
  some p0
 | .inr ((v1,v2,v3,v4,v5,v6,v7,v8,v9,v10)) =>
  some (⟨p0.kind,p0.buffer,v9,v1,v10,p0.step,p0.mod⟩:Qk)
 )
theorem QaJ {p0 p1 p2 r0} (hm:Ye (p0,p1,p2)=some r0):FQ 113 [(Qk.toD p0),(Qg p1),(Qg p2)] (.dat (Qk.toD r0)):=by
 unfold Ye at hm
 exact fp (fn:=f113) rfl (ge 4 (gr 2 (bs hm (fun _ hx hm=>QR (JT hx) (re 1 (Ql zf))) fun ⟨v1,v2,v3,v4,v5,v6,v7,v8,v9,v10⟩ hx hm=>QR (JT hx) (re 1 (Ql (by obtain rfl:=QaF hm; exact ⟨trivial,XK [(.agg [(Qc p0.kind),(Qc p0.buffer),(Qc v9),(.ms 7 1 0 v1.length v1.length),(Qc v10),(Qc p0.step),(Qc p0.mod)])] kr (po_agg (pc_cons kr (pc_cons kr (pc_cons kr (pc_cons (pc_ms (e:=3) Qg v1 rfl (fun _=>rfl) kr) (pc_cons kr (pc_cons kr (pc_cons kr pc_nil))))))))⟩))))))
def ZH (x:((List Int) × (List Int) × (List Int) × (List Int) × (List Int) × (List Int) × Int)):Option (((List Int) × (List Int))) :=
 match x with
 | (p3,p0,p2,p1,v201,v202,v203) =>
 if v203 < (p3.length:Int) then
  idx p3 v203>>=fun v603 =>
  idx p0 v203>>=fun v604 =>
  idx p2 v203>>=fun v605 =>
  app 8 v201 ([(if v605 < (if (W (v604 - v603)) < 0 then 0 else (W (v604 - v603))) then v605 else (if (W (v604 - v603)) < 0 then 0 else (W (v604 - v603))))]:List Int)>>=fun v606 =>
  idx p1 v203>>=fun v607 =>
  idx p2 v203>>=fun v608 =>
  app 8 v202 ([(if (if v605 < (if (W (v604 - v603)) < 0 then 0 else (W (v604 - v603))) then v605 else (if (W (v604 - v603)) < 0 then 0 else (W (v604 - v603)))) < (if v608 < (W (v607 - v603)) then v608 else (W (v607 - v603))) then (if v608 < (W (v607 - v603)) then v608 else (W (v607 - v603))) else (if v605 < (if (W (v604 - v603)) < 0 then 0 else (W (v604 - v603))) then v605 else (if (W (v604 - v603)) < 0 then 0 else (W (v604 - v603)))))]:List Int)>>=fun v609 =>
  ZH (p3,p0,p2,p1,v606,v609,(W (v203+1)))
 else
 some (v201,v202)
 partial_fixpoint
theorem Jg:∀ x r,ZH x=some r→match x with|(p3,p0,p2,p1,v201,v202,v203)=>LQ f114 114 [1,1,0,1,0,0] 4 ⟨kp 58 [(0,(La p0)),(1,(La p1)),(2,(La p2)),(8,(.ptr 0 0)),(9,(.ptr 1 0)),(13,(La p3)),(14,(Qc (p3.length:Int))),(15,(Qc v203))],[(.box [Ea,Ea]),(.box [(.vec 2 ((List.map Qg) v201)),(.vec 3 ((List.map Qg) v202))]),(.tok 3 v201.length),(.tok 3 v202.length)]⟩ (P1 (.exit 0) (fun (v601,v602) d=>⟨sl d 58 [(8,(.ptr 0 0)),(9,(.ptr 1 0))],[(.box [Ea,Ea]),(.box [(.vec 2 ((List.map Qg) v601)),(.vec 3 ((List.map Qg) v602))]),(.tok 3 v601.length),(.tok 3 v602.length)]⟩) r):=by
 refine ZH.partial_correctness _ (fun ZH Jg x r hm=>?_)
 obtain ⟨p3,p0,p2,p1,v201,v202,v203⟩:=x
 exact lp (ge 1 (Qi (ri hm (fun hm=>Qo (Qi (Qm (gr 1 (ZX 1 Qg hm fun v603 hm=>re 3 (Qi (Yq (Qd 2 (ZX 1 Qg hm fun v604 hm=>Qd 3 (QD rfl (fun _=>Qbd (k:=.i64) (m:=(W (v604 - v603))) (n:=0) rfl kr kr) (Qd 2 (ZX 1 Qg hm fun v605 hm=>Qd 1 (QD rfl (fun _=>QbF (k:=.i64) (m:=(if (W (v604 - v603)) < 0 then 0 else (W (v604 - v603)))) (n:=v605) rfl kr kr) (re 1 ⟨kr,gr 4 (bi hm fun v606 hx hm=>Qac 3 1 8 2 Qg v201 ([(if v605 < (if (W (v604 - v603)) < 0 then 0 else (W (v604 - v603))) then v605 else (if (W (v604 - v603)) < 0 then 0 else (W (v604 - v603))))]:List Int) v606 (xs:=(List.map Qg) v201) (es:=(List.map Qg) ([(if v605 < (if (W (v604 - v603)) < 0 then 0 else (W (v604 - v603))) then v605 else (if (W (v604 - v603)) < 0 then 0 else (W (v604 - v603))))]:List Int)) (L:=(List.map Qg)) (fun _=>rfl) rfl rfl (fun _=>rfl) hx (re 2 (Yq (Qd 5 (ZX 1 Qg hm fun v607 hm=>Qd 5 (ZX 1 Qg hm fun v608 hm=>Qd 1 (QD rfl (fun _=>QbF (k:=.i64) (m:=(W (v607 - v603))) (n:=v608) rfl kr kr) (QD rfl (fun _=>Qbd (k:=.i64) (m:=(if v605 < (if (W (v604 - v603)) < 0 then 0 else (W (v604 - v603))) then v605 else (if (W (v604 - v603)) < 0 then 0 else (W (v604 - v603))))) (n:=(if v608 < (W (v607 - v603)) then v608 else (W (v607 - v603)))) rfl kr kr) (Qd 1 (bi hm fun v609 hx hm=>Qac 3 1 8 3 Qg v202 ([(if (if v605 < (if (W (v604 - v603)) < 0 then 0 else (W (v604 - v603))) then v605 else (if (W (v604 - v603)) < 0 then 0 else (W (v604 - v603)))) < (if v608 < (W (v607 - v603)) then v608 else (W (v607 - v603))) then (if v608 < (W (v607 - v603)) then v608 else (W (v607 - v603))) else (if v605 < (if (W (v604 - v603)) < 0 then 0 else (W (v604 - v603))) then v605 else (if (W (v604 - v603)) < 0 then 0 else (W (v604 - v603)))))]:List Int) v609 (xs:=(List.map Qg) v202) (es:=(List.map Qg) ([(if (if v605 < (if (W (v604 - v603)) < 0 then 0 else (W (v604 - v603))) then v605 else (if (W (v604 - v603)) < 0 then 0 else (W (v604 - v603)))) < (if v608 < (W (v607 - v603)) then v608 else (W (v607 - v603))) then (if v608 < (W (v607 - v603)) then v608 else (W (v607 - v603))) else (if v605 < (if (W (v604 - v603)) < 0 then 0 else (W (v604 - v603))) then v605 else (if (W (v604 - v603)) < 0 then 0 else (W (v604 - v603)))))]:List Int)) (L:=(List.map Qg)) (fun _=>rfl) rfl rfl (fun _=>rfl) hx (re 2 ⟨kr,R_G (re 2 (Jg _ _ hm _ kr))⟩)))))))))))⟩)))))))))))))) (fun hm=>QO zf))))
def YF (x:((List Int) × (List Int) × (List Int) × (List Int))):Option Qj :=
 match x with
 | (p0,p1,p2,p3) =>
 ZH (p3,p0,p2,p1,([]:List Int),([]:List Int),0)>>=fun (v601,v602) =>
 some (⟨v601,v602⟩:Qj)
theorem QaA {p0 p1 p2 p3 r0} (hm:YF (p0,p1,p2,p3)=some r0):FQ 114 [(Lb p0),(Lb p1),(Lb p2),(Lb p3)] (.dat (Qj.toD r0)):=by
 unfold YF at hm
 exact fp (fn:=f114) rfl (ge 1 (ge 1 (Qi (gr 1 (ZM Qg p3 (re 1 (Qm (ru1 hm (Jg _) fun ⟨v601,v602⟩ d hm=>ge 2 (Ql zf)))))))))
def Xn (x:(Int × Int)):Option Int :=
 match x with
 | (p0,p1) =>
 some (if p0 < p1 then p1 else p0)
theorem Qa3 {p0 p1 r0} (hm:Xn (p0,p1)=some r0):FQ 140 [(Qg p0),(Qg p1)] (Qc r0):=by
 unfold Xn at hm
 exact fp (fn:=f140) rfl (ge 1 (gr 2 (QD rfl (fun _=>Qbd (k:=.i64) (m:=p0) (n:=p1) rfl kr kr) (re 1 (Ql zf)))))
def QB (x:((List Int) × (List Int) × (List Int) × Int)):Option ((List Int)) :=
 match x with
 | (p0,p1,v201,v202) =>
 if v202 < (p0.length:Int) then
  idx p0 v202>>=fun v602 =>
  idx p1 v202>>=fun v603 =>
  Xn (v602,v603)>>=fun v604 =>
  app 8 v201 ([v604]:List Int)>>=fun v605 =>
  QB (p0,p1,v605,(W (v202+1)))
 else
 some v201
 partial_fixpoint
theorem Z1:∀ x r,QB x=some r→match x with|(p0,p1,v201,v202)=>LQ f139 139 [1,1,0,1,0,0] 1 ⟨kp 29 [(1,(La p1)),(2,(.dat (.raw (.func (.func 140) #[] #[])))),(7,(.vec 0 ((List.map Qg) v201))),(10,(La p0)),(11,(Qc (p0.length:Int))),(12,(Qc v202))],[(.tok 3 v201.length)]⟩ (P1 (.exit 0) (fun v601 d=>⟨sl d 29 [(7,(.vec 0 ((List.map Qg) v601)))],[(.tok 3 v601.length)]⟩) r):=by
 refine QB.partial_correctness _ (fun QB Z1 x r hm=>?_)
 obtain ⟨p0,p1,v201,v202⟩:=x
 exact lp (ge 1 (Qi (ri hm (fun hm=>Qo (Qi (Qm (gr 1 (ZX 1 Qg hm fun v602 hm=>re 3 (R_G (Qd 5 (ZX 1 Qg hm fun v603 hm=>Qd 1 (bi hm fun v604 hx hm=>cp (Qa3 hx) (Qd 1 (bi hm fun v605 hx hm=>Qac 3 1 8 0 Qg v201 ([v604]:List Int) v605 (xs:=(List.map Qg) v201) (es:=(List.map Qg) ([v604]:List Int)) (L:=(List.map Qg)) (fun _=>rfl) rfl rfl (fun _=>rfl) hx (re 1 (R_G (re 2 (Z1 _ _ hm _ kr))))))))))))))) (fun hm=>QO zf))))
def Zz (x:((List Int) × (List Int))):Option (List Int) :=
 match x with
 | (p0,p1) =>
 QB (p0,p1,([]:List Int),0)>>=fun v601 =>
 some v601
theorem Jq {p0 p1 r0} (hm:Zz (p0,p1)=some r0):FQ 139 [(Lb p0),(Lb p1),(.raw (.func (.func 140) #[] #[]))] (La r0):=by
 unfold Zz at hm
 exact fp (fn:=f139) rfl (ge 1 (ge 1 (Qi (gr 1 (ZM Qg p0 (re 1 (Qm (ru1 hm (Z1 _) fun v601 d hm=>ge 2 (Ql zf)))))))))
def Xo (x:(Int × Int)):Option Int :=
 match x with
 | (p0,p1) =>
 some (if p1 < p0 then p1 else p0)
theorem Qa4 {p0 p1 r0} (hm:Xo (p0,p1)=some r0):FQ 141 [(Qg p0),(Qg p1)] (Qc r0):=by
 unfold Xo at hm
 exact fp (fn:=f141) rfl (ge 1 (gr 2 (QD rfl (fun _=>QbF (k:=.i64) (m:=p0) (n:=p1) rfl kr kr) (re 1 (Ql zf)))))
def QC (x:((List Int) × (List Int) × (List Int) × Int)):Option ((List Int)) :=
 match x with
 | (p0,p1,v201,v202) =>
 if v202 < (p0.length:Int) then
  idx p0 v202>>=fun v602 =>
  idx p1 v202>>=fun v603 =>
  Xo (v602,v603)>>=fun v604 =>
  app 8 v201 ([v604]:List Int)>>=fun v605 =>
  QC (p0,p1,v605,(W (v202+1)))
 else
 some v201
 partial_fixpoint
theorem Z2:∀ x r,QC x=some r→match x with|(p0,p1,v201,v202)=>LQ f139 139 [1,1,0,1,0,0] 1 ⟨kp 29 [(1,(La p1)),(2,(.dat (.raw (.func (.func 141) #[] #[])))),(7,(.vec 0 ((List.map Qg) v201))),(10,(La p0)),(11,(Qc (p0.length:Int))),(12,(Qc v202))],[(.tok 3 v201.length)]⟩ (P1 (.exit 0) (fun v601 d=>⟨sl d 29 [(7,(.vec 0 ((List.map Qg) v601)))],[(.tok 3 v601.length)]⟩) r):=by
 refine QC.partial_correctness _ (fun QC Z2 x r hm=>?_)
 obtain ⟨p0,p1,v201,v202⟩:=x
 exact lp (ge 1 (Qi (ri hm (fun hm=>Qo (Qi (Qm (gr 1 (ZX 1 Qg hm fun v602 hm=>re 3 (R_G (Qd 5 (ZX 1 Qg hm fun v603 hm=>Qd 1 (bi hm fun v604 hx hm=>cp (Qa4 hx) (Qd 1 (bi hm fun v605 hx hm=>Qac 3 1 8 0 Qg v201 ([v604]:List Int) v605 (xs:=(List.map Qg) v201) (es:=(List.map Qg) ([v604]:List Int)) (L:=(List.map Qg)) (fun _=>rfl) rfl rfl (fun _=>rfl) hx (re 1 (R_G (re 2 (Z2 _ _ hm _ kr))))))))))))))) (fun hm=>QO zf))))
def ZA (x:((List Int) × (List Int))):Option (List Int) :=
 match x with
 | (p0,p1) =>
 QC (p0,p1,([]:List Int),0)>>=fun v601 =>
 some v601
theorem Jr {p0 p1 r0} (hm:ZA (p0,p1)=some r0):FQ 139 [(Lb p0),(Lb p1),(.raw (.func (.func 141) #[] #[]))] (La r0):=by
 unfold ZA at hm
 exact fp (fn:=f139) rfl (ge 1 (ge 1 (Qi (gr 1 (ZM Qg p0 (re 1 (Qm (ru1 hm (Z2 _) fun v601 d hm=>ge 2 (Ql zf)))))))))
def Xg (x:(Qj × Qj)):Option (Qj × Bool) :=
 match x with
 | (p0,p1) =>
 if (p0.lo.length:Int)≠(p1.lo.length:Int) then
  some ((⟨([]:(List Int)),([]:(List Int))⟩:Qj),false)
 else
 Zz (p0.lo,p1.lo)>>=fun v1 =>
 ZA (p0.hi,p1.hi)>>=fun v2 =>
 Yw (v1,v2)>>=fun v3 =>
 if v3=0 then
  some ((⟨([]:(List Int)),([]:(List Int))⟩:Qj),false)
 else
 some ((⟨v1,v2⟩:Qj),true)
theorem Qbf {p0 p1 r0 r1} (hm:Xg (p0,p1)=some (r0,r1)):FQ 101 [(Qj.toD p0),(Qj.toD p1)] (.tup [(.dat (Qj.toD r0)),(Qn r1)]):=by
 unfold Xg at hm
 exact fp (fn:=f101) rfl (ge 4 (Qi (gr 2 (ZM Qg p0.lo (Qd 2 (ZM Qg p1.lo (re 1 (rix hm (fun hm=>ge 3 (Ql zf)) (fun hm=>Qo (gr 4 (bi hm fun v1 hx hm=>cp (Jq hx) (re 1 (gr 4 (bi hm fun v2 hx hm=>cp (Jr hx) (re 1 (Qi (gr 2 (bi hm fun v3 hx hm=>cp (Qaq hx) (re 1 (riq hm (fun hm=>ge 3 (Ql zf)) (fun hm=>Qo (ge 5 (Ql zf)))))))))))))))))))))))
def Z0 (x:Qj):Option Bool :=
 match x with
 | p0 =>
 Jy p0>>=fun v1 =>
 some (v1 == 0)
theorem Jp {p0 r0} (hm:Z0 p0=some r0):FQ 195 [(Qj.toD p0)] (Qn r0):=by
 unfold Z0 at hm
 exact fp (fn:=f195) rfl (ge 2 (gr 1 (bi hm fun v1 hx hm=>cp (Qbq hx) (re 2 (Ql zf)))))
def QZ (x:((List Int) × (List Int) × (List Int) × (List Int) × (List Int) × (List Int) × (List Int) × (List Int))):Option (Unit ⊕ Unit) :=
 match x with
 | (q0,q1,q2,q3,q4,q5,q6,q7) =>
 Z0 (⟨q6,q7⟩:Qj)>>=fun v1 =>
 if v1=true then
  some (Sum.inl ())
 else
 some (Sum.inr ())
theorem Ya {q0 q1 q2 q3 q4 q5 q6 q7 r} (hm:QZ (q0,q1,q2,q3,q4,q5,q6,q7)=some r):PC prog env 221 [(.arr 3 0 1 1),(.dat (.raw (.func (.func 195) #[] #[])))] (XZ q0 q1 q2 q3 q4 q5 q6 q7) (match r with|.inl _=>(Qc 0)|.inr (_)=>(Qc (-1))) (match r with|.inl _=>(XZ q0 q1 q2 q3 q4 q5 q6 q7)|.inr (_)=>(XZ q0 q1 q2 q3 q4 q5 q6 q7)):=by
 unfold QZ at hm
 exact PC_sxB (fn:=f221) rfl (ge 1 (Qi (gr 1 (Qd 1 (re 1 (Qm (Qa8 (RL_at (st':=⟨kp 19 [(0,(.arr 3 0 1 1)),(1,(.dat (.raw (.func (.func 195) #[] #[])))),(7,(Qc 1)),(8,(Qc 0))],(XZ q0 q1 q2 q3 q4 q5 q6 q7)⟩) kr (ge 1 (Qi (QaR kr (Qo (Qi (Qm (ge 2 (gr 3 (Qd 1 (Qd 1 (bi hm fun v1 hx hm=>cp (Jp hx) (QP (rib hm (fun hm=>ge 2 (Ql zf)) (fun hm=>Qo (R_G (re 2 (RL_at (st':=⟨kp 19 [(0,(.arr 3 0 1 1)),(1,(.dat (.raw (.func (.func 195) #[] #[])))),(7,(Qc 1)),(8,(Qc 1))],(XZ q0 q1 q2 q3 q4 q5 q6 q7)⟩) kr (ge 1 (Qi (Ja kr (QO (ge 1 (Ql zf)))))))))))))))))))))))))))))))
def QU (x:((List Int) × (List Int) × (List Int) × (List Int) × (List Int) × (List Int) × (List Int) × (List Int))):Option (Unit ⊕ Unit) :=
 match x with
 | (q0,q1,q2,q3,q4,q5,q6,q7) =>
 (
 QZ (q0,q1,q2,q3,q4,q5,q6,q7)>>=fun out =>
 match out with
 | .inl _ =>
  some (Sum.inl ())
 | .inr (_) =>
  some (Sum.inr ())
 )
theorem Z8 {q0 q1 q2 q3 q4 q5 q6 q7 r} (hm:QU (q0,q1,q2,q3,q4,q5,q6,q7)=some r):PC prog env 194 [(.arr 3 0 1 1),(.dat (.raw (.func (.func 195) #[] #[])))] (XZ q0 q1 q2 q3 q4 q5 q6 q7) (match r with|.inl _=>(.arr 3 0 0 1)|.inr (_)=>(.arr 3 0 1 1)) (match r with|.inl _=>[(QE q0 q1),(QE q2 q3),(QE q4 q5),(.box [Ea,Ea])]|.inr (_)=>(XZ q0 q1 q2 q3 q4 q5 q6 q7)):=by
 unfold QU at hm
 exact PC_sxB (fn:=f194) rfl (ge 1 (gr 2 (bs hm (fun _ hx hm=>QR (Ya hx) (re 1 (Qi (ge 2 (Ja kr (Qo (Qi (ge 3 (Qm (Qa8 (RL_at (st':=⟨kp 42 [(0,(.arr 3 0 1 1)),(1,(.dat (.raw (.func (.func 195) #[] #[])))),(5,(Qc 0)),(6,(Qc 1))],(XZ q0 q1 q2 q3 q4 q5 q6 q7)⟩) kr (Qi (gr 2 (Qd 1 (re 1 (Ja kr (QO (gr 2 (Qd 1 (re 1 (gr 2 (Qd 1 (re 1 (Ql zf)))))))))))))))))))))))) fun _ hx hm=>QR (Ya hx) (re 1 (Qi (ge 2 (QaR kr (ge 2 (Ql zf)))))))))
def Y0 (x:((List Int) × (List Int) × (List Int) × (List Int) × (List Int) × (List Int) × (List Int) × (List Int))):Option (Unit ⊕ Unit) :=
 match x with
 | (q0,q1,q2,q3,q4,q5,q6,q7) =>
 (
 QU (q0,q1,q2,q3,q4,q5,q6,q7)>>=fun out =>
 match out with
 | .inl _ =>
  some (Sum.inl ())
 | .inr (_) =>
  some (Sum.inr ())
 )
theorem J8 {q0 q1 q2 q3 q4 q5 q6 q7 r} (hm:Y0 (q0,q1,q2,q3,q4,q5,q6,q7)=some r):PC prog env 159 [(.arr 3 0 1 1)] (XZ q0 q1 q2 q3 q4 q5 q6 q7) (match r with|.inl _=>(.arr 3 0 0 1)|.inr (_)=>(.arr 3 0 1 1)) (match r with|.inl _=>[(QE q0 q1),(QE q2 q3),(QE q4 q5),(.box [Ea,Ea])]|.inr (_)=>(XZ q0 q1 q2 q3 q4 q5 q6 q7)):=by
 unfold Y0 at hm
 exact PC_sxB (fn:=f159) rfl (ge 1 (gr 1 (bs hm (fun _ hx hm=>QR (Z8 hx) (re 1 (Ql zf))) fun _ hx hm=>QR (Z8 hx) (re 1 (Ql zf)))))
def YM (x:(Qj × Int × Int × Int)):Option Qj :=
 match x with
 | (p0,p1,p2,p3) =>
 Qp p0.lo>>=fun v1 =>
 Qp p0.hi>>=fun v2 =>
 idx v1 p1>>=fun v3 =>
 setM v1 p1 p2>>=fun v4 =>
 idx v2 p1>>=fun v5 =>
 setM v2 p1 p3>>=fun v6 =>
 ZE (v4.length=v1.length)>>=fun _ =>
 ZE (v6.length=v2.length)>>=fun _ =>
 some (⟨v4,v6⟩:Qj)
theorem J9 {p0 p1 p2 p3 r0} (hm:YM (p0,p1,p2,p3)=some r0):FQ 160 [(Qj.toD p0),(Qg p1),(Qg p2),(Qg p3)] (.dat (Qj.toD r0)):=by
 unfold YM at hm
 exact fp (fn:=f160) rfl (ge 2 (Qi (Yq (Qd 2 (bi hm fun v1 hx hm=>go 2 3 Qg (QF hx) (Qd 2 (bi hm fun v2 hx hm=>go 3 3 Qg (QF hx) (re 3 ⟨kr,Qi (Yq (Qd 8 (bi hm fun v3 hx hm=>QD rfl (fun _=>Zo (e:=3) (n:=p1) (j:=(p1).toNat) (tt:=2) (g:=1) (lo:=0) (len:=v1.length) (cap:=v1.length) (k:=.i64) kr kr rfl kr kr (idx_nat hx) (Nat.lt_of_lt_of_eq (idx_lt hx) rfl)) (bi hm fun v4 hx hm=>Ym (fun H=>H.set 2 (QL v4)) rfl kr (fun _=>Qae Qg (l:=v1) (n:=p1) (y:=p2) hx (fun _=>rfl) kr rfl kr kr kr kr) (bi hm fun v5 hx hm=>QD rfl (fun _=>Zo (e:=3) (n:=p1) (j:=(p1).toNat) (tt:=3) (g:=1) (lo:=0) (len:=v2.length) (cap:=v2.length) (k:=.i64) kr kr rfl kr kr (idx_nat hx) (Nat.lt_of_lt_of_eq (idx_lt hx) rfl)) (bi hm fun v6 hx hm=>Ym (fun H=>H.set 3 (QL v6)) rfl kr (fun _=>Qae Qg (l:=v2) (n:=p1) (y:=p3) hx (fun _=>rfl) kr rfl kr kr kr kr) (QP ⟨kr,ge 2 (Ql (gi hm fun hl7 hm=>gi hm fun hl8 hm=>(by obtain rfl:=QaF hm; exact ⟨trivial,XK [(.agg [(.ms 2 1 0 v1.length v1.length),(.ms 3 1 0 v2.length v2.length)])] kr (po_agg (pc_cons (pc_ms (e:=3) Qg v4 hl7 (fun _=>rfl) kr) (pc_cons (pc_ms (e:=3) Qg v6 hl8 (fun _=>rfl) kr) pc_nil)))⟩)))⟩)))))))⟩))))))))
def QY (x:((List Int) × (List Int) × (List Int) × (List Int) × (List Int) × (List Int) × (List Int) × (List Int) × (List Int) × (List Int) × (List Int) × (List Int) × Nat)):Option (Unit ⊕ Unit ⊕ Unit) :=
 match x with
 | (q0,q1,q2,q3,q4,q5,q6,q7,q8,q9,q10,q11,q12) =>
 Z0 (⟨q8,q9⟩:Qj)>>=fun v1 =>
 if v1=true then
  some (Sum.inl ())
 else
 Z0 (⟨q10,q11⟩:Qj)>>=fun v2 =>
 if v2=true then
  some (Sum.inr (Sum.inl ()))
 else
 some (Sum.inr (Sum.inr ()))
theorem Zv {q0 q1 q2 q3 q4 q5 q6 q7 q8 q9 q10 q11 q12 r} (hm:QY (q0,q1,q2,q3,q4,q5,q6,q7,q8,q9,q10,q11,q12)=some r):PC prog env 221 [(.arr 5 0 2 2),(.dat (.raw (.func (.func 195) #[] #[])))] (YJ q0 q1 q2 q3 q4 q5 q12 q6 q7 q8 q9 q10 q11) (match r with|.inl _=>(Qc 0)|.inr (.inl _)=>(Qc 1)|.inr (.inr (_))=>(Qc (-1))) (match r with|.inl _=>(YJ q0 q1 q2 q3 q4 q5 q12 q6 q7 q8 q9 q10 q11)|.inr (.inl _)=>(YJ q0 q1 q2 q3 q4 q5 q12 q6 q7 q8 q9 q10 q11)|.inr (.inr (_))=>(YJ q0 q1 q2 q3 q4 q5 q12 q6 q7 q8 q9 q10 q11)):=by
 unfold QY at hm
 exact PC_sxB (fn:=f221) rfl (ge 1 (Qi (gr 1 (Qd 1 (re 1 (Qm (Qa8 (RL_at (st':=⟨kp 19 [(0,(.arr 5 0 2 2)),(1,(.dat (.raw (.func (.func 195) #[] #[])))),(7,(Qc 2)),(8,(Qc 0))],(YJ q0 q1 q2 q3 q4 q5 q12 q6 q7 q8 q9 q10 q11)⟩) kr (ge 1 (Qi (QaR kr (Qo (Qi (Qm (ge 2 (gr 3 (Qd 1 (Qd 1 (bi hm fun v1 hx hm=>cp (Jp hx) (QP (rib hm (fun hm=>ge 2 (Ql zf)) (fun hm=>Qo (R_G (re 2 (RL_at (st':=⟨kp 19 [(0,(.arr 5 0 2 2)),(1,(.dat (.raw (.func (.func 195) #[] #[])))),(7,(Qc 2)),(8,(Qc 1))],(YJ q0 q1 q2 q3 q4 q5 q12 q6 q7 q8 q9 q10 q11)⟩) kr (ge 1 (Qi (QaR kr (Qo (Qi (Qm (ge 2 (gr 3 (Qd 1 (Qd 1 (bi hm fun v2 hx hm=>cp (Jp hx) (QP (rib hm (fun hm=>ge 2 (Ql zf)) (fun hm=>Qo (R_G (re 2 (RL_at (st':=⟨kp 19 [(0,(.arr 5 0 2 2)),(1,(.dat (.raw (.func (.func 195) #[] #[])))),(7,(Qc 2)),(8,(Qc 2))],(YJ q0 q1 q2 q3 q4 q5 q12 q6 q7 q8 q9 q10 q11)⟩) kr (ge 1 (Qi (Ja kr (QO (ge 1 (Ql zf))))))))))))))))))))))))))))))))))))))))))))))))
def QT (x:((List Int) × (List Int) × (List Int) × (List Int) × (List Int) × (List Int) × (List Int) × (List Int) × (List Int) × (List Int) × (List Int) × (List Int) × Nat)):Option (((List Int) × (List Int)) ⊕ Unit ⊕ Unit) :=
 match x with
 | (q0,q1,q2,q3,q4,q5,q6,q7,q8,q9,q10,q11,q12) =>
 (
 QY (q0,q1,q2,q3,q4,q5,q6,q7,q8,q9,q10,q11,q12)>>=fun out =>
 match out with
 | .inl _ =>
  Z0 (⟨q10,q11⟩:Qj)>>=fun v1 =>
  if v1=false then
   some (Sum.inl (q10,q11))
  else
  some (Sum.inr (Sum.inl ()))
 | .inr (.inl _) =>
  some (Sum.inl (q8,q9))
 | .inr (.inr (_)) =>
  some (Sum.inr (Sum.inr ()))
 )
theorem Zm {q0 q1 q2 q3 q4 q5 q6 q7 q8 q9 q10 q11 q12 r} (hm:QT (q0,q1,q2,q3,q4,q5,q6,q7,q8,q9,q10,q11,q12)=some r):PC prog env 194 [(.arr 5 0 2 2),(.dat (.raw (.func (.func 195) #[] #[])))] (YJ q0 q1 q2 q3 q4 q5 q12 q6 q7 q8 q9 q10 q11) (match r with|.inl (v5001,v5002)=>(.arr 5 0 1 2)|.inr (.inl _)=>(.arr 5 0 0 2)|.inr (.inr (_))=>(.arr 5 0 2 2)) (match r with|.inl (v5001,v5002)=>[(QE q0 q1),(QE q2 q3),(QE q4 q5),(.tok 60 q12),(QE q6 q7),(.box [(La v5001),(La v5002),Ea,Ea])]|.inr (.inl _)=>[(QE q0 q1),(QE q2 q3),(QE q4 q5),(.tok 60 q12),(QE q6 q7),(.box [Ea,Ea,Ea,Ea])]|.inr (.inr (_))=>(YJ q0 q1 q2 q3 q4 q5 q12 q6 q7 q8 q9 q10 q11)):=by
 unfold QT at hm
 refine PC_sxB (fn:=f194) rfl (ge 1 (gr 2 (bi hm fun out hx hm=>?_)))
 rcases out with _|_|_
 ·have hq:=Zv hx
  refine QR hq ?_
  refine Qd 1 (QP (Qi (Qi (R_G (Qd 2 (QP ?_))))))
  refine Ja (by kernel_rfl) ?_
  refine Qo (Qi (Qi (R_G (Qd 3 (QP (Qm ?_))))))
  refine Qa8 ?_
  refine RL_at (st':=⟨kp 42 [(0,(.arr 5 0 2 2)),(1,(.dat (.raw (.func (.func 195) #[] #[])))),(5,(Qc 0)),(6,(Qc 1))],(YJ q0 q1 q2 q3 q4 q5 q12 q6 q7 q8 q9 q10 q11)⟩) (by kernel_rfl) ?_
  refine Qi (Qi (R_G (Qd 2 (Qd 1 (Qd 1 (QP ?_))))))
  refine QaR (by kernel_rfl) ?_
  refine Qo (Qi (Qm (Qi (R_G (Qd 2 (Qd 1 (Qd 3 (QP (Qi (R_G (Qd 2 ?_)))))))))))
  obtain ⟨v1,hx,hm⟩:=Yp hm
  have hq:=Jp hx []
  refine Yb hq ?_
  refine Qd 1 (QP ?_)
  refine QbG hm (QbJ _) (fun hm=>?_) (fun hm=>?_)
  ·refine Qi (R_G (Qd 3 (Qd 1 (Qd 1 (QP (R_G (Qd 3 (QP (R_G (Qd 3 (QP ?_)))))))))))
   refine RL_at (st':=⟨kp 42 [(0,(.arr 5 0 2 2)),(1,(.dat (.raw (.func (.func 195) #[] #[])))),(5,(Qc 1)),(6,(Qc 2))],[(QE q0 q1),(QE q2 q3),(QE q4 q5),(.tok 60 q12),(QE q6 q7),(.box [(La q10),(La q11),(La q10),(La q11)])]⟩) (by kernel_rfl) ?_
   refine Qi (Qi (R_G (Qd 2 (Qd 1 (Qd 1 (QP ?_))))))
   refine Ja (by kernel_rfl) ?_
   refine QO (Qi (R_G (Qd 2 (Qd 1 (Qd 1 (QP (Qi (R_G (Qd 2 (Qd 1 (Qd 1 ?_)))))))))))
   refine QP (Ql ?_)
   obtain rfl:=QaF hm
   exact ⟨trivial,JM (by kernel_rfl) (by kernel_rfl)⟩
  refine Qo (R_G (Qd 3 (QP ?_)))
  refine RL_at (st':=⟨kp 42 [(0,(.arr 5 0 2 2)),(1,(.dat (.raw (.func (.func 195) #[] #[])))),(5,(Qc 0)),(6,(Qc 2))],(YJ q0 q1 q2 q3 q4 q5 q12 q6 q7 q8 q9 q10 q11)⟩) (by kernel_rfl) ?_
  refine Qi (Qi (R_G (Qd 2 (Qd 1 (Qd 1 (QP ?_))))))
  refine Ja (by kernel_rfl) ?_
  refine QO (Qi (R_G (Qd 2 (Qd 1 (Qd 1 (QP (Qi (R_G (Qd 2 (Qd 1 (Qd 1 ?_)))))))))))
  refine QP (Ql ?_)
  obtain rfl:=QaF hm
  exact ⟨trivial,JM (by kernel_rfl) (by kernel_rfl)⟩
 ·have hq:=Zv hx
  refine QR hq ?_
  refine Qd 1 (QP (Qi (Qi (R_G (Qd 2 (QP ?_))))))
  refine Ja (by kernel_rfl) ?_
  refine Qo (Qi (Qi (R_G (Qd 3 (QP (Qm ?_))))))
  refine Qa8 ?_
  refine RL_at (st':=⟨kp 42 [(0,(.arr 5 0 2 2)),(1,(.dat (.raw (.func (.func 195) #[] #[])))),(5,(Qc 1)),(6,(Qc 2))],(YJ q0 q1 q2 q3 q4 q5 q12 q6 q7 q8 q9 q10 q11)⟩) (by kernel_rfl) ?_
  refine Qi (Qi (R_G (Qd 2 (Qd 1 (Qd 1 (QP ?_))))))
  refine Ja (by kernel_rfl) ?_
  refine QO (Qi (R_G (Qd 2 (Qd 1 (Qd 1 (QP (Qi (R_G (Qd 2 (Qd 1 (Qd 1 ?_)))))))))))
  refine QP (Ql ?_)
  obtain rfl:=QaF hm
  exact ⟨trivial,JM (by kernel_rfl) (by kernel_rfl)⟩
 ·have hq:=Zv hx
  refine QR hq ?_
  refine Qd 1 (QP (Qi (Qi (R_G (Qd 2 (QP ?_))))))
  refine QaR (by kernel_rfl) ?_
  refine Qi (R_G (Qd 2 (QP (Ql ?_))))
  obtain rfl:=QaF hm
  exact ⟨trivial,JM (by kernel_rfl) (by kernel_rfl)⟩
def Yy (x:((List Int) × (List Int) × (List Int) × (List Int) × (List Int) × (List Int) × (List Int) × (List Int) × (List Int) × (List Int) × (List Int) × (List Int) × Nat)):Option (((List Int) × (List Int)) ⊕ Unit ⊕ Unit) :=
 match x with
 | (q0,q1,q2,q3,q4,q5,q6,q7,q8,q9,q10,q11,q12) =>
 (
 QT (q0,q1,q2,q3,q4,q5,q6,q7,q8,q9,q10,q11,q12)>>=fun out =>
 match out with
 | .inl (v1,v2) =>
  some (Sum.inl (v1,v2))
 | .inr (.inl _) =>
  some (Sum.inr (Sum.inl ()))
 | .inr (.inr (_)) =>
  some (Sum.inr (Sum.inr ()))
 )
theorem Je {q0 q1 q2 q3 q4 q5 q6 q7 q8 q9 q10 q11 q12 r} (hm:Yy (q0,q1,q2,q3,q4,q5,q6,q7,q8,q9,q10,q11,q12)=some r):PC prog env 159 [(.arr 5 0 2 2)] (YJ q0 q1 q2 q3 q4 q5 q12 q6 q7 q8 q9 q10 q11) (match r with|.inl (v5001,v5002)=>(.arr 5 0 1 2)|.inr (.inl _)=>(.arr 5 0 0 2)|.inr (.inr (_))=>(.arr 5 0 2 2)) (match r with|.inl (v5001,v5002)=>[(QE q0 q1),(QE q2 q3),(QE q4 q5),(.tok 60 q12),(QE q6 q7),(.box [(La v5001),(La v5002),Ea,Ea])]|.inr (.inl _)=>[(QE q0 q1),(QE q2 q3),(QE q4 q5),(.tok 60 q12),(QE q6 q7),(.box [Ea,Ea,Ea,Ea])]|.inr (.inr (_))=>(YJ q0 q1 q2 q3 q4 q5 q12 q6 q7 q8 q9 q10 q11)):=by
 unfold Yy at hm
 refine PC_sxB (fn:=f159) rfl (ge 1 (gr 1 (bi hm fun out hx hm=>?_)))
 rcases out with ⟨v1,v2⟩|_|_
 ·have hq:=Zm hx
  refine QR hq ?_
  refine Qd 1 (QP (Ql ?_))
  obtain rfl:=QaF hm
  exact ⟨trivial,JM (by kernel_rfl) (by kernel_rfl)⟩
 ·have hq:=Zm hx
  refine QR hq ?_
  refine Qd 1 (QP (Ql ?_))
  obtain rfl:=QaF hm
  exact ⟨trivial,JM (by kernel_rfl) (by kernel_rfl)⟩
 ·have hq:=Zm hx
  refine QR hq ?_
  refine Qd 1 (QP (Ql ?_))
  obtain rfl:=QaF hm
  exact ⟨trivial,JM (by kernel_rfl) (by kernel_rfl)⟩
def ZZ (x:(Qj × Qj × Qj × (List Int) × (List Int) × (List Qj) × Int)):Option (((List Int) × (List Int) × (List Qj))) :=
 match x with
 | (p0,v1,p1,v205,v206,v207,v208) =>
 if v208 < (p0.lo.length:Int) then
  idx p0.lo v208>>=fun v608 =>
  idx v1.lo v208>>=fun v609 =>
  YM ((⟨v205,v206⟩:Qj),v208,v608,v609)>>=fun v610 =>
  idx v1.hi v208>>=fun v611 =>
  idx p0.hi v208>>=fun v612 =>
  YM ((⟨v205,v206⟩:Qj),v208,v611,v612)>>=fun v613 =>
  (
  Yy (p0.lo,p0.hi,p1.lo,p1.hi,v1.lo,v1.hi,v205,v206,v610.lo,v610.hi,v613.lo,v613.hi,v207.length)>>=fun out =>
  match out with
  | .inl (v614,v615) =>
   app 48 v207 ([(⟨v614,v615⟩:Qj)]:List Qj)>>=fun v616 =>
   idx v1.lo v208>>=fun v617 =>
   idx v1.hi v208>>=fun v618 =>
   YM ((⟨v205,v206⟩:Qj),v208,v617,v618)>>=fun v619 =>
   ZZ (p0,v1,p1,v619.lo,v619.hi,v616,(W (v208+1)))
  | .inr (.inl _) =>
   app 48 v207 ([]:List Qj)>>=fun v620 =>
   idx v1.lo v208>>=fun v621 =>
   idx v1.hi v208>>=fun v622 =>
   YM ((⟨v205,v206⟩:Qj),v208,v621,v622)>>=fun v623 =>
   ZZ (p0,v1,p1,v623.lo,v623.hi,v620,(W (v208+1)))
  | .inr (.inr (_)) =>
   app 48 v207 ([v610,v613]:List Qj)>>=fun v624 =>
   idx v1.lo v208>>=fun v625 =>
   idx v1.hi v208>>=fun v626 =>
   YM ((⟨v205,v206⟩:Qj),v208,v625,v626)>>=fun v627 =>
   ZZ (p0,v1,p1,v627.lo,v627.hi,v624,(W (v208+1)))
  )
 else
 some (v205,v206,v207)
 partial_fixpoint
theorem XA:∀ x r,ZZ x=some r→match x with|(p0,v1,p1,v205,v206,v207,v208)=>LQ f115 115 [1,1,1,1,1,0,1,0,0] 5 ⟨kp 79 [(2,(.ptr 0 0)),(5,(.ptr 2 0)),(7,(.vec 3 ((List.map Qj.toD) v207))),(8,(.ptr 4 0)),(30,(Qc (p0.lo.length:Int))),(31,(Qc v208))],[(QE p0.lo p0.hi),(QE p1.lo p1.hi),(QE v1.lo v1.hi),(.tok 60 v207.length),(QE v205 v206)]⟩ (P1 (.exit 0) (fun (v605,v606,v607) d=>⟨sl d 79 [(7,(.vec 3 ((List.map Qj.toD) v607)))],[(QE p0.lo p0.hi),(QE p1.lo p1.hi),(QE v1.lo v1.hi),(.tok 60 v607.length),(QE v605 v606)]⟩) r):=by
 refine ZZ.partial_correctness _ (fun ZZ XA x r hm=>?_)
 obtain ⟨p0,v1,p1,v205,v206,v207,v208⟩:=x
 refine lp (ge 1 (Qi (ri hm (fun hm=>Qo (Qi (Qm (ge 2 (Qi (Yq (Qd 6 (ZX 1 Qg hm fun v608 hm=>Qd 4 (ZX 1 Qg hm fun v609 hm=>Qd 1 (bi hm fun v610 hx hm=>cp (J9 hx) (Qd 5 (ZX 1 Qg hm fun v611 hm=>Qd 4 (ZX 1 Qg hm fun v612 hm=>Qd 1 (bi hm fun v613 hx hm=>cp (J9 hx) (Qd 1 (bi hm fun out hx hm=>?_)))))))))))))))) (fun hm=>QO zf))))
 rcases out with ⟨v614,v615⟩|_|_
 ·have hq:=Je hx
  refine QR hq ?_
  obtain ⟨v616,hx,hm⟩:=Yp hm
  refine Qac 60 2 48 3 Qj.toD v207 ([(⟨v614,v615⟩:Qj)]:List Qj) v616 (xs:=(List.map Qj.toD) v207) (es:=(List.map Qj.toD) ([(⟨v614,v615⟩:Qj)]:List Qj)) (L:=(List.map Qj.toD)) (fun _=>rfl) rfl rfl Qj.fit hx ?_
  refine Qd 1 ?_
  refine QP ⟨by kernel_rfl,?_⟩
  refine Yq ?_
  refine Qd 5 ?_
  refine QaQ 1 Qg hm rfl (fun _=>rfl) (fun v617 hm=>?_)
  refine Qd 4 ?_
  refine QaQ 1 Qg hm rfl (fun _=>rfl) (fun v618 hm=>?_)
  refine Qd 1 ?_
  obtain ⟨v619,hx,hm⟩:=Yp hm
  have hq:=J9 hx []
  refine Yb hq ?_
  refine Qd 1 ?_
  refine QP ⟨by kernel_rfl,?_⟩
  refine R_G (Qd 2 (QP ?_))
  exact XA _ _ hm _ (by kernel_rfl)
 ·have hq:=Je hx
  refine QR hq ?_
  obtain ⟨v620,hx,hm⟩:=Yp hm
  refine Qac 60 2 48 3 Qj.toD v207 ([]:List Qj) v620 (xs:=(List.map Qj.toD) v207) (es:=(List.map Qj.toD) ([]:List Qj)) (L:=(List.map Qj.toD)) (fun _=>rfl) rfl rfl Qj.fit hx ?_
  refine Qd 1 ?_
  refine QP ⟨by kernel_rfl,?_⟩
  refine Yq ?_
  refine Qd 5 ?_
  refine QaQ 1 Qg hm rfl (fun _=>rfl) (fun v621 hm=>?_)
  refine Qd 4 ?_
  refine QaQ 1 Qg hm rfl (fun _=>rfl) (fun v622 hm=>?_)
  refine Qd 1 ?_
  obtain ⟨v623,hx,hm⟩:=Yp hm
  have hq:=J9 hx []
  refine Yb hq ?_
  refine Qd 1 ?_
  refine QP ⟨by kernel_rfl,?_⟩
  refine R_G (Qd 2 (QP ?_))
  exact XA _ _ hm _ (by kernel_rfl)
 ·have hq:=Je hx
  refine QR hq ?_
  obtain ⟨v624,hx,hm⟩:=Yp hm
  refine Qac 60 2 48 3 Qj.toD v207 ([v610,v613]:List Qj) v624 (xs:=(List.map Qj.toD) v207) (es:=(List.map Qj.toD) ([v610,v613]:List Qj)) (L:=(List.map Qj.toD)) (fun _=>rfl) rfl rfl Qj.fit hx ?_
  refine Qd 1 ?_
  refine QP ⟨by kernel_rfl,?_⟩
  refine Yq ?_
  refine Qd 5 ?_
  refine QaQ 1 Qg hm rfl (fun _=>rfl) (fun v625 hm=>?_)
  refine Qd 4 ?_
  refine QaQ 1 Qg hm rfl (fun _=>rfl) (fun v626 hm=>?_)
  refine Qd 1 ?_
  obtain ⟨v627,hx,hm⟩:=Yp hm
  have hq:=J9 hx []
  refine Yb hq ?_
  refine Qd 1 ?_
  refine QP ⟨by kernel_rfl,?_⟩
  refine R_G (Qd 2 (QP ?_))
  exact XA _ _ hm _ (by kernel_rfl)
def JO (x:(Qj × Qj)):Option (List Qj) :=
 match x with
 | (p0,p1) =>
 Xg ((⟨p0.lo,p0.hi⟩:Qj),(⟨p1.lo,p1.hi⟩:Qj))>>=fun (v1,v2) =>
 if v2=false then
  Qp p0.lo>>=fun v3 =>
  Qp p0.hi>>=fun v4 =>
  (
  Y0 (p0.lo,p0.hi,p1.lo,p1.hi,v1.lo,v1.hi,v3,v4)>>=fun out =>
  match out with
  | .inl _ =>
   some ([]:(List Qj))
  | .inr (_) =>
   some ([(⟨v3,v4⟩:Qj)]:List Qj)
  )
 else
 ZZ (p0,v1,p1,p0.lo,p0.hi,([]:List Qj),0)>>=fun (v605,v606,v607) =>
 some v607
theorem QbS {p0 p1 r0} (hm:JO (p0,p1)=some r0):FQ 115 [(Qj.toD p0),(Qj.toD p1)] (.dat (.lst ((List.map Qj.toD) r0))):=by
 unfold JO at hm
 exact fp (fn:=f115) rfl (ge 3 (gr 2 (bi2 hm fun v1 v2 hx hm=>cp (Qbf hx) (re 6 (Qi (ge 2 (rin hm (fun hm=>Qi (Yq (Qd 2 (bi hm fun v3 hx hm=>QD (v:=.dat (Lb v3)) rfl (fun _=>Qab (f:=154) (first:=#[]) (cap:=#[]) (e:=3) (ow':=[]) (ds:=[.lst ((List.map Qg) p0.lo)]) rfl kr kr kr kr (QF hx) (p1_ms (pc_ms (e:=3) Qg v3 rfl (fun _=>rfl) kr))) (Qd 2 (bi hm fun v4 hx hm=>QD (v:=.dat (Lb v4)) rfl (fun _=>Qab (f:=154) (first:=#[]) (cap:=#[]) (e:=3) (ow':=[]) (ds:=[.lst ((List.map Qg) p0.hi)]) rfl kr kr kr kr (QF hx) (p1_ms (pc_ms (e:=3) Qg v4 rfl (fun _=>rfl) kr))) (Qd 2 (bs hm (fun _ hx hm=>QR (J8 hx) (re 1 ⟨kr,Ql (by obtain rfl:=QaF hm; exact ⟨trivial,XK [(.arr 3 0 0 1)] kr (po_arr kr)⟩)⟩)) fun _ hx hm=>QR (J8 hx) (re 1 ⟨kr,Ql (by obtain rfl:=QaF hm; exact ⟨trivial,XK [(.arr 3 0 1 1)] kr (po_arr kr)⟩)⟩))))))))) (fun hm=>Qo (ge 1 (ge 3 (Qi (gr 2 (ZM Qg p0.lo (re 1 (Qm (ru1 hm (XA _) fun ⟨v605,v606,v607⟩ d hm=>ge 2 (Ql zf)))))))))))))))))
def ZV (x:((List Int) × (List Int) × (List Int) × (List Qa) × (List Qa) × Int × Qa × Int × Int × Int × (List Int) × Int × Int × Int × Int)):Option ((Int × Int × Int × (List Int) × Int × Int × Int)) :=
 match x with
 | (p3,p1,p2,v201,p0,v202,v602,v803,v804,v805,v806,v807,v808,v809,v810) =>
 if v810 < (p3.length:Int) then
  idx p3 v810>>=fun v1210 =>
  Ye ((⟨v803,v804,v805,v806,v807,v808,v809⟩:Qk),v810,v1210)>>=fun v1211 =>
  ZV (p3,p1,p2,v201,p0,v202,v602,v1211.kind,v1211.buffer,v1211.base,v1211.strides,v1211.start,v1211.step,v1211.mod,(W (v810+1)))
 else
 some (v803,v804,v805,v806,v807,v808,v809)
 partial_fixpoint
theorem Ju:∀ x r,ZV x=some r→match x with|(p3,p1,p2,v201,p0,v202,v602,v803,v804,v805,v806,v807,v808,v809,v810)=>LQ f68 68 [1,1,0,1,0,0,1,1,0,0,1,1,0,1,0,0] 3 ⟨kp 78 [(1,(La p1)),(2,(La p2)),(3,(La p3)),(9,(YI v201)),(11,(.ptr 1 0)),(12,(.ptr 2 0)),(18,(QM p0)),(19,(Qc (p0.length:Int))),(20,(Qc v202)),(26,(La p3)),(27,(Qc (p3.length:Int))),(28,(Qc v810))],[(.tok 62 v201.length),(Zw v602.box.lo v602.box.hi v602.access.kind v602.access.buffer v602.access.base v602.access.strides v602.access.start v602.access.step v602.access.mod),(Qw v803 v804 v805 v806 v807 v808 v809)]⟩ (P1 (.exit 2) (fun (v1203,v1204,v1205,v1206,v1207,v1208,v1209) d=>⟨sl d 78 [(1,(La p1)),(2,(La p2)),(3,(La p3)),(9,(YI v201)),(11,(.ptr 1 0)),(12,(.ptr 2 0)),(18,(QM p0)),(19,(Qc (p0.length:Int))),(20,(Qc v202))],[(.tok 62 v201.length),(Zw v602.box.lo v602.box.hi v602.access.kind v602.access.buffer v602.access.base v602.access.strides v602.access.start v602.access.step v602.access.mod),(Qw v1203 v1204 v1205 v1206 v1207 v1208 v1209)]⟩) r):=by
 refine ZV.partial_correctness _ (fun ZV Ju x r hm=>?_)
 obtain ⟨p3,p1,p2,v201,p0,v202,v602,v803,v804,v805,v806,v807,v808,v809,v810⟩:=x
 exact lp (ge 1 (Qi (ri hm (fun hm=>Qo (Qi (Qm (gr 1 (ZX 1 Qg hm fun v1210 hm=>re 3 (R_G (Qd 3 (bi hm fun v1211 hx hm=>cp (QaJ hx) (re 1 (R_G (re 2 (Ju _ _ hm _ kr)))))))))))) (fun hm=>QO zf))))
def ZC (x:((List Qa) × (List Int) × (List Int) × (List Int) × (List Qa) × Int)):Option ((List Qa)) :=
 match x with
 | (p0,p3,p1,p2,v201,v202) =>
 if v202 < (p0.length:Int) then
  idx p0 v202>>=fun v602 =>
  ZV (p3,p1,p2,v201,p0,v202,v602,v602.access.kind,v602.access.buffer,v602.access.base,v602.access.strides,v602.access.start,v602.access.step,v602.access.mod,0)>>=fun (v1203,v1204,v1205,v1206,v1207,v1208,v1209) =>
  YF (v602.box.lo,v602.box.hi,p2,p3)>>=fun v1212 =>
  app 120 v201 ([(⟨v1212,(⟨v1203,v1204,v1205,v1206,v1207,v1208,v1209⟩:Qk)⟩:Qa)]:List Qa)>>=fun v1213 =>
  ZC (p0,p3,p1,p2,v1213,(W (v202+1)))
 else
 some v201
 partial_fixpoint
theorem Jt:∀ x r,ZC x=some r→match x with|(p0,p3,p1,p2,v201,v202)=>LQ f68 68 [1,1,0,1,0,0] 1 ⟨kp 78 [(1,(La p1)),(2,(La p2)),(3,(La p3)),(9,(YI v201)),(18,(QM p0)),(19,(Qc (p0.length:Int))),(20,(Qc v202))],[(.tok 62 v201.length)]⟩ (P1 (.exit 0) (fun v601 d=>⟨sl d 78 [(1,(La p1)),(2,(La p2)),(3,(La p3)),(9,(YI v601))],[(.tok 62 v601.length)]⟩) r):=by
 refine ZC.partial_correctness _ (fun ZC Jt x r hm=>?_)
 obtain ⟨p0,p3,p1,p2,v201,v202⟩:=x
 exact lp (ge 1 (Qi (ri hm (fun hm=>Qo (Qi (Qm (Qi (R_G (ZX 9 Qa.toD hm fun v602 hm=>re 3 (ge 4 (Qi (gr 1 (ZM Qg p3 (re 1 (Qm (ru1 hm (Ju _) fun ⟨v1203,v1204,v1205,v1206,v1207,v1208,v1209⟩ d hm=>Yq (Qd 9 (bi hm fun v1212 hx hm=>cp (QaA hx) (Qd 3 (bi hm fun v1213 hx hm=>Qac 62 9 120 0 Qa.toD v201 ([(⟨v1212,(⟨v1203,v1204,v1205,v1206,v1207,v1208,v1209⟩:Qk)⟩:Qa)]:List Qa) v1213 (xs:=(List.map Qa.toD) v201) (es:=(List.map Qa.toD) ([(⟨v1212,(⟨v1203,v1204,v1205,v1206,v1207,v1208,v1209⟩:Qk)⟩:Qa)]:List Qa)) (L:=(List.map Qa.toD)) (fun _=>rfl) rfl rfl Qa.fit hx (re 1 ⟨kr,R_G (re 2 (Jt _ _ hm _ kr))⟩)))))))))))))))))) (fun hm=>QO zf))))
def ZW (x:((List Qj) × Qj × (List Qa) × Int)):Option ((List Qa)) :=
 match x with
 | (v1219,v1215,v1420,v1421) =>
 if v1421 < (v1219.length:Int) then
  idx v1219 v1421>>=fun v1821 =>
  app 120 v1420 ([(⟨v1821,(⟨1,0,0,([]:(List Int)),0,0,0⟩:Qk)⟩:Qa)]:List Qa)>>=fun v1822 =>
  ZW (v1219,v1215,v1822,(W (v1421+1)))
 else
 some v1420
 partial_fixpoint
theorem Jv:∀ x r,ZW x=some r→match x with|(v1219,v1215,v1420,v1421)=>LQ f68 68 [1,1,1,1,0,1,0,0] 2 ⟨kp 78 [(9,(YI v1420)),(63,(.dat (.lst ((List.map Qj.toD) v1219)))),(64,(Qc (v1219.length:Int))),(65,(Qc v1421))],[(.tok 62 v1420.length),(QE v1215.lo v1215.hi)]⟩ (P1 (.exit 4) (fun v1820 d=>⟨sl d 78 [(9,(YI v1820))],[(.tok 62 v1820.length),(QE v1215.lo v1215.hi)]⟩) r):=by
 refine ZW.partial_correctness _ (fun ZW Jv x r hm=>?_)
 obtain ⟨v1219,v1215,v1420,v1421⟩:=x
 exact lp (ge 1 (Qi (ri hm (fun hm=>Qo (Qi (Qm (Qi (R_G (ZX 2 Qj.toD hm fun v1821 hm=>re 3 (R_G (Qd 5 (bi hm fun v1822 hx hm=>Qac 62 9 120 0 Qa.toD v1420 ([(⟨v1821,(⟨1,0,0,([]:(List Int)),0,0,0⟩:Qk)⟩:Qa)]:List Qa) v1822 (xs:=(List.map Qa.toD) v1420) (es:=(List.map Qa.toD) ([(⟨v1821,(⟨1,0,0,([]:(List Int)),0,0,0⟩:Qk)⟩:Qa)]:List Qa)) (L:=(List.map Qa.toD)) (fun _=>rfl) rfl rfl Qa.fit hx (re 1 (R_G (re 2 (Jv _ _ hm _ kr))))))))))))) (fun hm=>QO zf))))
def Xy (x:((List Qa) × (List Int) × (List Int) × (List Int))):Option (List Qa) :=
 match x with
 | (p0,p1,p2,p3) =>
 ZC (p0,p3,p1,p2,([]:List Qa),0)>>=fun v601 =>
 makeM 8 (p2.length:Int) 0>>=fun v1214 =>
 YF (v1214,p1,p2,p3)>>=fun v1215 =>
 Yj p2>>=fun (v1216,v1217,v1218) =>
 JO ((⟨v1217,v1218⟩:Qj),v1215)>>=fun v1219 =>
 ZW (v1219,v1215,v601,0)>>=fun v1820 =>
 Q8 v1820>>=fun v1823 =>
 some v1823
theorem Qbt {p0 p1 p2 p3 r0} (hm:Xy (p0,p1,p2,p3)=some r0):FQ 68 [(.lst ((List.map Qa.toD) p0)),(Lb p1),(Lb p2),(Lb p3)] (QM r0):=by
 unfold Xy at hm
 exact fp (fn:=f68) rfl (ge 1 (ge 1 (Qi (gr 1 (ZM Qa.toD p0 (re 1 (Qm (ru1 hm (Jt _) fun v601 d hm=>gr 1 (ZM Qg p2 (bi hm fun v1214 hx hm=>QD (v:=.dat (.lst (List.map Qg v1214))) rfl (by intro K hk; exact Qcl Qg (z:=0) (n:=(p2.length:Int)) (bytes:=8) (j:=8000) (e':=3) (os:=[]) hx (e:=3) kr kr kr kr rfl rfl kr kr kr hk) (Qd 3 (bi hm fun v1215 hx hm=>cp (QaA hx) (re 2 (Qi (Qi (Yq (Qd 1 (bi3 hm fun v1216 v1217 v1218 hx hm=>QD (v:=.dat (.agg [(Lb v1217),(Lb v1218)])) rfl (fun _=>Qab (f:=111) (first:=#[]) (cap:=#[]) (e:=3) (ow':=[]) (ds:=[(Lb p2)]) (p:=(.agg [(.ms 1 v1216 0 v1217.length v1217.length),(.ms 2 1 0 v1218.length v1218.length)])) (H1:=(Qbj v1216 v1217.length v1218.length v1217 v1218)) rfl kr kr kr kr (Qad hx) (p1_agg (pc_cons (pc_ms (e:=3) Qg v1217 rfl (fun _=>rfl) kr) (pc_cons (pc_ms (e:=3) Qg v1218 rfl (fun _=>rfl) kr) pc_nil)))) (Qd 1 (bi hm fun v1219 hx hm=>cp (QbS hx) (ZM Qj.toD v1219 (re 1 ⟨kr,Qm (ru1 hm (Jv _) fun v1820 d hm=>gr 1 (bi hm fun v1823 hx hm=>cp (YX hx) (re 1 (Ql zf))))⟩))))))))))))))))))))))
def Y2 (x:(Qf × (List (List Qa)))):Option (List Qa) :=
 match x with
 | (p0,p1) =>
 idx p1 0>>=fun v1 =>
 idx p0.kids 0>>=fun v2 =>
 Xy (v1,v2.shape,p0.shape,p0.starts)>>=fun v3 =>
 some v3
theorem QaT {p0 p1 r0} (hm:Y2 (p0,p1)=some r0):FQ 67 [(Qf.ex p0),(.lst ((List.map (fun l=>Dat.lst ((List.map Qa.toD) l))) p1))] (QM r0):=by
 unfold Y2 at hm
 exact fp (fn:=f67) rfl (ge 2 (Qi (Yq (Qd 1 (bi hm fun v1 hx hm=>YY 1 (fun l=>Dat.lst ((List.map Qa.toD) l)) p1 0 v1 (es:=(List.map (fun l=>Dat.lst ((List.map Qa.toD) l))) p1) (d:=(.lst ((List.map Qa.toD) v1))) rfl hx rfl rfl (Qd 3 (bi hm fun v2 hx hm=>YY 8 Qf.toD p0.kids 0 v2 (es:=Qf.toDs p0.kids) (d:=(Qf.ex v2)) (Qf.toDs_eq _) hx (Qf.toD_eq v2) rfl (Qd 6 (bi hm fun v3 hx hm=>cp (Qbt hx) (re 1 ⟨kr,Ql zf⟩))))))))))
def Zy (x:(Int × Int × Int × Int × Int × (List Int) × Int × Int × Int × Int × (List Int) × Int)):Option (Int) :=
 match x with
 | (q0,q1,q2,q3,q4,q5,q6,q7,q8,q9,q10,q11) =>
 idx q10 q0>>=fun v1 =>
 idx q10 q0>>=fun v2 =>
 some (W (q11+(W (q1 * v2))))
theorem J5 {q0 q1 q2 q3 q4 q5 q6 q7 q8 q9 q10 q11 v5001} (hm:Zy (q0,q1,q2,q3,q4,q5,q6,q7,q8,q9,q10,q11)=some v5001):PC prog env 158 [(.ptr 8 0),(Qc q0),(Qc q1)] (YU q2 q3 q4 q5 q6 q7 q8 q0 q9 q10 q11 q10.length) (.tup []) (YU q2 q3 q4 q5 q6 q7 q8 q0 q9 q10 v5001 q10.length):=by
 unfold Zy at hm
 exact PC_sxB (fn:=f158) rfl (Yq (Qd 10 (bi hm fun v1 hx hm=>QD rfl (fun _=>Zo (e:=3) (n:=q0) (j:=(q0).toNat) (tt:=7) (g:=1) (lo:=0) (len:=q10.length) (cap:=q10.length) (k:=.i64) kr kr rfl kr kr (idx_nat hx) (Nat.lt_of_lt_of_eq (idx_lt hx) rfl)) (bi hm fun v2 hx hm=>QD rfl (fun _=>Xr (tt:=7) (g:=1) (j:=(0+(q0).toNat)) (e:=3) (cs:=cellsOf Qg q10) (v:=.dat (Qg v2)) kr kr rfl kr (Yd kr) (cells_idx Qg hx)) (re 5 ⟨kr,zf⟩)))))
def ZF (x:(Int × Int × Int × Int × Int × (List Int) × Int × Int × Int × (List Int) × Int)):Option (((List Int) × Int)) :=
 match x with
 | (q0,q1,q2,q3,q4,q5,q6,q7,q8,q9,q10) =>
 Zy (q0,(W (q1 - 1)),q2,q3,q4,q5,q6,q7,q8,q1,q9,q10)>>=fun v1 =>
 idx q9 q0>>=fun v2 =>
 idx q9 q0>>=fun v3 =>
 idx q9 q0>>=fun v4 =>
 setM q9 q0 (W (0 - v3))>>=fun v5 =>
 some (v5,v1)
theorem J7 {q0 q1 q2 q3 q4 q5 q6 q7 q8 q9 q10 v5001 v5002} (hm:ZF (q0,q1,q2,q3,q4,q5,q6,q7,q8,q9,q10)=some (v5001,v5002)):PC prog env 162 [(.ptr 8 0),(Qc q0),(Qc q1)] (YU q2 q3 q4 q5 q6 q7 q8 q0 q1 q9 q10 q9.length) (.tup []) (YU q2 q3 q4 q5 q6 q7 q8 q0 q1 v5001 v5002 q9.length):=by
 unfold ZF at hm
 exact PC_sxB (fn:=f162) rfl (gr 4 (bi hm fun v1 hx hm=>QR (J5 hx) (QP (Yq (Qd 10 (bi hm fun v2 hx hm=>QD rfl (fun _=>Zo (e:=3) (n:=q0) (j:=(q0).toNat) (tt:=7) (g:=1) (lo:=0) (len:=q9.length) (cap:=q9.length) (k:=.i64) kr kr rfl kr kr (idx_nat hx) (Nat.lt_of_lt_of_eq (idx_lt hx) rfl)) (bi hm fun v3 hx hm=>QD rfl (fun _=>Xr (tt:=7) (g:=1) (j:=(0+(q0).toNat)) (e:=3) (cs:=cellsOf Qg q9) (v:=.dat (Qg v3)) kr kr rfl kr (Yd kr) (cells_idx Qg hx)) (Qd 1 (bi hm fun v4 hx hm=>QD rfl (fun _=>Zo (e:=3) (n:=q0) (j:=(q0).toNat) (tt:=7) (g:=1) (lo:=0) (len:=q9.length) (cap:=q9.length) (k:=.i64) kr kr rfl kr kr (idx_nat hx) (Nat.lt_of_lt_of_eq (idx_lt hx) rfl)) (bi hm fun v5 hx hm=>Ym (fun H=>H.set 7 (QL v5)) rfl kr (fun _=>Qae Qg (l:=q9) (n:=q0) (y:=(W (0 - v3))) hx (fun _=>rfl) kr rfl kr kr kr kr) (QP ⟨kr,zf⟩)))))))))))
def Z9 (x:(Int × Int × Int × (List Int) × Int × Int × Int × Int × Int × (List Int) × Int)):Option (((List Int) × Int)) :=
 match x with
 | (q0,q1,q2,q3,q4,q5,q6,q7,q8,q9,q10) =>
 ZF (q7,q8,q0,q1,q2,q3,q4,q5,q6,q9,q10)>>=fun (v1,v2) =>
 some (v1,v2)
theorem QaC {q0 q1 q2 q3 q4 q5 q6 q7 q8 q9 q10 v5001 v5002} (hm:Z9 (q0,q1,q2,q3,q4,q5,q6,q7,q8,q9,q10)=some (v5001,v5002)):PC prog env 161 [(.ptr 8 0),(.ptr 1 0),(.ptr 2 0)] (YU q0 q1 q2 q3 q4 q5 q6 q7 q8 q9 q10 q9.length) (.tup []) (YU q0 q1 q2 q3 q4 q5 q6 q7 q8 v5001 v5002 q9.length):=by
 unfold Z9 at hm
 exact PC_sxB (fn:=f161) rfl (Yq (Qd 5 (bi2 hm fun v1 v2 hx hm=>QR (J7 hx) (QP ⟨kr,zf⟩))))
def Zk (x:(Int × Int × Int × (List Int) × Int × Int × Int × Int × Int × (List Int) × Int × Nat)):Option ((Int × Int × Int × Int × Int × Int)) :=
 match x with
 | (q0,q1,q2,q3,q4,q5,q6,q7,q8,q9,q10,q11) =>
 if q0=3 then
  some (q2,q10,q2,q10,q2,q10)
 else
 some (q10,q4,q10,q4,q10,q4)
theorem JW {q0 q1 q2 q3 q4 q5 q6 q7 q8 q9 q10 q11 v5001 v5002 v5003 v5004 v5005 v5006} (hm:Zk (q0,q1,q2,q3,q4,q5,q6,q7,q8,q9,q10,q11)=some (v5001,v5002,v5003,v5004,v5005,v5006)):PC prog env 193 [(.ptr 8 0)] (YU q0 q1 q2 q3 q4 q5 q6 q7 q8 q9 q10 q11) (.agg [(Qc q0),(Qc q1),(Qc v5005),(.ms 7 1 0 q11 q11),(Qc v5006),(Qc q5),(Qc q6)]) [(Qw q0 q1 q2 q3 q4 q5 q6),(.box [(Qc q7)]),(.box [(Qc q8)]),QS,(Qw q0 q1 q2 q3 q4 q5 q6),QS,(Qw q0 q1 q2 q3 q4 q5 q6),(QL q9),(X1 q10 q11 q0 q1 q2 q3 q4 q5 q6),(XX q0 q1 v5001 q11 v5002 q5 q6),(XX q0 q1 v5003 q11 v5004 q5 q6)]:=by
 unfold Zk at hm
 exact PC_sxB (fn:=f193) rfl (ge 1 (ge 6 (ge 7 (Qi (ge 3 (riq hm (fun hm=>R_G (re 7 (ge 2 (Ql zf)))) (fun hm=>R_G (re 7 (ge 2 (Ql zf))))))))))
def Yh (x:(Int × Int × Int × (List Int) × Int × Int × Int × Int × Int)):Option (Unit ⊕ ((List Int) × Int × Nat × Int × Int × Nat × Int × Nat × Int × Int × Nat × Int × Int × Nat × Int)) :=
 match x with
 | (q0,q1,q2,q3,q4,q5,q6,q7,q8) =>
 if q0=1 then
  some (Sum.inl ())
 else
 Z7 (q0,q1,q2,q3,q4,q5,q6,q7,q8)>>=fun (v1,v2) =>
 Z9 (q0,q1,q2,q3,q4,q5,q6,q7,q8,v1,v2)>>=fun (v3,v4) =>
 Zk (q0,q1,q2,q3,q4,q5,q6,q7,q8,v3,v4,v1.length)>>=fun (v5,v6,v7,v8,v9,v10) =>
 some (Sum.inr (v3,v9,v1.length,v10,v4,v1.length,v5,v1.length,v6,v7,v1.length,v8,v9,v1.length,v10))
theorem JU {q0 q1 q2 q3 q4 q5 q6 q7 q8 r} (hm:Yh (q0,q1,q2,q3,q4,q5,q6,q7,q8)=some r):PC prog env 156 [(XY q0 q1 q2 q3 q4 q5 q6),(.fn 161 [(.ptr 1 0),(.ptr 2 0)])] [(Qw q0 q1 q2 q3 q4 q5 q6),(.box [(Qc q7)]),(.box [(Qc q8)]),QS] (match r with|.inl _=>(XY q0 q1 q2 q3 q4 q5 q6)|.inr ((v5001,v5002,v5003,v5004,v5005,v5006,v5007,v5008,v5009,v5010,v5011,v5012,v5013,v5014,v5015))=>(.agg [(Qc q0),(Qc q1),(Qc v5013),(.ms 7 1 0 v5014 v5014),(Qc v5015),(Qc q5),(Qc q6)])) (match r with|.inl _=>(QbR q0 q1 q2 q3 q4 q5 q6 q7 q8)|.inr ((v5001,v5002,v5003,v5004,v5005,v5006,v5007,v5008,v5009,v5010,v5011,v5012,v5013,v5014,v5015))=>[(Qw q0 q1 q2 q3 q4 q5 q6),(.box [(Qc q7)]),(.box [(Qc q8)]),QS,(Qw q0 q1 q2 q3 q4 q5 q6),(XX q0 q1 v5002 v5003 v5004 q5 q6),(Qw q0 q1 q2 q3 q4 q5 q6),(QL v5001),(X1 v5005 v5006 q0 q1 q2 q3 q4 q5 q6),(XX q0 q1 v5007 v5008 v5009 q5 q6),(XX q0 q1 v5010 v5011 v5012 q5 q6)]):=by
 unfold Yh at hm
 exact PC_sxB (fn:=f156) rfl (ge 2 (Qi (ge 3 (riq hm (fun hm=>ge 2 (Ql zf)) (fun hm=>Qo (gr 1 (bi2 hm fun v1 v2 hx hm=>QR (J1 hx) (re 1 (gr 2 (bi2 hm fun v3 v4 hx hm=>QR (QaC hx) (QP (gr 1 (bi6 hm fun v5 v6 v7 v8 v9 v10 hx hm=>QR (JW hx) (re 1 (Ql zf)))))))))))))))
def Xi (x:(Qk × Int × Int)):Option Qk :=
 match x with
 | (p0,p1,p2) =>
 (
 Yh (p0.kind,p0.buffer,p0.base,p0.strides,p0.start,p0.step,p0.mod,p1,p2)>>=fun out =>
 match out with
 | .inl _ =>
  some p0
 | .inr ((v1,v2,v3,v4,v5,v6,v7,v8,v9,v10,v11,v12,v13,v14,v15)) =>
  ZE (v1.length=v14)>>=fun _ =>
  some (⟨p0.kind,p0.buffer,v13,v1,v15,p0.step,p0.mod⟩:Qk)
 )
theorem Qby {p0 p1 p2 r0} (hm:Xi (p0,p1,p2)=some r0):FQ 118 [(Qk.toD p0),(Qg p1),(Qg p2)] (.dat (Qk.toD r0)):=by
 unfold Xi at hm
 exact fp (fn:=f118) rfl (ge 4 (gr 2 (bs hm (fun _ hx hm=>QR (JU hx) (re 1 (Ql zf))) fun ⟨v1,v2,v3,v4,v5,v6,v7,v8,v9,v10,v11,v12,v13,v14,v15⟩ hx hm=>QR (JU hx) (re 1 (Ql (gi hm fun hl16 hm=>(by obtain rfl:=QaF hm; exact ⟨trivial,XK [(.agg [(Qc p0.kind),(Qc p0.buffer),(Qc v13),(.ms 7 1 0 v14 v14),(Qc v15),(Qc p0.step),(Qc p0.mod)])] kr (po_agg (pc_cons kr (pc_cons kr (pc_cons kr (pc_cons (pc_ms (e:=3) Qg v1 hl16 (fun _=>rfl) kr) (pc_cons kr (pc_cons kr (pc_cons kr pc_nil))))))))⟩)))))))
def Yk (x:(Int × Int × Int × (List Int) × (List Int) × Int × Int × Int × (List Int) × Int × Int × Int × (List Int) × (List Int) × Nat)):Option (Unit) :=
 match x with
 | (q0,q1,q2,q3,q4,q5,q6,q7,q8,q9,q10,q11,q12,q13,q14) =>
 some ()
theorem Qar {q0 q1 q2 q3 q4 q5 q6 q7 q8 q9 q10 q11 q12 q13 q14} (hm:Yk (q0,q1,q2,q3,q4,q5,q6,q7,q8,q9,q10,q11,q12,q13,q14)=some ()):PC prog env 117 [(Qc q0),(Qc q1),(.iptr [(Qg q2)])] [(.tok 62 q14),(Zw q3 q4 q5 q6 q7 q8 q9 q10 q11),(Zw q3 q4 q5 q6 q7 q8 q9 q10 q11),JN,(QL q12),(QL q13),(Qap q12.length q13.length)] (.tup [(Qc (W (q2 - q1))),(Qc (W (q2 - q0)))]) [(.tok 62 q14),(Zw q3 q4 q5 q6 q7 q8 q9 q10 q11),(Zw q3 q4 q5 q6 q7 q8 q9 q10 q11),JN,(QL q12),(QL q13),(Qap q12.length q13.length)]:=by
 unfold Yk at hm
 exact PC_sxB (fn:=f117) rfl (ge 2 (Qi (Yq (re 8 ⟨kr,Ql zf⟩))))
end Go.Proofs.Tryz
