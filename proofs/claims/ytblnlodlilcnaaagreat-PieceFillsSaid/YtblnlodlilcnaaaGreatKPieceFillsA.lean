/-
 Models of functions, their walks, and plain laws.
-/
import Derived.Test.YtblnlodlilcnaaaGreatPmSx
import Derived.Test.YtblnlodlilcnaaaGreatLay0
import Derived.Test.YtblnlodlilcnaaaGreatRows
import Derived.WalkKit
import Derived.WalkSpells
import Derived.Test.YtblnlodlilcnaaaGreatPmFx
import Derived.Test.YtblnlodlilcnaaaGreatProg
import Derived.Test.YtblnlodlilcnaaaGreatPmMap
import Derived.Test.YtblnlodlilcnaaaGreatPmPk
namespace Go.Proofs.Tryz
open Go Go.Pm
set_option linter.unusedVariables false
set_option linter.unusedSimpArgs false
set_option maxRecDepth 2000
def Sm (n:Nat):Prop:=n≤9223372036854775807
theorem Sm_of {n m:Nat} (h:n≤m) (hm:m≤9223372036854775807:=by decide):Sm n:=Nat.le_trans h hm
theorem idx_ok {α:Type} {l:List α} {j:Nat} (h:j < l.length):idx l (j:Int)=some l[j]:=by simp [idx,h]
theorem app_ok {α:Type} {b:Nat} {l es:List α} (h:(l.length+es.length) * b≤room):app b l es=some (l++es):=if_pos h
theorem W_ok {n:Int} (h1:-9223372036854775808≤n) (h2:n < 9223372036854775808):W n=n:=by
 simp only [W,IntKind.wrap,IntKind.bits,IntKind.signed]; simp; split <;> omega
theorem W_succ {j:Nat} (h:j < 9223372036854775807):W ((j:Int)+1)=((j+1:Nat):Int):=by rw [W_ok (by omega) (by omega)]; omega
section
variable {α:Type} {p s:List α} {x:α}
theorem Zq:((p.length:Int) < ((p++x::s).length:Int)):=by simp; omega
theorem ZP:¬ ((p.length:Int) < ((p++([]:List α)).length:Int)):=by simp
theorem QB:idx (p++x::s) (p.length:Int)=some x:=by simp [idx]
theorem Qu:p++x::s=(p++[x])++s:=by simp
theorem mid_W (hs:Sm (p++x::s).length):W ((p.length:Int)+1)=((p++[x]).length:Int):=by
 unfold Sm at hs
 rw [W_ok (by omega) (by simp at hs; omega)]; simp
end
theorem Qj {α β:Type} (a:α) (f:α→Option β):(some a>>=f)=f a:=rfl
open Go Go.RowKit Go.Sort
def cmpL:List Int→List Int→Int
 | [],[]=>0
 | [],_::_=>-1
 | _::_,[]=>1
 | x::a,y::b=>if x < y then -1 else if y < x then 1 else cmpL a b
theorem wrap_one {j n:Nat} (h:j < n) (hn:n≤1000000):wrap64 ((j:Int)+1)=((j+1:Nat):Int):=by
 unfold wrap64; omega
def cmpI (x y:Int):Int:=if x < y then -1 else if y < x then 1 else 0
set_option maxHeartbeats 1600000 in
set_option maxRecDepth 1000000 in
theorem cmp_int (x y:Int) (w:World):Calls prog 96 #[.int .i64 x,.int .i64 y] w fun e w'=>e=.returned (.int .i64 (cmpI x y))∧w'=w:=by
 go_enter func96,ntmps96
 go_wp2
 all_goals (go_ret; exact ⟨by rw [cmpI]; first|rw [if_pos (by omega)]; rfl|rw [if_neg (by omega),if_pos (by omega)]; rfl|rw [if_neg (by omega),if_neg (by omega)]; rfl,rfl⟩)
theorem cmpL_at (a b:List Int):∀ i (ha:i < a.length) (hb:i < b.length),cmpL (a.drop i) (b.drop i)=if cmpI a[i] b[i]=0 then cmpL (a.drop (i+1)) (b.drop (i+1)) else cmpI a[i] b[i]:=fun i ha hb=>by
 rw [List.drop_eq_getElem_cons ha,List.drop_eq_getElem_cons hb,cmpL]
 unfold cmpI
 by_cases h1:a[i] < b[i]
 ·simp [h1]
 ·by_cases h2:b[i] < a[i]
  ·simp [h1,h2]
  ·simp [h1,h2]
def IntsAt (w:World) (v:Value) (a:List Int):Prop:=(a=[]∧∃ ad c,v=.slice ad 0 c)∨∃ b off c,v=.slice (some ⟨b,off,none⟩) a.length c∧∀ j (h:j < a.length),w.cell? ⟨b,off+j,none⟩=some (.int .i64 a[j])
theorem IntsAt.sl {w:World} {v:Value} {a:List Int} (h:IntsAt w v a):∃ ad c,v=.slice ad a.length c∧∀ j (h:j < a.length),∃ b off,ad=some ⟨b,off,none⟩∧w.cell? ⟨b,off+j,none⟩=some (.int .i64 a[j]):=by
 rcases h with ⟨rfl,ad,c,rfl⟩|⟨b,off,c,rfl,h⟩
 ·exact ⟨ad,c,rfl,fun j h=>absurd h (Nat.not_lt_zero _)⟩
 ·exact ⟨_,c,rfl,fun j hj=>⟨b,off,rfl,h j hj⟩⟩
set_option maxHeartbeats 1600000 in
set_option maxRecDepth 1000000 in
theorem cmp_lists (a b:List Int) (u v:Value) (w:World) (hu:IntsAt w u a) (hv:IntsAt w v b) (hl:a.length≤1000000):Calls prog 77 #[u,v] w fun e w'=>e=.returned (.int .i64 (cmpL a b))∧w'=w:=by
 obtain ⟨ua,uc,rfl,hU⟩:=hu.sl
 obtain ⟨va,vc,rfl,hV⟩:=hv.sl
 have hcmp:=fun x y=>cmp_int x y w
 have HU:Hid (∀ j (h:j < a.length),∃ b off,ua=some ⟨b,off,none⟩∧w.cell? ⟨b,off+j,none⟩=some (.int .i64 a[j])):=hU
 have HV:Hid (∀ j (h:j < b.length),∃ b' off,va=some ⟨b',off,none⟩∧w.cell? ⟨b',off+j,none⟩=some (.int .i64 b[j])):=hV
 have HL:Hid (a.length≤1000000):=hl
 clear hU hV hu hv hl
 go_enter func77,ntmps77
 go_wp2_with fail
 go_loopw [11] (fun i wr=>∃ j:Nat,j≤a.length∧j≤b.length∧i=.int .i64 j∧wr=w∧cmpL (a.drop j) (b.drop j)=cmpL a b) (fun i _=>a.length - (Lib.intOf i).toNat)
 case atStart=>exact ⟨0,Nat.zero_le _,Nat.zero_le _,rfl,rfl,rfl⟩
 case round =>
  obtain ⟨j,hj,hjb,rfl,rfl,hcm⟩:=hrel
  have HCM:Hid (cmpL (a.drop j) (b.drop j)=cmpL a b):=hcm
  clear hcm
  by_cases hlt:j < a.length
  ·obtain ⟨ub,uo,rfl,hx⟩:=HU.out j hlt
   by_cases hltb:j < b.length
   ·obtain ⟨vb,vo,rfl,hy⟩:=HV.out j hltb
    have hnb:¬ b.length≤j:=by omega
    have HAT:=cmpL_at a b j hlt hltb
    rw [HCM.out] at HAT
    have HAT:=@id (Hid _) HAT
    generalize a[j]=x at *
    generalize b[j]=y at *
    go_wp2_with (go_at_call 96; refine (hcmp _ _).mono ?_; rintro e w' ⟨rfl,rfl⟩)
    ·rename_i hne
     go_ret
     exact ⟨by rw [HAT.out,if_neg (by simpa using hne)]; rfl,rfl⟩
    ·rename_i heq
     have hw:=wrap_one hlt HL.out
     have hm:a.length - (j+1) < a.length - j:=Nat.sub_lt_sub_left hlt (Nat.lt_succ_self j)
     refine ⟨⟨j+1,hlt,hltb,by rw [hw],trivial,?_⟩,by rw [hw]; exact hm⟩
     rw [HAT.out,if_pos (by simpa using heq)]
   ·have hnb:b.length≤j:=by omega
    go_wp2_with fail
    go_ret
    refine ⟨?_,rfl⟩
    rw [← HCM.out,List.drop_eq_getElem_cons hlt,List.drop_of_length_le hnb]
    rfl
  ·have hja:j=a.length:=by omega
   subst hja
   by_cases hltb:a.length < b.length
   ·go_wp2_with fail
    go_ret
    refine ⟨?_,rfl⟩
    rw [← HCM.out,List.drop_of_length_le (Nat.le_refl _),List.drop_eq_getElem_cons hltb]
    rfl
   ·go_wp2_with fail
    go_ret
    refine ⟨?_,rfl⟩
    rw [← HCM.out,List.drop_of_length_le (Nat.le_refl _),List.drop_of_length_le (by omega)]
    rfl
open Go Go.RowKit Go.Sort Go.Proofs
theorem IntsAt.alloc {w:World} {v:Value} {a:List Int} (h:IntsAt w v a) (o:Obj):IntsAt (w.alloc o) v a:=by
 rcases h with ⟨rfl,ad,c,rfl⟩|⟨b,off,c,rfl,h⟩
 ·exact .inl ⟨rfl,ad,c,rfl⟩
 ·exact .inr ⟨b,off,c,rfl,fun j hj=>Lib.cell?_alloc_some _ (h j hj)⟩
set_option maxHeartbeats 1600000 in
set_option maxRecDepth 1000000 in
theorem before_at (A B:List Int) (a0 a1 a2 a3 a4 a5 a6 a7 a8 b0 b1 b2 b3 b4 b5 b6 b7 b8:Value) (w:World) (hA:IntsAt w a0 A) (hB:IntsAt w b0 B) (hl:A.length≤1000000) :
  Calls prog 46 #[.agg #[a0,a1,a2,a3,a4,a5,a6,a7,a8],.agg #[b0,b1,b2,b3,b4,b5,b6,b7,b8]] w fun e w'=>e=.returned (.int .i64 (cmpL A B))∧∃ q os',w'=grow (w.drewN q) os':=by
 have hcon:=fun o o'=>cmp_lists A B a0 b0 ((w.alloc o).alloc o') ((hA.alloc _).alloc _) ((hB.alloc _).alloc _) hl
 obtain ⟨aa,ac,rfl,_⟩:=hA.sl
 obtain ⟨ba,bc,rfl,_⟩:=hB.sl
 clear hA hB hl
 generalize cmpL A B=r at hcon ⊢
 go_enter func46,ntmps46
 go_wp2_with (go_at_call 77; refine (hcon _ _).mono ?_; rintro e w' ⟨rfl,rfl⟩)
 go_ret
 exact ⟨rfl,0,_,by rw [alloc_eq_grow,alloc_eq_grow,grow_grow]; rfl⟩
open Go Go.RowKit Go.Sort Go.Proofs Go.Pm
theorem cmpL_self:∀ a:List Int,cmpL a a=0
 | []=>rfl
 | x::a=>by rw [cmpL,if_neg (by omega),if_neg (by omega),cmpL_self a]
theorem cmpL_trans:∀ {a b c:List Int},cmpL a b < 0→cmpL b c < 0→cmpL a c < 0
 | a,b,[],h1,h2=>by cases b <;> simp [cmpL] at h2
 | [],b,z::c,h1,h2=>by simp [cmpL]
 | x::a,[],z::c,h1,h2=>by simp [cmpL] at h1
 | x::a,y::b,z::c,h1,h2=>by
  simp only [cmpL] at h1 h2 ⊢
  split at h1
  ·split at h2
   ·rw [if_pos (by omega)]; decide
   ·split at h2
    ·omega
    ·rw [if_pos (by omega)]; decide
  ·split at h1
   ·omega
   ·split at h2
    ·rw [if_pos (by omega)]; decide
    ·split at h2
     ·omega
     ·rw [if_neg (by omega),if_neg (by omega)]; exact cmpL_trans h1 h2
theorem cmpL_ntrans:∀ {a b c:List Int},¬ cmpL a b < 0→¬ cmpL b c < 0→¬ cmpL a c < 0
 | [],b,[],h1,h2=>by simp [cmpL]
 | x::a,b,[],h1,h2=>by simp [cmpL]
 | [],[],z::c,h1,h2=>by simp [cmpL] at h2
 | [],y::b,z::c,h1,h2=>by simp [cmpL] at h1
 | x::a,[],z::c,h1,h2=>by simp [cmpL] at h2
 | x::a,y::b,z::c,h1,h2=>by
  simp only [cmpL] at h1 h2 ⊢
  split at h1
  ·exact absurd (show (-1:Int) < 0 by decide) h1
  ·split at h2
   ·exact absurd (show (-1:Int) < 0 by decide) h2
   ·rw [if_neg (by omega)]
    split at h1
    ·rw [if_pos (by omega)]; decide
    ·split at h2
     ·rw [if_pos (by omega)]; decide
     ·rw [if_neg (by omega)]; exact cmpL_ntrans h1 h2
def intOfD:Dat→Int
 | .raw (.int .i64 n)=>n
 | _=>0
def isI:Dat→Bool
 | .raw (.int .i64 _)=>true
 | _=>false
def keyD:Dat→List Int
 | .agg (.lst es::_)=>es.map intOfD
 | _=>[]
def okD:Dat→Bool
 | .agg (.lst es::r)=>decide (es.length≤1000000) && es.all isI && Dat.fits 9 (.agg (.lst es::r))
 | _=>false
def insD (x:Dat):List Dat→List Dat
 | []=>[x]
 | y::l=>if cmpL (keyD y) (keyD x) < 0 then y::insD x l else x::y::l
def sortD (l:List Dat):List Dat:=l.foldr insD []
def strictD:List Dat→Bool
 | a::b::l=>decide (cmpL (keyD a) (keyD b) < 0) && strictD (b::l)
 | _=>true
theorem insD_perm (x:Dat):∀ l,(insD x l).Perm (x::l)
 | []=>.refl _
 | y::l=>by
  rw [insD]
  split
  ·exact ((insD_perm x l).cons y).trans (.swap x y l)
  ·exact .refl _
theorem sortD_perm:∀ l,(sortD l).Perm l
 | []=>.refl _
 | x::l=>(insD_perm x (sortD l)).trans ((sortD_perm l).cons x)
theorem strict_pair:∀ {l:List Dat},strictD l=true→l.Pairwise fun a b=>cmpL (keyD a) (keyD b) < 0
 | [],_=>.nil
 | [a],_=>by simp
 | a::b::l,h=>by
  simp only [strictD,Bool.and_eq_true,decide_eq_true_eq] at h
  have ih:=strict_pair h.2
  refine List.pairwise_cons.2 ⟨fun c hc=>?_,ih⟩
  rcases List.mem_cons.1 hc with rfl|hc
  ·exact h.1
  ·exact cmpL_trans h.1 ((List.pairwise_cons.1 ih).1 c hc)
theorem sorted_only {α:Type} (lt:α→α→Prop) (irr:∀ a,¬ lt a a):∀ {l m:List α},l.Perm m→l.Pairwise lt→m.Pairwise (fun a b=>¬ lt b a)→l=m
 | [],m,hp,_,_=>hp.nil_eq
 | a::l,[],hp,_,_=>(List.cons_ne_nil _ _ (List.perm_nil.1 hp)).elim
 | a::l,b::m,hp,hl,hm=>by
  have hl':=List.pairwise_cons.1 hl
  have hm':=List.pairwise_cons.1 hm
  have e:a=b:=by
   rcases List.mem_cons.1 (hp.mem_iff.1 (List.mem_cons_self ..)) with e|h1
   ·exact e
   ·rcases List.mem_cons.1 (hp.mem_iff.2 (List.mem_cons_self ..)) with e|h2
    ·exact e.symm
    ·exact absurd (hl'.1 b h2) (hm'.1 a h1)
  subst e
  rw [sorted_only lt irr hp.cons_inv hl'.2 hm'.2]
open Go Go.RowKit Go.Sort Go.Proofs Go.Pm Go.Shelf
set_option maxHeartbeats 1600000 in
set_option maxRecDepth 1000000 in
theorem ins_empty (ad:Option Addr) (c:Nat) (f:Value) (w:World):Calls prog 103 #[.slice ad 0 c,.int .i64 0,.int .i64 0,f] w fun e w'=>e=.returned (.tuple #[])∧w'=w:=by
 go_enter func103,ntmps103
 go_wp2_with fail
 go_loopw [8] (fun i wr=>i=.int .i64 1∧wr=w) (fun _ _=>0)
 case atStart=>exact ⟨rfl,rfl⟩
 case round =>
  obtain ⟨rfl,rfl⟩:=hrel
  go_wp2_with fail
  go_end0
  exact ⟨rfl,rfl⟩
set_option maxHeartbeats 1600000 in
set_option maxRecDepth 1000000 in
theorem sort_empty (ad:Option Addr) (c:Nat) (w:World):Calls prog 55 #[.slice ad 0 c,.func (.func 46) #[] #[]] w fun e w'=>e=.returned (.tuple #[])∧w'=w:=by
 have hl:Calls prog 85 #[.int .u64 0] w fun e w'=>e=.returned (.int .i64 0)∧w'=w :=
  Any.bits_Len (SlLaysF0.n15.bits (P:=prog) (ρ:=sortP_ren) { Tryz.sortP with }) 0 w (by omega) (by omega)
 have hi:=fun f=>ins_empty ad c f w
 have hp:∀ f,Calls prog 84 #[.slice ad 0 c,.int .i64 0,.int .i64 0,.int .i64 0,f] w fun e w'=>e=.returned (.tuple #[])∧w'=w:=fun f=>by
  clear hl
  go_enter func84,ntmps84
  go_wp2_with fail
  go_loopw [1,2,3] (fun a b l wr=>a=.int .i64 0∧b=.int .i64 0∧wr=w) (fun _ _ _ _=>0)
  case atStart=>exact ⟨rfl,rfl,rfl⟩
  case round =>
   obtain ⟨rfl,rfl,rfl⟩:=hrel
   go_wp2_with (go_at_call 103; refine (hi _).mono ?_; rintro e w' ⟨rfl,rfl⟩)
   refine bodyPost_ret (results_none rfl _ _ _) rfl ?_
   exact ⟨rfl,rfl⟩
 clear hi
 go_enter func55,ntmps55
 go_wp2_with (first|(go_at_call 85; refine hl.mono ?_; rintro e w' ⟨rfl,rfl⟩)|(go_at_call 84; refine (hp _).mono ?_; rintro e w' ⟨rfl,rfl⟩))
 go_end0
 exact ⟨rfl,rfl⟩
theorem good_late {P:Program} {B0:Nat} {w0:World} {S0:Nat→Nat→Prop} {H H':List Blk} {g g':Gh} {w w1 w2:World} {p:PV} {v:Value} (h:Pm.Good P B0 w0 S0 H g w p H' v g' w1) (ho:w2.os=w1.os) (ht:w2.tape=w1.tape) (hu:w2.output=w1.output)
  (hs:w1.heap.size≤w2.heap.size) (hb:∀ b,b < w1.heap.size→w2.heap[b]? = w1.heap[b]?):Pm.Good P B0 w0 S0 H g w p H' v g' w2:=by
 have he:∀ N,Ext N g' w1 g' w2:=fun N=>⟨fun _ _ h=>h,fun b o hs=>World.cell?_of_block (w:=w1) (hb b (h.inv.lt b o hs)),fun _ _ h=>⟨rfl,h⟩,fun _ _ v n h=>⟨v,n,h,Nat.le_refl _,fun _=>rfl⟩⟩
 exact ⟨h.ext.trans (he H.length) (Nat.le_refl _),h.len,h.rep.ext (he _) (Nat.le_refl _),h.heap.keep (he _) (Nat.le_refl _) (Nat.le_refl _) (fun i b hi=>hb b (h.heap.occ_lt hi).2.1) (fun _ _ _ _ h=>h) (fun _ _=>rfl),
  ⟨h.inv.below.trans ⟨ho,ht,hu,hs,fun k hk=>hb k (Nat.lt_of_lt_of_le hk h.inv.size)⟩,Nat.le_trans h.inv.size hs,h.inv.old,fun b o hs'=>Nat.lt_of_lt_of_le (h.inv.lt b o hs') hs⟩,
  h.fr.trans ⟨hs,fun b hb' _=>hb b hb',fun i b hi _=>⟨i,hi⟩,fun _ _ h=>.inl h⟩⟩
theorem cell_of {w:World} {g:Nat} {cur:Array Value} {e:TypeId} (h:w.heap[g]? = some (.cells cur e (0,0))) (j:Nat):w.cell? ⟨g,j,none⟩=cur[j]?∧w.frozen? ⟨g,j,none⟩=false:=by
 constructor
 ·simp [World.cell?,h]
 ·simp [World.frozen?,h]
def cellAt (cur:Array Value) (n i j:Nat):Value:=cur[(if i < n then i else 0) * 9+j]!
def encP (cur:Array Value) (n i:Nat):List Value:=[cellAt cur n i 0,cellAt cur n i 1,cellAt cur n i 2,cellAt cur n i 3,cellAt cur n i 4,cellAt cur n i 5,cellAt cur n i 6,cellAt cur n i 7,cellAt cur n i 8]
theorem encP_get (cur:Array Value) (n i:Nat):∀ j,j < 9→(encP cur n i)[j]! = cellAt cur n i j
 | 0,_=>rfl|1,_=>rfl|2,_=>rfl|3,_=>rfl|4,_=>rfl|5,_=>rfl|6,_=>rfl|7,_=>rfl|8,_=>rfl
 | j+9,h=>by omega
theorem encP_mem {cur:Array Value} {n i:Nat} {v:Value} (h:v∈encP cur n i):∃ j,j < 9∧v=cellAt cur n i j:=by
 simp only [encP,List.mem_cons,List.not_mem_nil,or_false] at h
 rcases h with h|h|h|h|h|h|h|h|h
 ·exact ⟨0,by decide,h⟩
 ·exact ⟨1,by decide,h⟩
 ·exact ⟨2,by decide,h⟩
 ·exact ⟨3,by decide,h⟩
 ·exact ⟨4,by decide,h⟩
 ·exact ⟨5,by decide,h⟩
 ·exact ⟨6,by decide,h⟩
 ·exact ⟨7,by decide,h⟩
 ·exact ⟨8,by decide,h⟩
theorem cellAt_get {cur:Array Value} {n i j:Nat} (hi:i < n) (hj:j < 9) (hn:n * 9≤cur.size):cur[i * 9+j]? = some (cellAt cur n i j):=by
 have:i * 9+j < cur.size:=by omega
 rw [cellAt,if_pos hi,getElem!_pos cur _ this,Array.getElem?_eq_getElem this]
theorem range_get {n i:Nat} (h:i < n):(Array.range n)[i]! = i:=by
 rw [getElem!_pos _ _ (by simpa using h)]; simp
theorem holdsP {w:World} {b n:Nat} {cur:Array Value} (hb:w.heap[b]? = some (.cells cur 49 (0,0))) (hn:n * 9≤cur.size):HoldsK (encP cur n) 9 w b 0 (Array.range n):=by
 intro t ht
 simp only [size_flatK,Array.size_range] at ht
 have h1:t / 9 < n:=by omega
 have h2:t % 9 < 9:=Nat.mod_lt _ (by decide)
 have hg:=get_flatK (encP cur n) 9 (Array.range n) t (by simpa using ht)
 rw [range_get h1,encP_get cur n _ _ h2] at hg
 rw [Nat.zero_add,hg]
 refine ⟨?_,(cell_of hb t).2⟩
 rw [(cell_of hb t).1,show t=t / 9 * 9+t % 9 by omega,cellAt_get h1 h2 hn]
 congr 2 <;> omega
theorem swoK (K:Nat→List Int):SWO (ltOf fun x y=>cmpL (K x) (K y)):=by
 refine ⟨fun x=>by simp [ltOf,cmpL_self],fun x y z h1 h2=>?_,fun x y z h1 h2=>?_⟩
 ·simp only [ltOf,decide_eq_true_eq] at *; exact cmpL_trans h1 h2
 ·simp only [ltOf,decide_eq_false_iff_not] at *; exact cmpL_ntrans h1 h2
theorem rep_raw {w:World} {S:Nat→Nat→Prop} {v x:Value} (h:RepD w S v (.raw x)):v=x:=by cases h; rfl
theorem isI_eq {d:Dat} (h:isI d=true):d=.raw (.int .i64 (intOfD d)):=by
 unfold isI at h
 split at h
 ·rfl
 ·cases h
theorem rep_ints {w:World} {S:Nat→Nat→Prop} {v:Value} {es:List Dat} (h:RepD w S v (.lst es)) (hI:es.all isI=true):IntsAt w v (es.map intOfD):=by
 cases h with
 | nil=>exact .inl ⟨rfl,_,_,rfl⟩
 | empty a cap=>exact .inl ⟨rfl,_,_,rfl⟩
 | lst b off len cap k es c h1 h1' h2 h3 h4 =>
  refine .inr ⟨b,off,cap,by rw [h1,List.length_map],fun j hj=>?_⟩
  simp only [List.length_map] at hj
  have hd:=isI_eq (List.all_eq_true.1 hI es[j] (List.getElem_mem hj))
  have hk:k=1:=by rw [← h2 es[j] (List.getElem_mem hj),hd]; rfl
  subst hk
  rw [(h3 j (by omega)).1]
  have:=h4 j 0 es[j] (.raw (.int .i64 (intOfD es[j]))) (List.getElem?_eq_getElem hj) (by rw [hd]; rfl)
  rw [Nat.mul_one,Nat.add_zero] at this
  rw [rep_raw this]; simp
theorem map_set {w:World} {b:Nat} {cur:Array Value} {ty:TypeId} {fz:Nat × Nat} (hb:w.heap[b]? = some (.cells cur ty fz)) (f:Array Value→Array Value):mapBlock w b f=w.setRow b (f cur):=by
 unfold mapBlock World.setRow
 congr 1
 apply Array.ext_getElem?
 intro i
 simp only [Array.getElem?_modify]
 by_cases h:b=i
 ·subst h
  rw [if_pos rfl,if_pos rfl,hb]; rfl
 ·rw [if_neg h,if_neg h]
def dO:Dat:=.raw undef
theorem ok_cells {d:Dat} (h:okD d=true):∃ es r,d=.agg (.lst es::r)∧es.length≤1000000∧es.all isI=true∧Dat.fits 9 d=true:=by
 unfold okD at h
 split at h
 ·simp only [Bool.and_eq_true,decide_eq_true_eq] at h
  exact ⟨_,_,rfl,h.1.1,h.1.2,h.2⟩
 ·cases h
theorem perm_list {n:Nat} {d':Array Nat} (h:PermIn 0 n (Array.range n) d'):d'.toList.Perm (List.range n):=by
 obtain ⟨h1,_,h3⟩:=h
 simp only [Array.size_range] at h1
 have e1:d'.extract 0 n=d':=by rw [← h1]; simp
 have e2:(Array.range n).extract 0 n=Array.range n:=by
  simp
 rw [e1,e2,Array.toList_range] at h3
 exact h3
theorem sorted_list {n:Nat} {d':Array Nat} {ds:List Dat} (hn:n=ds.length) (hp:PermIn 0 n (Array.range n) d') (hs:SortedIn (ltOf fun x y=>cmpL (keyD (ds.getD (if x < n then x else 0) dO)) (keyD (ds.getD (if y < n then y else 0) dO))) 0 n d') (hst:strictD (sortD ds)=true) :
  d'.toList.map (fun x=>ds.getD x dO)=sortD ds:=by
 have hl:=perm_list hp
 have hds:(List.range n).map (fun x=>ds.getD x dO)=ds:=by
  subst hn
  apply List.ext_getElem
  ·simp
  ·intro i h1 h2
   simp [List.getD_eq_getElem?_getD,h2]
 have hsz:d'.size=n:=by have:=hp.1; simpa using this
 have hmem:∀ x∈d'.toList,x < n:=fun x hx=>by simpa using hl.mem_iff.1 hx
 refine (sorted_only (fun a b=>cmpL (keyD a) (keyD b) < 0) (fun a=>by simp [cmpL_self]) ((sortD_perm ds).trans ?_) (strict_pair hst) ?_).symm
 ·have:=(hl.map fun x=>ds.getD x dO).symm
  rwa [hds] at this
 ·rw [List.pairwise_map,List.pairwise_iff_getElem]
  intro i j hi hj hij
  simp only [Array.length_toList] at hi hj
  have:=hs i j (Nat.zero_le _) hij (by omega)
  rw [getElem!_pos d' j hj,getElem!_pos d' i hi] at this
  simp only [ltOf,decide_eq_false_iff_not] at this
  rw [if_pos (hmem _ (Array.getElem_mem_toList hj)),if_pos (hmem _ (Array.getElem_mem_toList hi))] at this
  simpa using this
theorem sort_row {w:World} {S:Nat→Nat→Prop} {b n cap:Nat} {cur:Array Value} {ds:List Dat} (hb:w.heap[b]? = some (.cells cur 49 (0,0))) (hn:n=ds.length) (hcur:n * 9≤cur.size) (h0:0 < n) (hm:n≤1000000)
  (hok:ds.all okD=true) (hS:∀ b' o,S b' o→b'≠b∧b' < w.heap.size) (q8:RowD w S 9 ds cur) (hst:strictD (sortD ds)=true) :
  Calls prog 55 #[.slice (some ⟨b,0,none⟩) n cap,.func (.func 46) #[] #[]] w fun e w'=>e=.returned (.tuple #[])∧∃ new m os,new.size=cur.size∧w'=grow (Sort.ahead (w.setRow b new) m) os∧RowD w S 9 (sortD ds) new:=by
 have eg:∀ args w,(callFunc 46 args).run prog w=.ok (.enter 46 args) w:=enters_of func46 (by kernel_rfl) rfl
 have hblk:b < w.heap.size:=(Array.getElem?_eq_some_iff.1 hb).1
 have hI:∀ x,(if x < n then x else 0) < ds.length:=fun x=>by split <;> omega
 have hgd:∀ x,ds[if x < n then x else 0]? = some (ds.getD (if x < n then x else 0) dO):=fun x=>by
  rw [List.getD_eq_getElem?_getD,List.getElem?_eq_getElem (hI x)]; rfl
 have hokx:∀ x,okD (ds.getD (if x < n then x else 0) dO)=true:=fun x=>List.all_eq_true.1 hok _ (List.mem_of_getElem? (hgd x))
 have hcell:∀ x j u,(ds.getD (if x < n then x else 0) dO).cells[j]? = some u→j < 9→RepD w S (cellAt cur n x j) u:=fun x j u hu hj=>by
  have hlt:(if x < n then x else 0) * 9+j < cur.size:=by have:=hI x; omega
  refine q8 _ j _ u _ (hgd x) hu ?_
  rw [cellAt,getElem!_pos cur _ hlt,Array.getElem?_eq_getElem hlt]
 have h1:∀ x,∀ v∈encP cur n x,v.oneCell'=true:=fun x v hv=>by
  obtain ⟨j,hj,rfl⟩:=encP_mem hv
  obtain ⟨es,r,he,_,_,hf⟩:=ok_cells (hokx x)
  simp only [Dat.fits,Bool.and_eq_true,beq_iff_eq] at hf
  have hlen:j < (ds.getD (if x < n then x else 0) dO).cells.length:=by rw [← Dat.num_eq,hf.1]; exact hj
  have hu:=List.getElem?_eq_getElem hlen
  have hc:=List.all_eq_true.1 hf.2 _ (List.getElem_mem hlen)
  have hr:=hcell x j _ hu hj
  exact one_of_cell (g:=⟨fun _=>0,fun _=>False,fun _=>none,S⟩) (N:=0) (.dat _ _ hr) (by
   generalize (ds.getD (if x < n then x else 0) dO).cells[j]=u at hc
   cases u <;> first|rfl|(simp [Dat.isCell] at hc))
 have hcmp:CmpLays prog 46 #[] (encP cur n) 9 (fun x y=>cmpL (keyD (ds.getD (if x < n then x else 0) dO)) (keyD (ds.getD (if y < n then y else 0) dO))) b 0 n w:=fun m os dk hdk x y=>by
  have key:∀ x,IntsAt (sortWorldK (encP cur n) 9 w b 0 m dk os) (cellAt cur n x 0) (keyD (ds.getD (if x < n then x else 0) dO))∧(keyD (ds.getD (if x < n then x else 0) dO)).length≤1000000:=fun x=>by
   obtain ⟨es,r,he,hl,hi,_⟩:=ok_cells (hokx x)
   have hr:=hcell x 0 (.lst es) (by rw [he]; rfl) (by decide)
   have hr':RepD (sortWorldK (encP cur n) 9 w b 0 m dk os) S (cellAt cur n x 0) (.lst es):=hr.mono (fun _ _ h=>h) fun b' o hs=>by
    obtain ⟨s1,s2⟩:=hS b' o hs
    unfold sortWorldK
    rw [cell?_grow _ _ _ (by show b' < (putRow _ _ _ _ _).heap.size; rw [size_putRow]; exact s2),cell?_putRowK_other _ _ _ _ _ _ _ s1]
    rfl
   have:=rep_ints hr' hi
   have hk:keyD (ds.getD (if x < n then x else 0) dO)=es.map intOfD:=by rw [he]; rfl
   rw [hk]
   exact ⟨this,by simpa using hl⟩
  exact before_at _ _ _ _ _ _ _ _ _ _ _ _ _ _ _ _ _ _ _ _ _ (key x).1 (key y).1 (key x).2
 have hcon:=AnyQ.slices_SortFunc Tryz.sortP 9 isAgg49 sizeOf49 (encP cur n) (fun _=>rfl) h1 _ (swoK fun x=>keyD (ds.getD (if x < n then x else 0) dO)) 46 #[] b 0 cap (Array.range n) w eg (by rw [Array.size_range]; exact hcmp) (holdsP hb hcur) hblk (by rw [Array.size_range]; omega)
 rw [Array.size_range] at hcon
 change Calls prog 55 _ _ _ at hcon
 refine hcon.mono ?_
 rintro e w' ⟨rfl,d',m,os,hp,hs,rfl⟩
 have hL:=sorted_list hn hp hs hst
 have hsz:d'.size=n:=by have:=hp.1; simpa using this
 refine ⟨rfl,putCells id 0 (flatK (encP cur n) 9 d') cur,m,os,by simp [putCells],?_,?_⟩
 ·unfold sortWorldK putRowK
  rw [putRow_ahead,putRow,map_set hb]
 ·intro i j d u v g1 g2 g3
  rw [← hL,List.getElem?_map,Option.map_eq_some_iff] at g1
  obtain ⟨x,hx,rfl⟩:=g1
  have hxn:x < n:=by simpa using (perm_list hp).mem_iff.1 (List.mem_of_getElem? hx)
  have hi:i < n:=by have:=(List.getElem?_eq_some_iff.1 hx).1; simp at this; omega
  have hxd:d'[i]! = x:=by
   have:=(List.getElem?_eq_some_iff.1 hx).2
   rw [getElem!_pos d' i (by omega)]; simpa using this
  have hox:=hokx x
  rw [if_pos hxn] at hox
  obtain ⟨es,r,he,_,_,hf⟩:=ok_cells hox
  simp only [Dat.fits,Bool.and_eq_true,beq_iff_eq] at hf
  have hj:j < 9:=by rw [← hf.1,Dat.num_eq]; exact (List.getElem?_eq_some_iff.1 g2).1
  have ht:i * 9+j < (flatK (encP cur n) 9 d').size:=by rw [size_flatK]; omega
  have hlt:i * 9+j < cur.size:=by omega
  have hv:v=cellAt cur n x j:=by
   simp only [putCells,Array.getElem?_mapIdx,Array.getElem?_eq_getElem hlt,Option.map_some,Option.some.injEq] at g3
   rw [if_pos ⟨Nat.zero_le _,by omega⟩,Nat.sub_zero,get_flatK _ _ _ _ (by rw [← size_flatK (encP cur n) 9 d']; exact ht),show (i * 9+j) / 9=i by omega,show (i * 9+j) % 9=j by omega,hxd,encP_get _ _ _ _ hj] at g3
   exact g3.symm
  rw [hv]
  have:=hcell x j u
  rw [if_pos hxn] at this
  exact this g2 hj
def sortG (args:List PV) (H:List Blk):Option (PV × List Blk) :=
 match args,H with
 | [.ms 0 gg 0 len _,.dat (.raw (.func (.func 46) fx cx))],[.mt e g' cs]=>match allDat cs with
  | some ds=>if (fx.size=0∧cx.size=0∧g'=gg∧e=49)∧len=ds.length∧len≤1000000∧ds.all okD=true∧strictD (sortD ds)=true then some (.tup [],[.mt e gg ((sortD ds).map .dat)]) else none
  | none=>none
 | _,_=>none
theorem size49:szOf prog 49=some 9:=by kernel_rfl
theorem dat_inj:∀ {a b:List Dat},a.map PV.dat=b.map PV.dat→a=b
 | [],[],_=>rfl
 | [],_::_,h=>by simp at h
 | _::_,[],h=>by simp at h
 | x::a,y::b,h=>by
  simp only [List.map_cons,List.cons.injEq,PV.dat.injEq] at h
  rw [h.1,dat_inj h.2]
theorem grow_old {w:World} {os:Array Obj} {b:Nat} (h:b < w.heap.size):(grow w os).heap[b]? = w.heap[b]?:=by
 show (w.heap++os)[b]? = _
 rw [Array.getElem?_append_left h]
theorem sort_call (args:List PV) (H:List Blk) (p:PV) (H':List Blk) (h:sortG args H=some (p,H')):HeapCall prog 55 args H p H':=by
 unfold sortG at h
 split at h
 ·rename_i gg len cp fx cx e g' cs
  split at h
  ·rename_i ds hds
   split at h
   ·rename_i hc
    cases h
    obtain ⟨⟨f0,c0,rfl,rfl⟩,hl,hm,hok,hst⟩:=hc
    have hcs:=allDat_some _ _ hds
    subst hcs
    have hfx:fx=#[]:=Array.eq_empty_of_size_eq_zero f0
    have hcx:cx=#[]:=Array.eq_empty_of_size_eq_zero c0
    subst hfx; subst hcx
    intro B0 w0 S0 g w vals hn hr hH hi hG
    obtain ⟨l⟩:=vals
    match l,hn with
    | [v0,v1],_ =>
    have h1:v1=.func (.func 46) #[] #[]:=rep_raw (hr 1 v1 _ rfl rfl).datInv
    subst h1
    have h0:=hr 0 v0 _ rfl rfl
    obtain ⟨u0,j1,j2⟩:=hH.mt 0 _ _ _ rfl
    have hfits:(sortD ds).all (Dat.fits 9)=true:=List.all_eq_true.2 fun d hd=>by
     obtain ⟨_,_,_,_,_,hf⟩:=ok_cells (List.all_eq_true.1 hok d ((sortD_perm ds).mem_iff.1 hd))
     exact hf
    cases h0 with
    | ms _ _ _ _ _ _ u1 n k1 k2 k3 k4 k5 =>
     have hown:=k2
     rw [k2] at j1
     simp only [Option.some.injEq,Prod.mk.injEq] at j1
     obtain ⟨rfl,rfl⟩:=j1
     obtain ⟨hv,_⟩:=k4 rfl
     by_cases hz:ds=[]
     ·subst hz
      have hl0:len=0:=by simpa using hl
      subst hl0
      obtain ⟨ad,c,rfl,_⟩:=k5
      refine (sort_empty ad c w).mono ?_
      rintro e w' ⟨rfl,rfl⟩
      exact ⟨_,g,rfl,.same hH hi (.tup _ _ rfl fun j v c h=>by simp at h)⟩
     ·have hne:0 < ds.length:=List.length_pos_iff.2 hz
      rcases j2 with ⟨hnil,_⟩|⟨b,l',cap',cur,_,_,_,_,_,⟨_,hflat⟩,_⟩|⟨b,l',cap',cur,size,ds',rfl,q0,q1,q2,q3,q3',q4,q5,q5',q6,q7,q8,q9⟩
      ·exact absurd (by simpa using hnil) hz
      ·exfalso
       obtain ⟨d,r,rfl⟩:=List.exists_cons_of_ne_nil hz
       obtain ⟨es,r',rfl,_⟩:=ok_cells (List.all_eq_true.1 hok d (by simp))
       simp [PV.flat] at hflat
      ·have:=dat_inj q4
       subst this
       rw [size49] at q3
       cases q3
       have hv':v0=.slice (some ⟨b,0,none⟩) len cap':=by rw [hv]; simp [subOf,Addr.add]
       subst hv'
       refine (sort_row (S:=g.S) (n:=len) (cap:=cap') q2 hl (by rw [q7]; exact Nat.mul_le_mul_right _ (by omega)) (by omega) hm hok (fun b' o hs=>⟨fun e=>by subst e; exact q8 o hs,hi.lt b' o hs⟩) q9 hst).mono ?_
       rintro e w' ⟨rfl,new,m,os,hnew,rfl,hrow⟩
       have hg:=mul_put (P:=prog) (S0:=S0) (w0:=w0) (gg':=n) (l1:=l') (v:=.tuple #[]) (p:=.tup []) (ds':=sortD ds) (new:=new) (H:=[.mt 49 n (ds.map .dat)]) (tt:=0) rfl hown q0 q1 q2 size49 (by decide) q6 q7 q8 hfits (by rw [(sortD_perm ds).length_eq]; exact q5') hnew hrow (.inl ⟨rfl,rfl⟩) hH hi
        (.tup _ _ rfl fun j v c h=>by simp at h)
       exact ⟨_,_,rfl,good_late hg rfl rfl rfl (by simp [grow,Sort.ahead]) fun b hb=>by
        rw [grow_old (by exact hb)]; rfl⟩
   ·cases h
  ·cases h
 ·cases h
set_option maxHeartbeats 2000000
def hintOf:FuncId→Pm.Hint
 | 3=>{ own:=[((5,0),[(1000,3)]),((13,4),[(5000,3)])],keep:=[(7,[0,1,7,8,9,10]),(19,[12,14])] }
 | 5=>{ own:=[],keep:=[(5,[0,1,5,6])] }
 | 6=>{ own:=[((1,1),[(7000,3)])],keep:=[] }
 | 7=>{ own:=[((1,0),[(0,40)])],keep:=[(3,[0,3,4])] }
 | 8=>{ own:=[((1,0),[(0,49)]),((13,2),[(8000,3)]),((14,1),[(7000,3)])],keep:=[(3,[1,2,3,9,18,19,20]),(7,[1,2,3,9,11,12,18,19,20,26,27,28]),(15,[9,63,64,65])] }
 | 9=>{ own:=[((1,1),[(7000,3)])],keep:=[] }
 | 10=>{ own:=[((0,0),[(9000,3)]),((1,0),[(0,49)])],keep:=[(3,[1,5,7,10,11,12])] }
 | 11=>{ own:=[],keep:=[(4,[0,1,5])] }
 | 13=>{ own:=[((1,0),[(0,38)])],keep:=[(3,[0,1,5,6])] }
 | 15=>{ own:=[((1,0),[(0,47)])],keep:=[(3,[0,1,5,8,9,10])] }
 | 16=>{ own:=[((1,0),[(0,49)])],keep:=[(3,[1,2,3,9,12,13,14])] }
 | 17=>{ own:=[((1,0),[(0,49)]),((12,8),[(5000,3)])],keep:=[(3,[1,2,7,13,14,15]),(7,[1,2,7,9,10,13,14,15,21,22,23])] }
 | 18=>{ own:=[((1,1),[(0,49)]),((12,0),[(5000,49)])],keep:=[(3,[0,2,3,9,16,17,18]),(8,[2,9,33,34,35])] }
 | 19=>{ own:=[],keep:=[(2,[0,3])] }
 | 21=>{ own:=[((1,1),[(0,49)])],keep:=[] }
 | 22=>{ own:=[((1,2),[(1000,3)]),((1,4),[(0,3)])],keep:=[] }
 | 24=>{ own:=[((1,0),[(0,3),(1,3)])],keep:=[(3,[0,1,2,8,9,13,14,15])] }
 | 25=>{ own:=[((3,2),[(7000,3)]),((3,5),[(7000,3)]),((3,7),[(1001,47)]),((4,0),[(0,47)]),((9,27),[(1001,47)])],keep:=[(7,[2,5,7,8,30,31])] }
 | 27=>{ own:=[((0,1),[(9000,3)]),((1,3),[(0,3)]),((1,7),[(0,3)]),((2,17),[(6000,3)]),((3,0),[(5000,3)])],keep:=[],late:=[(2,1),(2,4),(2,22),(2,24)] }
 | 32=>{ own:=[((6,0),[(0,40)])],keep:=[(4,[0,3,5])] }
 | 34=>{ own:=[],keep:=[(4,[1,3])] }
 | 35=>{ own:=[],keep:=[(2,[1,3])] }
 | 37=>{ own:=[],keep:=[(2,[0,1,5])] }
 | 38=>{ own:=[],keep:=[(2,[0,1,5]),(7,[0,1,5,6]),(13,[1,7,8]),(17,[1,7,8,9,10])] }
 | 39=>{ own:=[],keep:=[(2,[0,1,7,8])] }
 | 41=>{ own:=[],keep:=[(4,[2,13,14,15])] }
 | 43=>{ own:=[],keep:=[(4,[1,19,20,21])] }
 | 45=>{ own:=[((1,17),[(0,3)])],keep:=[] }
 | 48=>{ own:=[],keep:=[(3,[0,1,5,12,13,14]),(9,[0,1,5,7,12,13,14,29,30,31])] }
 | 49=>{ own:=[((0,1),[(9000,3)]),((0,2),[(9000,3)]),((0,3),[(9000,3)])],keep:=[] }
 | 51=>{ own:=[((2,0),[(1000,49)]),((3,0),[(1000,49)])],keep:=[] }
 | 52=>{ own:=[],keep:=[(3,[0,4,5]),(9,[0,4,6]),(17,[0,7,8])] }
 | 53=>{ own:=[((1,0),[(1000,49)])],keep:=[(3,[1,5,8,9,10])] }
 | 56=>{ own:=[((2,0),[(1000,3)]),((3,0),[(1000,3)])],keep:=[] }
 | 62=>{ own:=[((1,2),[(0,3)]),((1,5),[(0,3)])],keep:=[],late:=[(2,1),(2,4),(2,9),(2,11)] }
 | 63=>{ own:=[],keep:=[(8,[0,3,4,18,19])] }
 | 66=>{ own:=[],keep:=[(4,[0,1,5])] }
 | 67=>{ own:=[],keep:=[(2,[1,2,5])] }
 | 68=>{ own:=[((5,0),[(0,22)]),((12,1),[(0,3)])],keep:=[(3,[0,3,4]),(7,[0,3,4,5,6]),(10,[0,3,4,5,6,7])] }
 | 69=>{ own:=[],keep:=[(4,[1,2,5])] }
 | 70=>{ own:=[((1,4),[(0,3)])],keep:=[] }
 | 73=>{ own:=[],keep:=[(3,[0,1,5,9,10]),(9,[0,1,5,24,25])] }
 | 76=>{ own:=[((0,0),[(9000,3)]),((0,1),[(9000,3)])],keep:=[] }
 | 77=>{ own:=[],keep:=[(2,[0,1,9,10,11])] }
 | 79=>{ own:=[],keep:=[(4,[0,19,20,21])] }
 | 83=>{ own:=[((0,1),[(1000,3)])],keep:=[(2,[0,6,11,12,13])] }
 | 84=>{ own:=[],keep:=[(2,[0,1,2,3,4,10,11])] }
 | 87=>{ own:=[((1,0),[(0,3)])],keep:=[(3,[1,2,7,10,11,12])] }
 | 90=>{ own:=[],keep:=[(5,[0,1,5,6])] }
 | 93=>{ own:=[],keep:=[(3,[0,1,5,11,12])] }
 | 94=>{ own:=[],keep:=[(2,[0,1,7,8])] }
 | 95=>{ own:=[],keep:=[(4,[0,1,12,13])] }
 | 102=>{ own:=[],keep:=[(3,[3,6,7,8])] }
 | 103=>{ own:=[],keep:=[(1,[0,1,2,3,8]),(4,[0,1,2,3,8,9])] }
 | 104=>{ own:=[],keep:=[(4,[0,3,8,9,10,11]),(8,[0,3,8,9,12])] }
 | 105=>{ own:=[],keep:=[(5,[0,1,8,9,10,11])] }
 | 107=>{ own:=[],keep:=[(2,[0,8,9])] }
 | 108=>{ own:=[],keep:=[(3,[0,1,2,3,9,10]),(5,[0,1,2,3,9,10]),(14,[0,1,2,3,9,10,11]),(20,[0,1,2,3,9,10,12])] }
 | 109=>{ own:=[],keep:=[(3,[0,1,4,11,12]),(5,[0,1,4,11,12])] }
 | 110=>{ own:=[],keep:=[(3,[0,1,4,12,13]),(5,[0,1,4,12,13]),(13,[0,1,4,12,13]),(15,[0,1,4,12,13])] }
 | 113=>{ own:=[],keep:=[(2,[0,1,7,8])] }
 | 117=>{ own:=[],keep:=[(2,[0,1,7,8])] }
 | 118=>{ own:=[],keep:=[(3,[2,8,13,14,15])] }
 | 119=>{ own:=[],keep:=[(1,[0,2,3,4,10])] }
 | _=>{}
def env:Env where
 summ:=fun f=>if f=55 then some (fun _=>none) else none
 hsum:=fun f=>if f=55 then some sortG else none
 hint:=hintOf
 pure:=fun f=>f != 22 && f != 27 && f != 28 && f != 39 && f != 40 && f != 51 && f != 53 && f != 55 && f != 56 && f != 57 && f != 58 && f != 59 && f != 61 && f != 64 && f != 65 && f != 70 && f != 81 && f != 82 && f != 83 && f != 84 && f != 86 && f != 90 && f != 103 && f != 113
 split:=fun f=>f == 56 || f == 51
abbrev FQ:=FP prog env
abbrev LQ:=LP prog env

structure Qe where
 lo:(List Int)
 hi:(List Int)
 deriving DecidableEq
def Qe.toD (x:Qe):Dat:=.agg [(.lst ((List.map Qi) x.lo)),(.lst ((List.map Qi) x.hi))]
theorem Qe.fit (x:Qe):Dat.fits 2 x.toD=true:=rfl
structure Qp where
 kind:Int
 buffer:Int
 base:Int
 strides:(List Int)
 start:Int
 step:Int
 mod:Int
 deriving DecidableEq
def Qp.toD (x:Qp):Dat:=.agg [(Qi x.kind),(Qi x.buffer),(Qi x.base),(.lst ((List.map Qi) x.strides)),(Qi x.start),(Qi x.step),(Qi x.mod)]
theorem Qp.fit (x:Qp):Dat.fits 7 x.toD=true:=rfl
structure Qa where
 box:Qe
 access:Qp
 deriving DecidableEq
def Qa.toD (x:Qa):Dat:=.agg [(.lst ((List.map Qi) x.box.lo)),(.lst ((List.map Qi) x.box.hi)),(Qi x.access.kind),(Qi x.access.buffer),(Qi x.access.base),(.lst ((List.map Qi) x.access.strides)),(Qi x.access.start),(Qi x.access.step),(Qi x.access.mod)]
theorem Qa.fit (x:Qa):Dat.fits 9 x.toD=true:=rfl
structure Ym where
 fill:Bool
 buffer:Int
 offset:Int
 deriving DecidableEq
def Ym.toD (x:Ym):Dat:=.agg [(QcO x.fill),(Qi x.buffer),(Qi x.offset)]
theorem Ym.fit (x:Ym):Dat.fits 3 x.toD=true:=rfl
structure Ql where
 lo:(List Int)
 hi:(List Int)
 deriving DecidableEq
def Ql.toD (x:Ql):Dat:=.agg [(.lst ((List.map Qi) x.lo)),(.lst ((List.map Qi) x.hi))]
theorem Ql.fit (x:Ql):Dat.fits 2 x.toD=true:=rfl
structure Qw where
 kind:Int
 buffer:Int
 base:Int
 strides:(List Int)
 start:Int
 step:Int
 mod:Int
 deriving DecidableEq
def Qw.toD (x:Qw):Dat:=.agg [(Qi x.kind),(Qi x.buffer),(Qi x.base),(.lst ((List.map Qi) x.strides)),(Qi x.start),(Qi x.step),(Qi x.mod)]
theorem Qw.fit (x:Qw):Dat.fits 7 x.toD=true:=rfl
structure Qc where
 box:Ql
 access:Qw
 deriving DecidableEq
def Qc.toD (x:Qc):Dat:=.agg [(.lst ((List.map Qi) x.box.lo)),(.lst ((List.map Qi) x.box.hi)),(Qi x.access.kind),(Qi x.access.buffer),(Qi x.access.base),(.lst ((List.map Qi) x.access.strides)),(Qi x.access.start),(Qi x.access.step),(Qi x.access.mod)]
theorem Qc.fit (x:Qc):Dat.fits 9 x.toD=true:=rfl
abbrev Qo:=fun x0 x1=>((.box [(La x0),(La x1)]):Blk)
abbrev ZZ:=fun x0=>((.mt 3 1 (cellsOf Qi x0)):Blk)
abbrev XT:=fun x0 x1=>((.mt 3 x0 (cellsOf Qi x1)):Blk)
abbrev QaK:=fun x0=>((.vec 0 ((List.map Qe.toD) x0)):PV)
abbrev QaJ:=fun x0=>((.vec 0 ((List.map Ql.toD) x0)):PV)
abbrev Jr:=fun x0=>((.vec 0 ((List.map Qa.toD) x0)):PV)
abbrev Qa6:=fun x0 x1=>((.mt 49 x0 (cellsOf Qa.toD x1)):Blk)
abbrev XV:=fun x0=>((.dat (.lst ((List.map Qe.toD) x0))):PV)
abbrev Qb1:=((.mt 3 (1+1) (cellsOf Qi ([]:List Int))):Blk)
abbrev Jt:=fun x0=>((.dat (.lst ((List.map Ql.toD) x0))):PV)
abbrev Qcv:=fun x0 x1 x2 x3=>((.box [(La x0),(La x1),(La x2),(La x3)]):Blk)
abbrev QbY:=fun x0 x1 x2=>((.box [(Qh x0),(Qd x1),(Qd x2)]):Blk)
abbrev QE:=fun x0=>((.dat (.lst ((List.map Qa.toD) x0))):PV)
abbrev Z4:=fun x0=>((.dat (.lst ((List.map Qc.toD) x0))):PV)
abbrev Js:=fun x0=>((.mt 3 (x0+1) (cellsOf Qi ([]:List Int))):Blk)
abbrev Qbx:=fun x0 x1=>((.box [(.ms 4 1 0 x0 x0),(.ms 5 1 0 x1 x1)]):Blk)
abbrev Qa7:=fun x0 x1 x2=>((.box [(.ms 1 x0 0 x1 x1),(.ms 2 1 0 x2 x2)]):Blk)
abbrev Qa5:=fun x0=>((.vec 0 ((List.map (fun l=>Dat.lst ((List.map Qi) l))) x0)):PV)
abbrev XU:=fun x0=>((.dat (.lst ((List.map (fun l=>Dat.lst ((List.map Qi) l))) x0))):PV)
abbrev YJ:=((.box [(Qd 0),(Qd 0),(Qd 0),Ea,(Qd 0),(Qd 0),(Qd 0)]):Blk)
abbrev Qb2:=((.box [Ea,Ea,(Qd 0),(Qd 0),(Qd 0),Ea,(Qd 0),(Qd 0),(Qd 0)]):Blk)
abbrev Xy:=fun x0 x1 x2 x3 x4 x5=>((.box [(Qd x0),(Qd x1),(Qd x2),Ea,(Qd x3),(Qd x4),(Qd x5)]):Blk)
abbrev Qx:=fun x0 x1 x2 x3 x4 x5 x6=>((.box [(Qd x0),(Qd x1),(Qd x2),(La x3),(Qd x4),(Qd x5),(Qd x6)]):Blk)
abbrev Qak:=fun x0 x1 x2 x3 x4 x5 x6=>((.dat (.agg [(Qi x0),(Qi x1),(Qi x2),(Lb x3),(Qi x4),(Qi x5),(Qi x6)])):PV)
abbrev Xx:=fun x0 x1 x2 x3 x4 x5 x6=>((.box [(Qd x0),(Qd x1),(Qd x2),(.ms 7 1 0 x3 x3),(Qd x4),(Qd x5),(Qd x6)]):Blk)
abbrev Z5:=fun x0 x1 x2 x3 x4 x5 x6 x7 x8=>((.box [(La x0),(La x1),(Qd x2),(Qd x3),(Qd x4),(La x5),(Qd x6),(Qd x7),(Qd x8)]):Blk)
abbrev Qb0:=fun x0 x1 x2 x3 x4 x5 x6 x7 x8=>((.dat (.agg [(Lb x0),(Lb x1),(Qi x2),(Qi x3),(Qi x4),(Lb x5),(Qi x6),(Qi x7),(Qi x8)])):PV)
abbrev QaL:=fun x0 x1 x2 x3 x4 x5 x6 x7 x8=>((.box [(Qd x0),(.ms 7 1 0 x1 x1),(Qd x2),(Qd x3),(Qd x4),(La x5),(Qd x6),(Qd x7),(Qd x8)]):Blk)
abbrev Xw:=fun x0 x1 x2 x3 x4 x5=>([(QbY x0 x1 x2),(QbY x3 x4 x5)]:List Blk)
abbrev Xz:=fun x0 x1 x2 x3 x4 x5 x6 x7=>([(Qo x0 x1),(Qo x2 x3),(Qo x4 x5),(Qo x6 x7)]:List Blk)
abbrev Yy:=fun x0 x1 x2 x3 x4 x5 x6 x7 x8 x9 x10 x11 x12=>([(Qo x0 x1),(Qo x2 x3),(Qo x4 x5),(.tok 47 x6),(Qo x7 x8),(Qcv x9 x10 x11 x12)]:List Blk)
abbrev QbZ:=fun x0 x1 x2 x3 x4 x5 x6 x7 x8=>([(Qx x0 x1 x2 x3 x4 x5 x6),(.box [(Qd x7)]),(.box [(Qd x8)]),YJ,(Qx x0 x1 x2 x3 x4 x5 x6),(Qx x0 x1 x2 x3 x4 x5 x6)]:List Blk)
abbrev YI:=fun x0 x1 x2 x3 x4 x5 x6 x7 x8 x9 x10 x11=>([(Qx x0 x1 x2 x3 x4 x5 x6),(.box [(Qd x7)]),(.box [(Qd x8)]),YJ,(Qx x0 x1 x2 x3 x4 x5 x6),YJ,(Qx x0 x1 x2 x3 x4 x5 x6),(ZZ x9),(QaL x10 x11 x0 x1 x2 x3 x4 x5 x6)]:List Blk)
def insT (x:Qa):List Qa→List Qa
 | []=>[x]
 | y::l=>if cmpL y.box.lo x.box.lo < 0 then y::insT x l else x::y::l
def sortT (l:List Qa):List Qa:=l.foldr insT []
def strictT:List Qa→Bool
 | a::b::l=>decide (cmpL a.box.lo b.box.lo < 0) && strictT (b::l)
 | _=>true
def sortM (l:List Qa):Option (List Qa):=if l.length≤1000000∧(l.all fun p=>decide (p.box.lo.length≤1000000))=true∧strictT (sortT l)=true then some (sortT l) else none
theorem keyD_toD (p:Qa):keyD p.toD=p.box.lo:=by
 show (p.box.lo.map Qi).map intOfD=p.box.lo
 rw [List.map_map]
 exact List.map_id' _
theorem insD_toD (x:Qa):∀ l:List Qa,insD x.toD (l.map Qa.toD)=(insT x l).map Qa.toD
 | []=>rfl
 | y::l=>by
  rw [List.map_cons,insD,insT,keyD_toD,keyD_toD]
  split
  ·rw [List.map_cons,insD_toD x l]
  ·rfl
theorem sortD_toD:∀ l:List Qa,sortD (l.map Qa.toD)=(sortT l).map Qa.toD
 | []=>rfl
 | x::l=>by
  show insD x.toD (sortD (l.map Qa.toD))=_
  rw [sortD_toD l,insD_toD]; rfl
theorem strictD_toD:∀ l:List Qa,strictD (l.map Qa.toD)=strictT l
 | []=>rfl
 | [_]=>rfl
 | a::b::l=>by
  have:=strictD_toD (b::l)
  simp only [List.map_cons] at this
  simp only [List.map_cons,strictD,strictT,keyD_toD,this]
theorem all_isI (l:List Int):(l.map Qi).all isI=true:=by
 rw [List.all_eq_true]
 intro d hd
 obtain ⟨n,_,rfl⟩:=List.mem_map.1 hd
 rfl
theorem okD_toD (p:Qa) (h:p.box.lo.length≤1000000):okD p.toD=true:=by
 show (decide ((p.box.lo.map Qi).length≤1000000) && (p.box.lo.map Qi).all isI && Dat.fits 9 p.toD)=true
 rw [all_isI,Qa.fit,List.length_map]
 simp [h]
theorem insT_perm (x:Qa):∀ l,(insT x l).Perm (x::l)
 | []=>.refl _
 | y::l=>by
  rw [insT]
  split
  ·exact ((insT_perm x l).cons y).trans (.swap x y l)
  ·exact .refl _
theorem sortT_perm:∀ l,(sortT l).Perm l
 | []=>.refl _
 | x::l=>(insT_perm x (sortT l)).trans ((sortT_perm l).cons x)
theorem sort_some {l r:List Qa} (h:sortM l=some r):(l.length≤1000000∧(l.all fun p=>decide (p.box.lo.length≤1000000))=true∧strictT (sortT l)=true)∧r=sortT l:=by
 unfold sortM at h
 split at h
 ·exact ⟨by assumption,(Option.some.inj h).symm⟩
 ·cases h
theorem PC_hsum {P:Program} {E:Env} {f:FuncId} {F:List Dat→Option PV} {G:List PV→List Blk→Option (PV × List Blk)} {args:List PV} {H H':List Blk} {p:PV} (hen:enters P f=true) (hs:E.summ f=some F) (hh:E.hsum f=some G) (h:G args H=some (p,H')):PC P E f args H p H' :=
 ⟨1,fun k hk=>by
  obtain ⟨n,rfl⟩:∃ n,k=n+1:=⟨k - 1,by omega⟩
  simp [pfun,hen,hs,hh,h]⟩
theorem QcK {l r:List Qa} {g cap:Nat} (h:sortM l=some r) :
  PC prog env 55 [.ms 0 g 0 l.length cap,.dat (.raw (.func (.func 46) #[] #[]))] [.mt 49 g (cellsOf Qa.toD l)] (.tup []) [.mt 49 g (cellsOf Qa.toD r)]:=by
 obtain ⟨⟨h1,h2,h3⟩,rfl⟩:=sort_some h
 refine PC_hsum (by kernel_rfl) rfl rfl ?_
 have ha:allDat (cellsOf Qa.toD l)=some (l.map Qa.toD):=cellsOf_allDat _ _
 have hok:(l.map Qa.toD).all okD=true:=by
  rw [List.all_eq_true]
  intro d hd
  obtain ⟨p,hp,rfl⟩:=List.mem_map.1 hd
  exact okD_toD p (of_decide_eq_true (List.all_eq_true.1 h2 p hp))
 simp only [sortG,ha]
 rw [if_pos ⟨by simp,by simp,h1,hok,by rw [sortD_toD,strictD_toD]; exact h3⟩,sortD_toD]
 simp only [cellsOf,List.map_map]
 rfl
theorem Qcm {P:Program} {E:Env} {ow:List (Nat × Nat)} {o:Oper} {ρ:Operand→PV} {H:List Blk} {K:PV→List Blk→Prop} {α:Type} (f:α→Dat) {l:List α} {x:Operand} {tt e g m cap:Nat} (hl:l.length=m) (hf:∀ a,(f a).isCell=true) (ho:o.op=.move x) (hx:ρ x=.ms tt g 0 m cap) (hb:H[tt]? = some (.mt e g (cellsOf f l))) (hg:giveHint ow=true)
  (hk:K (.dat (.lst (l.map f))) (H.set tt (.mt e (g+1) (cellsOf f ([]:List α))))):SemE P E ow o ρ H K:=SemE_of (fun call=>by
 simp only [sem,ho,hg,if_true,hx,consume1,pc_ms f l hl hf hb,XF hb,Option.map_some]; rfl) hk

def Qs (x:List Int):Option (List Int):=app 8 [] x
def cgm_slices_Clone_int_int (l:List Int):Nat:=match l with|[]=>0|_=>1
theorem Q0 {x r} (hm:Qs x=some r):PC prog env 56 ([.lst ((List.map Qi) x)].map .dat) [] (.ms 0 (cgm_slices_Clone_int_int r) 0 r.length r.length) [.mt 3 (cgm_slices_Clone_int_int r) (cellsOf Qi r)]:=by
 obtain ⟨hroom,hr⟩:=app_some hm
 have hr:r=x:=hr
 subst hr
 cases r with
 | nil=>exact PC_of (n:=20) (by kernel_rfl)
 | cons a l =>
  exact PC_sxB (fn:=f56) rfl (ge 1 (Qf (gr 1 (Zr rfl (fun _=>Qck (p:=.dat (Lb (a::l))) (b:=false) rfl kr kr kr) (QX (XR kr (Qn (gr 2 (XH (v:=.ms 0 1 0 (a::l).length (a::l).length) (fun H=>H.set 0 (.mt 3 1 (cellsOf Qi (a::l)))) rfl kr (fun _ hk=>Qch Qi (l:=[]) (es:=a::l) (bytes:=8) (e:=3) (tt:=0) (g:=0) (m:=0) hm (fun _=>rfl) kr kr kr kr rfl rfl kr rfl kr (source_lst (fun _=>rfl)) hk) (re 1 (Qk zf)))))))))))
def ZR (x:(List Int)):Option ((Nat × (List Int) × (List Int))) :=
 match x with
 | q0 =>
 makeM 8 (q0.length:Int) 0>>=fun v1 =>
 Qs q0>>=fun v2 =>
 some ((mg v1),v1,v2)
theorem X0 {q0 v5001 v5002 v5003} (hm:ZR q0=some (v5001,v5002,v5003)):PC prog env 22 [(La q0)] [] (.agg [(.ms 1 v5001 0 v5002.length v5002.length),(.ms 2 1 0 v5003.length v5003.length)]) [(Qa7 v5001 v5002.length v5003.length),(XT v5001 v5002),(ZZ v5003)]:=by
 unfold ZR at hm
 exact PC_sxB (fn:=f22) rfl (ge 1 (Qf (Y5 (Qb 1 (QP Qi q0 (bi hm fun v1 hx hm=>XH (v:=.ms 1 (mg v1) 0 v1.length v1.length) (fun H=>H++[.mt 3 (mg v1) (cellsOf Qi v1)]) rfl kr (by intro K hk; exact QcA 1 Qi (z:=0) (n:=(q0.length:Int)) (bytes:=8) (e:=3) (os:=[]) hx kr kr kr kr rfl rfl rfl kr kr kr hk) (Qb 1 (bi hm fun v2 hx hm=>go 2 3 Qi (Q0 hx) (re 2 ⟨kr,Qk zf⟩)))))))))
def XY (x:Int):Option Bool :=
 match x with
 | p0 =>
 some (decide (p0 < 0))
theorem QbG {p0 r0} (hm:XY p0=some r0):FQ 115 [(Qi p0)] (Qh r0):=by
 unfold XY at hm
 exact fp (fn:=f115) rfl (ge 1 (ge 3 (Qk zf)))
def Qq (x:((List Int) × Int)):Option (Int ⊕ Unit) :=
 match x with
 | (p0,v201) =>
 if v201 < (p0.length:Int) then
  idx p0 v201>>=fun v602 =>
  XY v602>>=fun v603 =>
  if v603=true then
   some (Sum.inl v201)
  else
  Qq (p0,(W (v201+1)))
 else
 some (Sum.inr ())
 partial_fixpoint
theorem Q5:∀ x r,Qq x=some r→match x with|(p0,v201)=>LQ f94 94 [1,0,1,0,0] 0 ⟨kp 19 [(0,(La p0)),(1,(.dat (.raw (.func (.func 115) #[] #[])))),(7,(Qd (p0.length:Int))),(8,(Qd v201))],[]⟩ (P2 .ret (fun v601 d=>⟨sl d 19 [(4,(Qd v601))],[]⟩) (.exit 0) (fun _ d=>⟨sl d 19 [],[]⟩) r):=by
 refine Qq.partial_correctness _ (fun Qq Q5 x r hm=>?_)
 obtain ⟨p0,v201⟩:=x
 exact lp (ge 1 (Qf (ri hm (fun hm=>Qn (Qf (Qm (ge 2 (gr 3 (QY 1 Qi hm fun v602 hm=>Qb 1 (bi hm fun v603 hx hm=>cp (QbG hx) (QX (rib hm (fun hm=>ge 2 (Qk zf)) (fun hm=>Qn (R_G (re 2 (Q5 _ _ hm _ kr))))))))))))) (fun hm=>QI zf))))
def QU (x:(List Int)):Option Int :=
 match x with
 | p0 =>
 (
 Qq (p0,0)>>=fun out =>
 match out with
 | .inl v601 =>
  some v601
 | .inr (_) =>
  some (-1)
 )
theorem Xe {p0 r0} (hm:QU p0=some r0):FQ 94 [(Lb p0),(.raw (.func (.func 115) #[] #[]))] (Qd r0):=by
 unfold QU at hm
 exact fp (fn:=f94) rfl (ge 1 (Qf (gr 1 (QP Qi p0 (re 1 (Qm (ru2 hm (Q5 _) (fun v601 d hm=>zf) fun _ d hm=>ge 1 (Qk zf))))))))
def QC (x:(List Int)):Option Bool :=
 match x with
 | p0 =>
 QU p0>>=fun v1 =>
 some (decide (v1≥0))
theorem YX {p0 r0} (hm:QC p0=some r0):FQ 74 [(Lb p0),(.raw (.func (.func 115) #[] #[]))] (Qh r0):=by
 unfold QC at hm
 exact fp (fn:=f74) rfl (ge 1 (gr 2 (bi hm fun v1 hx hm=>cp (Xe hx) (re 2 (Qk zf)))))
def XZ (x:Int):Option Bool :=
 match x with
 | p0 =>
 some (decide (p0 > 65536))
theorem QbH {p0 r0} (hm:XZ p0=some r0):FQ 116 [(Qi p0)] (Qh r0):=by
 unfold XZ at hm
 exact fp (fn:=f116) rfl (ge 1 (ge 3 (Qk zf)))
def Qr (x:((List Int) × Int)):Option (Int ⊕ Unit) :=
 match x with
 | (p0,v201) =>
 if v201 < (p0.length:Int) then
  idx p0 v201>>=fun v602 =>
  XZ v602>>=fun v603 =>
  if v603=true then
   some (Sum.inl v201)
  else
  Qr (p0,(W (v201+1)))
 else
 some (Sum.inr ())
 partial_fixpoint
theorem Q6:∀ x r,Qr x=some r→match x with|(p0,v201)=>LQ f94 94 [1,0,1,0,0] 0 ⟨kp 19 [(0,(La p0)),(1,(.dat (.raw (.func (.func 116) #[] #[])))),(7,(Qd (p0.length:Int))),(8,(Qd v201))],[]⟩ (P2 .ret (fun v601 d=>⟨sl d 19 [(4,(Qd v601))],[]⟩) (.exit 0) (fun _ d=>⟨sl d 19 [],[]⟩) r):=by
 refine Qr.partial_correctness _ (fun Qr Q6 x r hm=>?_)
 obtain ⟨p0,v201⟩:=x
 exact lp (ge 1 (Qf (ri hm (fun hm=>Qn (Qf (Qm (ge 2 (gr 3 (QY 1 Qi hm fun v602 hm=>Qb 1 (bi hm fun v603 hx hm=>cp (QbH hx) (QX (rib hm (fun hm=>ge 2 (Qk zf)) (fun hm=>Qn (R_G (re 2 (Q6 _ _ hm _ kr))))))))))))) (fun hm=>QI zf))))
def QV (x:(List Int)):Option Int :=
 match x with
 | p0 =>
 (
 Qr (p0,0)>>=fun out =>
 match out with
 | .inl v601 =>
  some v601
 | .inr (_) =>
  some (-1)
 )
theorem Xf {p0 r0} (hm:QV p0=some r0):FQ 94 [(Lb p0),(.raw (.func (.func 116) #[] #[]))] (Qd r0):=by
 unfold QV at hm
 exact fp (fn:=f94) rfl (ge 1 (Qf (gr 1 (QP Qi p0 (re 1 (Qm (ru2 hm (Q6 _) (fun v601 d hm=>zf) fun _ d hm=>ge 1 (Qk zf))))))))
def QD (x:(List Int)):Option Bool :=
 match x with
 | p0 =>
 QV p0>>=fun v1 =>
 some (decide (v1≥0))
theorem YY {p0 r0} (hm:QD p0=some r0):FQ 74 [(Lb p0),(.raw (.func (.func 116) #[] #[]))] (Qh r0):=by
 unfold QD at hm
 exact fp (fn:=f74) rfl (ge 1 (gr 2 (bi hm fun v1 hx hm=>cp (Xf hx) (re 2 (Qk zf)))))
def Xp (x:(List Int)):Option Int :=
 match x with
 | p0 =>
 QC p0>>=fun v1 =>
 if v1=true then
  some 6
 else
 QD p0>>=fun v2 =>
 if v2=true then
  some 7
 else
 some 0
theorem Qbi {p0 r0} (hm:Xp p0=some r0):FQ 97 [(Lb p0)] (Qd r0):=by
 unfold Xp at hm
 exact fp (fn:=f97) rfl (ge 1 (Qf (Qm (gr 1 (bi hm fun v1 hx hm=>cp (YX hx) (re 1 (rib hm (fun hm=>ge 1 (Qk zf)) (fun hm=>gr 1 (bi hm fun v2 hx hm=>cp (YY hx) (re 1 (rib hm (fun hm=>ge 1 (Qk zf)) (fun hm=>Qn (ge 1 (Qk zf))))))))))))))
def QF (x:((List Int) × Int × Int)):Option (Int ⊕ Unit) :=
 match x with
 | (p0,p1,v201) =>
 if v201 < (p0.length:Int) then
  idx p0 v201>>=fun v602 =>
  if p1=v602 then
   some (Sum.inl v201)
  else
  QF (p0,p1,(W (v201+1)))
 else
 some (Sum.inr ())
 partial_fixpoint
theorem Yu:∀ x r,QF x=some r→match x with|(p0,p1,v201)=>LQ f117 117 [1,0,1,0,0] 0 ⟨kp 19 [(0,(La p0)),(1,(Qd p1)),(7,(Qd (p0.length:Int))),(8,(Qd v201))],[]⟩ (P2 .ret (fun v601 d=>⟨sl d 19 [(4,(Qd v601))],[]⟩) (.exit 0) (fun _ d=>⟨sl d 19 [],[]⟩) r):=by
 refine QF.partial_correctness _ (fun QF Yu x r hm=>?_)
 obtain ⟨p0,p1,v201⟩:=x
 exact lp (ge 1 (Qf (ri hm (fun hm=>Qn (Qf (Qm (ge 2 (gr 3 (QY 1 Qi hm fun v602 hm=>re 2 (riq hm (fun hm=>ge 2 (Qk zf)) (fun hm=>Qn (R_G (re 2 (Yu _ _ hm _ kr))))))))))) (fun hm=>QI zf))))
def Yh (x:((List Int) × Int)):Option Int :=
 match x with
 | (p0,p1) =>
 (
 QF (p0,p1,0)>>=fun out =>
 match out with
 | .inl v601 =>
  some v601
 | .inr (_) =>
  some (-1)
 )
theorem Qau {p0 p1 r0} (hm:Yh (p0,p1)=some r0):FQ 117 [(Lb p0),(Qi p1)] (Qd r0):=by
 unfold Yh at hm
 exact fp (fn:=f117) rfl (ge 1 (Qf (gr 1 (QP Qi p0 (re 1 (Qm (ru2 hm (Yu _) (fun v601 d hm=>zf) fun _ d hm=>ge 1 (Qk zf))))))))
def ZB (x:((List Int) × Int)):Option Bool :=
 match x with
 | (p0,p1) =>
 Yh (p0,p1)>>=fun v1 =>
 some (decide (v1≥0))
theorem J3 {p0 p1 r0} (hm:ZB (p0,p1)=some r0):FQ 98 [(Lb p0),(Qi p1)] (Qh r0):=by
 unfold ZB at hm
 exact fp (fn:=f98) rfl (ge 1 (gr 2 (bi hm fun v1 hx hm=>cp (Qau hx) (re 2 (Qk zf)))))
def JR (x:(Int × Int × Int)):Option (Int × Bool) :=
 match x with
 | (p0,p1,p2) =>
 ((if p0 < 0 then
  some true
 else
 some (decide (p1 < 0))
 )>>=fun (v2:Bool) =>
 (if v2=true then
  some true
 else
 some (decide (p0 > p2))
 )>>=fun (v3:Bool) =>
 (if v3=true then
  some true
 else
 some (decide (p1 > p2))
 )>>=fun (v4:Bool) =>
 if v4=true then
  some true
 else
 if p1 > 0 then
  quoM p2 p1>>=fun v5 =>
  some (decide (p0 > v5))
 else
 some false
 )>>=fun (v1:Bool) =>
 if v1=true then
  some (0,false)
 else
 some ((W (p0 * p1)),true)
theorem Qca {p0 p1 p2 r0 r1} (hm:JR (p0,p1,p2)=some (r0,r1)):FQ 101 [(Qi p0),(Qi p1),(Qi p2)] (.tup [(Qd r0),(Qh r1)]):=by
 unfold JR at hm
 exact fp (fn:=f101) rfl (ge 2 (Qf (Qf (bi hm fun v1 hs hm=>Xt (fun d=>⟨sl d 38 [(0,(Qd p0)),(1,(Qd p1)),(34,(Qh v1))],[]⟩) (have hm:=hs;Qa4 (Qb 3 (bi hm fun v2 hs hm=>Zk (j:=6) (fun d=>⟨sl d 38 [(0,(Qd p0)),(1,(Qd p1)),(2,(Qd p2)),(13,(Qh v2))],[]⟩) (fun d=>Qb 1 (bi hm fun v3 hs hm=>Zk (j:=11) (fun d=>⟨sl d 38 [(0,(Qd p0)),(1,(Qd p1)),(2,(Qd p2)),(18,(Qh v3))],[]⟩) (fun d=>Qb 1 (bi hm fun v4 hs hm=>Zk (j:=16) (fun d=>⟨sl d 38 [(0,(Qd p0)),(1,(Qd p1)),(2,(Qd p2)),(23,(Qh v4))],[]⟩) (fun d=>Qb 1 (gsb 24 hm (fun hm=>re 10 ⟨kr,zf⟩) (fun hm=>Qb 3 (gs 27 hm (fun hm=>Qb 3 (bi hm fun v5 hx hm=>Zr rfl (fun _=>QcL (a:=p2) (b:=p1) hx rfl kr kr) (re 3 ⟨kr,zf⟩))) (fun hm=>re 7 ⟨kr,zf⟩))))) (fun hJ=>gsb 19 hs (fun hm=>Qb 4 zf) (fun hm=>Qb 4 zf)))) (fun hJ=>gsb 14 hs (fun hm=>Qb 4 zf) (fun hm=>Qb 4 zf)))) (fun hJ=>gs 10 hs (fun hm=>Qb 3 zf) (fun hm=>Qb 3 zf))))) (fun d=>rib hm (fun hm=>ge 2 (Qk zf)) (fun hm=>Qn (ge 5 (Qk zf))))))))
def Xo (x:(Int × Int)):Option (Int × Bool) :=
 match x with
 | (p0,p1) =>
 JR (p0,p1,65536)>>=fun (v1,v2) =>
 some (v1,v2)
theorem Qbn {p0 p1 r0 r1} (hm:Xo (p0,p1)=some (r0,r1)):FQ 100 [(Qi p0),(Qi p1)] (.tup [(Qd r0),(Qh r1)]):=by
 unfold Xo at hm
 exact fp (fn:=f100) rfl (ge 2 (gr 2 (bi2 hm fun v1 v2 hx hm=>cp (Qca hx) (re 4 (Qk zf)))))
def Qy (x:((List Int) × Int × Int)):Option (Int ⊕ Int) :=
 match x with
 | (p0,v201,v202) =>
 if v202 < (p0.length:Int) then
  idx p0 v202>>=fun v603 =>
  Xo (v201,v603)>>=fun (v604,v605) =>
  if v605=false then
   some (Sum.inl v604)
  else
  Qy (p0,v604,(W (v202+1)))
 else
 some (Sum.inr v201)
 partial_fixpoint
theorem ZQ:∀ x r,Qy x=some r→match x with|(p0,v201,v202)=>LQ f118 118 [1,1,0,1,0,0] 0 ⟨kp 31 [(2,(.dat (.raw (.func (.func 100) #[] #[])))),(8,(Qd v201)),(13,(La p0)),(14,(Qd (p0.length:Int))),(15,(Qd v202))],[]⟩ (P2 .ret (fun v601 d=>⟨sl d 31 [(6,(Qd v601)),(7,(Qh false))],[]⟩) (.exit 0) (fun v602 d=>⟨sl d 31 [(8,(Qd v602))],[]⟩) r):=by
 refine Qy.partial_correctness _ (fun Qy ZQ x r hm=>?_)
 obtain ⟨p0,v201,v202⟩:=x
 exact lp (ge 1 (Qf (ri hm (fun hm=>Qn (Qf (Qm (Qf (R_G (QY 1 Qi hm fun v603 hm=>re 2 (gr 3 (bi2 hm fun v604 v605 hx hm=>cp (Qbn hx) (re 5 (ge 2 (rin hm (fun hm=>ge 3 (Qk zf)) (fun hm=>Qn (R_G (re 2 (ZQ _ _ hm _ kr))))))))))))))) (fun hm=>QI zf))))
def Zz (x:((List Int) × Int)):Option (Int × Bool) :=
 match x with
 | (p0,p1) =>
 (
 Qy (p0,p1,0)>>=fun out =>
 match out with
 | .inl v601 =>
  some (v601,false)
 | .inr (v602) =>
  some (v602,true)
 )
theorem Jn {p0 p1 r0 r1} (hm:Zz (p0,p1)=some (r0,r1)):FQ 118 [(Lb p0),(Qi p1),(.raw (.func (.func 100) #[] #[]))] (.tup [(Qd r0),(Qh r1)]):=by
 unfold Zz at hm
 exact fp (fn:=f118) rfl (ge 2 (ge 3 (Qf (gr 1 (QP Qi p0 (re 1 (Qm (ru2 hm (ZQ _) (fun v601 d hm=>zf) fun v602 d hm=>ge 3 (Qk zf)))))))))
def Zy (x:((List Int) × Int)):Option (Int × Int) :=
 match x with
 | (p0,p1) =>
 Xp p0>>=fun v1 =>
 if v1≠0 then
  some (0,v1)
 else
 Zz (p0,p1)>>=fun (v2,v3) =>
 if v3=false then
  some (0,7)
 else
 some (v2,0)
theorem Jm {p0 p1 r0 r1} (hm:Zy (p0,p1)=some (r0,r1)):FQ 99 [(Lb p0),(Qi p1),(.raw (.func (.func 100) #[] #[]))] (.tup [(Qd r0),(Qd r1)]):=by
 unfold Zy at hm
 exact fp (fn:=f99) rfl (ge 2 (Qf (gr 1 (bi hm fun v1 hx hm=>cp (Qbi hx) (re 1 (ge 2 (rix hm (fun hm=>ge 3 (Qk zf)) (fun hm=>Qn (gr 3 (bi2 hm fun v2 v3 hx hm=>cp (Jn hx) (re 5 (Qf (ge 2 (rin hm (fun hm=>ge 2 (Qk zf)) (fun hm=>Qn (ge 3 (Qk zf)))))))))))))))))
def YN (x:(List Int)):Option (Int × Int) :=
 match x with
 | p0 =>
 Xp p0>>=fun v1 =>
 (if v1=0 then
  ZB (p0,0)>>=fun v3 =>
  some v3
 else
 some false
 )>>=fun (v2:Bool) =>
 if v2=true then
  some (0,0)
 else
 Zy (p0,1)>>=fun (v4,v5) =>
 some (v4,v5)
theorem QaR {p0 r0 r1} (hm:YN p0=some (r0,r1)):FQ 78 [(Lb p0)] (.tup [(Qd r0),(Qd r1)]):=by
 unfold YN at hm
 exact fp (fn:=f78) rfl (ge 2 (Qf (gr 1 (bi hm fun v1 hx hm=>cp (Qbi hx) (re 1 (Qf (bi hm fun v2 hs hm=>Xt (fun d=>⟨sl d 17 [(0,(La p0)),(12,(Qh v2))],[]⟩) (have hm:=hs;R_G (Qb 3 (gsq 9 hm (fun hm=>Qb 1 (bi hm fun v3 hx hm=>cp (J3 hx) (re 1 zf))) (fun hm=>re 3 zf)))) (fun d=>rib hm (fun hm=>ge 2 (Qk zf)) (fun hm=>Qn (gr 1 (bi2 hm fun v4 v5 hx hm=>cp (Jm hx) (re 4 (Qk zf)))))))))))))
def YF (x:(List Int)):Option Int :=
 match x with
 | p0 =>
 YN p0>>=fun (v1,v2) =>
 (if v2≠6 then
  some (decide ((p0.length:Int) > 16))
 else
 some false
 )>>=fun (v3:Bool) =>
 if v3=true then
  some 7
 else
 some v2
theorem Qaf {p0 r0} (hm:YF p0=some r0):FQ 47 [(Lb p0)] (Qd r0):=by
 unfold YF at hm
 exact fp (fn:=f47) rfl (ge 1 (gr 1 (bi2 hm fun v1 v2 hx hm=>cp (QaR hx) (re 5 (Qf (Qf (bi hm fun v3 hs hm=>Xt (fun d=>⟨sl d 18 [(4,(Qd v2)),(16,(Qh v3))],[]⟩) (have hm:=hs;R_G (Qb 3 (gsx 12 hm (fun hm=>Qb 1 (QP Qi p0 (re 2 zf))) (fun hm=>re 4 zf)))) (fun d=>rib hm (fun hm=>ge 1 (Qk zf)) (fun hm=>Qn (ge 2 (Qk zf)))))))))))
def Y4 (x:(List Int)):Option Int :=
 match x with
 | p0 =>
 YF p0>>=fun v1 =>
 if v1≠0 then
  some 0
 else
 YN p0>>=fun (v2,v3) =>
 some v2
theorem QaY {p0 r0} (hm:Y4 p0=some r0):FQ 80 [(Lb p0)] (Qd r0):=by
 unfold Y4 at hm
 exact fp (fn:=f80) rfl (ge 1 (Qf (gr 1 (bi hm fun v1 hx hm=>cp (Qaf hx) (re 1 (rix hm (fun hm=>ge 1 (Qk zf)) (fun hm=>Qn (gr 1 (bi2 hm fun v2 v3 hx hm=>cp (QaR hx) (re 5 (ge 2 (Qk zf))))))))))))
def Zp (x:((List Int) × (List Int) × (List Int) × Int × Int)):Option ((List Int)) :=
 match x with
 | (p0,v2,v204,v205,v206) =>
 if v206 < (p0.length:Int) then
  Jb (v204.length=v2.length)>>=fun _ =>
  idx v204 (W ((W ((p0.length:Int) - 1)) - v206))>>=fun v605 =>
  setM v204 (W ((W ((p0.length:Int) - 1)) - v206)) v205>>=fun v607 =>
  idx p0 (W ((W ((p0.length:Int) - 1)) - v206))>>=fun v608 =>
  Zp (p0,v2,v607,(W (v205 * v608)),(W (v206+1)))
 else
 some v204
 partial_fixpoint
theorem XP:∀ x r,Zp x=some r→match x with|(p0,v2,v204,v205,v206)=>LQ f63 63 [1,1,1,1,1,0,1,0,0] 1 ⟨kp 39 [(0,(La p0)),(3,(.arr 0 0 v2.length v2.length)),(4,(Qd v205)),(18,(Qd (p0.length:Int))),(19,(Qd v206))],[(.box (cellsOf Qi v204))]⟩ (P1 (.exit 0) (fun v604 d=>⟨sl d 39 [(3,(.arr 0 0 v2.length v2.length))],[(.box (cellsOf Qi v604))]⟩) r):=by
 refine Zp.partial_correctness _ (fun Zp XP x r hm=>?_)
 obtain ⟨p0,v2,v204,v205,v206⟩:=x
 exact lp (ge 1 (Qf (ri hm (fun hm=>Qn (Qf (Qm (ge 2 (gr 1 (QP Qi p0 (re 4 (gr 3 (gi hm fun hl606 hm=>bi hm fun v605 hx hm=>Zr rfl (fun _=>Qcx (e:=3) (l:=v204) (n:=(W ((W ((p0.length:Int) - 1)) - v206))) (i:=0) (cap:=v2.length) (m:=v2.length) hx hl606 kr kr rfl kr kr) (bi hm fun v607 hx hm=>XH (fun H=>H.set 0 (.box (cellsOf Qi v607))) rfl kr (fun _=>QcB Qi (l:=v204) (n:=(W ((W ((p0.length:Int) - 1)) - v206))) (y:=v205) hx (fun _=>rfl) kr rfl kr kr kr kr) (QX (R_G (Qb 3 (QY 1 Qi hm fun v608 hm=>re 3 (R_G (re 2 (XP _ _ hm _ (prune_of2 [(.box (cellsOf Qi v607))] (fun _=>(pg_cons (purge_box Qi _ _ _) pg_nil)) rfl)))))))))))))))))) (fun hm=>QI zf))))
def Yc (x:(List Int)):Option (List Int) :=
 match x with
 | p0 =>
 YF p0>>=fun v1 =>
 if v1≠0 then
  some ([]:(List Int))
 else
 makeM 8 (p0.length:Int) 0>>=fun v2 =>
 Y4 p0>>=fun v3 =>
 if v3=0 then
  some v2
 else
 Zp (p0,v2,v2,1,0)>>=fun v604 =>
 Jb (v604.length=v2.length)>>=fun _ =>
 some v604
theorem Qbv {p0 r0} (hm:Yc p0=some r0):FQ 63 [(Lb p0)] (La r0):=by
 unfold Yc at hm
 exact fp (fn:=f63) rfl (ge 1 (Qf (gr 1 (bi hm fun v1 hx hm=>cp (Qaf hx) (re 1 (rix hm (fun hm=>ge 1 (Qk zf)) (fun hm=>Qn (gr 1 (QP Qi p0 (bi hm fun v2 hx hm=>XH (v:=.arr 0 0 v2.length v2.length) (fun H=>H++[.box (cellsOf Qi v2)]) rfl kr (by intro K hk; exact QbV 0 Qi (z:=0) (n:=(p0.length:Int)) (bytes:=8) hx (e:=3) kr kr kr kr rfl rfl kr kr hk) (re 1 (Qf (gr 1 (bi hm fun v3 hx hm=>cp (QaY hx) (re 1 (riq hm (fun hm=>ge 2 (Qk (by obtain rfl:=QaI hm; exact ⟨trivial,Xl [(.arr 0 0 v2.length v2.length)] kr (po_arr (pc_arr Qi v2 rfl (fun _=>rfl) kr))⟩))) (fun hm=>Qn (ge 1 (Qf (gr 1 (QP Qi p0 (re 1 (Qm (ru1 hm (XP _) (fun v604 d hm=>ge 2 (Qk (gi hm fun hl609 hm=>(by obtain rfl:=QaI hm; exact ⟨trivial,Xl [(.arr 0 0 v2.length v2.length)] kr (po_arr (pc_arr Qi v604 hl609 (fun _=>rfl) kr))⟩)))) (hst:=(prune_of2 [(.box (cellsOf Qi v2))] (fun _=>(pg_cons (purge_box Qi _ _ _) pg_nil)) rfl))))))))))))))))))))))))))
def XD (x:(Int × (List Int))):Option Qp :=
 match x with
 | (p0,p1) =>
 Yc p1>>=fun v1 =>
 some (⟨2,p0,0,v1,0,0,0⟩:Qp)
theorem Qbs {p0 p1 r0} (hm:XD (p0,p1)=some r0):FQ 26 [(Qi p0),(Lb p1)] (.dat (Qp.toD r0)):=by
 unfold XD at hm
 exact fp (fn:=f26) rfl (ge 1 (gr 2 (bi hm fun v1 hx hm=>cp (Qbv hx) (re 2 (Qk zf)))))
def Zb (x:((List Int) × (List Int) × Int)):Option (Unit ⊕ Unit) :=
 match x with
 | (p0,p1,v201) =>
 if v201 < (p0.length:Int) then
  idx p0 v201>>=fun v601 =>
  idx p1 v201>>=fun v602 =>
  if v601≥v602 then
   some (Sum.inl ())
  else
  Zb (p0,p1,(W (v201+1)))
 else
 some (Sum.inr ())
 partial_fixpoint
theorem Xu:∀ x r,Zb x=some r→match x with|(p0,p1,v201)=>LQ f73 73 [1,1,0,1,0,0] 0 ⟨kp 41 [(0,(La p0)),(1,(La p1)),(5,(Qd 1)),(9,(Qd (p0.length:Int))),(10,(Qd v201))],[]⟩ (P2 .ret (fun _ d=>⟨sl d 41 [(4,(Qd 0))],[]⟩) (.exit 0) (fun _ d=>⟨sl d 41 [(0,(La p0)),(1,(La p1)),(5,(Qd 1))],[]⟩) r):=by
 refine Zb.partial_correctness _ (fun Zb Xu x r hm=>?_)
 obtain ⟨p0,p1,v201⟩:=x
 exact lp (ge 1 (Qf (ri hm (fun hm=>Qn (Qf (Qm (ge 2 (Qf (Y5 (Qb 2 (QY 1 Qi hm fun v601 hm=>Qb 3 (QY 1 Qi hm fun v602 hm=>re 2 ⟨kr,ri hm (fun hm=>ge 1 (Qk zf)) (fun hm=>Qn (R_G (re 2 (Xu _ _ hm _ kr))))⟩))))))))) (fun hm=>QI zf))))
def Zc (x:((List Int) × (List Int) × Int × Int)):Option (Int) :=
 match x with
 | (p0,p1,v803,v804) =>
 if v804 < (p0.length:Int) then
  idx p1 v804>>=fun v1204 =>
  idx p0 v804>>=fun v1205 =>
  Zc (p0,p1,(W (v803 * (W (v1204 - v1205)))),(W (v804+1)))
 else
 some v803
 partial_fixpoint
theorem Xv:∀ x r,Zc x=some r→match x with|(p0,p1,v803,v804)=>LQ f73 73 [1,1,1,0,1,0,0] 0 ⟨kp 41 [(0,(La p0)),(1,(La p1)),(5,(Qd v803)),(24,(Qd (p0.length:Int))),(25,(Qd v804))],[]⟩ (P1 (.exit 2) (fun v1203 d=>⟨sl d 41 [(5,(Qd v1203))],[]⟩) r):=by
 refine Zc.partial_correctness _ (fun Zc Xv x r hm=>?_)
 obtain ⟨p0,p1,v803,v804⟩:=x
 exact lp (ge 1 (Qf (ri hm (fun hm=>Qn (Qf (Qm (ge 2 (Y5 (Qb 3 (QY 1 Qi hm fun v1204 hm=>Qb 3 (QY 1 Qi hm fun v1205 hm=>re 4 ⟨kr,R_G (re 2 (Xv _ _ hm _ kr))⟩)))))))) (fun hm=>QI zf))))
def Yk (x:((List Int) × (List Int))):Option Int :=
 match x with
 | (p0,p1) =>
 (
 Zb (p0,p1,0)>>=fun out =>
 match out with
 | .inl _ =>
  some 0
 | .inr (_) =>
  Zc (p0,p1,1,0)>>=fun v1203 =>
  some v1203
 )
theorem Qal {p0 p1 r0} (hm:Yk (p0,p1)=some r0):FQ 73 [(Lb p0),(Lb p1)] (Qd r0):=by
 unfold Yk at hm
 exact fp (fn:=f73) rfl (ge 1 (ge 1 (Qf (gr 1 (QP Qi p0 (re 1 (Qm (ru2 hm (Xu _) (fun _ d hm=>zf) fun _ d hm=>Qf (gr 1 (QP Qi p0 (re 1 (Qm (ru1 hm (Xv _) fun v1203 d hm=>ge 2 (Qk zf))))))))))))))
def Xj (x:Qe):Option Int :=
 match x with
 | p0 =>
 Yk (p0.lo,p0.hi)>>=fun v1 =>
 some v1
theorem Qar {p0 r0} (hm:Xj p0=some r0):FQ 44 [(Qe.toD p0)] (Qd r0):=by
 unfold Xj at hm
 exact fp (fn:=f44) rfl (ge 2 (gr 4 (bi hm fun v1 hx hm=>cp (Qal hx) (re 1 (Qk zf)))))
def Xn (x:Qa):Option Bool :=
 match x with
 | p0 =>
 Xj (⟨p0.box.lo,p0.box.hi⟩:Qe)>>=fun v1 =>
 some (decide (v1 > 0))
theorem Qbm {p0 r0} (hm:Xn p0=some r0):FQ 54 [(Qa.toD p0)] (Qh r0):=by
 unfold Xn at hm
 exact fp (fn:=f54) rfl (ge 2 (gr 2 (bi hm fun v1 hx hm=>cp (Qar hx) (re 2 (Qk zf)))))
def Qt (x:((List Qa) × Nat × (List Qa) × Int)):Option ((Nat × (List Qa))) :=
 match x with
 | (q0,v201,v202,v203) =>
 if v203 < (q0.length:Int) then
  idx q0 v203>>=fun v603 =>
  Xn v603>>=fun v604 =>
  if v604=true then
   app 120 v202 ([v603]:List Qa)>>=fun v605 =>
   Qt (q0,(v201+1),v605,(W (v203+1)))
  else
  Qt (q0,v201,v202,(W (v203+1)))
 else
 some (v201,v202)
 partial_fixpoint
theorem Q9:∀ x r,Qt x=some r→match x with|(q0,v201,v202,v203)=>LQ f53 53 [1,1,0,1,0,0] 1 ⟨kp 23 [(1,(.dat (.raw (.func (.func 54) #[] #[])))),(5,(.ms 0 v201 0 v202.length v202.length)),(8,(QE q0)),(9,(Qd (q0.length:Int))),(10,(Qd v203))],[(Qa6 v201 v202)]⟩ (P1 (.exit 0) (fun (v601,v602) d=>⟨sl d 23 [(5,(.ms 0 v601 0 v602.length v602.length))],[(Qa6 v601 v602)]⟩) r):=by
 refine Qt.partial_correctness _ (fun Qt Q9 x r hm=>?_)
 obtain ⟨q0,v201,v202,v203⟩:=x
 exact lp (ge 1 (Qf (ri hm (fun hm=>Qn (Qf (Qm (Qf (R_G (QY 9 Qa.toD hm fun v603 hm=>re 3 (gr 2 (bi hm fun v604 hx hm=>cp (Qbm hx) (QX (rib hm (fun hm=>R_G (Qb 3 (bi hm fun v605 hx hm=>XH (v:=.ms 0 (v201+1) 0 v605.length v605.length) (fun H=>H.set 0 (.mt 49 (v201+1) (cellsOf Qa.toD v605))) rfl kr (fun _ hk=>QcF Qa.toD (l:=v202) (es:=([v603]:List Qa)) (bytes:=120) (e:=49) (tt:=0) (g:=v201) (m:=v202.length) (size:=9) hx Qa.fit rfl kr kr rfl kr kr rfl rfl kr rfl kr kr hk) (re 1 (R_G (re 2 (Q9 _ _ hm _ (prune_of2 [(.mt 49 (v201+1) (cellsOf Qa.toD v605))] (fun _=>(pg_cons (purge_mt Qa.toD _ _ _ _ _) pg_nil)) rfl)))))))) (fun hm=>Qn (R_G (re 2 (Q9 _ _ hm _ (prune_of2 [(Qa6 v201 v202)] (fun _=>(pg_cons (purge_mt Qa.toD _ _ _ _ _) pg_nil)) rfl))))))))))))))) (fun hm=>QI zf))))
def Zs (x:(List Qa)):Option ((Nat × (List Qa))) :=
 match x with
 | q0 =>
 Qt (q0,0,([]:List Qa),0)>>=fun (v601,v602) =>
 some (v601,v602)
theorem Jd {q0 v5001 v5002} (hm:Zs q0=some (v5001,v5002)):PC prog env 53 [(QE q0),(.dat (.raw (.func (.func 54) #[] #[])))] [] (.ms 0 v5001 0 v5002.length v5002.length) [(Qa6 v5001 v5002)]:=by
 unfold Zs at hm
 exact PC_sxB (fn:=f53) rfl (ge 1 (ge 1 (Qf (gr 1 (QP Qa.toD q0 (re 1 (Qm (ru1 hm (Q9 _) (fun ⟨v601,v602⟩ d hm=>ge 2 (Qk zf)) (hst:=(prune_of2 [(.mt 49 0 (cellsOf Qa.toD ([]:List Qa)))] (fun _=>(pg_cons (purge_mt Qa.toD _ _ _ _ _) pg_nil)) rfl))))))))))
def QZ (x:(List Qa)):Option (List Qa) :=
 match x with
 | p0 =>
 Zs p0>>=fun (v1,v2) =>
 sortM v2>>=fun v3 =>
 Jb (v3.length=v2.length)>>=fun _ =>
 some v3
theorem X8 {p0 r0} (hm:QZ p0=some r0):FQ 21 [(.lst ((List.map Qa.toD) p0))] (QE r0):=by
 unfold QZ at hm
 exact fp (fn:=f21) rfl (ge 1 (gr 1 (bi2 hm fun v1 v2 hx hm=>go 0 49 Qa.toD (ds:=[(.lst ((List.map Qa.toD) p0)),(.raw (.func (.func 54) #[] #[]))]) (Jd hx) (re 1 (gr 1 (bi hm fun v3 hx hm=>Q8 (QcK (g:=1) (cap:=v2.length) hx) (QX (ge 2 (Qk (gi hm fun hl4 hm=>(by obtain rfl:=QaI hm; exact ⟨trivial,Xl [(.ms 0 1 0 v2.length v2.length)] kr (po_ms (pc_mu (e:=49) Qa.toD v3 hl4 (fun _=>rfl) kr))⟩)))))))))))
def YC (x:(Int × (List Int))):Option (List Qa) :=
 match x with
 | (p0,p1) =>
 ZR p1>>=fun (v1,v2,v3) =>
 XD (p0,p1)>>=fun v4 =>
 QZ ([(⟨(⟨v2,v3⟩:Qe),v4⟩:Qa)]:List Qa)>>=fun v5 =>
 some v5
theorem QaU {p0 p1 r0} (hm:YC (p0,p1)=some r0):FQ 9 [(Qi p0),(Lb p1)] (QE r0):=by
 unfold YC at hm
 exact fp (fn:=f9) rfl (ge 1 (gr 1 (bi3 hm fun v1 v2 v3 hx hm=>Zr (v:=.dat (.agg [(Lb v2),(Lb v3)])) rfl (fun _=>Jp (f:=22) (first:=#[]) (cap:=#[]) (e:=3) (ow':=[]) (ds:=[(Lb p1)]) (p:=(.agg [(.ms 1 v1 0 v2.length v2.length),(.ms 2 1 0 v3.length v3.length)])) (H1:=[(Qa7 v1 v2.length v3.length),(XT v1 v2),(ZZ v3)]) rfl kr kr kr kr (X0 hx) (p1_agg (pc_cons (pc_ms (e:=3) Qi v2 rfl (fun _=>rfl) kr) (pc_cons (pc_ms (e:=3) Qi v3 rfl (fun _=>rfl) kr) pc_nil)))) (Qb 2 (bi hm fun v4 hx hm=>cp (Qbs hx) (Qb 2 (bi hm fun v5 hx hm=>cp (X8 hx) (re 1 (Qk zf)))))))))
def Yd (x:(Int × Int × Int × (List Int) × Int × Int × Int × Int × Int)):Option (((List Int) × Int)) :=
 match x with
 | (q0,q1,q2,q3,q4,q5,q6,q7,q8) =>
 Qs q3>>=fun v1 =>
 if q0=3 then
  some (v1,q4)
 else
 some (v1,q2)
theorem JG {q0 q1 q2 q3 q4 q5 q6 q7 q8 v5001 v5002} (hm:Yd (q0,q1,q2,q3,q4,q5,q6,q7,q8)=some (v5001,v5002)):PC prog env 70 [(Qak q0 q1 q2 q3 q4 q5 q6)] [(Qx q0 q1 q2 q3 q4 q5 q6),(.box [(Qd q7)]),(.box [(Qd q8)]),YJ,(Qx q0 q1 q2 q3 q4 q5 q6),YJ] (.ptr 8 0) (YI q0 q1 q2 q3 q4 q5 q6 q7 q8 v5001 v5002 v5001.length):=by
 unfold Yd at hm
 exact PC_sxB (fn:=f70) rfl (ge 2 (Qf (Y5 (Qb 4 (bi hm fun v1 hx hm=>go 7 3 Qi (Q0 hx) (re 5 ⟨kr,Qf (ge 3 (riq hm (fun hm=>R_G (re 7 (ge 2 (Qk zf)))) (fun hm=>Qn (ge 2 (Qk zf)))))⟩))))))
def ZO (x:(Int × Int × Int × Int × Int × (List Int) × Int × Int × Int × (List Int) × Int)):Option (Int) :=
 match x with
 | (q0,q1,q2,q3,q4,q5,q6,q7,q8,q9,q10) =>
 idx q9 q0>>=fun v1 =>
 idx q9 q0>>=fun v2 =>
 some (W (q10+(W (q1 * v2))))
theorem JJ {q0 q1 q2 q3 q4 q5 q6 q7 q8 q9 q10 v5001} (hm:ZO (q0,q1,q2,q3,q4,q5,q6,q7,q8,q9,q10)=some v5001):PC prog env 59 [(.ptr 8 0),(Qd q0),(Qd q1)] (YI q2 q3 q4 q5 q6 q7 q8 q0 q1 q9 q10 q9.length) (.tup []) (YI q2 q3 q4 q5 q6 q7 q8 q0 q1 q9 v5001 q9.length):=by
 unfold ZO at hm
 exact PC_sxB (fn:=f59) rfl (Y5 (Qb 10 (bi hm fun v1 hx hm=>Zr rfl (fun _=>YH (e:=3) (n:=q0) (j:=(q0).toNat) (tt:=7) (g:=1) (lo:=0) (len:=q9.length) (cap:=q9.length) (k:=.i64) kr kr rfl kr kr (idx_nat hx) (Nat.lt_of_lt_of_eq (idx_lt hx) rfl)) (bi hm fun v2 hx hm=>Zr rfl (fun _=>QaF (tt:=7) (g:=1) (j:=(0+(q0).toNat)) (e:=3) (cs:=cellsOf Qi q9) (v:=.dat (Qi v2)) kr kr rfl kr (XF kr) (cells_idx Qi hx)) (re 5 ⟨kr,zf⟩)))))
def Ye (x:(Int × Int × Int × (List Int) × Int × Int × Int × Int × Int × (List Int) × Int)):Option (Int) :=
 match x with
 | (q0,q1,q2,q3,q4,q5,q6,q7,q8,q9,q10) =>
 ZO (q7,q8,q0,q1,q2,q3,q4,q5,q6,q9,q10)>>=fun v1 =>
 some v1
theorem Qaq {q0 q1 q2 q3 q4 q5 q6 q7 q8 q9 q10 v5001} (hm:Ye (q0,q1,q2,q3,q4,q5,q6,q7,q8,q9,q10)=some v5001):PC prog env 58 [(.ptr 8 0),(.ptr 1 0),(.ptr 2 0)] (YI q0 q1 q2 q3 q4 q5 q6 q7 q8 q9 q10 q9.length) (.tup []) (YI q0 q1 q2 q3 q4 q5 q6 q7 q8 q9 v5001 q9.length):=by
 unfold Ye at hm
 exact PC_sxB (fn:=f58) rfl (Y5 (Qb 5 (bi hm fun v1 hx hm=>Q8 (JJ hx) (QX ⟨kr,zf⟩))))
def ZJ (x:(Int × Int × Int × (List Int) × Int × Int × Int × Int × Int × (List Int) × Int)):Option ((Int × Int × Int × Int × Int × Int)) :=
 match x with
 | (q0,q1,q2,q3,q4,q5,q6,q7,q8,q9,q10) =>
 if q0=3 then
  some (q2,q10,q2,q10,q2,q10)
 else
 some (q10,q4,q10,q4,q10,q4)
theorem JC {q0 q1 q2 q3 q4 q5 q6 q7 q8 q9 q10 v5001 v5002 v5003 v5004 v5005 v5006} (hm:ZJ (q0,q1,q2,q3,q4,q5,q6,q7,q8,q9,q10)=some (v5001,v5002,v5003,v5004,v5005,v5006)):PC prog env 86 [(.ptr 8 0)] (YI q0 q1 q2 q3 q4 q5 q6 q7 q8 q9 q10 q9.length) (.agg [(Qd q0),(Qd q1),(Qd v5005),(.ms 7 1 0 q9.length q9.length),(Qd v5006),(Qd q5),(Qd q6)]) [(Qx q0 q1 q2 q3 q4 q5 q6),(.box [(Qd q7)]),(.box [(Qd q8)]),YJ,(Qx q0 q1 q2 q3 q4 q5 q6),YJ,(Qx q0 q1 q2 q3 q4 q5 q6),(ZZ q9),(QaL q10 q9.length q0 q1 q2 q3 q4 q5 q6),(Xx q0 q1 v5001 q9.length v5002 q5 q6),(Xx q0 q1 v5003 q9.length v5004 q5 q6)]:=by
 unfold ZJ at hm
 exact PC_sxB (fn:=f86) rfl (ge 1 (ge 6 (ge 7 (Qf (ge 3 (riq hm (fun hm=>R_G (re 7 (ge 2 (Qk zf)))) (fun hm=>R_G (re 7 (ge 2 (Qk zf))))))))))
def Z6 (x:(Int × Int × Int × (List Int) × Int × Int × Int × Int × Int)):Option (Unit ⊕ ((List Int) × Int × Int × Int × Int × Int × Int × Int × Int × Int)) :=
 match x with
 | (q0,q1,q2,q3,q4,q5,q6,q7,q8) =>
 if q0=1 then
  some (Sum.inl ())
 else
 Yd (q0,q1,q2,q3,q4,q5,q6,q7,q8)>>=fun (v1,v2) =>
 Ye (q0,q1,q2,q3,q4,q5,q6,q7,q8,v1,v2)>>=fun v3 =>
 ZJ (q0,q1,q2,q3,q4,q5,q6,q7,q8,v1,v3)>>=fun (v4,v5,v6,v7,v8,v9) =>
 some (Sum.inr (v1,v8,v9,v3,v4,v5,v6,v7,v8,v9))
theorem Jy {q0 q1 q2 q3 q4 q5 q6 q7 q8 r} (hm:Z6 (q0,q1,q2,q3,q4,q5,q6,q7,q8)=some r):PC prog env 57 [(Qak q0 q1 q2 q3 q4 q5 q6),(.fn 58 [(.ptr 1 0),(.ptr 2 0)])] [(Qx q0 q1 q2 q3 q4 q5 q6),(.box [(Qd q7)]),(.box [(Qd q8)]),YJ] (match r with|.inl _=>(Qak q0 q1 q2 q3 q4 q5 q6)|.inr ((v5001,v5002,v5003,v5004,v5005,v5006,v5007,v5008,v5009,v5010))=>(.agg [(Qd q0),(Qd q1),(Qd v5009),(.ms 7 1 0 v5001.length v5001.length),(Qd v5010),(Qd q5),(Qd q6)])) (match r with|.inl _=>(QbZ q0 q1 q2 q3 q4 q5 q6 q7 q8)|.inr ((v5001,v5002,v5003,v5004,v5005,v5006,v5007,v5008,v5009,v5010))=>[(Qx q0 q1 q2 q3 q4 q5 q6),(.box [(Qd q7)]),(.box [(Qd q8)]),YJ,(Qx q0 q1 q2 q3 q4 q5 q6),(Xx q0 q1 v5002 v5001.length v5003 q5 q6),(Qx q0 q1 q2 q3 q4 q5 q6),(ZZ v5001),(QaL v5004 v5001.length q0 q1 q2 q3 q4 q5 q6),(Xx q0 q1 v5005 v5001.length v5006 q5 q6),(Xx q0 q1 v5007 v5001.length v5008 q5 q6)]):=by
 unfold Z6 at hm
 exact PC_sxB (fn:=f57) rfl (ge 2 (Qf (ge 3 (riq hm (fun hm=>ge 2 (Qk zf)) (fun hm=>Qn (gr 1 (bi2 hm fun v1 v2 hx hm=>Q8 (JG hx) (re 1 (gr 2 (bi hm fun v3 hx hm=>Q8 (Qaq hx) (QX (gr 1 (bi6 hm fun v4 v5 v6 v7 v8 v9 hx hm=>Q8 (JC hx) (re 1 (Qk zf)))))))))))))))
def Yn (x:(Qp × Int × Int)):Option Qp :=
 match x with
 | (p0,p1,p2) =>
 (
 Z6 (p0.kind,p0.buffer,p0.base,p0.strides,p0.start,p0.step,p0.mod,p1,p2)>>=fun out =>
 match out with
 | .inl _ =>
  some p0
 | .inr ((v1,v2,v3,v4,v5,v6,v7,v8,v9,v10)) =>
  some (⟨p0.kind,p0.buffer,v9,v1,v10,p0.step,p0.mod⟩:Qp)
 )
theorem QbA {p0 p1 p2 r0} (hm:Yn (p0,p1,p2)=some r0):FQ 23 [(Qp.toD p0),(Qi p1),(Qi p2)] (.dat (Qp.toD r0)):=by
 unfold Yn at hm
 exact fp (fn:=f23) rfl (ge 4 (gr 2 (bs hm (fun _ hx hm=>Q8 (Jy hx) (re 1 (Qk zf))) fun ⟨v1,v2,v3,v4,v5,v6,v7,v8,v9,v10⟩ hx hm=>Q8 (Jy hx) (re 1 (Qk (by obtain rfl:=QaI hm; exact ⟨trivial,Xl [(.agg [(Qd p0.kind),(Qd p0.buffer),(Qd v9),(.ms 7 1 0 v1.length v1.length),(Qd v10),(Qd p0.step),(Qd p0.mod)])] kr (po_agg (pc_cons kr (pc_cons kr (pc_cons kr (pc_cons (pc_ms (e:=3) Qi v1 rfl (fun _=>rfl) kr) (pc_cons kr (pc_cons kr (pc_cons kr pc_nil))))))))⟩))))))
def Zn (x:((List Int) × (List Int) × (List Int) × (List Int) × (List Int) × (List Int) × Int)):Option (((List Int) × (List Int))) :=
 match x with
 | (p3,p0,p2,p1,v201,v202,v203) =>
 if v203 < (p3.length:Int) then
  idx p3 v203>>=fun v603 =>
  idx p0 v203>>=fun v604 =>
  idx p2 v203>>=fun v605 =>
  app 8 v201 ([(if v605 < (if (W (v604 - v603)) < 0 then 0 else (W (v604 - v603))) then v605 else (if (W (v604 - v603)) < 0 then 0 else (W (v604 - v603))))]:List Int)>>=fun v606 =>
  idx p1 v203>>=fun v607 =>
  idx p2 v203>>=fun v608 =>
  app 8 v202 ([(if (if v605 < (if (W (v604 - v603)) < 0 then 0 else (W (v604 - v603))) then v605 else (if (W (v604 - v603)) < 0 then 0 else (W (v604 - v603)))) < (if v608 < (W (v607 - v603)) then v608 else (W (v607 - v603))) then (if v608 < (W (v607 - v603)) then v608 else (W (v607 - v603))) else (if v605 < (if (W (v604 - v603)) < 0 then 0 else (W (v604 - v603))) then v605 else (if (W (v604 - v603)) < 0 then 0 else (W (v604 - v603)))))]:List Int)>>=fun v609 =>
  Zn (p3,p0,p2,p1,v606,v609,(W (v203+1)))
 else
 some (v201,v202)
 partial_fixpoint
theorem XL:∀ x r,Zn x=some r→match x with|(p3,p0,p2,p1,v201,v202,v203)=>LQ f24 24 [1,1,0,1,0,0] 4 ⟨kp 58 [(0,(La p0)),(1,(La p1)),(2,(La p2)),(8,(.ptr 0 0)),(9,(.ptr 1 0)),(13,(La p3)),(14,(Qd (p3.length:Int))),(15,(Qd v203))],[(.box [Ea,Ea]),(.box [(.vec 2 ((List.map Qi) v201)),(.vec 3 ((List.map Qi) v202))]),(.tok 3 v201.length),(.tok 3 v202.length)]⟩ (P1 (.exit 0) (fun (v601,v602) d=>⟨sl d 58 [(8,(.ptr 0 0)),(9,(.ptr 1 0))],[(.box [Ea,Ea]),(.box [(.vec 2 ((List.map Qi) v601)),(.vec 3 ((List.map Qi) v602))]),(.tok 3 v601.length),(.tok 3 v602.length)]⟩) r):=by
 refine Zn.partial_correctness _ (fun Zn XL x r hm=>?_)
 obtain ⟨p3,p0,p2,p1,v201,v202,v203⟩:=x
 exact lp (ge 1 (Qf (ri hm (fun hm=>Qn (Qf (Qm (gr 1 (QY 1 Qi hm fun v603 hm=>re 3 (Qf (Y5 (Qb 2 (QY 1 Qi hm fun v604 hm=>Qb 3 (Zr rfl (fun _=>Qcb (k:=.i64) (m:=(W (v604 - v603))) (n:=0) rfl kr kr) (Qb 2 (QY 1 Qi hm fun v605 hm=>Qb 1 (Zr rfl (fun _=>Qcl (k:=.i64) (m:=(if (W (v604 - v603)) < 0 then 0 else (W (v604 - v603)))) (n:=v605) rfl kr kr) (re 1 ⟨kr,gr 4 (bi hm fun v606 hx hm=>XQ 3 1 8 2 Qi v201 ([(if v605 < (if (W (v604 - v603)) < 0 then 0 else (W (v604 - v603))) then v605 else (if (W (v604 - v603)) < 0 then 0 else (W (v604 - v603))))]:List Int) v606 (xs:=(List.map Qi) v201) (es:=(List.map Qi) ([(if v605 < (if (W (v604 - v603)) < 0 then 0 else (W (v604 - v603))) then v605 else (if (W (v604 - v603)) < 0 then 0 else (W (v604 - v603))))]:List Int)) (L:=(List.map Qi)) (fun _=>rfl) rfl rfl (fun _=>rfl) hx (re 2 (Y5 (Qb 5 (QY 1 Qi hm fun v607 hm=>Qb 5 (QY 1 Qi hm fun v608 hm=>Qb 1 (Zr rfl (fun _=>Qcl (k:=.i64) (m:=(W (v607 - v603))) (n:=v608) rfl kr kr) (Zr rfl (fun _=>Qcb (k:=.i64) (m:=(if v605 < (if (W (v604 - v603)) < 0 then 0 else (W (v604 - v603))) then v605 else (if (W (v604 - v603)) < 0 then 0 else (W (v604 - v603))))) (n:=(if v608 < (W (v607 - v603)) then v608 else (W (v607 - v603)))) rfl kr kr) (Qb 1 (bi hm fun v609 hx hm=>XQ 3 1 8 3 Qi v202 ([(if (if v605 < (if (W (v604 - v603)) < 0 then 0 else (W (v604 - v603))) then v605 else (if (W (v604 - v603)) < 0 then 0 else (W (v604 - v603)))) < (if v608 < (W (v607 - v603)) then v608 else (W (v607 - v603))) then (if v608 < (W (v607 - v603)) then v608 else (W (v607 - v603))) else (if v605 < (if (W (v604 - v603)) < 0 then 0 else (W (v604 - v603))) then v605 else (if (W (v604 - v603)) < 0 then 0 else (W (v604 - v603)))))]:List Int) v609 (xs:=(List.map Qi) v202) (es:=(List.map Qi) ([(if (if v605 < (if (W (v604 - v603)) < 0 then 0 else (W (v604 - v603))) then v605 else (if (W (v604 - v603)) < 0 then 0 else (W (v604 - v603)))) < (if v608 < (W (v607 - v603)) then v608 else (W (v607 - v603))) then (if v608 < (W (v607 - v603)) then v608 else (W (v607 - v603))) else (if v605 < (if (W (v604 - v603)) < 0 then 0 else (W (v604 - v603))) then v605 else (if (W (v604 - v603)) < 0 then 0 else (W (v604 - v603)))))]:List Int)) (L:=(List.map Qi)) (fun _=>rfl) rfl rfl (fun _=>rfl) hx (re 2 ⟨kr,R_G (re 2 (XL _ _ hm _ kr))⟩)))))))))))⟩)))))))))))))) (fun hm=>QI zf))))
def Yw (x:((List Int) × (List Int) × (List Int) × (List Int))):Option Qe :=
 match x with
 | (p0,p1,p2,p3) =>
 Zn (p3,p0,p2,p1,([]:List Int),([]:List Int),0)>>=fun (v601,v602) =>
 some (⟨v601,v602⟩:Qe)
theorem QaC {p0 p1 p2 p3 r0} (hm:Yw (p0,p1,p2,p3)=some r0):FQ 24 [(Lb p0),(Lb p1),(Lb p2),(Lb p3)] (.dat (Qe.toD r0)):=by
 unfold Yw at hm
 exact fp (fn:=f24) rfl (ge 1 (ge 1 (Qf (gr 1 (QP Qi p3 (re 1 (Qm (ru1 hm (XL _) fun ⟨v601,v602⟩ d hm=>ge 2 (Qk zf)))))))))
def Xa (x:(Int × Int)):Option Int :=
 match x with
 | (p0,p1) =>
 some (if p0 < p1 then p1 else p0)
theorem Qbc {p0 p1 r0} (hm:Xa (p0,p1)=some r0):FQ 88 [(Qi p0),(Qi p1)] (Qd r0):=by
 unfold Xa at hm
 exact fp (fn:=f88) rfl (ge 1 (gr 2 (Zr rfl (fun _=>Qcb (k:=.i64) (m:=p0) (n:=p1) rfl kr kr) (re 1 (Qk zf)))))
def Qz (x:((List Int) × (List Int) × (List Int) × Int)):Option ((List Int)) :=
 match x with
 | (p0,p1,v201,v202) =>
 if v202 < (p0.length:Int) then
  idx p0 v202>>=fun v602 =>
  idx p1 v202>>=fun v603 =>
  Xa (v602,v603)>>=fun v604 =>
  app 8 v201 ([v604]:List Int)>>=fun v605 =>
  Qz (p0,p1,v605,(W (v202+1)))
 else
 some v201
 partial_fixpoint
theorem ZH:∀ x r,Qz x=some r→match x with|(p0,p1,v201,v202)=>LQ f87 87 [1,1,0,1,0,0] 1 ⟨kp 29 [(1,(La p1)),(2,(.dat (.raw (.func (.func 88) #[] #[])))),(7,(.vec 0 ((List.map Qi) v201))),(10,(La p0)),(11,(Qd (p0.length:Int))),(12,(Qd v202))],[(.tok 3 v201.length)]⟩ (P1 (.exit 0) (fun v601 d=>⟨sl d 29 [(7,(.vec 0 ((List.map Qi) v601)))],[(.tok 3 v601.length)]⟩) r):=by
 refine Qz.partial_correctness _ (fun Qz ZH x r hm=>?_)
 obtain ⟨p0,p1,v201,v202⟩:=x
 exact lp (ge 1 (Qf (ri hm (fun hm=>Qn (Qf (Qm (gr 1 (QY 1 Qi hm fun v602 hm=>re 3 (R_G (Qb 5 (QY 1 Qi hm fun v603 hm=>Qb 1 (bi hm fun v604 hx hm=>cp (Qbc hx) (Qb 1 (bi hm fun v605 hx hm=>XQ 3 1 8 0 Qi v201 ([v604]:List Int) v605 (xs:=(List.map Qi) v201) (es:=(List.map Qi) ([v604]:List Int)) (L:=(List.map Qi)) (fun _=>rfl) rfl rfl (fun _=>rfl) hx (re 1 (R_G (re 2 (ZH _ _ hm _ kr))))))))))))))) (fun hm=>QI zf))))
def Zg (x:((List Int) × (List Int))):Option (List Int) :=
 match x with
 | (p0,p1) =>
 Qz (p0,p1,([]:List Int),0)>>=fun v601 =>
 some v601
theorem X2 {p0 p1 r0} (hm:Zg (p0,p1)=some r0):FQ 87 [(Lb p0),(Lb p1),(.raw (.func (.func 88) #[] #[]))] (La r0):=by
 unfold Zg at hm
 exact fp (fn:=f87) rfl (ge 1 (ge 1 (Qf (gr 1 (QP Qi p0 (re 1 (Qm (ru1 hm (ZH _) fun v601 d hm=>ge 2 (Qk zf)))))))))
def Xb (x:(Int × Int)):Option Int :=
 match x with
 | (p0,p1) =>
 some (if p1 < p0 then p1 else p0)
theorem Qbd {p0 p1 r0} (hm:Xb (p0,p1)=some r0):FQ 89 [(Qi p0),(Qi p1)] (Qd r0):=by
 unfold Xb at hm
 exact fp (fn:=f89) rfl (ge 1 (gr 2 (Zr rfl (fun _=>Qcl (k:=.i64) (m:=p0) (n:=p1) rfl kr kr) (re 1 (Qk zf)))))
def QA (x:((List Int) × (List Int) × (List Int) × Int)):Option ((List Int)) :=
 match x with
 | (p0,p1,v201,v202) =>
 if v202 < (p0.length:Int) then
  idx p0 v202>>=fun v602 =>
  idx p1 v202>>=fun v603 =>
  Xb (v602,v603)>>=fun v604 =>
  app 8 v201 ([v604]:List Int)>>=fun v605 =>
  QA (p0,p1,v605,(W (v202+1)))
 else
 some v201
 partial_fixpoint
theorem ZI:∀ x r,QA x=some r→match x with|(p0,p1,v201,v202)=>LQ f87 87 [1,1,0,1,0,0] 1 ⟨kp 29 [(1,(La p1)),(2,(.dat (.raw (.func (.func 89) #[] #[])))),(7,(.vec 0 ((List.map Qi) v201))),(10,(La p0)),(11,(Qd (p0.length:Int))),(12,(Qd v202))],[(.tok 3 v201.length)]⟩ (P1 (.exit 0) (fun v601 d=>⟨sl d 29 [(7,(.vec 0 ((List.map Qi) v601)))],[(.tok 3 v601.length)]⟩) r):=by
 refine QA.partial_correctness _ (fun QA ZI x r hm=>?_)
 obtain ⟨p0,p1,v201,v202⟩:=x
 exact lp (ge 1 (Qf (ri hm (fun hm=>Qn (Qf (Qm (gr 1 (QY 1 Qi hm fun v602 hm=>re 3 (R_G (Qb 5 (QY 1 Qi hm fun v603 hm=>Qb 1 (bi hm fun v604 hx hm=>cp (Qbd hx) (Qb 1 (bi hm fun v605 hx hm=>XQ 3 1 8 0 Qi v201 ([v604]:List Int) v605 (xs:=(List.map Qi) v201) (es:=(List.map Qi) ([v604]:List Int)) (L:=(List.map Qi)) (fun _=>rfl) rfl rfl (fun _=>rfl) hx (re 1 (R_G (re 2 (ZI _ _ hm _ kr))))))))))))))) (fun hm=>QI zf))))
def Zh (x:((List Int) × (List Int))):Option (List Int) :=
 match x with
 | (p0,p1) =>
 QA (p0,p1,([]:List Int),0)>>=fun v601 =>
 some v601
theorem X3 {p0 p1 r0} (hm:Zh (p0,p1)=some r0):FQ 87 [(Lb p0),(Lb p1),(.raw (.func (.func 89) #[] #[]))] (La r0):=by
 unfold Zh at hm
 exact fp (fn:=f87) rfl (ge 1 (ge 1 (Qf (gr 1 (QP Qi p0 (re 1 (Qm (ru1 hm (ZI _) fun v601 d hm=>ge 2 (Qk zf)))))))))
def Yv (x:(Qe × Qe)):Option (Qe × Bool) :=
 match x with
 | (p0,p1) =>
 if (p0.lo.length:Int)≠(p1.lo.length:Int) then
  some ((⟨([]:(List Int)),([]:(List Int))⟩:Qe),false)
 else
 Zg (p0.lo,p1.lo)>>=fun v1 =>
 Zh (p0.hi,p1.hi)>>=fun v2 =>
 Yk (v1,v2)>>=fun v3 =>
 if v3=0 then
  some ((⟨([]:(List Int)),([]:(List Int))⟩:Qe),false)
 else
 some ((⟨v1,v2⟩:Qe),true)
theorem QaA {p0 p1 r0 r1} (hm:Yv (p0,p1)=some (r0,r1)):FQ 60 [(Qe.toD p0),(Qe.toD p1)] (.tup [(.dat (Qe.toD r0)),(Qh r1)]):=by
 unfold Yv at hm
 exact fp (fn:=f60) rfl (ge 4 (Qf (gr 2 (QP Qi p0.lo (Qb 2 (QP Qi p1.lo (re 1 (rix hm (fun hm=>ge 3 (Qk zf)) (fun hm=>Qn (gr 4 (bi hm fun v1 hx hm=>cp (X2 hx) (re 1 (gr 4 (bi hm fun v2 hx hm=>cp (X3 hx) (re 1 (Qf (gr 2 (bi hm fun v3 hx hm=>cp (Qal hx) (re 1 (riq hm (fun hm=>ge 3 (Qk zf)) (fun hm=>Qn (ge 5 (Qk zf)))))))))))))))))))))))
def ZG (x:Qe):Option Bool :=
 match x with
 | p0 =>
 Xj p0>>=fun v1 =>
 some (v1 == 0)
theorem X1 {p0 r0} (hm:ZG p0=some r0):FQ 91 [(Qe.toD p0)] (Qh r0):=by
 unfold ZG at hm
 exact fp (fn:=f91) rfl (ge 2 (gr 1 (bi hm fun v1 hx hm=>cp (Qar hx) (re 2 (Qk zf)))))
def QT (x:((List Int) × (List Int) × (List Int) × (List Int) × (List Int) × (List Int) × (List Int) × (List Int))):Option (Unit ⊕ Unit) :=
 match x with
 | (q0,q1,q2,q3,q4,q5,q6,q7) =>
 ZG (⟨q6,q7⟩:Qe)>>=fun v1 =>
 if v1=true then
  some (Sum.inl ())
 else
 some (Sum.inr ())
theorem Z0 {q0 q1 q2 q3 q4 q5 q6 q7 r} (hm:QT (q0,q1,q2,q3,q4,q5,q6,q7)=some r):PC prog env 113 [(.arr 3 0 1 1),(.dat (.raw (.func (.func 91) #[] #[])))] (Xz q0 q1 q2 q3 q4 q5 q6 q7) (match r with|.inl _=>(Qd 0)|.inr (_)=>(Qd (-1))) (match r with|.inl _=>(Xz q0 q1 q2 q3 q4 q5 q6 q7)|.inr (_)=>(Xz q0 q1 q2 q3 q4 q5 q6 q7)):=by
 unfold QT at hm
 exact PC_sxB (fn:=f113) rfl (ge 1 (Qf (gr 1 (Qb 1 (re 1 (Qm (Qbk (RL_at (st':=⟨kp 19 [(0,(.arr 3 0 1 1)),(1,(.dat (.raw (.func (.func 91) #[] #[])))),(7,(Qd 1)),(8,(Qd 0))],(Xz q0 q1 q2 q3 q4 q5 q6 q7)⟩) kr (ge 1 (Qf (Qao kr (Qn (Qf (Qm (ge 2 (gr 3 (Qb 1 (Qb 1 (bi hm fun v1 hx hm=>cp (X1 hx) (QX (rib hm (fun hm=>ge 2 (Qk zf)) (fun hm=>Qn (R_G (re 2 (RL_at (st':=⟨kp 19 [(0,(.arr 3 0 1 1)),(1,(.dat (.raw (.func (.func 91) #[] #[])))),(7,(Qd 1)),(8,(Qd 1))],(Xz q0 q1 q2 q3 q4 q5 q6 q7)⟩) kr (ge 1 (Qf (XR kr (QI (ge 1 (Qk zf)))))))))))))))))))))))))))))))
def QO (x:((List Int) × (List Int) × (List Int) × (List Int) × (List Int) × (List Int) × (List Int) × (List Int))):Option (Unit ⊕ Unit) :=
 match x with
 | (q0,q1,q2,q3,q4,q5,q6,q7) =>
 (
 QT (q0,q1,q2,q3,q4,q5,q6,q7)>>=fun out =>
 match out with
 | .inl _ =>
  some (Sum.inl ())
 | .inr (_) =>
  some (Sum.inr ())
 )
theorem ZX {q0 q1 q2 q3 q4 q5 q6 q7 r} (hm:QO (q0,q1,q2,q3,q4,q5,q6,q7)=some r):PC prog env 90 [(.arr 3 0 1 1),(.dat (.raw (.func (.func 91) #[] #[])))] (Xz q0 q1 q2 q3 q4 q5 q6 q7) (match r with|.inl _=>(.arr 3 0 0 1)|.inr (_)=>(.arr 3 0 1 1)) (match r with|.inl _=>[(Qo q0 q1),(Qo q2 q3),(Qo q4 q5),(.box [Ea,Ea])]|.inr (_)=>(Xz q0 q1 q2 q3 q4 q5 q6 q7)):=by
 unfold QO at hm
 exact PC_sxB (fn:=f90) rfl (ge 1 (gr 2 (bs hm (fun _ hx hm=>Q8 (Z0 hx) (re 1 (Qf (ge 2 (XR kr (Qn (Qf (ge 3 (Qm (Qbk (RL_at (st':=⟨kp 42 [(0,(.arr 3 0 1 1)),(1,(.dat (.raw (.func (.func 91) #[] #[])))),(5,(Qd 0)),(6,(Qd 1))],(Xz q0 q1 q2 q3 q4 q5 q6 q7)⟩) kr (Qf (gr 2 (Qb 1 (re 1 (XR kr (QI (gr 2 (Qb 1 (re 1 (gr 2 (Qb 1 (re 1 (Qk zf)))))))))))))))))))))))) fun _ hx hm=>Q8 (Z0 hx) (re 1 (Qf (ge 2 (Qao kr (ge 2 (Qk zf)))))))))
def YQ (x:((List Int) × (List Int) × (List Int) × (List Int) × (List Int) × (List Int) × (List Int) × (List Int))):Option (Unit ⊕ Unit) :=
 match x with
 | (q0,q1,q2,q3,q4,q5,q6,q7) =>
 (
 QO (q0,q1,q2,q3,q4,q5,q6,q7)>>=fun out =>
 match out with
 | .inl _ =>
  some (Sum.inl ())
 | .inr (_) =>
  some (Sum.inr ())
 )
theorem JW {q0 q1 q2 q3 q4 q5 q6 q7 r} (hm:YQ (q0,q1,q2,q3,q4,q5,q6,q7)=some r):PC prog env 61 [(.arr 3 0 1 1)] (Xz q0 q1 q2 q3 q4 q5 q6 q7) (match r with|.inl _=>(.arr 3 0 0 1)|.inr (_)=>(.arr 3 0 1 1)) (match r with|.inl _=>[(Qo q0 q1),(Qo q2 q3),(Qo q4 q5),(.box [Ea,Ea])]|.inr (_)=>(Xz q0 q1 q2 q3 q4 q5 q6 q7)):=by
 unfold YQ at hm
 exact PC_sxB (fn:=f61) rfl (ge 1 (gr 1 (bs hm (fun _ hx hm=>Q8 (ZX hx) (re 1 (Qk zf))) fun _ hx hm=>Q8 (ZX hx) (re 1 (Qk zf)))))
def YB (x:(Qe × Int × Int × Int)):Option Qe :=
 match x with
 | (p0,p1,p2,p3) =>
 Qs p0.lo>>=fun v1 =>
 Qs p0.hi>>=fun v2 =>
 idx v1 p1>>=fun v3 =>
 setM v1 p1 p2>>=fun v4 =>
 idx v2 p1>>=fun v5 =>
 setM v2 p1 p3>>=fun v6 =>
 Jb (v4.length=v1.length)>>=fun _ =>
 Jb (v6.length=v2.length)>>=fun _ =>
 some (⟨v4,v6⟩:Qe)
theorem JX {p0 p1 p2 p3 r0} (hm:YB (p0,p1,p2,p3)=some r0):FQ 62 [(Qe.toD p0),(Qi p1),(Qi p2),(Qi p3)] (.dat (Qe.toD r0)):=by
 unfold YB at hm
 exact fp (fn:=f62) rfl (ge 2 (Qf (Y5 (Qb 2 (bi hm fun v1 hx hm=>go 2 3 Qi (Q0 hx) (Qb 2 (bi hm fun v2 hx hm=>go 3 3 Qi (Q0 hx) (re 3 ⟨kr,Qf (Y5 (Qb 8 (bi hm fun v3 hx hm=>Zr rfl (fun _=>YH (e:=3) (n:=p1) (j:=(p1).toNat) (tt:=2) (g:=1) (lo:=0) (len:=v1.length) (cap:=v1.length) (k:=.i64) kr kr rfl kr kr (idx_nat hx) (Nat.lt_of_lt_of_eq (idx_lt hx) rfl)) (bi hm fun v4 hx hm=>XH (fun H=>H.set 2 (ZZ v4)) rfl kr (fun _=>Qbj Qi (l:=v1) (n:=p1) (y:=p2) hx (fun _=>rfl) kr rfl kr kr kr kr) (bi hm fun v5 hx hm=>Zr rfl (fun _=>YH (e:=3) (n:=p1) (j:=(p1).toNat) (tt:=3) (g:=1) (lo:=0) (len:=v2.length) (cap:=v2.length) (k:=.i64) kr kr rfl kr kr (idx_nat hx) (Nat.lt_of_lt_of_eq (idx_lt hx) rfl)) (bi hm fun v6 hx hm=>XH (fun H=>H.set 3 (ZZ v6)) rfl kr (fun _=>Qbj Qi (l:=v2) (n:=p1) (y:=p3) hx (fun _=>rfl) kr rfl kr kr kr kr) (QX ⟨kr,ge 2 (Qk (gi hm fun hl7 hm=>gi hm fun hl8 hm=>(by obtain rfl:=QaI hm; exact ⟨trivial,Xl [(.agg [(.ms 2 1 0 v1.length v1.length),(.ms 3 1 0 v2.length v2.length)])] kr (po_agg (pc_cons (pc_ms (e:=3) Qi v4 hl7 (fun _=>rfl) kr) (pc_cons (pc_ms (e:=3) Qi v6 hl8 (fun _=>rfl) kr) pc_nil)))⟩)))⟩)))))))⟩))))))))
def QS (x:((List Int) × (List Int) × (List Int) × (List Int) × (List Int) × (List Int) × (List Int) × (List Int) × (List Int) × (List Int) × (List Int) × (List Int) × Nat)):Option (Unit ⊕ Unit ⊕ Unit) :=
 match x with
 | (q0,q1,q2,q3,q4,q5,q6,q7,q8,q9,q10,q11,q12) =>
 ZG (⟨q8,q9⟩:Qe)>>=fun v1 =>
 if v1=true then
  some (Sum.inl ())
 else
 ZG (⟨q10,q11⟩:Qe)>>=fun v2 =>
 if v2=true then
  some (Sum.inr (Sum.inl ()))
 else
 some (Sum.inr (Sum.inr ()))
theorem Ze {q0 q1 q2 q3 q4 q5 q6 q7 q8 q9 q10 q11 q12 r} (hm:QS (q0,q1,q2,q3,q4,q5,q6,q7,q8,q9,q10,q11,q12)=some r):PC prog env 113 [(.arr 5 0 2 2),(.dat (.raw (.func (.func 91) #[] #[])))] (Yy q0 q1 q2 q3 q4 q5 q12 q6 q7 q8 q9 q10 q11) (match r with|.inl _=>(Qd 0)|.inr (.inl _)=>(Qd 1)|.inr (.inr (_))=>(Qd (-1))) (match r with|.inl _=>(Yy q0 q1 q2 q3 q4 q5 q12 q6 q7 q8 q9 q10 q11)|.inr (.inl _)=>(Yy q0 q1 q2 q3 q4 q5 q12 q6 q7 q8 q9 q10 q11)|.inr (.inr (_))=>(Yy q0 q1 q2 q3 q4 q5 q12 q6 q7 q8 q9 q10 q11)):=by
 unfold QS at hm
 exact PC_sxB (fn:=f113) rfl (ge 1 (Qf (gr 1 (Qb 1 (re 1 (Qm (Qbk (RL_at (st':=⟨kp 19 [(0,(.arr 5 0 2 2)),(1,(.dat (.raw (.func (.func 91) #[] #[])))),(7,(Qd 2)),(8,(Qd 0))],(Yy q0 q1 q2 q3 q4 q5 q12 q6 q7 q8 q9 q10 q11)⟩) kr (ge 1 (Qf (Qao kr (Qn (Qf (Qm (ge 2 (gr 3 (Qb 1 (Qb 1 (bi hm fun v1 hx hm=>cp (X1 hx) (QX (rib hm (fun hm=>ge 2 (Qk zf)) (fun hm=>Qn (R_G (re 2 (RL_at (st':=⟨kp 19 [(0,(.arr 5 0 2 2)),(1,(.dat (.raw (.func (.func 91) #[] #[])))),(7,(Qd 2)),(8,(Qd 1))],(Yy q0 q1 q2 q3 q4 q5 q12 q6 q7 q8 q9 q10 q11)⟩) kr (ge 1 (Qf (Qao kr (Qn (Qf (Qm (ge 2 (gr 3 (Qb 1 (Qb 1 (bi hm fun v2 hx hm=>cp (X1 hx) (QX (rib hm (fun hm=>ge 2 (Qk zf)) (fun hm=>Qn (R_G (re 2 (RL_at (st':=⟨kp 19 [(0,(.arr 5 0 2 2)),(1,(.dat (.raw (.func (.func 91) #[] #[])))),(7,(Qd 2)),(8,(Qd 2))],(Yy q0 q1 q2 q3 q4 q5 q12 q6 q7 q8 q9 q10 q11)⟩) kr (ge 1 (Qf (XR kr (QI (ge 1 (Qk zf))))))))))))))))))))))))))))))))))))))))))))))))
def QN (x:((List Int) × (List Int) × (List Int) × (List Int) × (List Int) × (List Int) × (List Int) × (List Int) × (List Int) × (List Int) × (List Int) × (List Int) × Nat)):Option (((List Int) × (List Int)) ⊕ Unit ⊕ Unit) :=
 match x with
 | (q0,q1,q2,q3,q4,q5,q6,q7,q8,q9,q10,q11,q12) =>
 (
 QS (q0,q1,q2,q3,q4,q5,q6,q7,q8,q9,q10,q11,q12)>>=fun out =>
 match out with
 | .inl _ =>
  ZG (⟨q10,q11⟩:Qe)>>=fun v1 =>
  if v1=false then
   some (Sum.inl (q10,q11))
  else
  some (Sum.inr (Sum.inl ()))
 | .inr (.inl _) =>
  some (Sum.inl (q8,q9))
 | .inr (.inr (_)) =>
  some (Sum.inr (Sum.inr ()))
 )
theorem Q7 {q0 q1 q2 q3 q4 q5 q6 q7 q8 q9 q10 q11 q12 r} (hm:QN (q0,q1,q2,q3,q4,q5,q6,q7,q8,q9,q10,q11,q12)=some r):PC prog env 90 [(.arr 5 0 2 2),(.dat (.raw (.func (.func 91) #[] #[])))] (Yy q0 q1 q2 q3 q4 q5 q12 q6 q7 q8 q9 q10 q11) (match r with|.inl (v5001,v5002)=>(.arr 5 0 1 2)|.inr (.inl _)=>(.arr 5 0 0 2)|.inr (.inr (_))=>(.arr 5 0 2 2)) (match r with|.inl (v5001,v5002)=>[(Qo q0 q1),(Qo q2 q3),(Qo q4 q5),(.tok 47 q12),(Qo q6 q7),(.box [(La v5001),(La v5002),Ea,Ea])]|.inr (.inl _)=>[(Qo q0 q1),(Qo q2 q3),(Qo q4 q5),(.tok 47 q12),(Qo q6 q7),(.box [Ea,Ea,Ea,Ea])]|.inr (.inr (_))=>(Yy q0 q1 q2 q3 q4 q5 q12 q6 q7 q8 q9 q10 q11)):=by
 unfold QN at hm
 refine PC_sxB (fn:=f90) rfl (ge 1 (gr 2 (bi hm fun out hx hm=>?_)))
 rcases out with _|_|_
 ·have hq:=Ze hx
  refine Q8 hq ?_
  refine Qb 1 (QX (Qf (Qf (R_G (Qb 2 (QX ?_))))))
  refine XR (by kernel_rfl) ?_
  refine Qn (Qf (Qf (R_G (Qb 3 (QX (Qm ?_))))))
  refine Qbk ?_
  refine RL_at (st':=⟨kp 42 [(0,(.arr 5 0 2 2)),(1,(.dat (.raw (.func (.func 91) #[] #[])))),(5,(Qd 0)),(6,(Qd 1))],(Yy q0 q1 q2 q3 q4 q5 q12 q6 q7 q8 q9 q10 q11)⟩) (by kernel_rfl) ?_
  refine Qf (Qf (R_G (Qb 2 (Qb 1 (Qb 1 (QX ?_))))))
  refine Qao (by kernel_rfl) ?_
  refine Qn (Qf (Qm (Qf (R_G (Qb 2 (Qb 1 (Qb 3 (QX (Qf (R_G (Qb 2 ?_)))))))))))
  obtain ⟨v1,hx,hm⟩:=Z3 hm
  have hq:=X1 hx []
  refine ZY hq ?_
  refine Qb 1 (QX ?_)
  refine QbP hm (QbR _) (fun hm=>?_) (fun hm=>?_)
  ·refine Qf (R_G (Qb 3 (Qb 1 (Qb 1 (QX (R_G (Qb 3 (QX (R_G (Qb 3 (QX ?_)))))))))))
   refine RL_at (st':=⟨kp 42 [(0,(.arr 5 0 2 2)),(1,(.dat (.raw (.func (.func 91) #[] #[])))),(5,(Qd 1)),(6,(Qd 2))],[(Qo q0 q1),(Qo q2 q3),(Qo q4 q5),(.tok 47 q12),(Qo q6 q7),(.box [(La q10),(La q11),(La q10),(La q11)])]⟩) (by kernel_rfl) ?_
   refine Qf (Qf (R_G (Qb 2 (Qb 1 (Qb 1 (QX ?_))))))
   refine XR (by kernel_rfl) ?_
   refine QI (Qf (R_G (Qb 2 (Qb 1 (Qb 1 (QX (Qf (R_G (Qb 2 (Qb 1 (Qb 1 ?_)))))))))))
   refine QX (Qk ?_)
   obtain rfl:=QaI hm
   exact ⟨trivial,Jq (by kernel_rfl) (by kernel_rfl)⟩
  refine Qn (R_G (Qb 3 (QX ?_)))
  refine RL_at (st':=⟨kp 42 [(0,(.arr 5 0 2 2)),(1,(.dat (.raw (.func (.func 91) #[] #[])))),(5,(Qd 0)),(6,(Qd 2))],(Yy q0 q1 q2 q3 q4 q5 q12 q6 q7 q8 q9 q10 q11)⟩) (by kernel_rfl) ?_
  refine Qf (Qf (R_G (Qb 2 (Qb 1 (Qb 1 (QX ?_))))))
  refine XR (by kernel_rfl) ?_
  refine QI (Qf (R_G (Qb 2 (Qb 1 (Qb 1 (QX (Qf (R_G (Qb 2 (Qb 1 (Qb 1 ?_)))))))))))
  refine QX (Qk ?_)
  obtain rfl:=QaI hm
  exact ⟨trivial,Jq (by kernel_rfl) (by kernel_rfl)⟩
 ·have hq:=Ze hx
  refine Q8 hq ?_
  refine Qb 1 (QX (Qf (Qf (R_G (Qb 2 (QX ?_))))))
  refine XR (by kernel_rfl) ?_
  refine Qn (Qf (Qf (R_G (Qb 3 (QX (Qm ?_))))))
  refine Qbk ?_
  refine RL_at (st':=⟨kp 42 [(0,(.arr 5 0 2 2)),(1,(.dat (.raw (.func (.func 91) #[] #[])))),(5,(Qd 1)),(6,(Qd 2))],(Yy q0 q1 q2 q3 q4 q5 q12 q6 q7 q8 q9 q10 q11)⟩) (by kernel_rfl) ?_
  refine Qf (Qf (R_G (Qb 2 (Qb 1 (Qb 1 (QX ?_))))))
  refine XR (by kernel_rfl) ?_
  refine QI (Qf (R_G (Qb 2 (Qb 1 (Qb 1 (QX (Qf (R_G (Qb 2 (Qb 1 (Qb 1 ?_)))))))))))
  refine QX (Qk ?_)
  obtain rfl:=QaI hm
  exact ⟨trivial,Jq (by kernel_rfl) (by kernel_rfl)⟩
 ·have hq:=Ze hx
  refine Q8 hq ?_
  refine Qb 1 (QX (Qf (Qf (R_G (Qb 2 (QX ?_))))))
  refine Qao (by kernel_rfl) ?_
  refine Qf (R_G (Qb 2 (QX (Qk ?_))))
  obtain rfl:=QaI hm
  exact ⟨trivial,Jq (by kernel_rfl) (by kernel_rfl)⟩
def Yp (x:((List Int) × (List Int) × (List Int) × (List Int) × (List Int) × (List Int) × (List Int) × (List Int) × (List Int) × (List Int) × (List Int) × (List Int) × Nat)):Option (((List Int) × (List Int)) ⊕ Unit ⊕ Unit) :=
 match x with
 | (q0,q1,q2,q3,q4,q5,q6,q7,q8,q9,q10,q11,q12) =>
 (
 QN (q0,q1,q2,q3,q4,q5,q6,q7,q8,q9,q10,q11,q12)>>=fun out =>
 match out with
 | .inl (v1,v2) =>
  some (Sum.inl (v1,v2))
 | .inr (.inl _) =>
  some (Sum.inr (Sum.inl ()))
 | .inr (.inr (_)) =>
  some (Sum.inr (Sum.inr ()))
 )
theorem XJ {q0 q1 q2 q3 q4 q5 q6 q7 q8 q9 q10 q11 q12 r} (hm:Yp (q0,q1,q2,q3,q4,q5,q6,q7,q8,q9,q10,q11,q12)=some r):PC prog env 61 [(.arr 5 0 2 2)] (Yy q0 q1 q2 q3 q4 q5 q12 q6 q7 q8 q9 q10 q11) (match r with|.inl (v5001,v5002)=>(.arr 5 0 1 2)|.inr (.inl _)=>(.arr 5 0 0 2)|.inr (.inr (_))=>(.arr 5 0 2 2)) (match r with|.inl (v5001,v5002)=>[(Qo q0 q1),(Qo q2 q3),(Qo q4 q5),(.tok 47 q12),(Qo q6 q7),(.box [(La v5001),(La v5002),Ea,Ea])]|.inr (.inl _)=>[(Qo q0 q1),(Qo q2 q3),(Qo q4 q5),(.tok 47 q12),(Qo q6 q7),(.box [Ea,Ea,Ea,Ea])]|.inr (.inr (_))=>(Yy q0 q1 q2 q3 q4 q5 q12 q6 q7 q8 q9 q10 q11)):=by
 unfold Yp at hm
 refine PC_sxB (fn:=f61) rfl (ge 1 (gr 1 (bi hm fun out hx hm=>?_)))
 rcases out with ⟨v1,v2⟩|_|_
 ·have hq:=Q7 hx
  refine Q8 hq ?_
  refine Qb 1 (QX (Qk ?_))
  obtain rfl:=QaI hm
  exact ⟨trivial,Jq (by kernel_rfl) (by kernel_rfl)⟩
 ·have hq:=Q7 hx
  refine Q8 hq ?_
  refine Qb 1 (QX (Qk ?_))
  obtain rfl:=QaI hm
  exact ⟨trivial,Jq (by kernel_rfl) (by kernel_rfl)⟩
 ·have hq:=Q7 hx
  refine Q8 hq ?_
  refine Qb 1 (QX (Qk ?_))
  obtain rfl:=QaI hm
  exact ⟨trivial,Jq (by kernel_rfl) (by kernel_rfl)⟩
def ZF (x:(Qe × Qe × Qe × (List Int) × (List Int) × (List Qe) × Int)):Option (((List Int) × (List Int) × (List Qe))) :=
 match x with
 | (p0,v1,p1,v205,v206,v207,v208) =>
 if v208 < (p0.lo.length:Int) then
  idx p0.lo v208>>=fun v608 =>
  idx v1.lo v208>>=fun v609 =>
  YB ((⟨v205,v206⟩:Qe),v208,v608,v609)>>=fun v610 =>
  idx v1.hi v208>>=fun v611 =>
  idx p0.hi v208>>=fun v612 =>
  YB ((⟨v205,v206⟩:Qe),v208,v611,v612)>>=fun v613 =>
  (
  Yp (p0.lo,p0.hi,p1.lo,p1.hi,v1.lo,v1.hi,v205,v206,v610.lo,v610.hi,v613.lo,v613.hi,v207.length)>>=fun out =>
  match out with
  | .inl (v614,v615) =>
   app 48 v207 ([(⟨v614,v615⟩:Qe)]:List Qe)>>=fun v616 =>
   idx v1.lo v208>>=fun v617 =>
   idx v1.hi v208>>=fun v618 =>
   YB ((⟨v205,v206⟩:Qe),v208,v617,v618)>>=fun v619 =>
   ZF (p0,v1,p1,v619.lo,v619.hi,v616,(W (v208+1)))
  | .inr (.inl _) =>
   app 48 v207 ([]:List Qe)>>=fun v620 =>
   idx v1.lo v208>>=fun v621 =>
   idx v1.hi v208>>=fun v622 =>
   YB ((⟨v205,v206⟩:Qe),v208,v621,v622)>>=fun v623 =>
   ZF (p0,v1,p1,v623.lo,v623.hi,v620,(W (v208+1)))
  | .inr (.inr (_)) =>
   app 48 v207 ([v610,v613]:List Qe)>>=fun v624 =>
   idx v1.lo v208>>=fun v625 =>
   idx v1.hi v208>>=fun v626 =>
   YB ((⟨v205,v206⟩:Qe),v208,v625,v626)>>=fun v627 =>
   ZF (p0,v1,p1,v627.lo,v627.hi,v624,(W (v208+1)))
  )
 else
 some (v205,v206,v207)
 partial_fixpoint
theorem Xk:∀ x r,ZF x=some r→match x with|(p0,v1,p1,v205,v206,v207,v208)=>LQ f25 25 [1,1,1,1,1,0,1,0,0] 5 ⟨kp 79 [(2,(.ptr 0 0)),(5,(.ptr 2 0)),(7,(.vec 3 ((List.map Qe.toD) v207))),(8,(.ptr 4 0)),(30,(Qd (p0.lo.length:Int))),(31,(Qd v208))],[(Qo p0.lo p0.hi),(Qo p1.lo p1.hi),(Qo v1.lo v1.hi),(.tok 47 v207.length),(Qo v205 v206)]⟩ (P1 (.exit 0) (fun (v605,v606,v607) d=>⟨sl d 79 [(7,(.vec 3 ((List.map Qe.toD) v607)))],[(Qo p0.lo p0.hi),(Qo p1.lo p1.hi),(Qo v1.lo v1.hi),(.tok 47 v607.length),(Qo v605 v606)]⟩) r):=by
 refine ZF.partial_correctness _ (fun ZF Xk x r hm=>?_)
 obtain ⟨p0,v1,p1,v205,v206,v207,v208⟩:=x
 refine lp (ge 1 (Qf (ri hm (fun hm=>Qn (Qf (Qm (ge 2 (Qf (Y5 (Qb 6 (QY 1 Qi hm fun v608 hm=>Qb 4 (QY 1 Qi hm fun v609 hm=>Qb 1 (bi hm fun v610 hx hm=>cp (JX hx) (Qb 5 (QY 1 Qi hm fun v611 hm=>Qb 4 (QY 1 Qi hm fun v612 hm=>Qb 1 (bi hm fun v613 hx hm=>cp (JX hx) (Qb 1 (bi hm fun out hx hm=>?_)))))))))))))))) (fun hm=>QI zf))))
 rcases out with ⟨v614,v615⟩|_|_
 ·have hq:=XJ hx
  refine Q8 hq ?_
  obtain ⟨v616,hx,hm⟩:=Z3 hm
  refine XQ 47 2 48 3 Qe.toD v207 ([(⟨v614,v615⟩:Qe)]:List Qe) v616 (xs:=(List.map Qe.toD) v207) (es:=(List.map Qe.toD) ([(⟨v614,v615⟩:Qe)]:List Qe)) (L:=(List.map Qe.toD)) (fun _=>rfl) rfl rfl Qe.fit hx ?_
  refine Qb 1 ?_
  refine QX ⟨by kernel_rfl,?_⟩
  refine Y5 ?_
  refine Qb 5 ?_
  refine QaZ 1 Qi hm rfl (fun _=>rfl) (fun v617 hm=>?_)
  refine Qb 4 ?_
  refine QaZ 1 Qi hm rfl (fun _=>rfl) (fun v618 hm=>?_)
  refine Qb 1 ?_
  obtain ⟨v619,hx,hm⟩:=Z3 hm
  have hq:=JX hx []
  refine ZY hq ?_
  refine Qb 1 ?_
  refine QX ⟨by kernel_rfl,?_⟩
  refine R_G (Qb 2 (QX ?_))
  exact Xk _ _ hm _ (by kernel_rfl)
 ·have hq:=XJ hx
  refine Q8 hq ?_
  obtain ⟨v620,hx,hm⟩:=Z3 hm
  refine XQ 47 2 48 3 Qe.toD v207 ([]:List Qe) v620 (xs:=(List.map Qe.toD) v207) (es:=(List.map Qe.toD) ([]:List Qe)) (L:=(List.map Qe.toD)) (fun _=>rfl) rfl rfl Qe.fit hx ?_
  refine Qb 1 ?_
  refine QX ⟨by kernel_rfl,?_⟩
  refine Y5 ?_
  refine Qb 5 ?_
  refine QaZ 1 Qi hm rfl (fun _=>rfl) (fun v621 hm=>?_)
  refine Qb 4 ?_
  refine QaZ 1 Qi hm rfl (fun _=>rfl) (fun v622 hm=>?_)
  refine Qb 1 ?_
  obtain ⟨v623,hx,hm⟩:=Z3 hm
  have hq:=JX hx []
  refine ZY hq ?_
  refine Qb 1 ?_
  refine QX ⟨by kernel_rfl,?_⟩
  refine R_G (Qb 2 (QX ?_))
  exact Xk _ _ hm _ (by kernel_rfl)
 ·have hq:=XJ hx
  refine Q8 hq ?_
  obtain ⟨v624,hx,hm⟩:=Z3 hm
  refine XQ 47 2 48 3 Qe.toD v207 ([v610,v613]:List Qe) v624 (xs:=(List.map Qe.toD) v207) (es:=(List.map Qe.toD) ([v610,v613]:List Qe)) (L:=(List.map Qe.toD)) (fun _=>rfl) rfl rfl Qe.fit hx ?_
  refine Qb 1 ?_
  refine QX ⟨by kernel_rfl,?_⟩
  refine Y5 ?_
  refine Qb 5 ?_
  refine QaZ 1 Qi hm rfl (fun _=>rfl) (fun v625 hm=>?_)
  refine Qb 4 ?_
  refine QaZ 1 Qi hm rfl (fun _=>rfl) (fun v626 hm=>?_)
  refine Qb 1 ?_
  obtain ⟨v627,hx,hm⟩:=Z3 hm
  have hq:=JX hx []
  refine ZY hq ?_
  refine Qb 1 ?_
  refine QX ⟨by kernel_rfl,?_⟩
  refine R_G (Qb 2 (QX ?_))
  exact Xk _ _ hm _ (by kernel_rfl)
def Ju (x:(Qe × Qe)):Option (List Qe) :=
 match x with
 | (p0,p1) =>
 Yv ((⟨p0.lo,p0.hi⟩:Qe),(⟨p1.lo,p1.hi⟩:Qe))>>=fun (v1,v2) =>
 if v2=false then
  Qs p0.lo>>=fun v3 =>
  Qs p0.hi>>=fun v4 =>
  (
  YQ (p0.lo,p0.hi,p1.lo,p1.hi,v1.lo,v1.hi,v3,v4)>>=fun out =>
  match out with
  | .inl _ =>
   some ([]:(List Qe))
  | .inr (_) =>
   some ([(⟨v3,v4⟩:Qe)]:List Qe)
  )
 else
 ZF (p0,v1,p1,p0.lo,p0.hi,([]:List Qe),0)>>=fun (v605,v606,v607) =>
 some v607
theorem Qb4 {p0 p1 r0} (hm:Ju (p0,p1)=some r0):FQ 25 [(Qe.toD p0),(Qe.toD p1)] (XV r0):=by
 unfold Ju at hm
 exact fp (fn:=f25) rfl (ge 3 (gr 2 (bi2 hm fun v1 v2 hx hm=>cp (QaA hx) (re 6 (Qf (ge 2 (rin hm (fun hm=>Qf (Y5 (Qb 2 (bi hm fun v3 hx hm=>Zr (v:=.dat (Lb v3)) rfl (fun _=>Jp (f:=56) (first:=#[]) (cap:=#[]) (e:=3) (ow':=[]) (ds:=[.lst ((List.map Qi) p0.lo)]) rfl kr kr kr kr (Q0 hx) (p1_ms (pc_ms (e:=3) Qi v3 rfl (fun _=>rfl) kr))) (Qb 2 (bi hm fun v4 hx hm=>Zr (v:=.dat (Lb v4)) rfl (fun _=>Jp (f:=56) (first:=#[]) (cap:=#[]) (e:=3) (ow':=[]) (ds:=[.lst ((List.map Qi) p0.hi)]) rfl kr kr kr kr (Q0 hx) (p1_ms (pc_ms (e:=3) Qi v4 rfl (fun _=>rfl) kr))) (Qb 2 (bs hm (fun _ hx hm=>Q8 (JW hx) (re 1 ⟨kr,Qk (by obtain rfl:=QaI hm; exact ⟨trivial,Xl [(.arr 3 0 0 1)] kr (po_arr kr)⟩)⟩)) fun _ hx hm=>Q8 (JW hx) (re 1 ⟨kr,Qk (by obtain rfl:=QaI hm; exact ⟨trivial,Xl [(.arr 3 0 1 1)] kr (po_arr kr)⟩)⟩))))))))) (fun hm=>Qn (ge 1 (ge 3 (Qf (gr 2 (QP Qi p0.lo (re 1 (Qm (ru1 hm (Xk _) fun ⟨v605,v606,v607⟩ d hm=>ge 2 (Qk zf)))))))))))))))))
def QM (x:((List Int) × (List Int) × (List Int) × (List Qa) × (List Qa) × Int × Qa × Int × Int × Int × (List Int) × Int × Int × Int × Int)):Option ((Int × Int × Int × (List Int) × Int × Int × Int)) :=
 match x with
 | (p3,p1,p2,v201,p0,v202,v602,v803,v804,v805,v806,v807,v808,v809,v810) =>
 if v810 < (p3.length:Int) then
  idx p3 v810>>=fun v1210 =>
  Yn ((⟨v803,v804,v805,v806,v807,v808,v809⟩:Qp),v810,v1210)>>=fun v1211 =>
  QM (p3,p1,p2,v201,p0,v202,v602,v1211.kind,v1211.buffer,v1211.base,v1211.strides,v1211.start,v1211.step,v1211.mod,(W (v810+1)))
 else
 some (v803,v804,v805,v806,v807,v808,v809)
 partial_fixpoint
theorem X6:∀ x r,QM x=some r→match x with|(p3,p1,p2,v201,p0,v202,v602,v803,v804,v805,v806,v807,v808,v809,v810)=>LQ f8 8 [1,1,0,1,0,0,1,1,0,0,1,1,0,1,0,0] 3 ⟨kp 78 [(1,(La p1)),(2,(La p2)),(3,(La p3)),(9,(Jr v201)),(11,(.ptr 1 0)),(12,(.ptr 2 0)),(18,(QE p0)),(19,(Qd (p0.length:Int))),(20,(Qd v202)),(26,(La p3)),(27,(Qd (p3.length:Int))),(28,(Qd v810))],[(.tok 49 v201.length),(Z5 v602.box.lo v602.box.hi v602.access.kind v602.access.buffer v602.access.base v602.access.strides v602.access.start v602.access.step v602.access.mod),(Qx v803 v804 v805 v806 v807 v808 v809)]⟩ (P1 (.exit 2) (fun (v1203,v1204,v1205,v1206,v1207,v1208,v1209) d=>⟨sl d 78 [(1,(La p1)),(2,(La p2)),(3,(La p3)),(9,(Jr v201)),(11,(.ptr 1 0)),(12,(.ptr 2 0)),(18,(QE p0)),(19,(Qd (p0.length:Int))),(20,(Qd v202))],[(.tok 49 v201.length),(Z5 v602.box.lo v602.box.hi v602.access.kind v602.access.buffer v602.access.base v602.access.strides v602.access.start v602.access.step v602.access.mod),(Qx v1203 v1204 v1205 v1206 v1207 v1208 v1209)]⟩) r):=by
 refine QM.partial_correctness _ (fun QM X6 x r hm=>?_)
 obtain ⟨p3,p1,p2,v201,p0,v202,v602,v803,v804,v805,v806,v807,v808,v809,v810⟩:=x
 exact lp (ge 1 (Qf (ri hm (fun hm=>Qn (Qf (Qm (gr 1 (QY 1 Qi hm fun v1210 hm=>re 3 (R_G (Qb 3 (bi hm fun v1211 hx hm=>cp (QbA hx) (re 1 (R_G (re 2 (X6 _ _ hm _ kr)))))))))))) (fun hm=>QI zf))))
def ZD (x:((List Qa) × (List Int) × (List Int) × (List Int) × (List Qa) × Int)):Option ((List Qa)) :=
 match x with
 | (p0,p3,p1,p2,v201,v202) =>
 if v202 < (p0.length:Int) then
  idx p0 v202>>=fun v602 =>
  QM (p3,p1,p2,v201,p0,v202,v602,v602.access.kind,v602.access.buffer,v602.access.base,v602.access.strides,v602.access.start,v602.access.step,v602.access.mod,0)>>=fun (v1203,v1204,v1205,v1206,v1207,v1208,v1209) =>
  Yw (v602.box.lo,v602.box.hi,p2,p3)>>=fun v1212 =>
  app 120 v201 ([(⟨v1212,(⟨v1203,v1204,v1205,v1206,v1207,v1208,v1209⟩:Qp)⟩:Qa)]:List Qa)>>=fun v1213 =>
  ZD (p0,p3,p1,p2,v1213,(W (v202+1)))
 else
 some v201
 partial_fixpoint
theorem X5:∀ x r,ZD x=some r→match x with|(p0,p3,p1,p2,v201,v202)=>LQ f8 8 [1,1,0,1,0,0] 1 ⟨kp 78 [(1,(La p1)),(2,(La p2)),(3,(La p3)),(9,(Jr v201)),(18,(QE p0)),(19,(Qd (p0.length:Int))),(20,(Qd v202))],[(.tok 49 v201.length)]⟩ (P1 (.exit 0) (fun v601 d=>⟨sl d 78 [(1,(La p1)),(2,(La p2)),(3,(La p3)),(9,(Jr v601))],[(.tok 49 v601.length)]⟩) r):=by
 refine ZD.partial_correctness _ (fun ZD X5 x r hm=>?_)
 obtain ⟨p0,p3,p1,p2,v201,v202⟩:=x
 exact lp (ge 1 (Qf (ri hm (fun hm=>Qn (Qf (Qm (Qf (R_G (QY 9 Qa.toD hm fun v602 hm=>re 3 (ge 4 (Qf (gr 1 (QP Qi p3 (re 1 (Qm (ru1 hm (X6 _) fun ⟨v1203,v1204,v1205,v1206,v1207,v1208,v1209⟩ d hm=>Y5 (Qb 9 (bi hm fun v1212 hx hm=>cp (QaC hx) (Qb 3 (bi hm fun v1213 hx hm=>XQ 49 9 120 0 Qa.toD v201 ([(⟨v1212,(⟨v1203,v1204,v1205,v1206,v1207,v1208,v1209⟩:Qp)⟩:Qa)]:List Qa) v1213 (xs:=(List.map Qa.toD) v201) (es:=(List.map Qa.toD) ([(⟨v1212,(⟨v1203,v1204,v1205,v1206,v1207,v1208,v1209⟩:Qp)⟩:Qa)]:List Qa)) (L:=(List.map Qa.toD)) (fun _=>rfl) rfl rfl Qa.fit hx (re 1 ⟨kr,R_G (re 2 (X5 _ _ hm _ kr))⟩)))))))))))))))))) (fun hm=>QI zf))))
def ZE (x:((List Qe) × Qe × (List Qa) × Int)):Option ((List Qa)) :=
 match x with
 | (v1219,v1215,v1420,v1421) =>
 if v1421 < (v1219.length:Int) then
  idx v1219 v1421>>=fun v1821 =>
  app 120 v1420 ([(⟨v1821,(⟨1,0,0,([]:(List Int)),0,0,0⟩:Qp)⟩:Qa)]:List Qa)>>=fun v1822 =>
  ZE (v1219,v1215,v1822,(W (v1421+1)))
 else
 some v1420
 partial_fixpoint
theorem X7:∀ x r,ZE x=some r→match x with|(v1219,v1215,v1420,v1421)=>LQ f8 8 [1,1,1,1,0,1,0,0] 2 ⟨kp 78 [(9,(Jr v1420)),(63,(XV v1219)),(64,(Qd (v1219.length:Int))),(65,(Qd v1421))],[(.tok 49 v1420.length),(Qo v1215.lo v1215.hi)]⟩ (P1 (.exit 4) (fun v1820 d=>⟨sl d 78 [(9,(Jr v1820))],[(.tok 49 v1820.length),(Qo v1215.lo v1215.hi)]⟩) r):=by
 refine ZE.partial_correctness _ (fun ZE X7 x r hm=>?_)
 obtain ⟨v1219,v1215,v1420,v1421⟩:=x
 exact lp (ge 1 (Qf (ri hm (fun hm=>Qn (Qf (Qm (Qf (R_G (QY 2 Qe.toD hm fun v1821 hm=>re 3 (R_G (Qb 5 (bi hm fun v1822 hx hm=>XQ 49 9 120 0 Qa.toD v1420 ([(⟨v1821,(⟨1,0,0,([]:(List Int)),0,0,0⟩:Qp)⟩:Qa)]:List Qa) v1822 (xs:=(List.map Qa.toD) v1420) (es:=(List.map Qa.toD) ([(⟨v1821,(⟨1,0,0,([]:(List Int)),0,0,0⟩:Qp)⟩:Qa)]:List Qa)) (L:=(List.map Qa.toD)) (fun _=>rfl) rfl rfl Qa.fit hx (re 1 (R_G (re 2 (X7 _ _ hm _ kr))))))))))))) (fun hm=>QI zf))))
def Zm (x:((List Qa) × (List Int) × (List Int) × (List Int))):Option (List Qa) :=
 match x with
 | (p0,p1,p2,p3) =>
 ZD (p0,p3,p1,p2,([]:List Qa),0)>>=fun v601 =>
 makeM 8 (p2.length:Int) 0>>=fun v1214 =>
 Yw (v1214,p1,p2,p3)>>=fun v1215 =>
 ZR p2>>=fun (v1216,v1217,v1218) =>
 Ju ((⟨v1217,v1218⟩:Qe),v1215)>>=fun v1219 =>
 ZE (v1219,v1215,v601,0)>>=fun v1820 =>
 QZ v1820>>=fun v1823 =>
 some v1823
theorem QbD {p0 p1 p2 p3 r0} (hm:Zm (p0,p1,p2,p3)=some r0):FQ 8 [(.lst ((List.map Qa.toD) p0)),(Lb p1),(Lb p2),(Lb p3)] (QE r0):=by
 unfold Zm at hm
 exact fp (fn:=f8) rfl (ge 1 (ge 1 (Qf (gr 1 (QP Qa.toD p0 (re 1 (Qm (ru1 hm (X5 _) fun v601 d hm=>gr 1 (QP Qi p2 (bi hm fun v1214 hx hm=>Zr (v:=.dat (.lst (List.map Qi v1214))) rfl (by intro K hk; exact Qcz Qi (z:=0) (n:=(p2.length:Int)) (bytes:=8) (j:=8000) (e':=3) (os:=[]) hx (e:=3) kr kr kr kr rfl rfl kr kr kr hk) (Qb 3 (bi hm fun v1215 hx hm=>cp (QaC hx) (re 2 (Qf (Qf (Y5 (Qb 1 (bi3 hm fun v1216 v1217 v1218 hx hm=>Zr (v:=.dat (.agg [(Lb v1217),(Lb v1218)])) rfl (fun _=>Jp (f:=22) (first:=#[]) (cap:=#[]) (e:=3) (ow':=[]) (ds:=[(Lb p2)]) (p:=(.agg [(.ms 1 v1216 0 v1217.length v1217.length),(.ms 2 1 0 v1218.length v1218.length)])) (H1:=[(Qa7 v1216 v1217.length v1218.length),(XT v1216 v1217),(ZZ v1218)]) rfl kr kr kr kr (X0 hx) (p1_agg (pc_cons (pc_ms (e:=3) Qi v1217 rfl (fun _=>rfl) kr) (pc_cons (pc_ms (e:=3) Qi v1218 rfl (fun _=>rfl) kr) pc_nil)))) (Qb 1 (bi hm fun v1219 hx hm=>cp (Qb4 hx) (QP Qe.toD v1219 (re 1 ⟨kr,Qm (ru1 hm (X7 _) fun v1820 d hm=>gr 1 (bi hm fun v1823 hx hm=>cp (X8 hx) (re 1 (Qk zf))))⟩))))))))))))))))))))))
def XS:((List Qa) × (List Int) × (List Int) × (List Int)):=([(⟨⟨[0],[3]⟩,⟨2,2,0,[1],0,0,0⟩⟩:Qa)],[3],[5],[-1])
def QH:(List Qa):=[(⟨⟨[0],[1]⟩,⟨1,0,0,[],0,0,0⟩⟩:Qa),(⟨⟨[1],[4]⟩,⟨2,2,(-1),[1],0,0,0⟩⟩:Qa),(⟨⟨[4],[5]⟩,⟨1,0,0,[],0,0,0⟩⟩:Qa)]
def Qaj:((List Qa) × (List Int) × (List Int) × (List Int))→(List Qa)→Prop:=fun x r=>match x,r with
 | (p0,p1,p2,p3),r0=>∀ H,PC prog env 8 ([(.lst ((List.map Qa.toD) p0)),(Lb p1),(Lb p2),(Lb p3)].map .dat) H (QE r0) H
theorem Qbb:Qaj XS QH:=fun H=>PC_of (n:=200) (by kernel_rfl)
def ZL (x:((List Qa) × (List Int) × (List Int) × (List Int))):Option (List Qa) :=
 if x=XS then some QH else
 Zm x
theorem Jc:∀ x r,ZL x=some r→Qaj x r:=by
 intro x r hm
 unfold ZL at hm
 split at hm
 ·rename_i h; subst h; cases hm; exact Qbb
 obtain ⟨p0,p1,p2,p3⟩:=x
 exact QbD hm
def Qav:((List Qa) × (List Int)):=([(⟨⟨[0],[1]⟩,⟨1,0,0,[],0,0,0⟩⟩:Qa),(⟨⟨[1],[4]⟩,⟨2,2,(-1),[1],0,0,0⟩⟩:Qa),(⟨⟨[4],[5]⟩,⟨1,0,0,[],0,0,0⟩⟩:Qa)],[2])
def Qaw:((List Qa) × (List Int)):=([(⟨⟨[0],[1]⟩,⟨1,0,0,[],0,0,0⟩⟩:Qa),(⟨⟨[1],[4]⟩,⟨2,2,(-1),[1],0,0,0⟩⟩:Qa),(⟨⟨[4],[5]⟩,⟨1,0,0,[],0,0,0⟩⟩:Qa)],[5])
def Qay:(Ym × Bool):=((⟨false,2,1⟩:Ym),true)
def Qaz:(Ym × Bool):=((⟨false,0,0⟩:Ym),false)
def JM:((List Qa) × (List Int))→(Ym × Bool)→Prop:=fun x r=>match x,r with
 | (p0,p1),(r0,r1)=>∀ H,PC prog env 14 ([(.lst ((List.map Qa.toD) p0)),(Lb p1)].map .dat) H (.tup [(.dat (Ym.toD r0)),(Qh r1)]) H
theorem Qbp:JM Qav Qay:=fun H=>PC_of (n:=200) (by kernel_rfl)
theorem Qbq:JM Qaw Qaz:=fun H=>PC_of (n:=200) (by kernel_rfl)
def YK (x:((List Qa) × (List Int))):Option (Ym × Bool) :=
 if x=Qav then some Qay else
 if x=Qaw then some Qaz else
 none
theorem QaP:∀ x r,YK x=some r→JM x r:=by
 intro x r hm
 unfold YK at hm
 split at hm
 ·rename_i h; subst h; cases hm; exact Qbp
 split at hm
 ·rename_i h; subst h; cases hm; exact Qbq
 cases hm
def Xi (x:(Qe × Int)):Option (Unit ⊕ Unit) :=
 match x with
 | (p0,v202) =>
 if v202 < (p0.lo.length:Int) then
  idx p0.lo v202>>=fun v602 =>
  ((if v602 < 0 then
   some true
  else
  idx p0.hi v202>>=fun v605 =>
  some (decide (v602 > v605))
  )>>=fun (v604:Bool) =>
  if v604=true then
   some true
  else
  idx p0.hi v202>>=fun v606 =>
  some (decide (v606 > 65536))
  )>>=fun (v603:Bool) =>
  if v603=true then
   some (Sum.inl ())
  else
  Xi (p0,(W (v202+1)))
 else
 some (Sum.inr ())
 partial_fixpoint
theorem JV:∀ x r,Xi x=some r→match x with|(p0,v202)=>LQ f43 43 [1,1,0,1,0,0] 1 ⟨kp 46 [(1,(.ptr 0 0)),(19,(La p0.lo)),(20,(Qd (p0.lo.length:Int))),(21,(Qd v202))],[(Qo p0.lo p0.hi)]⟩ (P2 .ret (fun _ d=>⟨sl d 46 [(2,(Qh false))],[(Qo p0.lo p0.hi)]⟩) (.exit 0) (fun _ d=>⟨sl d 46 [],[(Qo p0.lo p0.hi)]⟩) r):=by
 refine Xi.partial_correctness _ (fun Xi JV x r hm=>?_)
 obtain ⟨p0,v202⟩:=x
 exact lp (ge 1 (Qf (ri hm (fun hm=>Qn (Qf (Qm (gr 1 (QY 1 Qi hm fun v602 hm=>re 3 (Qf (bi hm fun v603 hs hm=>Xt (fun d=>⟨sl d 46 [(1,(.ptr 0 0)),(19,(La p0.lo)),(20,(Qd (p0.lo.length:Int))),(21,(Qd v202)),(44,(Qh v603))],[(Qo p0.lo p0.hi)]⟩) (have hm:=hs;Qa4 (Qb 3 (bi hm fun v604 hs hm=>Zk (j:=11) (fun d=>⟨sl d 46 [(1,(.ptr 0 0)),(3,(Qd v202)),(19,(La p0.lo)),(20,(Qd (p0.lo.length:Int))),(21,(Qd v202)),(36,(Qh v604))],[(Qo p0.lo p0.hi)]⟩) (fun d=>Qb 1 (gsb 37 hm (fun hm=>re 7 ⟨kr,zf⟩) (fun hm=>Qb 3 (QY 1 Qi hm fun v606 hm=>re 3 ⟨kr,zf⟩)))) (fun hJ=>gs 28 hs (fun hm=>Qb 8 zf) (fun hm=>Qb 4 (QY 1 Qi hm fun v605 hm=>Qb 3 zf)))))) (fun d=>rib hm (fun hm=>ge 1 (Qk zf)) (fun hm=>Qn (R_G (re 2 (JV _ _ hm _ kr)))))))))))) (fun hm=>QI zf))))
def J9 (x:Qe):Option Bool :=
 match x with
 | p0 =>
 (if (p0.lo.length:Int)≠(p0.hi.length:Int) then
  some true
 else
 some (decide ((p0.lo.length:Int) > 16))
 )>>=fun (v1:Bool) =>
 if v1=true then
  some false
 else
 (
 Xi (p0,0)>>=fun out =>
 match out with
 | .inl _ =>
  some false
 | .inr (_) =>
  some true
 )
theorem Qbo {p0 r0} (hm:J9 p0=some r0):FQ 43 [(Qe.toD p0)] (Qh r0):=by
 unfold J9 at hm
 exact fp (fn:=f43) rfl (ge 2 (Qf (Qf (bi hm fun v1 hs hm=>Xt (fun d=>⟨sl d 46 [(1,(.ptr 0 0)),(17,(Qh v1))],[(Qo p0.lo p0.hi)]⟩) (have hm:=hs;R_G (Qb 2 (QP Qi p0.lo (Qb 2 (QP Qi p0.hi (Qb 2 (gsx 12 hm (fun hm=>re 5 zf) (fun hm=>Qb 2 (QP Qi p0.lo (re 2 zf)))))))))) (fun d=>rib hm (fun hm=>ge 1 (Qk zf)) (fun hm=>Qn (Qf (gr 2 (QP Qi p0.lo (re 1 (Qm (ru2 hm (JV _) (fun _ d hm=>zf) fun _ d hm=>ge 1 (Qk zf)))))))))))))
def Qap (x:Int):Option Bool :=
 match x with
 | p0 =>
 if p0 < (-1099511627776) then
  some true
 else
 some (decide (p0 > 1099511627776))
theorem QbS {p0 r0} (hm:Qap p0=some r0):FQ 75 [(Qi p0)] (Qh r0):=by
 unfold Qap at hm
 exact fp (fn:=f75) rfl (ge 1 (gr 3 (gs 5 hm (fun hm=>re 4 (Qk zf)) (fun hm=>re 4 (Qk zf)))))
def QG (x:((List Int) × Int)):Option (Int ⊕ Unit) :=
 match x with
 | (p0,v201) =>
 if v201 < (p0.length:Int) then
  idx p0 v201>>=fun v602 =>
  Qap v602>>=fun v603 =>
  if v603=true then
   some (Sum.inl v201)
  else
  QG (p0,(W (v201+1)))
 else
 some (Sum.inr ())
 partial_fixpoint
theorem Zf:∀ x r,QG x=some r→match x with|(p0,v201)=>LQ f94 94 [1,0,1,0,0] 0 ⟨kp 19 [(0,(La p0)),(1,(.dat (.raw (.func (.func 75) #[] #[])))),(7,(Qd (p0.length:Int))),(8,(Qd v201))],[]⟩ (P2 .ret (fun v601 d=>⟨sl d 19 [(4,(Qd v601))],[]⟩) (.exit 0) (fun _ d=>⟨sl d 19 [],[]⟩) r):=by
 refine QG.partial_correctness _ (fun QG Zf x r hm=>?_)
 obtain ⟨p0,v201⟩:=x
 exact lp (ge 1 (Qf (ri hm (fun hm=>Qn (Qf (Qm (ge 2 (gr 3 (QY 1 Qi hm fun v602 hm=>Qb 1 (bi hm fun v603 hx hm=>cp (QbS hx) (QX (rib hm (fun hm=>ge 2 (Qk zf)) (fun hm=>Qn (R_G (re 2 (Zf _ _ hm _ kr))))))))))))) (fun hm=>QI zf))))
def ZA (x:(List Int)):Option Int :=
 match x with
 | p0 =>
 (
 QG (p0,0)>>=fun out =>
 match out with
 | .inl v601 =>
  some v601
 | .inr (_) =>
  some (-1)
 )
theorem Xs {p0 r0} (hm:ZA p0=some r0):FQ 94 [(Lb p0),(.raw (.func (.func 75) #[] #[]))] (Qd r0):=by
 unfold ZA at hm
 exact fp (fn:=f94) rfl (ge 1 (Qf (gr 1 (QP Qi p0 (re 1 (Qm (ru2 hm (Zf _) (fun v601 d hm=>zf) fun _ d hm=>ge 1 (Qk zf))))))))
def Zd (x:(List Int)):Option Bool :=
 match x with
 | p0 =>
 ZA p0>>=fun v1 =>
 some (decide (v1≥0))
theorem Y9 {p0 r0} (hm:Zd p0=some r0):FQ 74 [(Lb p0),(.raw (.func (.func 75) #[] #[]))] (Qh r0):=by
 unfold Zd at hm
 exact fp (fn:=f74) rfl (ge 1 (gr 2 (bi hm fun v1 hx hm=>cp (Xs hx) (re 2 (Qk zf)))))
def ZC (x:((List Int) × (List Int) × Int)):Option (Unit ⊕ Unit) :=
 match x with
 | (p0,p1,v201) =>
 if v201 < (p0.length:Int) then
  idx p0 v201>>=fun v601 =>
  idx p1 v201>>=fun v602 =>
  if v601≠v602 then
   some (Sum.inl ())
  else
  ZC (p0,p1,(W (v201+1)))
 else
 some (Sum.inr ())
 partial_fixpoint
theorem Yt:∀ x r,ZC x=some r→match x with|(p0,p1,v201)=>LQ f95 95 [1,1,0,1,0,0] 0 ⟨kp 26 [(0,(La p0)),(1,(La p1)),(12,(Qd (p0.length:Int))),(13,(Qd v201))],[]⟩ (P2 .ret (fun _ d=>⟨sl d 26 [(4,(Qh false))],[]⟩) (.exit 0) (fun _ d=>⟨sl d 26 [],[]⟩) r):=by
 refine ZC.partial_correctness _ (fun ZC Yt x r hm=>?_)
 obtain ⟨p0,p1,v201⟩:=x
 exact lp (ge 1 (Qf (ri hm (fun hm=>Qn (Qf (Qm (ge 2 (Qf (Y5 (Qb 2 (QY 1 Qi hm fun v601 hm=>Qb 3 (QY 1 Qi hm fun v602 hm=>re 2 ⟨kr,rix hm (fun hm=>ge 1 (Qk zf)) (fun hm=>Qn (R_G (re 2 (Yt _ _ hm _ kr))))⟩))))))))) (fun hm=>QI zf))))
def YT (x:((List Int) × (List Int))):Option Bool :=
 match x with
 | (p0,p1) =>
 if (p0.length:Int)≠(p1.length:Int) then
  some false
 else
 (
 ZC (p0,p1,0)>>=fun out =>
 match out with
 | .inl _ =>
  some false
 | .inr (_) =>
  some true
 )
theorem Qat {p0 p1 r0} (hm:YT (p0,p1)=some r0):FQ 95 [(Lb p0),(Lb p1)] (Qh r0):=by
 unfold YT at hm
 exact fp (fn:=f95) rfl (ge 1 (Qf (gr 1 (QP Qi p0 (Qb 1 (QP Qi p1 (re 1 (rix hm (fun hm=>ge 1 (Qk zf)) (fun hm=>Qn (Qf (gr 1 (QP Qi p0 (re 1 (Qm (ru2 hm (Yt _) (fun _ d hm=>zf) fun _ d hm=>ge 1 (Qk zf))))))))))))))))
def Qad (x:(Qp × Qp)):Option Bool :=
 match x with
 | (p0,p1) =>
 YT (p0.strides,p1.strides)>>=fun v1 =>
 (if v1=true then
  some (p0.kind == p1.kind)
 else
 some false
 )>>=fun (v2:Bool) =>
 (if v2=true then
  some (p0.buffer == p1.buffer)
 else
 some false
 )>>=fun (v3:Bool) =>
 (if v3=true then
  some (p0.base == p1.base)
 else
 some false
 )>>=fun (v4:Bool) =>
 (if v4=true then
  some (p0.start == p1.start)
 else
 some false
 )>>=fun (v5:Bool) =>
 (if v5=true then
  some (p0.step == p1.step)
 else
 some false
 )>>=fun (v6:Bool) =>
 if v6=true then
  some (p0.mod == p1.mod)
 else
 some false
theorem QbJ {p0 p1 r0} (hm:Qad (p0,p1)=some r0):FQ 76 [(Qp.toD p0),(Qp.toD p1)] (Qh r0):=by
 unfold Qad at hm
 exact fp (fn:=f76) rfl (ge 3 (Qf (Y5 (re 6 ⟨kr,ge 4 (Qf (Qa4 (Qb 4 (bi hm fun v1 hx hm=>cp (Qat hx) (Qb 1 (bi hm fun v2 hs hm=>Zk (j:=12) (fun d=>⟨sl d 58 [(4,(Qh false)),(5,(.ptr 0 0)),(6,(.ptr 1 0)),(22,(Qh v2))],[(Xy p0.kind p0.buffer p0.base p0.start p0.step p0.mod),(Xy p1.kind p1.buffer p1.base p1.start p1.step p1.mod)]⟩) (fun d=>Qb 1 (bi hm fun v3 hs hm=>Zk (j:=19) (fun d=>⟨sl d 58 [(4,(Qh false)),(5,(.ptr 0 0)),(6,(.ptr 1 0)),(29,(Qh v3))],[(Xy p0.kind p0.buffer p0.base p0.start p0.step p0.mod),(Xy p1.kind p1.buffer p1.base p1.start p1.step p1.mod)]⟩) (fun d=>Qb 1 (bi hm fun v4 hs hm=>Zk (j:=26) (fun d=>⟨sl d 58 [(4,(Qh false)),(5,(.ptr 0 0)),(6,(.ptr 1 0)),(36,(Qh v4))],[(Xy p0.kind p0.buffer p0.base p0.start p0.step p0.mod),(Xy p1.kind p1.buffer p1.base p1.start p1.step p1.mod)]⟩) (fun d=>Qb 1 (bi hm fun v5 hs hm=>Zk (j:=33) (fun d=>⟨sl d 58 [(4,(Qh false)),(5,(.ptr 0 0)),(6,(.ptr 1 0)),(43,(Qh v5))],[(Xy p0.kind p0.buffer p0.base p0.start p0.step p0.mod),(Xy p1.kind p1.buffer p1.base p1.start p1.step p1.mod)]⟩) (fun d=>Qb 1 (bi hm fun v6 hs hm=>Zk (j:=40) (fun d=>⟨sl d 58 [(4,(Qh false)),(5,(.ptr 0 0)),(6,(.ptr 1 0)),(50,(Qh v6))],[(Xy p0.kind p0.buffer p0.base p0.start p0.step p0.mod),(Xy p1.kind p1.buffer p1.base p1.start p1.step p1.mod)]⟩) (fun d=>Qb 1 (gsb 51 hm (fun hm=>re 7 ⟨kr,Qk zf⟩) (fun hm=>re 7 ⟨kr,Qk zf⟩))) (fun hJ=>gsb 44 hs (fun hm=>Qb 6 zf) (fun hm=>Qb 6 zf)))) (fun hJ=>gsb 37 hs (fun hm=>Qb 6 zf) (fun hm=>Qb 6 zf)))) (fun hJ=>gsb 30 hs (fun hm=>Qb 6 zf) (fun hm=>Qb 6 zf)))) (fun hJ=>gsb 23 hs (fun hm=>Qb 6 zf) (fun hm=>Qb 6 zf)))) (fun hJ=>gsb 16 hs (fun hm=>Qb 6 zf) (fun hm=>Qb 6 zf))))))))⟩))))
def JO (x:(Qp × Int)):Option Bool :=
 match x with
 | (p0,p1) =>
 if p1 < 0 then
  some false
 else
 if p1 > 16 then
  some false
 else
 app 8 ([p0.buffer,p0.base,p0.start,p0.step,p0.mod]:List Int) p0.strides>>=fun v1 =>
 Zd v1>>=fun v2 =>
 if v2=true then
  some false
 else
 if p0.kind=1 then
  Qad ((⟨p0.kind,p0.buffer,p0.base,p0.strides,p0.start,p0.step,p0.mod⟩:Qp),(⟨1,0,0,([]:(List Int)),0,0,0⟩:Qp))>>=fun v3 =>
  some v3
 else
 if p0.kind=2 then
  (if p0.buffer≥0 then
   some ((p0.strides.length:Int) == p1)
  else
  some false
  )>>=fun (v4:Bool) =>
  (if v4=true then
   some (p0.start == 0)
  else
  some false
  )>>=fun (v5:Bool) =>
  (if v5=true then
   some (p0.step == 0)
  else
  some false
  )>>=fun (v6:Bool) =>
  if v6=true then
   some (p0.mod == 0)
  else
  some false
 else
 if p0.kind=3 then
  (if p0.buffer≥0 then
   some ((p0.strides.length:Int) == p1)
  else
  some false
  )>>=fun (v7:Bool) =>
  if v7=true then
   some (decide (p0.mod > 0))
  else
  some false
 else
 some false
theorem Qbz {p0 p1 r0} (hm:JO (p0,p1)=some r0):FQ 45 [(Qp.toD p0),(Qi p1)] (Qh r0):=by
 unfold JO at hm
 exact fp (fn:=f45) rfl (ge 2 (Qf (gr 3 (gs 7 hm (fun hm=>re 20 (Qao kr (ge 1 (Qk zf)))) (fun hm=>Qb 4 (gs 11 hm (fun hm=>re 16 (Qao kr (ge 1 (Qk zf)))) (fun hm=>Qb 13 (bi hm fun v1 hx hm=>XQ 3 1 8 1 Qi ([p0.buffer,p0.base,p0.start,p0.step,p0.mod]:List Int) p0.strides v1 (xs:=(List.map Qi) ([p0.buffer,p0.base,p0.start,p0.step,p0.mod]:List Int)) (es:=(List.map Qi) p0.strides) (L:=(List.map Qi)) (fun _=>rfl) rfl rfl (fun _=>rfl) hx (bi hm fun v2 hx hm=>cp (Y9 hx) (re 1 (rib hm (fun hm=>ge 1 (Qk zf)) (fun hm=>Qn (Qf (ge 2 (Qm (ge 2 (riq hm (fun hm=>gr 2 (bi hm fun v3 hx hm=>cp (QbJ hx) (re 1 (Qk zf)))) (fun hm=>ge 2 (riq hm (fun hm=>Qf (Qa4 (Qb 4 (bi hm fun v4 hs hm=>Zk (j:=10) (fun d=>⟨sl d 79 [(2,(.ptr 0 0)),(4,(Qh false)),(46,(Qh v4))],[(Qx p0.kind p0.buffer p0.base p0.strides p0.start p0.step p0.mod),(.tok 3 v1.length)]⟩) (fun d=>Qb 1 (bi hm fun v5 hs hm=>Zk (j:=15) (fun d=>⟨sl d 79 [(2,(.ptr 0 0)),(4,(Qh false)),(51,(Qh v5))],[(Qx p0.kind p0.buffer p0.base p0.strides p0.start p0.step p0.mod),(.tok 3 v1.length)]⟩) (fun d=>Qb 1 (bi hm fun v6 hs hm=>Zk (j:=20) (fun d=>⟨sl d 79 [(2,(.ptr 0 0)),(4,(Qh false)),(56,(Qh v6))],[(Qx p0.kind p0.buffer p0.base p0.strides p0.start p0.step p0.mod),(.tok 3 v1.length)]⟩) (fun d=>Qb 1 (gsb 57 hm (fun hm=>re 5 ⟨kr,Qk zf⟩) (fun hm=>re 5 ⟨kr,Qk zf⟩))) (fun hJ=>gsb 52 hs (fun hm=>Qb 4 zf) (fun hm=>Qb 4 zf)))) (fun hJ=>gsb 47 hs (fun hm=>Qb 4 zf) (fun hm=>Qb 4 zf)))) (fun hJ=>gs 40 hs (fun hm=>Qb 2 (QP Qi p0.strides (Qb 3 zf))) (fun hm=>Qb 6 zf)))))) (fun hm=>ge 2 (riq hm (fun hm=>Qf (Qa4 (Qb 4 (bi hm fun v7 hs hm=>Zk (j:=10) (fun d=>⟨sl d 79 [(2,(.ptr 0 0)),(4,(Qh false)),(73,(Qh v7))],[(Qx p0.kind p0.buffer p0.base p0.strides p0.start p0.step p0.mod),(.tok 3 v1.length)]⟩) (fun d=>Qb 1 (gsb 74 hm (fun hm=>re 5 ⟨kr,Qk zf⟩) (fun hm=>re 5 ⟨kr,Qk zf⟩))) (fun hJ=>gs 67 hs (fun hm=>Qb 2 (QP Qi p0.strides (Qb 3 zf))) (fun hm=>Qb 6 zf)))))) (fun hm=>Qn (ge 1 (Qk zf))))))))))))))))))))))))
def XE (x:Int):Option Bool :=
 match x with
 | p0 =>
 some (p0 != p0)
theorem QaB {p0 r0} (hm:XE p0=some r0):FQ 114 [(Qi p0)] (Qh r0):=by
 unfold XE at hm
 exact fp (fn:=f114) rfl (ge 1 (ge 4 (Qk zf)))
def XW (x:(Int × Int)):Option Int :=
 match x with
 | (p0,p1) =>
 XE p0>>=fun v1 =>
 XE p1>>=fun v2 =>
 if v1=true then
  if v2=true then
   some 0
  else
  some (-1)
 else
 if v2=true then
  some 1
 else
 if p0 < p1 then
  some (-1)
 else
 if p0 > p1 then
  some 1
 else
 some 0
theorem Qbe {p0 p1 r0} (hm:XW (p0,p1)=some r0):FQ 96 [(Qi p0),(Qi p1)] (Qd r0):=by
 unfold XW at hm
 exact fp (fn:=f96) rfl (ge 1 (gr 1 (bi hm fun v1 hx hm=>cp (QaB hx) (re 1 (gr 1 (bi hm fun v2 hx hm=>cp (QaB hx) (re 1 (Qf (ge 1 (rib hm (fun hm=>Qf (ge 1 (rib hm (fun hm=>ge 1 (Qk zf)) (fun hm=>Qn (ge 1 (Qk zf)))))) (fun hm=>Qn (Qf (ge 1 (rib hm (fun hm=>ge 1 (Qk zf)) (fun hm=>Qn (Qf (ge 3 (ri hm (fun hm=>ge 1 (Qk zf)) (fun hm=>Qn (Qf (ge 3 (ri hm (fun hm=>ge 1 (Qk zf)) (fun hm=>Qn (ge 1 (Qk zf)))))))))))))))))))))))))
def Zj (x:((List Int) × (List Int) × Int)):Option (Int ⊕ Unit) :=
 match x with
 | (p0,p1,v201) =>
 if v201 < (p0.length:Int) then
  idx p0 v201>>=fun v602 =>
  if v201≥(p1.length:Int) then
   some (Sum.inl 1)
  else
  idx p1 v201>>=fun v603 =>
  XW (v602,v603)>>=fun v604 =>
  if v604≠0 then
   some (Sum.inl v604)
  else
  Zj (p0,p1,(W (v201+1)))
 else
 some (Sum.inr ())
 partial_fixpoint
theorem Yi:∀ x r,Zj x=some r→match x with|(p0,p1,v201)=>LQ f77 77 [1,0,1,0,0] 0 ⟨kp 36 [(0,(La p0)),(1,(La p1)),(9,(La p0)),(10,(Qd (p0.length:Int))),(11,(Qd v201))],[]⟩ (P2 .ret (fun v601 d=>⟨sl d 36 [(4,(Qd v601))],[]⟩) (.exit 0) (fun _ d=>⟨sl d 36 [(0,(La p0)),(1,(La p1))],[]⟩) r):=by
 refine Zj.partial_correctness _ (fun Zj Yi x r hm=>?_)
 obtain ⟨p0,p1,v201⟩:=x
 exact lp (ge 1 (Qf (ri hm (fun hm=>Qn (Qf (Qm (gr 1 (QY 1 Qi hm fun v602 hm=>re 3 (Qf (gr 2 (QP Qi p1 (re 1 (ri hm (fun hm=>ge 1 (Qk zf)) (fun hm=>Qn (gr 2 (QY 1 Qi hm fun v603 hm=>re 2 (gr 2 (bi hm fun v604 hx hm=>cp (Qbe hx) (re 1 (ge 2 (rix hm (fun hm=>ge 2 (Qk zf)) (fun hm=>Qn (R_G (re 2 (Yi _ _ hm _ kr)))))))))))))))))))))) (fun hm=>QI zf))))
def YG (x:((List Int) × (List Int))):Option Int :=
 match x with
 | (p0,p1) =>
 (
 Zj (p0,p1,0)>>=fun out =>
 match out with
 | .inl v601 =>
  some v601
 | .inr (_) =>
  if (p0.length:Int) < (p1.length:Int) then
   some (-1)
  else
  some 0
 )
theorem Qag {p0 p1 r0} (hm:YG (p0,p1)=some r0):FQ 77 [(Lb p0),(Lb p1)] (Qd r0):=by
 unfold YG at hm
 exact fp (fn:=f77) rfl (ge 1 (Qf (gr 1 (QP Qi p0 (re 1 (Qm (ru2 hm (Yi _) (fun v601 d hm=>zf) fun _ d hm=>Qf (gr 1 (QP Qi p0 (Qb 1 (QP Qi p1 (re 1 (ri hm (fun hm=>ge 1 (Qk zf)) (fun hm=>Qn (ge 1 (Qk zf))))))))))))))))
def JQ (x:(Qa × Qa)):Option Int :=
 match x with
 | (p0,p1) =>
 YG (p0.box.lo,p1.box.lo)>>=fun v1 =>
 some v1
theorem QbE {p0 p1 r0} (hm:JQ (p0,p1)=some r0):FQ 46 [(Qa.toD p0),(Qa.toD p1)] (Qd r0):=by
 unfold JQ at hm
 exact fp (fn:=f46) rfl (ge 3 (gr 6 (bi hm fun v1 hx hm=>cp (Qag hx) (re 1 (Qk zf)))))
def Jv (x:(Qe × (List Int) × Int)):Option (Unit ⊕ Unit) :=
 match x with
 | (p1,p0,v203) =>
 if v203 < (p1.hi.length:Int) then
  idx p1.hi v203>>=fun v603 =>
  idx p0 v203>>=fun v604 =>
  if v603 > v604 then
   some (Sum.inl ())
  else
  Jv (p1,p0,(W (v203+1)))
 else
 some (Sum.inr ())
 partial_fixpoint
theorem QaN:∀ x r,Jv x=some r→match x with|(p1,p0,v203)=>LQ f79 79 [1,1,0,1,0,0] 1 ⟨kp 33 [(0,(La p0)),(19,(La p1.hi)),(20,(Qd (p1.hi.length:Int))),(21,(Qd v203))],[(Qo p1.lo p1.hi)]⟩ (P2 .ret (fun _ d=>⟨sl d 33 [(4,(Qh false))],[(Qo p1.lo p1.hi)]⟩) (.exit 0) (fun _ d=>⟨sl d 33 [],[(Qo p1.lo p1.hi)]⟩) r):=by
 refine Jv.partial_correctness _ (fun Jv QaN x r hm=>?_)
 obtain ⟨p1,p0,v203⟩:=x
 exact lp (ge 1 (Qf (ri hm (fun hm=>Qn (Qf (Qm (gr 1 (QY 1 Qi hm fun v603 hm=>re 3 (gr 3 (QY 1 Qi hm fun v604 hm=>re 2 (ri hm (fun hm=>ge 1 (Qk zf)) (fun hm=>Qn (R_G (re 2 (QaN _ _ hm _ kr)))))))))))) (fun hm=>QI zf))))
def Qby (x:((List Int) × Qe)):Option Bool :=
 match x with
 | (p0,p1) =>
 (J9 p1>>=fun (v2:Bool) =>
 if v2=false then
  some true
 else
 some ((p1.hi.length:Int) != (p0.length:Int))
 )>>=fun (v1:Bool) =>
 if v1=true then
  some false
 else
 (
 Jv (p1,p0,0)>>=fun out =>
 match out with
 | .inl _ =>
  some false
 | .inr (_) =>
  some true
 )
theorem Qcw {p0 p1 r0} (hm:Qby (p0,p1)=some r0):FQ 79 [(Lb p0),(Qe.toD p1)] (Qh r0):=by
 unfold Qby at hm
 exact fp (fn:=f79) rfl (ge 2 (Qf (Qf (bi hm fun v1 hs hm=>Xt (fun d=>⟨sl d 33 [(0,(La p0)),(3,(.ptr 0 0)),(17,(Qh v1))],[(Qo p1.lo p1.hi)]⟩) (have hm:=hs;R_G (Qb 1 (bi hm fun v2 hx hm=>cp (Qbo hx) (Qb 2 (gsn 10 hm (fun hm=>re 7 zf) (fun hm=>Qb 2 (QP Qi p1.hi (Qb 1 (QP Qi p0 (re 2 zf)))))))))) (fun d=>rib hm (fun hm=>ge 1 (Qk zf)) (fun hm=>Qn (Qf (gr 2 (QP Qi p1.hi (re 1 (Qm (ru2 hm (QaN _) (fun _ d hm=>zf) fun _ d hm=>ge 1 (Qk zf)))))))))))))
def Xh (x:((List Qe) × Qe × (List Int) × (List Qe) × Int × Int × Int × Int)):Option (((List Int) × (List Int) × (List Int) × (List Int)) ⊕ Unit) :=
 match x with
 | (v613,v610,p0,p1,v201,v612,v202,v814) =>
 if v814 < (v613.length:Int) then
  idx v613 v814>>=fun v1218 =>
  Yv (v610,v1218)>>=fun (v1219,v1220) =>
  if v1220=true then
   some (Sum.inl (v1218.lo,v1218.hi,v1219.lo,v1219.hi))
  else
  Xh (v613,v610,p0,p1,v201,v612,v202,(W (v814+1)))
 else
 some (Sum.inr ())
 partial_fixpoint
theorem JU:∀ x r,Xh x=some r→match x with|(v613,v610,p0,p1,v201,v612,v202,v814)=>LQ f48 48 [1,1,0,1,0,0,1,1,0,0,1,1,1,1,0,0] 1 ⟨kp 48 [(0,(La p0)),(1,(XV p1)),(5,(Qd (W (v201+v612)))),(7,(.ptr 0 0)),(12,(XV p1)),(13,(Qd (p1.length:Int))),(14,(Qd v202)),(29,(XV v613)),(30,(Qd (v613.length:Int))),(31,(Qd v814))],[(Qo v610.lo v610.hi)]⟩ (P2 .ret (fun (v1214,v1215,v1216,v1217) d=>⟨sl d 48 [(4,(Qh false))],[(Qo v610.lo v610.hi),(Qo v1214 v1215),(Qo v1216 v1217)]⟩) (.exit 2) (fun _ d=>⟨sl d 48 [(0,(La p0)),(1,(XV p1)),(5,(Qd (W (v201+v612)))),(12,(XV p1)),(13,(Qd (p1.length:Int))),(14,(Qd v202))],[(Qo v610.lo v610.hi)]⟩) r):=by
 refine Xh.partial_correctness _ (fun Xh JU x r hm=>?_)
 obtain ⟨v613,v610,p0,p1,v201,v612,v202,v814⟩:=x
 exact lp (ge 1 (Qf (ri hm (fun hm=>Qn (Qf (Qm (Qf (R_G (QY 2 Qe.toD hm fun v1218 hm=>re 3 (gr 2 (bi2 hm fun v1219 v1220 hx hm=>cp (QaA hx) (re 6 (ge 1 (rib hm (fun hm=>ge 1 (Qk zf)) (fun hm=>Qn (R_G (re 2 (JU _ _ hm _ kr))))))))))))))) (fun hm=>QI zf))))
def Xg (x:((List Qe) × (List Int) × Int × Int)):Option (((List Int) × (List Int)) ⊕ ((List Int) × (List Int) × (List Int) × (List Int) × (List Int) × (List Int)) ⊕ Int) :=
 match x with
 | (p1,p0,v201,v202) =>
 if v202 < (p1.length:Int) then
  idx p1 v202>>=fun v610 =>
  Qby (p0,v610)>>=fun v611 =>
  if v611=false then
   some (Sum.inl (v610.lo,v610.hi))
  else
  Xj v610>>=fun v612 =>
  sub p1 0 v202>>=fun v613 =>
  (
  Xh (v613,v610,p0,p1,v201,v612,v202,0)>>=fun out =>
  match out with
  | .inl (v1214,v1215,v1216,v1217) =>
   some (Sum.inr (Sum.inl (v610.lo,v610.hi,v1214,v1215,v1216,v1217)))
  | .inr (_) =>
   Xg (p1,p0,(W (v201+v612)),(W (v202+1)))
  )
 else
 some (Sum.inr (Sum.inr v201))
 partial_fixpoint
theorem JT:∀ x r,Xg x=some r→match x with|(p1,p0,v201,v202)=>LQ f48 48 [1,1,0,1,0,0] 0 ⟨kp 48 [(0,(La p0)),(1,(XV p1)),(5,(Qd v201)),(12,(XV p1)),(13,(Qd (p1.length:Int))),(14,(Qd v202))],[]⟩ (P3 .ret (fun (v601,v602) d=>⟨sl d 48 [(4,(Qh false))],[(Qo v601 v602)]⟩) .ret (fun (v603,v604,v605,v606,v607,v608) d=>⟨sl d 48 [(4,(Qh false))],[(Qo v603 v604),(Qo v605 v606),(Qo v607 v608)]⟩) (.exit 0) (fun v609 d=>⟨sl d 48 [(0,(La p0)),(5,(Qd v609))],[]⟩) r):=by
 refine Xg.partial_correctness _ (fun Xg JT x r hm=>?_)
 obtain ⟨p1,p0,v201,v202⟩:=x
 exact lp (ge 1 (Qf (ri hm (fun hm=>Qn (Qf (Qm (gr 1 (QY 2 Qe.toD hm fun v610 hm=>re 4 (Qf (gr 2 (bi hm fun v611 hx hm=>cp (Qcw hx) (re 1 (rin hm (fun hm=>ge 1 (Qk zf)) (fun hm=>Qn (gr 2 (bi hm fun v612 hx hm=>cp (Qar hx) (re 2 (gr 2 (bi hm fun v613 hx hm=>Qcr 2 Qe.toD p1 v613 0 v202 (es:=(List.map Qe.toD) p1) (L:=(List.map Qe.toD)) (a:=natI 0) (b:=natI v202) (fun _=>rfl) rfl (fun _=>by first|rfl|exact num_of_fit (Qe.fit _)) hx rfl (Or.inl rfl) (QP Qe.toD v613 (re 1 (Qm (ru2 hm (JU _) (fun ⟨v1214,v1215,v1216,v1217⟩ d hm=>zf) fun _ d hm=>R_G (re 2 (JT _ _ hm _ kr)))))))))))))))))))))) (fun hm=>QI zf))))
def QaM (x:((List Int) × (List Qe))):Option Bool :=
 match x with
 | (p0,p1) =>
 (
 Xg (p1,p0,0,0)>>=fun out =>
 match out with
 | .inl (v601,v602) =>
  some false
 | .inr (.inl (v603,v604,v605,v606,v607,v608)) =>
  some false
 | .inr (.inr (v609)) =>
  Y4 p0>>=fun v1221 =>
  some (v609 == v1221)
 )
theorem Qb3 {p0 p1 r0} (hm:QaM (p0,p1)=some r0):FQ 48 [(Lb p0),(.lst ((List.map Qe.toD) p1))] (Qh r0):=by
 unfold QaM at hm
 exact fp (fn:=f48) rfl (ge 1 (ge 1 (Qf (gr 1 (QP Qe.toD p1 (re 1 (Qm (ru3 hm (JT _) (fun ⟨v601,v602⟩ d hm=>zf) (fun ⟨v603,v604,v605,v606,v607,v608⟩ d hm=>zf) fun v609 d hm=>gr 2 (bi hm fun v1221 hx hm=>cp (QaY hx) (re 2 (Qk zf)))))))))))
def YA (x:((List Qa) × (List Int) × (List Qe) × Int)):Option (((List Int) × (List Int) × Int × Int × Int × (List Int) × Int × Int × Int × Nat) ⊕ (List Qe)) :=
 match x with
 | (p1,p0,v201,v202) =>
 if v202 < (p1.length:Int) then
  idx p1 v202>>=fun v612 =>
  (J9 v612.box>>=fun (v614:Bool) =>
  (if v614=false then
   some true
  else
  Xj v612.box>>=fun v616 =>
  some (v616 == 0)
  )>>=fun (v615:Bool) =>
  (if v615=true then
   some true
  else
  JO (v612.access,(p0.length:Int))>>=fun v618 =>
  some (!v618)
  )>>=fun (v617:Bool) =>
  if v617=true then
   some true
  else
  if v202 > 0 then
   idx p1 (W (v202 - 1))>>=fun v619 =>
   JQ (v619,v612)>>=fun v620 =>
   some (decide (v620≥0))
  else
  some false
  )>>=fun (v613:Bool) =>
  if v613=true then
   some (Sum.inl (v612.box.lo,v612.box.hi,v612.access.kind,v612.access.buffer,v612.access.base,v612.access.strides,v612.access.start,v612.access.step,v612.access.mod,v201.length))
  else
  app 48 v201 ([v612.box]:List Qe)>>=fun v621 =>
  YA (p1,p0,v621,(W (v202+1)))
 else
 some (Sum.inr v201)
 partial_fixpoint
theorem X4:∀ x r,YA x=some r→match x with|(p1,p0,v201,v202)=>LQ f15 15 [1,1,0,1,0,0] 1 ⟨kp 61 [(0,(La p0)),(1,(QE p1)),(5,(QaK v201)),(8,(QE p1)),(9,(Qd (p1.length:Int))),(10,(Qd v202))],[(.tok 47 v201.length)]⟩ (P2 .ret (fun (v601,v602,v603,v604,v605,v606,v607,v608,v609,v610) d=>⟨sl d 61 [(4,(Qh false))],[(.tok 47 v610),(Z5 v601 v602 v603 v604 v605 v606 v607 v608 v609)]⟩) (.exit 0) (fun v611 d=>⟨sl d 61 [(0,(La p0)),(5,(QaK v611))],[(.tok 47 v611.length)]⟩) r):=by
 refine YA.partial_correctness _ (fun YA X4 x r hm=>?_)
 obtain ⟨p1,p0,v201,v202⟩:=x
 exact lp (ge 1 (Qf (ri hm (fun hm=>Qn (Qf (Qm (gr 1 (QY 9 Qa.toD hm fun v612 hm=>re 4 (Qf (Qf (bi hm fun v613 hs hm=>Xt (fun d=>⟨sl d 61 [(0,(La p0)),(1,(QE p1)),(5,(QaK v201)),(7,(.ptr 1 0)),(8,(QE p1)),(9,(Qd (p1.length:Int))),(10,(Qd v202)),(46,(Qh v613))],[(.tok 47 v201.length),(Z5 v612.box.lo v612.box.hi v612.access.kind v612.access.buffer v612.access.base v612.access.strides v612.access.start v612.access.step v612.access.mod)]⟩) (have hm:=hs;QcH (Qb 2 (bi hm fun v614 hx hm=>cp (Qbo hx) (Qb 2 (bi hm fun v615 hs hm=>Zk (j:=10) (fun d=>⟨sl d 61 [(0,(La p0)),(1,(QE p1)),(5,(QaK v201)),(6,(Qd v202)),(7,(.ptr 1 0)),(8,(QE p1)),(9,(Qd (p1.length:Int))),(10,(Qd v202)),(24,(Qh v615))],[(.tok 47 v201.length),(Z5 v612.box.lo v612.box.hi v612.access.kind v612.access.buffer v612.access.base v612.access.strides v612.access.start v612.access.step v612.access.mod)]⟩) (fun d=>Qb 1 (bi hm fun v617 hs hm=>Zk (j:=18) (fun d=>⟨sl d 61 [(0,(La p0)),(1,(QE p1)),(5,(QaK v201)),(6,(Qd v202)),(7,(.ptr 1 0)),(8,(QE p1)),(9,(Qd (p1.length:Int))),(10,(Qd v202)),(32,(Qh v617))],[(.tok 47 v201.length),(Z5 v612.box.lo v612.box.hi v612.access.kind v612.access.buffer v612.access.base v612.access.strides v612.access.start v612.access.step v612.access.mod)]⟩) (fun d=>Qb 1 (gsb 33 hm (fun hm=>re 13 ⟨kr,zf⟩) (fun hm=>Qb 3 (gs 36 hm (fun hm=>Qb 3 (QY 9 Qa.toD hm fun v619 hm=>Qb 2 (bi hm fun v620 hx hm=>cp (QbE hx) (re 3 ⟨kr,zf⟩)))) (fun hm=>re 10 ⟨kr,zf⟩))))) (fun hJ=>gsb 25 hs (fun hm=>Qb 7 zf) (fun hm=>Qb 3 (QP Qi p0 (bi hm fun v618 hx hm=>cp (Qbz hx) (Qb 2 zf))))))) (fun hJ=>gsn 19 hs (fun hm=>Qb 5 zf) (fun hm=>Qb 2 (bi hm fun v616 hx hm=>cp (Qar hx) (Qb 2 zf))))))))) (fun d=>rib hm (fun hm=>ge 1 (Qk zf)) (fun hm=>Qn (R_G (Qb 4 (bi hm fun v621 hx hm=>XQ 47 2 48 0 Qe.toD v201 ([v612.box]:List Qe) v621 (xs:=(List.map Qe.toD) v201) (es:=(List.map Qe.toD) ([v612.box]:List Qe)) (L:=(List.map Qe.toD)) (fun _=>rfl) rfl rfl Qe.fit hx (re 1 (R_G (re 2 (X4 _ _ hm _ kr))))))))))))))))) (fun hm=>QI zf))))
def JP (x:((List Int) × (List Qa))):Option Bool :=
 match x with
 | (p0,p1) =>
 (
 YA (p1,p0,([]:List Qe),0)>>=fun out =>
 match out with
 | .inl (v601,v602,v603,v604,v605,v606,v607,v608,v609,v610) =>
  some false
 | .inr (v611) =>
  YF p0>>=fun v622 =>
  if v622=0 then
   QaM (p0,v611)>>=fun v623 =>
   some v623
  else
  some false
 )
theorem QbB {p0 p1 r0} (hm:JP (p0,p1)=some r0):FQ 15 [(Lb p0),(.lst ((List.map Qa.toD) p1))] (Qh r0):=by
 unfold JP at hm
 exact fp (fn:=f15) rfl (ge 1 (ge 1 (Qf (gr 1 (QP Qa.toD p1 (re 1 (Qm (ru2 hm (X4 _) (fun ⟨v601,v602,v603,v604,v605,v606,v607,v608,v609,v610⟩ d hm=>zf) fun v611 d hm=>gr 1 (bi hm fun v622 hx hm=>cp (Qaf hx) (Qb 2 (gsq 56 hm (fun hm=>Qb 2 (bi hm fun v623 hx hm=>cp (Qb3 hx) (re 2 (Qk zf)))) (fun hm=>re 5 (Qk zf)))))))))))))
def J7:((List Int) × (List Qa)):=([5],[(⟨⟨[0],[1]⟩,⟨1,0,0,[],0,0,0⟩⟩:Qa),(⟨⟨[1],[4]⟩,⟨2,2,(-1),[1],0,0,0⟩⟩:Qa),(⟨⟨[4],[5]⟩,⟨1,0,0,[],0,0,0⟩⟩:Qa)])
def J8:((List Int) × (List Qa)):=([6],[(⟨⟨[0],[1]⟩,⟨1,0,0,[],0,0,0⟩⟩:Qa),(⟨⟨[1],[4]⟩,⟨2,2,(-1),[1],0,0,0⟩⟩:Qa),(⟨⟨[4],[5]⟩,⟨1,0,0,[],0,0,0⟩⟩:Qa)])
def Qaa:Bool:=true
def Qab:Bool:=false
def Ja:((List Int) × (List Qa))→Bool→Prop:=fun x r=>match x,r with
 | (p0,p1),r0=>∀ H,PC prog env 15 ([(Lb p0),(.lst ((List.map Qa.toD) p1))].map .dat) H (Qh r0) H
theorem Qa9:Ja J7 Qaa:=fun H=>PC_of (n:=200) (by kernel_rfl)
theorem Qba:Ja J8 Qab:=fun H=>PC_of (n:=200) (by kernel_rfl)
def Yl (x:((List Int) × (List Qa))):Option Bool :=
 if x=J7 then some Qaa else
 if x=J8 then some Qab else
 JP x
theorem Qam:∀ x r,Yl x=some r→Ja x r:=by
 intro x r hm
 unfold Yl at hm
 split at hm
 ·rename_i h; subst h; cases hm; exact Qa9
 split at hm
 ·rename_i h; subst h; cases hm; exact Qba
 obtain ⟨p0,p1⟩:=x
 exact QbB hm
def Yq (x:(List Int)):Option (List Qa) :=
 match x with
 | p0 =>
 ZR p0>>=fun (v1,v2,v3) =>
 QZ ([(⟨(⟨v2,v3⟩:Qe),(⟨1,0,0,([]:(List Int)),0,0,0⟩:Qp)⟩:Qa)]:List Qa)>>=fun v4 =>
 some v4
theorem QaO {p0 r0} (hm:Yq p0=some r0):FQ 6 [(Lb p0)] (QE r0):=by
 unfold Yq at hm
 exact fp (fn:=f6) rfl (ge 1 (gr 1 (bi3 hm fun v1 v2 v3 hx hm=>Zr (v:=.dat (.agg [(Lb v2),(Lb v3)])) rfl (fun _=>Jp (f:=22) (first:=#[]) (cap:=#[]) (e:=3) (ow':=[]) (ds:=[(Lb p0)]) (p:=(.agg [(.ms 1 v1 0 v2.length v2.length),(.ms 2 1 0 v3.length v3.length)])) (H1:=[(Qa7 v1 v2.length v3.length),(XT v1 v2),(ZZ v3)]) rfl kr kr kr kr (X0 hx) (p1_agg (pc_cons (pc_ms (e:=3) Qi v2 rfl (fun _=>rfl) kr) (pc_cons (pc_ms (e:=3) Qi v3 rfl (fun _=>rfl) kr) pc_nil)))) (Qb 3 (bi hm fun v4 hx hm=>cp (X8 hx) (re 1 (Qk zf)))))))
def Qax:((List Qa) × Int × Int × Int):=([(⟨⟨[0],[1]⟩,⟨1,0,0,[],0,0,0⟩⟩:Qa),(⟨⟨[1],[4]⟩,⟨2,2,(-1),[1],0,0,0⟩⟩:Qa),(⟨⟨[4],[5]⟩,⟨1,0,0,[],0,0,0⟩⟩:Qa)],0,2,5)
def XG:(List Qa):=[(⟨⟨[0],[2]⟩,⟨2,2,1,[1],0,0,0⟩⟩:Qa),(⟨⟨[2],[3]⟩,⟨1,0,0,[],0,0,0⟩⟩:Qa),(⟨⟨[3],[4]⟩,⟨1,0,0,[],0,0,0⟩⟩:Qa),(⟨⟨[4],[5]⟩,⟨2,2,(-4),[1],0,0,0⟩⟩:Qa)]
def QaH:((List Qa) × Int × Int × Int)→(List Qa)→Prop:=fun x r=>match x,r with
 | (p0,p1,p2,p3),r0=>∀ H,PC prog env 16 ([(.lst ((List.map Qa.toD) p0)),(Qi p1),(Qi p2),(Qi p3)].map .dat) H (QE r0) H
theorem Qbr:QaH Qax XG:=fun H=>PC_of (n:=200) (by kernel_rfl)
def XX (x:((List Qa) × Int × Int × Int)):Option (List Qa) :=
 if x=Qax then some XG else
 none
theorem QbC:∀ x r,XX x=some r→QaH x r:=by
 intro x r hm
 unfold XX at hm
 split at hm
 ·rename_i h; subst h; cases hm; exact Qbr
 cases hm
def Yf (x:(Int × Int × Int × Int × Int × (List Int) × Int × Int × Int × Int × (List Int) × Int)):Option (Int) :=
 match x with
 | (q0,q1,q2,q3,q4,q5,q6,q7,q8,q9,q10,q11) =>
 idx q10 q0>>=fun v1 =>
 idx q10 q0>>=fun v2 =>
 some (W (q11+(W (q1 * v2))))
theorem JK {q0 q1 q2 q3 q4 q5 q6 q7 q8 q9 q10 q11 v5001} (hm:Yf (q0,q1,q2,q3,q4,q5,q6,q7,q8,q9,q10,q11)=some v5001):PC prog env 59 [(.ptr 8 0),(Qd q0),(Qd q1)] (YI q2 q3 q4 q5 q6 q7 q8 q0 q9 q10 q11 q10.length) (.tup []) (YI q2 q3 q4 q5 q6 q7 q8 q0 q9 q10 v5001 q10.length):=by
 unfold Yf at hm
 exact PC_sxB (fn:=f59) rfl (Y5 (Qb 10 (bi hm fun v1 hx hm=>Zr rfl (fun _=>YH (e:=3) (n:=q0) (j:=(q0).toNat) (tt:=7) (g:=1) (lo:=0) (len:=q10.length) (cap:=q10.length) (k:=.i64) kr kr rfl kr kr (idx_nat hx) (Nat.lt_of_lt_of_eq (idx_lt hx) rfl)) (bi hm fun v2 hx hm=>Zr rfl (fun _=>QaF (tt:=7) (g:=1) (j:=(0+(q0).toNat)) (e:=3) (cs:=cellsOf Qi q10) (v:=.dat (Qi v2)) kr kr rfl kr (XF kr) (cells_idx Qi hx)) (re 5 ⟨kr,zf⟩)))))
def Yo (x:(Int × Int × Int × Int × Int × (List Int) × Int × Int × Int × (List Int) × Int)):Option (((List Int) × Int)) :=
 match x with
 | (q0,q1,q2,q3,q4,q5,q6,q7,q8,q9,q10) =>
 Yf (q0,(W (q1 - 1)),q2,q3,q4,q5,q6,q7,q8,q1,q9,q10)>>=fun v1 =>
 idx q9 q0>>=fun v2 =>
 idx q9 q0>>=fun v3 =>
 idx q9 q0>>=fun v4 =>
 setM q9 q0 (W (0 - v3))>>=fun v5 =>
 some (v5,v1)
theorem JS {q0 q1 q2 q3 q4 q5 q6 q7 q8 q9 q10 v5001 v5002} (hm:Yo (q0,q1,q2,q3,q4,q5,q6,q7,q8,q9,q10)=some (v5001,v5002)):PC prog env 65 [(.ptr 8 0),(Qd q0),(Qd q1)] (YI q2 q3 q4 q5 q6 q7 q8 q0 q1 q9 q10 q9.length) (.tup []) (YI q2 q3 q4 q5 q6 q7 q8 q0 q1 v5001 v5002 q9.length):=by
 unfold Yo at hm
 exact PC_sxB (fn:=f65) rfl (gr 4 (bi hm fun v1 hx hm=>Q8 (JK hx) (QX (Y5 (Qb 10 (bi hm fun v2 hx hm=>Zr rfl (fun _=>YH (e:=3) (n:=q0) (j:=(q0).toNat) (tt:=7) (g:=1) (lo:=0) (len:=q9.length) (cap:=q9.length) (k:=.i64) kr kr rfl kr kr (idx_nat hx) (Nat.lt_of_lt_of_eq (idx_lt hx) rfl)) (bi hm fun v3 hx hm=>Zr rfl (fun _=>QaF (tt:=7) (g:=1) (j:=(0+(q0).toNat)) (e:=3) (cs:=cellsOf Qi q9) (v:=.dat (Qi v3)) kr kr rfl kr (XF kr) (cells_idx Qi hx)) (Qb 1 (bi hm fun v4 hx hm=>Zr rfl (fun _=>YH (e:=3) (n:=q0) (j:=(q0).toNat) (tt:=7) (g:=1) (lo:=0) (len:=q9.length) (cap:=q9.length) (k:=.i64) kr kr rfl kr kr (idx_nat hx) (Nat.lt_of_lt_of_eq (idx_lt hx) rfl)) (bi hm fun v5 hx hm=>XH (fun H=>H.set 7 (ZZ v5)) rfl kr (fun _=>Qbj Qi (l:=q9) (n:=q0) (y:=(W (0 - v3))) hx (fun _=>rfl) kr rfl kr kr kr kr) (QX ⟨kr,zf⟩)))))))))))
def Y6 (x:(Int × Int × Int × (List Int) × Int × Int × Int × Int × Int × (List Int) × Int)):Option (((List Int) × Int)) :=
 match x with
 | (q0,q1,q2,q3,q4,q5,q6,q7,q8,q9,q10) =>
 Yo (q7,q8,q0,q1,q2,q3,q4,q5,q6,q9,q10)>>=fun (v1,v2) =>
 some (v1,v2)
theorem QaE {q0 q1 q2 q3 q4 q5 q6 q7 q8 q9 q10 v5001 v5002} (hm:Y6 (q0,q1,q2,q3,q4,q5,q6,q7,q8,q9,q10)=some (v5001,v5002)):PC prog env 64 [(.ptr 8 0),(.ptr 1 0),(.ptr 2 0)] (YI q0 q1 q2 q3 q4 q5 q6 q7 q8 q9 q10 q9.length) (.tup []) (YI q0 q1 q2 q3 q4 q5 q6 q7 q8 v5001 v5002 q9.length):=by
 unfold Y6 at hm
 exact PC_sxB (fn:=f64) rfl (Y5 (Qb 5 (bi2 hm fun v1 v2 hx hm=>Q8 (JS hx) (QX ⟨kr,zf⟩))))
def Ya (x:(Int × Int × Int × (List Int) × Int × Int × Int × Int × Int × (List Int) × Int × Nat)):Option ((Int × Int × Int × Int × Int × Int)) :=
 match x with
 | (q0,q1,q2,q3,q4,q5,q6,q7,q8,q9,q10,q11) =>
 if q0=3 then
  some (q2,q10,q2,q10,q2,q10)
 else
 some (q10,q4,q10,q4,q10,q4)
theorem JB {q0 q1 q2 q3 q4 q5 q6 q7 q8 q9 q10 q11 v5001 v5002 v5003 v5004 v5005 v5006} (hm:Ya (q0,q1,q2,q3,q4,q5,q6,q7,q8,q9,q10,q11)=some (v5001,v5002,v5003,v5004,v5005,v5006)):PC prog env 86 [(.ptr 8 0)] (YI q0 q1 q2 q3 q4 q5 q6 q7 q8 q9 q10 q11) (.agg [(Qd q0),(Qd q1),(Qd v5005),(.ms 7 1 0 q11 q11),(Qd v5006),(Qd q5),(Qd q6)]) [(Qx q0 q1 q2 q3 q4 q5 q6),(.box [(Qd q7)]),(.box [(Qd q8)]),YJ,(Qx q0 q1 q2 q3 q4 q5 q6),YJ,(Qx q0 q1 q2 q3 q4 q5 q6),(ZZ q9),(QaL q10 q11 q0 q1 q2 q3 q4 q5 q6),(Xx q0 q1 v5001 q11 v5002 q5 q6),(Xx q0 q1 v5003 q11 v5004 q5 q6)]:=by
 unfold Ya at hm
 exact PC_sxB (fn:=f86) rfl (ge 1 (ge 6 (ge 7 (Qf (ge 3 (riq hm (fun hm=>R_G (re 7 (ge 2 (Qk zf)))) (fun hm=>R_G (re 7 (ge 2 (Qk zf))))))))))
def Yz (x:(Int × Int × Int × (List Int) × Int × Int × Int × Int × Int)):Option (Unit ⊕ ((List Int) × Int × Nat × Int × Int × Nat × Int × Nat × Int × Int × Nat × Int × Int × Nat × Int)) :=
 match x with
 | (q0,q1,q2,q3,q4,q5,q6,q7,q8) =>
 if q0=1 then
  some (Sum.inl ())
 else
 Yd (q0,q1,q2,q3,q4,q5,q6,q7,q8)>>=fun (v1,v2) =>
 Y6 (q0,q1,q2,q3,q4,q5,q6,q7,q8,v1,v2)>>=fun (v3,v4) =>
 Ya (q0,q1,q2,q3,q4,q5,q6,q7,q8,v3,v4,v1.length)>>=fun (v5,v6,v7,v8,v9,v10) =>
 some (Sum.inr (v3,v9,v1.length,v10,v4,v1.length,v5,v1.length,v6,v7,v1.length,v8,v9,v1.length,v10))
theorem Jz {q0 q1 q2 q3 q4 q5 q6 q7 q8 r} (hm:Yz (q0,q1,q2,q3,q4,q5,q6,q7,q8)=some r):PC prog env 57 [(Qak q0 q1 q2 q3 q4 q5 q6),(.fn 64 [(.ptr 1 0),(.ptr 2 0)])] [(Qx q0 q1 q2 q3 q4 q5 q6),(.box [(Qd q7)]),(.box [(Qd q8)]),YJ] (match r with|.inl _=>(Qak q0 q1 q2 q3 q4 q5 q6)|.inr ((v5001,v5002,v5003,v5004,v5005,v5006,v5007,v5008,v5009,v5010,v5011,v5012,v5013,v5014,v5015))=>(.agg [(Qd q0),(Qd q1),(Qd v5013),(.ms 7 1 0 v5014 v5014),(Qd v5015),(Qd q5),(Qd q6)])) (match r with|.inl _=>(QbZ q0 q1 q2 q3 q4 q5 q6 q7 q8)|.inr ((v5001,v5002,v5003,v5004,v5005,v5006,v5007,v5008,v5009,v5010,v5011,v5012,v5013,v5014,v5015))=>[(Qx q0 q1 q2 q3 q4 q5 q6),(.box [(Qd q7)]),(.box [(Qd q8)]),YJ,(Qx q0 q1 q2 q3 q4 q5 q6),(Xx q0 q1 v5002 v5003 v5004 q5 q6),(Qx q0 q1 q2 q3 q4 q5 q6),(ZZ v5001),(QaL v5005 v5006 q0 q1 q2 q3 q4 q5 q6),(Xx q0 q1 v5007 v5008 v5009 q5 q6),(Xx q0 q1 v5010 v5011 v5012 q5 q6)]):=by
 unfold Yz at hm
 exact PC_sxB (fn:=f57) rfl (ge 2 (Qf (ge 3 (riq hm (fun hm=>ge 2 (Qk zf)) (fun hm=>Qn (gr 1 (bi2 hm fun v1 v2 hx hm=>Q8 (JG hx) (re 1 (gr 2 (bi2 hm fun v3 v4 hx hm=>Q8 (QaE hx) (QX (gr 1 (bi6 hm fun v5 v6 v7 v8 v9 v10 hx hm=>Q8 (JB hx) (re 1 (Qk zf)))))))))))))))
def Y0 (x:(Qp × Int × Int)):Option Qp :=
 match x with
 | (p0,p1,p2) =>
 (
 Yz (p0.kind,p0.buffer,p0.base,p0.strides,p0.start,p0.step,p0.mod,p1,p2)>>=fun out =>
 match out with
 | .inl _ =>
  some p0
 | .inr ((v1,v2,v3,v4,v5,v6,v7,v8,v9,v10,v11,v12,v13,v14,v15)) =>
  Jb (v1.length=v14)>>=fun _ =>
  some (⟨p0.kind,p0.buffer,v13,v1,v15,p0.step,p0.mod⟩:Qp)
 )
theorem QbI {p0 p1 p2 r0} (hm:Y0 (p0,p1,p2)=some r0):FQ 29 [(Qp.toD p0),(Qi p1),(Qi p2)] (.dat (Qp.toD r0)):=by
 unfold Y0 at hm
 exact fp (fn:=f29) rfl (ge 4 (gr 2 (bs hm (fun _ hx hm=>Q8 (Jz hx) (re 1 (Qk zf))) fun ⟨v1,v2,v3,v4,v5,v6,v7,v8,v9,v10,v11,v12,v13,v14,v15⟩ hx hm=>Q8 (Jz hx) (re 1 (Qk (gi hm fun hl16 hm=>(by obtain rfl:=QaI hm; exact ⟨trivial,Xl [(.agg [(Qd p0.kind),(Qd p0.buffer),(Qd v13),(.ms 7 1 0 v14 v14),(Qd v15),(Qd p0.step),(Qd p0.mod)])] kr (po_agg (pc_cons kr (pc_cons kr (pc_cons kr (pc_cons (pc_ms (e:=3) Qi v1 hl16 (fun _=>rfl) kr) (pc_cons kr (pc_cons kr (pc_cons kr pc_nil))))))))⟩)))))))
def Z9 (x:(Int × Int × Int × (List Int) × (List Int) × Int × Int × Int × (List Int) × Int × Int × Int × (List Int) × (List Int) × Nat)):Option (Unit) :=
 match x with
 | (q0,q1,q2,q3,q4,q5,q6,q7,q8,q9,q10,q11,q12,q13,q14) =>
 some ()
theorem Qan {q0 q1 q2 q3 q4 q5 q6 q7 q8 q9 q10 q11 q12 q13 q14} (hm:Z9 (q0,q1,q2,q3,q4,q5,q6,q7,q8,q9,q10,q11,q12,q13,q14)=some ()):PC prog env 28 [(Qd q0),(Qd q1),(.iptr [(Qi q2)])] [(.tok 49 q14),(Z5 q3 q4 q5 q6 q7 q8 q9 q10 q11),(Z5 q3 q4 q5 q6 q7 q8 q9 q10 q11),Qb2,(ZZ q12),(ZZ q13),(Qbx q12.length q13.length)] (.tup [(Qd (W (q2 - q1))),(Qd (W (q2 - q0)))]) [(.tok 49 q14),(Z5 q3 q4 q5 q6 q7 q8 q9 q10 q11),(Z5 q3 q4 q5 q6 q7 q8 q9 q10 q11),Qb2,(ZZ q12),(ZZ q13),(Qbx q12.length q13.length)]:=by
 unfold Z9 at hm
 exact PC_sxB (fn:=f28) rfl (ge 2 (Qf (Y5 (re 8 ⟨kr,Qk zf⟩))))
def Yr (x:((List Int) × (List Int) × Int × Int × Int × (List Int) × Int × Int × Int × Int × Int × Int × Int × Int × (List Int) × Int × Int × Int × Nat)):Option (((List Int) × (List Int) × Nat × Nat × (List Int) × (List Int))) :=
 match x with
 | (q0,q1,q2,q3,q4,q5,q6,q7,q8,q9,q10,q11,q12,q13,q14,q15,q16,q17,q18) =>
 Qs q0>>=fun v1 =>
 Qs q1>>=fun v2 =>
 idx v1 q9>>=fun v3 =>
 idx v1 q9>>=fun v4 =>
 idx v2 q9>>=fun v5 =>
 idx v2 q9>>=fun v6 =>
 Z9 (v4,v6,q10,q0,q1,q2,q3,q4,q5,q6,q7,q8,v1,v2,q18)>>=fun _ =>
 idx v1 q9>>=fun v7 =>
 setM v1 q9 (W (q10 - v6))>>=fun v8 =>
 idx v2 q9>>=fun v9 =>
 setM v2 q9 (W (q10 - v4))>>=fun v10 =>
 Jb (v8.length=v1.length)>>=fun _ =>
 Jb (v10.length=v2.length)>>=fun _ =>
 some (v8,v10,v1.length,v2.length,v8,v10)
theorem Qa2 {q0 q1 q2 q3 q4 q5 q6 q7 q8 q9 q10 q11 q12 q13 q14 q15 q16 q17 q18 v5001 v5002 v5003 v5004 v5005 v5006} (hm:Yr (q0,q1,q2,q3,q4,q5,q6,q7,q8,q9,q10,q11,q12,q13,q14,q15,q16,q17,q18)=some (v5001,v5002,v5003,v5004,v5005,v5006)):PC prog env 27 [(Qb0 q0 q1 q2 q3 q4 q5 q6 q7 q8),(Qd q9),(.fn 28 [(.iptr [(Qi q10)])]),(Qak q11 q12 q13 q14 q15 q16 q17)] [(.tok 49 q18),(Z5 q0 q1 q2 q3 q4 q5 q6 q7 q8)] (Qb0 v5005 v5006 q11 q12 q13 q14 q15 q16 q17) [(.tok 49 q18),(Z5 q0 q1 q2 q3 q4 q5 q6 q7 q8),(Z5 q0 q1 q2 q3 q4 q5 q6 q7 q8),(Z5 v5001 v5002 q11 q12 q13 q14 q15 q16 q17),Qb1,Qb1,(Qbx v5003 v5004)]:=by
 unfold Yr at hm
 exact PC_sxB (fn:=f27) rfl (ge 3 (Qf (Y5 (Qb 3 (bi hm fun v1 hx hm=>go 4 3 Qi (Q0 hx) (Qb 3 (bi hm fun v2 hx hm=>go 5 3 Qi (Q0 hx) (re 3 ⟨kr,Qf (Y5 (Qb 10 (bi hm fun v3 hx hm=>Zr rfl (fun _=>YH (e:=3) (n:=q9) (j:=(q9).toNat) (tt:=4) (g:=1) (lo:=0) (len:=v1.length) (cap:=v1.length) (k:=.i64) kr kr rfl kr kr (idx_nat hx) (Nat.lt_of_lt_of_eq (idx_lt hx) rfl)) (bi hm fun v4 hx hm=>Zr rfl (fun _=>QaF (tt:=4) (g:=1) (j:=(0+(q9).toNat)) (e:=3) (cs:=cellsOf Qi v1) (v:=.dat (Qi v4)) kr kr rfl kr (XF kr) (cells_idx Qi hx)) (Qb 3 (bi hm fun v5 hx hm=>Zr rfl (fun _=>YH (e:=3) (n:=q9) (j:=(q9).toNat) (tt:=5) (g:=1) (lo:=0) (len:=v2.length) (cap:=v2.length) (k:=.i64) kr kr rfl kr kr (idx_nat hx) (Nat.lt_of_lt_of_eq (idx_lt hx) rfl)) (bi hm fun v6 hx hm=>Zr rfl (fun _=>QaF (tt:=5) (g:=1) (j:=(0+(q9).toNat)) (e:=3) (cs:=cellsOf Qi v2) (v:=.dat (Qi v6)) kr kr rfl kr (XF kr) (cells_idx Qi hx)) (bi hm fun _ hx hm=>QcG (f:=28) (caps:=[(.iptr [(Qi q10)])]) (j:=6000) (e:=3) (ow':=[]) (Qan hx) (Qb 3 (bi hm fun v7 hx hm=>Zr rfl (fun _=>YH (e:=3) (n:=q9) (j:=(q9).toNat) (tt:=4) (g:=1) (lo:=0) (len:=v1.length) (cap:=v1.length) (k:=.i64) kr kr rfl kr kr (idx_nat hx) (Nat.lt_of_lt_of_eq (idx_lt hx) rfl)) (bi hm fun v8 hx hm=>XH (fun H=>H.set 4 (ZZ v8)) rfl kr (fun _=>Qbj Qi (l:=v1) (n:=q9) (y:=(W (q10 - v6))) hx (fun _=>rfl) kr rfl kr kr kr kr) (bi hm fun v9 hx hm=>Zr rfl (fun _=>YH (e:=3) (n:=q9) (j:=(q9).toNat) (tt:=5) (g:=1) (lo:=0) (len:=v2.length) (cap:=v2.length) (k:=.i64) kr kr rfl kr kr (idx_nat hx) (Nat.lt_of_lt_of_eq (idx_lt hx) rfl)) (bi hm fun v10 hx hm=>XH (fun H=>H.set 5 (ZZ v10)) rfl kr (fun _=>Qbj Qi (l:=v2) (n:=q9) (y:=(W (q10 - v4))) hx (fun _=>rfl) kr rfl kr kr kr kr) (QX ⟨kr,Qf (R_G (gi hm fun hl11 hm=>gi hm fun hl12 hm=>XH (v:=(.dat (.agg [(Lb v8),(Lb v10)]))) (fun H=>((H.set 4 (.mt 3 (1+1) [])).set 5 (.mt 3 (1+1) []))) rfl kr (fun _=>Qcj (n:=2) (i:=6) (off:=0) (bs:=[(.ms 4 1 0 v1.length v1.length),(.ms 5 1 0 v2.length v2.length)]) (cs:=[(.ms 4 1 0 v1.length v1.length),(.ms 5 1 0 v2.length v2.length)]) rfl rfl kr kr kr kr kr rfl (cl_ms Qi (fun _=>rfl) kr hl11 (cl_ms Qi (fun _=>rfl) kr hl12 cl_nil))) (re 3 (Qk zf))))⟩)))))) rfl rfl kr kr kr kr kr))))))))⟩))))))))
def Zl (x:((List Qa) × Int × Int × (List Qa) × Int)):Option ((List Qa)) :=
 match x with
 | (p0,p1,p2,v201,v202) =>
 if v202 < (p0.length:Int) then
  idx p0 v202>>=fun v602 =>
  Y0 (v602.access,p1,p2)>>=fun v603 =>
  Yr (v602.box.lo,v602.box.hi,v602.access.kind,v602.access.buffer,v602.access.base,v602.access.strides,v602.access.start,v602.access.step,v602.access.mod,p1,p2,v603.kind,v603.buffer,v603.base,v603.strides,v603.start,v603.step,v603.mod,v201.length)>>=fun (v604,v605,v606,v607,v608,v609) =>
  app 120 v201 ([(⟨(⟨v608,v609⟩:Qe),v603⟩:Qa)]:List Qa)>>=fun v610 =>
  Zl (p0,p1,p2,v610,(W (v202+1)))
 else
 some v201
 partial_fixpoint
theorem XK:∀ x r,Zl x=some r→match x with|(p0,p1,p2,v201,v202)=>LQ f10 10 [1,1,0,1,0,0] 1 ⟨kp 31 [(1,(Qd p1)),(5,(.iptr [(Qi p2)])),(7,(Jr v201)),(10,(QE p0)),(11,(Qd (p0.length:Int))),(12,(Qd v202))],[(.tok 49 v201.length)]⟩ (P1 (.exit 0) (fun v601 d=>⟨sl d 31 [(7,(Jr v601))],[(.tok 49 v601.length)]⟩) r):=by
 refine Zl.partial_correctness _ (fun Zl XK x r hm=>?_)
 obtain ⟨p0,p1,p2,v201,v202⟩:=x
 exact lp (ge 1 (Qf (ri hm (fun hm=>Qn (Qf (Qm (Qf (R_G (QY 9 Qa.toD hm fun v602 hm=>re 3 (Y5 (Qb 8 (bi hm fun v603 hx hm=>cp (QbI hx) (bi6 hm fun v604 v605 v606 v607 v608 v609 hx hm=>Q8 (Qa2 hx) (Qb 1 (bi hm fun v610 hx hm=>XQ 49 9 120 0 Qa.toD v201 ([(⟨(⟨v608,v609⟩:Qe),v603⟩:Qa)]:List Qa) v610 (xs:=(List.map Qa.toD) v201) (es:=(List.map Qa.toD) ([(⟨(⟨v608,v609⟩:Qe),v603⟩:Qa)]:List Qa)) (L:=(List.map Qa.toD)) (fun _=>rfl) rfl rfl Qa.fit hx (re 1 ⟨kr,R_G (re 2 (XK _ _ hm _ kr))⟩))))))))))))) (fun hm=>QI zf))))
def ZV (x:((List Qa) × Int × Int)):Option (List Qa) :=
 match x with
 | (p0,p1,p2) =>
 Zl (p0,p1,p2,([]:List Qa),0)>>=fun v601 =>
 QZ v601>>=fun v611 =>
 some v611
theorem Qbt {p0 p1 p2 r0} (hm:ZV (p0,p1,p2)=some r0):FQ 10 [(.lst ((List.map Qa.toD) p0)),(Qi p1),(Qi p2)] (QE r0):=by
 unfold ZV at hm
 exact fp (fn:=f10) rfl (ge 2 (ge 1 (Qf (gr 1 (QP Qa.toD p0 (re 1 (Qm (ru1 hm (XK _) fun v601 d hm=>gr 1 (bi hm fun v611 hx hm=>cp (X8 hx) (re 1 (Qk zf)))))))))))
def XI:((List Qa) × Int × Int):=([(⟨⟨[0],[1]⟩,⟨1,0,0,[],0,0,0⟩⟩:Qa),(⟨⟨[1],[4]⟩,⟨2,2,(-1),[1],0,0,0⟩⟩:Qa),(⟨⟨[4],[5]⟩,⟨1,0,0,[],0,0,0⟩⟩:Qa)],0,5)
def YU:(List Qa):=[(⟨⟨[0],[1]⟩,⟨1,0,0,[],0,0,0⟩⟩:Qa),(⟨⟨[1],[4]⟩,⟨2,2,3,[-1],0,0,0⟩⟩:Qa),(⟨⟨[4],[5]⟩,⟨1,0,0,[],0,0,0⟩⟩:Qa)]
def J4:((List Qa) × Int × Int)→(List Qa)→Prop:=fun x r=>match x,r with
 | (p0,p1,p2),r0=>∀ H,PC prog env 10 ([(.lst ((List.map Qa.toD) p0)),(Qi p1),(Qi p2)].map .dat) H (QE r0) H
theorem Qa0:J4 XI YU:=fun H=>PC_of (n:=200) (by kernel_rfl)
def ZS (x:((List Qa) × Int × Int)):Option (List Qa) :=
 if x=XI then some YU else
 ZV x
theorem Qac:∀ x r,ZS x=some r→J4 x r:=by
 intro x r hm
 unfold ZS at hm
 split at hm
 ·rename_i h; subst h; cases hm; exact Qa0
 obtain ⟨p0,p1,p2⟩:=x
 exact Qbt hm
def JN:((List Qa) × (List Int) × (List Int)):=([(⟨⟨[0],[1]⟩,⟨1,0,0,[],0,0,0⟩⟩:Qa),(⟨⟨[1],[4]⟩,⟨2,2,(-1),[1],0,0,0⟩⟩:Qa),(⟨⟨[4],[5]⟩,⟨1,0,0,[],0,0,0⟩⟩:Qa)],[0],[5])
def YV:(List Qa):=[(⟨⟨[0],[1]⟩,⟨1,0,0,[],0,0,0⟩⟩:Qa),(⟨⟨[1],[4]⟩,⟨2,2,(-1),[1],0,0,0⟩⟩:Qa),(⟨⟨[4],[5]⟩,⟨1,0,0,[],0,0,0⟩⟩:Qa)]
def J5:((List Qa) × (List Int) × (List Int))→(List Qa)→Prop:=fun x r=>match x,r with
 | (p0,p1,p2),r0=>∀ H,PC prog env 17 ([(.lst ((List.map Qa.toD) p0)),(Lb p1),(Lb p2)].map .dat) H (QE r0) H
theorem Qa1:J5 JN YV:=fun H=>PC_of (n:=200) (by kernel_rfl)
def Xc (x:((List Qa) × (List Int) × (List Int))):Option (List Qa) :=
 if x=JN then some YV else
 none
theorem Qbf:∀ x r,Xc x=some r→J5 x r:=by
 intro x r hm
 unfold Xc at hm
 split at hm
 ·rename_i h; subst h; cases hm; exact Qa1
 cases hm
def J6:((List Qa) × (List Qa) × Int × Int):=([(⟨⟨[0],[1]⟩,⟨1,0,0,[],0,0,0⟩⟩:Qa),(⟨⟨[1],[4]⟩,⟨2,2,(-1),[1],0,0,0⟩⟩:Qa),(⟨⟨[4],[5]⟩,⟨1,0,0,[],0,0,0⟩⟩:Qa)],[(⟨⟨[0],[1]⟩,⟨1,0,0,[],0,0,0⟩⟩:Qa),(⟨⟨[1],[4]⟩,⟨2,2,(-1),[1],0,0,0⟩⟩:Qa),(⟨⟨[4],[5]⟩,⟨1,0,0,[],0,0,0⟩⟩:Qa)],0,5)
def Xd:(List Qa):=[(⟨⟨[0],[1]⟩,⟨1,0,0,[],0,0,0⟩⟩:Qa),(⟨⟨[1],[4]⟩,⟨2,2,(-1),[1],0,0,0⟩⟩:Qa),(⟨⟨[4],[5]⟩,⟨1,0,0,[],0,0,0⟩⟩:Qa),(⟨⟨[5],[6]⟩,⟨1,0,0,[],0,0,0⟩⟩:Qa),(⟨⟨[6],[9]⟩,⟨2,2,(-6),[1],0,0,0⟩⟩:Qa),(⟨⟨[9],[10]⟩,⟨1,0,0,[],0,0,0⟩⟩:Qa)]
def Qai:((List Qa) × (List Qa) × Int × Int)→(List Qa)→Prop:=fun x r=>match x,r with
 | (p0,p1,p2,p3),r0=>∀ H,PC prog env 18 ([(.lst ((List.map Qa.toD) p0)),(.lst ((List.map Qa.toD) p1)),(Qi p2),(Qi p3)].map .dat) H (QE r0) H
theorem Qa8:Qai J6 Xd:=fun H=>PC_of (n:=200) (by kernel_rfl)
def Xm (x:((List Qa) × (List Qa) × Int × Int)):Option (List Qa) :=
 if x=J6 then some Xd else
 none
theorem Qbl:∀ x r,Xm x=some r→Qai x r:=by
 intro x r hm
 unfold Xm at hm
 split at hm
 ·rename_i h; subst h; cases hm; exact Qa8
 cases hm
def Y1 (x:Unit):Option Bool :=
 match x with
 | _ =>
 YC (2,([3]:List Int))>>=fun v1 =>
 ZL (v1,([3]:List Int),([5]:List Int),([(-1)]:List Int))>>=fun v2 =>
 YK (v2,([2]:List Int))>>=fun (v3,v4) =>
 YK (v2,([5]:List Int))>>=fun (v5,v6) =>
 (if (v2.length:Int)≠3 then
  some true
 else
 idx v2 1>>=fun v8 =>
 some (v8.access.base != (-1))
 )>>=fun (v7:Bool) =>
 if v7=true then
  some false
 else
 Yl (([5]:List Int),v2)>>=fun v9 =>
 (if v9=true then
  Yl (([6]:List Int),v2)>>=fun v11 =>
  some (!v11)
 else
 some false
 )>>=fun (v10:Bool) =>
 (if v10=true then
  some (v3.buffer == 2)
 else
 some false
 )>>=fun (v12:Bool) =>
 (if v12=true then
  some (v3.offset == 1)
 else
 some false
 )>>=fun (v13:Bool) =>
 (if v13=true then
  some v4
 else
 some false
 )>>=fun (v14:Bool) =>
 (if v14=true then
  some (!v6)
 else
 some false
 )>>=fun (v15:Bool) =>
 (if v15=true then
  Yq ([0]:List Int)>>=fun v17 =>
  some ((v17.length:Int) == 0)
 else
 some false
 )>>=fun (v16:Bool) =>
 (if v16=true then
  XX (v2,0,2,5)>>=fun v19 =>
  some (decide ((v19.length:Int) > 0))
 else
 some false
 )>>=fun (v18:Bool) =>
 (if v18=true then
  ZS (v2,0,5)>>=fun v21 =>
  some ((v21.length:Int) == 3)
 else
 some false
 )>>=fun (v20:Bool) =>
 (if v20=true then
  Xc (v2,([0]:List Int),([5]:List Int))>>=fun v23 =>
  some ((v23.length:Int) == 3)
 else
 some false
 )>>=fun (v22:Bool) =>
 if v22=true then
  Xm (v2,v2,0,5)>>=fun v24 =>
  some ((v24.length:Int) == 6)
 else
 some false
def QaS:Unit→Bool→Prop:=fun x r=>match x,r with
 | _,r0=>∀ H,PC prog env 4 ([].map .dat) H (Qh r0) H
theorem QaT:∀ x r,Y1 x=some r→QaS x r:=by
 intro x r0 hm
 unfold Y1 at hm
 unfold QaS
 intro H
 refine PC_sx (ds:=[]) (fn:=f4) rfl ?_
 exact ge 1 (gr 1 (bi hm fun v1 hx hm=>cp (QaU hx) (Qb 3 (bi hm fun v2 hx hm=>ZY (Jc _ _ hx []) (re 1 (gr 2 (bi2 hm fun v3 v4 hx hm=>ZY (QaP _ _ hx []) (re 6 (gr 2 (bi2 hm fun v5 v6 hx hm=>ZY (QaP _ _ hx []) (re 6 (Qf (Qf (bi hm fun v7 hs hm=>Xt (fun d=>⟨sl d 94 [(1,(QE v2)),(2,(.ptr 0 0)),(3,(Qh v4)),(5,(Qh v6)),(34,(Qh v7))],(Xw v3.fill v3.buffer v3.offset v5.fill v5.buffer v5.offset)⟩) (have hm:=hs;R_G (Qb 1 (QP Qa.toD v2 (Qb 2 (gsx 27 hm (fun hm=>re 7 zf) (fun hm=>Qb 1 (QY 9 Qa.toD hm fun v8 hm=>re 5 zf))))))) (fun d=>rib hm (fun hm=>ge 1 (Qk zf)) (fun hm=>Qn (Qf (Qa4 (Qb 2 (bi hm fun v9 hx hm=>ZY (Qam _ _ hx []) (Qb 1 (bi hm fun v10 hs hm=>Zk (j:=9) (fun d=>⟨sl d 94 [(1,(QE v2)),(2,(.ptr 0 0)),(3,(Qh v4)),(5,(Qh v6)),(43,(Qh v10))],(Xw v3.fill v3.buffer v3.offset v5.fill v5.buffer v5.offset)⟩) (fun d=>Qb 1 (bi hm fun v12 hs hm=>Zk (j:=14) (fun d=>⟨sl d 94 [(1,(QE v2)),(2,(.ptr 0 0)),(3,(Qh v4)),(5,(Qh v6)),(48,(Qh v12))],(Xw v3.fill v3.buffer v3.offset v5.fill v5.buffer v5.offset)⟩) (fun d=>Qb 1 (bi hm fun v13 hs hm=>Zk (j:=19) (fun d=>⟨sl d 94 [(1,(QE v2)),(3,(Qh v4)),(5,(Qh v6)),(53,(Qh v13))],(Xw v3.fill v3.buffer v3.offset v5.fill v5.buffer v5.offset)⟩) (fun d=>Qb 1 (bi hm fun v14 hs hm=>Zk (j:=22) (fun d=>⟨sl d 94 [(1,(QE v2)),(5,(Qh v6)),(56,(Qh v14))],(Xw v3.fill v3.buffer v3.offset v5.fill v5.buffer v5.offset)⟩) (fun d=>Qb 1 (bi hm fun v15 hs hm=>Zk (j:=26) (fun d=>⟨sl d 94 [(1,(QE v2)),(60,(Qh v15))],(Xw v3.fill v3.buffer v3.offset v5.fill v5.buffer v5.offset)⟩) (fun d=>Qb 1 (bi hm fun v16 hs hm=>Zk (j:=32) (fun d=>⟨sl d 94 [(1,(QE v2)),(66,(Qh v16))],(Xw v3.fill v3.buffer v3.offset v5.fill v5.buffer v5.offset)⟩) (fun d=>Qb 1 (bi hm fun v18 hs hm=>Zk (j:=38) (fun d=>⟨sl d 94 [(1,(QE v2)),(72,(Qh v18))],(Xw v3.fill v3.buffer v3.offset v5.fill v5.buffer v5.offset)⟩) (fun d=>Qb 1 (bi hm fun v20 hs hm=>Zk (j:=44) (fun d=>⟨sl d 94 [(1,(QE v2)),(78,(Qh v20))],(Xw v3.fill v3.buffer v3.offset v5.fill v5.buffer v5.offset)⟩) (fun d=>Qb 1 (bi hm fun v22 hs hm=>Zk (j:=52) (fun d=>⟨sl d 94 [(1,(QE v2)),(86,(Qh v22))],(Xw v3.fill v3.buffer v3.offset v5.fill v5.buffer v5.offset)⟩) (fun d=>Qb 1 (gsb 87 hm (fun hm=>Qb 2 (bi hm fun v24 hx hm=>ZY (Qbl _ _ hx []) (QP Qa.toD v24 (re 3 ⟨kr,Qk zf⟩)))) (fun hm=>re 7 ⟨kr,Qk zf⟩))) (fun hJ=>gsb 79 hs (fun hm=>Qb 3 (bi hm fun v23 hx hm=>ZY (Qbf _ _ hx []) (QP Qa.toD v23 (Qb 2 zf)))) (fun hm=>Qb 7 zf)))) (fun hJ=>gsb 73 hs (fun hm=>Qb 1 (bi hm fun v21 hx hm=>ZY (Qac _ _ hx []) (QP Qa.toD v21 (Qb 2 zf)))) (fun hm=>Qb 5 zf)))) (fun hJ=>gsb 67 hs (fun hm=>Qb 1 (bi hm fun v19 hx hm=>ZY (QbC _ _ hx []) (QP Qa.toD v19 (Qb 2 zf)))) (fun hm=>Qb 5 zf)))) (fun hJ=>gsb 61 hs (fun hm=>Qb 1 (bi hm fun v17 hx hm=>cp (QaO hx) (QP Qa.toD v17 (Qb 2 zf)))) (fun hm=>Qb 5 zf)))) (fun hJ=>gsb 57 hs (fun hm=>Qb 3 zf) (fun hm=>Qb 3 zf)))) (fun hJ=>gsb 54 hs (fun hm=>Qb 2 zf) (fun hm=>Qb 2 zf)))) (fun hJ=>gsb 49 hs (fun hm=>Qb 4 zf) (fun hm=>Qb 4 zf)))) (fun hJ=>gsb 44 hs (fun hm=>Qb 4 zf) (fun hm=>Qb 4 zf)))) (fun hJ=>gsb 38 hs (fun hm=>Qb 2 (bi hm fun v11 hx hm=>ZY (Qam _ _ hx []) (Qb 2 zf))) (fun hm=>Qb 5 zf))))))))))))))))))))))))
def Q1 (x:((List Int) × Bool × Int)):Option (Unit ⊕ Bool) :=
 match x with
 | (p0,v201,v202) =>
 if v202 < (p0.length:Int) then
  idx p0 v202>>=fun v602 =>
  if v602 < 0 then
   some (Sum.inl ())
  else
  if v201=true then
   Q1 (p0,true,(W (v202+1)))
  else
  idx p0 v202>>=fun v603 =>
  Q1 (p0,(v603 == 0),(W (v202+1)))
 else
 some (Sum.inr v201)
 partial_fixpoint
theorem YW:∀ x r,Q1 x=some r→match x with|(p0,v201,v202)=>LQ f52 52 [1,1,0,1,0,0] 0 ⟨kp 55 [(0,(La p0)),(4,(Qh v201)),(5,(Qd v202))],[]⟩ (P2 .ret (fun _ d=>⟨sl d 55 [(2,(Qd 0)),(3,(Qd 6))],[]⟩) (.exit 0) (fun v601 d=>⟨sl d 55 [(0,(La p0)),(4,(Qh v601))],[]⟩) r):=by
 refine Q1.partial_correctness _ (fun Q1 YW x r hm=>?_)
 obtain ⟨p0,v201,v202⟩:=x
 exact lp (Qf (gr 2 (QP Qi p0 (re 1 (ri hm (fun hm=>Qn (Qf (Qm (Qf (gr 2 (QY 1 Qi hm fun v602 hm=>re 2 (ri hm (fun hm=>ge 2 (Qk zf)) (fun hm=>Qn (R_G (Qb 2 (gsb 21 hm (fun hm=>re 7 (R_G (re 3 (YW _ _ hm _ kr)))) (fun hm=>Qb 2 (QY 1 Qi hm fun v603 hm=>re 4 (R_G (re 3 (YW _ _ hm _ kr)))))))))))))))) (fun hm=>QI zf))))))
def Q3 (x:((List Int) × Bool × Int)):Option (Unit ⊕ Unit) :=
 match x with
 | (p0,v601,v804) =>
 if v804 < (p0.length:Int) then
  idx p0 v804>>=fun v1204 =>
  if v1204 > 65536 then
   some (Sum.inl ())
  else
  Q3 (p0,v601,(W (v804+1)))
 else
 some (Sum.inr ())
 partial_fixpoint
theorem XM:∀ x r,Q3 x=some r→match x with|(p0,v601,v804)=>LQ f52 52 [1,1,1,0,1,0,0] 0 ⟨kp 55 [(0,(La p0)),(4,(Qh v601)),(6,(Qd v804))],[]⟩ (P2 .ret (fun _ d=>⟨sl d 55 [(2,(Qd 0)),(3,(Qd 7))],[]⟩) (.exit 2) (fun _ d=>⟨sl d 55 [(0,(La p0)),(4,(Qh v601))],[]⟩) r):=by
 refine Q3.partial_correctness _ (fun Q3 XM x r hm=>?_)
 obtain ⟨p0,v601,v804⟩:=x
 exact lp (Qf (gr 2 (QP Qi p0 (re 1 (ri hm (fun hm=>Qn (Qf (Qm (gr 2 (QY 1 Qi hm fun v1204 hm=>re 2 (ri hm (fun hm=>ge 2 (Qk zf)) (fun hm=>Qn (R_G (re 3 (XM _ _ hm _ kr)))))))))) (fun hm=>QI zf))))))
def Q4 (x:((List Int) × Int × Int)):Option (Unit ⊕ Int) :=
 match x with
 | (p0,v1405,v1406) =>
 if v1406 < (p0.length:Int) then
  idx p0 v1406>>=fun v1806 =>
  if (W (v1405 * v1806)) > 65536 then
   some (Sum.inl ())
  else
  Q4 (p0,(W (v1405 * v1806)),(W (v1406+1)))
 else
 some (Sum.inr v1405)
 partial_fixpoint
theorem XN:∀ x r,Q4 x=some r→match x with|(p0,v1405,v1406)=>LQ f52 52 [1,1,1,1,1,1,0,1,0,0] 0 ⟨kp 55 [(0,(La p0)),(7,(Qd v1405)),(8,(Qd v1406))],[]⟩ (P2 .ret (fun _ d=>⟨sl d 55 [(2,(Qd 0)),(3,(Qd 7))],[]⟩) (.exit 4) (fun v1805 d=>⟨sl d 55 [(7,(Qd v1805))],[]⟩) r):=by
 refine Q4.partial_correctness _ (fun Q4 XN x r hm=>?_)
 obtain ⟨p0,v1405,v1406⟩:=x
 exact lp (Qf (gr 2 (QP Qi p0 (re 1 (ri hm (fun hm=>Qn (Qf (Qm (gr 3 (QY 1 Qi hm fun v1806 hm=>re 3 (ge 2 (ri hm (fun hm=>ge 2 (Qk zf)) (fun hm=>Qn (R_G (re 3 (XN _ _ hm _ kr))))))))))) (fun hm=>QI zf))))))
def Yx (x:(List Int)):Option (Int × Int) :=
 match x with
 | p0 =>
 (
 Q1 (p0,false,0)>>=fun out =>
 match out with
 | .inl _ =>
  some (0,6)
 | .inr (v601) =>
  (
  Q3 (p0,v601,0)>>=fun out =>
  match out with
  | .inl _ =>
   some (0,7)
  | .inr (_) =>
   if v601=true then
    some (0,0)
   else
   (
   Q4 (p0,1,0)>>=fun out =>
   match out with
   | .inl _ =>
    some (0,7)
   | .inr (v1805) =>
    some (v1805,0)
   )
  )
 )
theorem QaD {p0 r0 r1} (hm:Yx p0=some (r0,r1)):FQ 52 [(Lb p0)] (.tup [(Qd r0),(Qd r1)]):=by
 unfold Yx at hm
 exact fp (fn:=f52) rfl (ge 2 (ge 1 (Qf (ge 1 (Qm (ru2 hm (YW _) (fun _ d hm=>zf) fun v601 d hm=>Qf (ge 1 (Qm (ru2 hm (XM _) (fun _ d hm=>zf) fun _ d hm=>Qf (ge 1 (rib hm (fun hm=>ge 2 (Qk zf)) (fun hm=>Qn (ge 1 (Qf (ge 1 (Qm (ru2 hm (XN _) (fun _ d hm=>zf) fun v1805 d hm=>ge 3 (Qk zf))))))))))))))))))
def Zt (x:((List Int) × Int)):Option (Unit ⊕ Unit) :=
 match x with
 | (p0,v201) =>
 if v201 < (p0.length:Int) then
  idx p0 v201>>=fun v601 =>
  if v601 < 0 then
   some (Sum.inl ())
  else
  Zt (p0,(W (v201+1)))
 else
 some (Sum.inr ())
 partial_fixpoint
theorem Je:∀ x r,Zt x=some r→match x with|(p0,v201)=>LQ f19 19 [1,0,1,0,0] 0 ⟨kp 29 [(0,(La p0)),(3,(Qd v201))],[]⟩ (P2 .ret (fun _ d=>⟨sl d 29 [(2,(Qd 6))],[]⟩) (.exit 0) (fun _ d=>⟨sl d 29 [(0,(La p0))],[]⟩) r):=by
 refine Zt.partial_correctness _ (fun Zt Je x r hm=>?_)
 obtain ⟨p0,v201⟩:=x
 exact lp (Qf (gr 2 (QP Qi p0 (re 1 (ri hm (fun hm=>Qn (Qf (Qm (gr 2 (QY 1 Qi hm fun v601 hm=>re 2 (ri hm (fun hm=>ge 1 (Qk zf)) (fun hm=>Qn (R_G (re 3 (Je _ _ hm _ kr)))))))))) (fun hm=>QI zf))))))
def Y2 (x:(List Int)):Option Int :=
 match x with
 | p0 =>
 (
 Zt (p0,0)>>=fun out =>
 match out with
 | .inl _ =>
  some 6
 | .inr (_) =>
  Yx p0>>=fun (v602,v603) =>
  (if (p0.length:Int) > 16 then
   some true
  else
  some (v603 != 0)
  )>>=fun (v604:Bool) =>
  if v604=true then
   some 7
  else
  some 0
 )
theorem QaV {p0 r0} (hm:Y2 p0=some r0):FQ 19 [(Lb p0)] (Qd r0):=by
 unfold Y2 at hm
 exact fp (fn:=f19) rfl (ge 1 (Qf (ge 1 (Qm (ru2 hm (Je _) (fun _ d hm=>zf) fun _ d hm=>gr 1 (bi2 hm fun v602 v603 hx hm=>cp (QaD hx) (re 5 (Qf (Qf (bi hm fun v604 hs hm=>Xt (fun d=>⟨sl d 29 [(28,(Qh v604))],[]⟩) (have hm:=hs;R_G (Qb 1 (QP Qi p0 (Qb 2 (gs 25 hm (fun hm=>re 3 zf) (fun hm=>re 3 zf)))))) (fun d=>rib hm (fun hm=>ge 1 (Qk zf)) (fun hm=>Qn (ge 1 (Qk zf))))))))))))))
def XA (x:(List Int)):Option Int :=
 match x with
 | p0 =>
 Y2 p0>>=fun v1 =>
 if v1≠0 then
  some 0
 else
 Yx p0>>=fun (v2,v3) =>
 some v2
theorem QbK {p0 r0} (hm:XA p0=some r0):FQ 20 [(Lb p0)] (Qd r0):=by
 unfold XA at hm
 exact fp (fn:=f20) rfl (ge 1 (Qf (gr 1 (bi hm fun v1 hx hm=>cp (QaV hx) (re 1 (rix hm (fun hm=>ge 1 (Qk zf)) (fun hm=>Qn (gr 1 (bi2 hm fun v2 v3 hx hm=>cp (QaD hx) (re 5 (ge 2 (Qk zf))))))))))))
def Zv (x:((List Int) × Int × Int × Int)):Option (Unit ⊕ Unit) :=
 match x with
 | (p0,p1,v205,v206) =>
 if v206 < (p0.length:Int) then
  idx p0 v206>>=fun v605 =>
  if (W (v205 * (if v605 < 1 then 1 else v605))) > (W (100 * p1)) then
   some (Sum.inl ())
  else
  Zv (p0,p1,(W (v205 * (if v605 < 1 then 1 else v605))),(W (v206+1)))
 else
 some (Sum.inr ())
 partial_fixpoint
theorem Jg:∀ x r,Zv x=some r→match x with|(p0,p1,v205,v206)=>LQ f5 5 [1,1,1,0,1,0,0] 0 ⟨kp 38 [(0,(La p0)),(1,(Qd p1)),(5,(Qd v205)),(6,(Qd v206))],[]⟩ (P2 .ret (fun _ d=>⟨sl d 38 [(4,(Qh false))],[]⟩) (.exit 0) (fun _ d=>⟨sl d 38 [],[]⟩) r):=by
 refine Zv.partial_correctness _ (fun Zv Jg x r hm=>?_)
 obtain ⟨p0,p1,v205,v206⟩:=x
 exact lp (Qf (gr 2 (QP Qi p0 (re 1 (ri hm (fun hm=>Qn (Qf (Qm (gr 3 (QY 1 Qi hm fun v605 hm=>Qb 1 (Zr rfl (fun _=>Qcb (k:=.i64) (m:=v605) (n:=1) rfl kr kr) (re 2 (ge 4 (ri hm (fun hm=>ge 1 (Qk zf)) (fun hm=>Qn (R_G (re 3 (Jg _ _ hm _ kr))))))))))))) (fun hm=>QI zf))))))
def XB (x:((List Int) × Int)):Option Bool :=
 match x with
 | (p0,p1) =>
 ((if (p0.length:Int) > 6 then
  some true
 else
 Y2 p0>>=fun v3 =>
 some (v3 != 0)
 )>>=fun (v2:Bool) =>
 if v2=true then
  some true
 else
 XA p0>>=fun v4 =>
 some (decide (v4 > p1))
 )>>=fun (v1:Bool) =>
 if v1=true then
  some false
 else
 (
 Zv (p0,p1,1,0)>>=fun out =>
 match out with
 | .inl _ =>
  some false
 | .inr (_) =>
  some true
 )
theorem QbL {p0 p1 r0} (hm:XB (p0,p1)=some r0):FQ 5 [(Lb p0),(Qi p1)] (Qh r0):=by
 unfold XB at hm
 exact fp (fn:=f5) rfl (ge 1 (Qf (Qf (bi hm fun v1 hs hm=>Xt (fun d=>⟨sl d 38 [(0,(La p0)),(1,(Qd p1)),(20,(Qh v1))],[]⟩) (have hm:=hs;Qa4 (Qb 1 (QP Qi p0 (Qb 2 (bi hm fun v2 hs hm=>Zk (j:=8) (fun d=>⟨sl d 38 [(0,(La p0)),(1,(Qd p1)),(14,(Qh v2))],[]⟩) (fun d=>Qb 1 (gsb 15 hm (fun hm=>re 5 ⟨kr,zf⟩) (fun hm=>Qb 1 (bi hm fun v4 hx hm=>cp (QbK hx) (re 3 ⟨kr,zf⟩))))) (fun hJ=>gs 10 hs (fun hm=>Qb 4 zf) (fun hm=>Qb 1 (bi hm fun v3 hx hm=>cp (QaV hx) (Qb 2 zf))))))))) (fun d=>rib hm (fun hm=>ge 1 (Qk zf)) (fun hm=>Qn (ge 1 (Qf (ge 1 (Qm (ru2 hm (Jg _) (fun _ d hm=>zf) fun _ d hm=>ge 1 (Qk zf))))))))))))
def ZK (x:((List Qa) × (List Qc) × Int)):Option ((List Qc)) :=
 match x with
 | (p0,v201,v202) =>
 if v202 < (p0.length:Int) then
  idx p0 v202>>=fun v602 =>
  idx p0 v202>>=fun v603 =>
  idx p0 v202>>=fun v604 =>
  app 120 v201 ([(⟨(⟨v602.box.lo,v603.box.hi⟩:Ql),(⟨v604.access.kind,v604.access.buffer,v604.access.base,v604.access.strides,v604.access.start,v604.access.step,v604.access.mod⟩:Qw)⟩:Qc)]:List Qc)>>=fun v605 =>
  ZK (p0,v605,(W (v202+1)))
 else
 some v201
 partial_fixpoint
theorem JD:∀ x r,ZK x=some r→match x with|(p0,v201,v202)=>LQ f7 7 [1,1,0,1,0,0] 1 ⟨kp 67 [(0,(QE p0)),(3,(.vec 0 ((List.map Qc.toD) v201))),(4,(Qd v202))],[(.tok 40 v201.length)]⟩ (P1 (.exit 0) (fun v601 d=>⟨sl d 67 [(3,(.vec 0 ((List.map Qc.toD) v601)))],[(.tok 40 v601.length)]⟩) r):=by
 refine ZK.partial_correctness _ (fun ZK JD x r hm=>?_)
 obtain ⟨p0,v201,v202⟩:=x
 exact lp (Qf (gr 2 (QP Qa.toD p0 (re 1 (ri hm (fun hm=>Qn (Qf (Qm (ge 1 (gr 2 (QY 9 Qa.toD hm fun v602 hm=>re 6 (gr 2 (QY 9 Qa.toD hm fun v603 hm=>re 6 (gr 2 (QY 9 Qa.toD hm fun v604 hm=>re 4 (ge 5 (ge 5 (ge 5 (ge 5 (ge 5 (ge 5 (ge 5 (R_G (Qb 3 (bi hm fun v605 hx hm=>XQ 40 9 120 0 Qc.toD v201 ([(⟨(⟨v602.box.lo,v603.box.hi⟩:Ql),(⟨v604.access.kind,v604.access.buffer,v604.access.base,v604.access.strides,v604.access.start,v604.access.step,v604.access.mod⟩:Qw)⟩:Qc)]:List Qc) v605 (xs:=(List.map Qc.toD) v201) (es:=(List.map Qc.toD) ([(⟨(⟨v602.box.lo,v603.box.hi⟩:Ql),(⟨v604.access.kind,v604.access.buffer,v604.access.base,v604.access.strides,v604.access.start,v604.access.step,v604.access.mod⟩:Qw)⟩:Qc)]:List Qc)) (L:=(List.map Qc.toD)) (fun _=>rfl) rfl rfl Qc.fit hx (re 1 (R_G (re 3 (JD _ _ hm _ kr)))))))))))))))))))))))) (fun hm=>QI zf))))))
def Z1 (x:(List Qa)):Option (List Qc) :=
 match x with
 | p0 =>
 ZK (p0,([]:List Qc),0)>>=fun v601 =>
 some v601
def Qa3:(List Qa)→(List Qc)→Prop:=fun x r=>match x,r with
 | p0,r0=>∀ H,PC prog env 7 ([(.lst ((List.map Qa.toD) p0))].map .dat) H (Z4 r0) H
theorem Qas:∀ x r,Z1 x=some r→Qa3 x r:=by
 intro p0 r0 hm
 unfold Z1 at hm
 unfold Qa3
 intro H
 refine PC_sx (ds:=[(.lst ((List.map Qa.toD) p0))]) (fn:=f7) rfl ?_
 exact ge 1 (ge 1 (Qf (ge 1 (Qm (ru1 hm (JD _) fun v601 d hm=>ge 2 (Qk zf))))))
def XC (x:(List Int)):Option Ql :=
 match x with
 | p0 =>
 makeM 8 (p0.length:Int) 0>>=fun v1 =>
 some (⟨v1,p0⟩:Ql)
theorem QbO {p0 r0} (hm:XC p0=some r0):FQ 33 [(Lb p0)] (.dat (Ql.toD r0)):=by
 unfold XC at hm
 exact fp (fn:=f33) rfl (ge 1 (gr 1 (QP Qi p0 (bi hm fun v1 hx hm=>XH (v:=.arr 1 0 v1.length v1.length) (fun H=>H++[.box (cellsOf Qi v1)]) rfl kr (by intro K hk; exact QbV 1 Qi (z:=0) (n:=(p0.length:Int)) (bytes:=8) hx (e:=3) kr kr kr kr rfl rfl kr kr hk) (re 3 (Qk (by obtain rfl:=QaI hm; exact ⟨trivial,Xl [(.agg [(.arr 1 0 v1.length v1.length),(La p0)])] kr (po_agg (pc_cons (pc_arr Qi v1 rfl (fun _=>rfl) kr) (pc_cons kr pc_nil)))⟩)))))))
def Q2 (x:(Ql × Int)):Option (Unit ⊕ Unit) :=
 match x with
 | (p0,v201) =>
 if v201 < (p0.lo.length:Int) then
  idx p0.lo v201>>=fun v601 =>
  idx p0.hi v201>>=fun v602 =>
  if v601≥v602 then
   some (Sum.inl ())
  else
  Q2 (p0,(W (v201+1)))
 else
 some (Sum.inr ())
 partial_fixpoint
theorem Jl:∀ x r,Q2 x=some r→match x with|(p0,v201)=>LQ f35 35 [1,0,1,0,0] 1 ⟨kp 22 [(1,(.ptr 0 0)),(3,(Qd v201))],[(Qo p0.lo p0.hi)]⟩ (P2 .ret (fun _ d=>⟨sl d 22 [(2,(Qh true))],[(Qo p0.lo p0.hi)]⟩) (.exit 0) (fun _ d=>⟨sl d 22 [],[(Qo p0.lo p0.hi)]⟩) r):=by
 refine Q2.partial_correctness _ (fun Q2 Jl x r hm=>?_)
 obtain ⟨p0,v201⟩:=x
 exact lp (Qf (gr 3 (QP Qi p0.lo (re 1 (ri hm (fun hm=>Qn (Qf (Qm (Qf (Y5 (Qb 3 (QY 1 Qi hm fun v601 hm=>Qb 4 (QY 1 Qi hm fun v602 hm=>re 2 ⟨kr,ri hm (fun hm=>ge 1 (Qk zf)) (fun hm=>Qn (R_G (re 3 (Jl _ _ hm _ kr))))⟩)))))))) (fun hm=>QI zf))))))
def YE (x:Ql):Option Bool :=
 match x with
 | p0 =>
 (
 Q2 (p0,0)>>=fun out =>
 match out with
 | .inl _ =>
  some true
 | .inr (_) =>
  some false
 )
theorem QaX {p0 r0} (hm:YE p0=some r0):FQ 35 [(Ql.toD p0)] (Qh r0):=by
 unfold YE at hm
 exact fp (fn:=f35) rfl (ge 2 (Qf (ge 1 (Qm (ru2 hm (Jl _) (fun _ d hm=>zf) fun _ d hm=>ge 1 (Qk zf))))))
def Yb (x:((List Int) × (List Int) × Int)):Option (Bool ⊕ Unit) :=
 match x with
 | (p0,p1,v201) =>
 (if v201 < (p0.length:Int) then
  some (decide (v201 < (p1.length:Int)))
 else
 some false
 )>>=fun (v602:Bool) =>
 if v602=true then
  idx p0 v201>>=fun v603 =>
  idx p1 v201>>=fun v604 =>
  if v603≠v604 then
   idx p0 v201>>=fun v605 =>
   idx p1 v201>>=fun v606 =>
   some (Sum.inl (decide (v605 < v606)))
  else
  Yb (p0,p1,(W (v201+1)))
 else
 some (Sum.inr ())
 partial_fixpoint
theorem JF:∀ x r,Yb x=some r→match x with|(p0,p1,v201)=>LQ f37 37 [1,0,1,0,0] 0 ⟨kp 41 [(0,(La p0)),(1,(La p1)),(5,(Qd v201))],[]⟩ (P2 .ret (fun v601 d=>⟨sl d 41 [(4,(Qh v601))],[]⟩) (.exit 0) (fun _ d=>⟨sl d 41 [(0,(La p0)),(1,(La p1))],[]⟩) r):=by
 refine Yb.partial_correctness _ (fun Yb JF x r hm=>?_)
 obtain ⟨p0,p1,v201⟩:=x
 exact lp (Qf (Qf (bi hm fun v602 hs hm=>Xt (fun d=>⟨sl d 41 [(0,(La p0)),(1,(La p1)),(5,(Qd v201)),(15,(Qh v602))],[]⟩) (have hm:=hs;R_G (Qb 2 (QP Qi p0 (Qb 2 (gs 10 hm (fun hm=>Qb 2 (QP Qi p1 (re 2 zf))) (fun hm=>re 5 zf)))))) (fun d=>rib hm (fun hm=>Qn (Qf (Qm (Qf (Y5 (Qb 2 (QY 1 Qi hm fun v603 hm=>Qb 3 (QY 1 Qi hm fun v604 hm=>re 2 ⟨kr,rix hm (fun hm=>Qf (Y5 (Qb 2 (QY 1 Qi hm fun v605 hm=>Qb 3 (QY 1 Qi hm fun v606 hm=>re 3 ⟨kr,Qk zf⟩))))) (fun hm=>Qn (R_G (re 3 (JF _ _ hm _ kr))))⟩)))))))) (fun hm=>QI zf)))))
def YS (x:((List Int) × (List Int))):Option Bool :=
 match x with
 | (p0,p1) =>
 (
 Yb (p0,p1,0)>>=fun out =>
 match out with
 | .inl v601 =>
  some v601
 | .inr (_) =>
  some (decide ((p0.length:Int) < (p1.length:Int)))
 )
theorem Qbh {p0 p1 r0} (hm:YS (p0,p1)=some r0):FQ 37 [(Lb p0),(Lb p1)] (Qh r0):=by
 unfold YS at hm
 exact fp (fn:=f37) rfl (ge 1 (Qf (ge 1 (Qm (ru2 hm (JF _) (fun v601 d hm=>zf) fun _ d hm=>gr 1 (QP Qi p0 (Qb 1 (QP Qi p1 (re 2 (Qk zf))))))))))
def YM (x:((List Qc) × Qc × Int)):Option (Int) :=
 match x with
 | (p0,p1,v202) =>
 (if v202 < (p0.length:Int) then
  idx p0 v202>>=fun v604 =>
  YS (v604.box.lo,p1.box.lo)>>=fun v605 =>
  some v605
 else
 some false
 )>>=fun (v603:Bool) =>
 if v603=true then
  YM (p0,p1,(W (v202+1)))
 else
 some v202
 partial_fixpoint
theorem J2:∀ x r,YM x=some r→match x with|(p0,p1,v202)=>LQ f32 32 [1,1,1,0,0,0] 1 ⟨kp 40 [(0,(Z4 p0)),(3,(.ptr 0 0)),(5,(Qd v202))],[(Z5 p1.box.lo p1.box.hi p1.access.kind p1.access.buffer p1.access.base p1.access.strides p1.access.start p1.access.step p1.access.mod)]⟩ (P1 (.exit 0) (fun v602 d=>⟨sl d 40 [(0,(Z4 p0)),(3,(.ptr 0 0)),(5,(Qd v602))],[(Z5 p1.box.lo p1.box.hi p1.access.kind p1.access.buffer p1.access.base p1.access.strides p1.access.start p1.access.step p1.access.mod)]⟩) r):=by
 refine YM.partial_correctness _ (fun YM J2 x r hm=>?_)
 obtain ⟨p0,p1,v202⟩:=x
 exact lp (Qf (Qf (bi hm fun v603 hs hm=>Xt (fun d=>⟨sl d 40 [(0,(Z4 p0)),(3,(.ptr 0 0)),(5,(Qd v202)),(25,(Qh v603))],[(Z5 p1.box.lo p1.box.hi p1.access.kind p1.access.buffer p1.access.base p1.access.strides p1.access.start p1.access.step p1.access.mod)]⟩) (have hm:=hs;Y5 (Qb 2 (QP Qc.toD p0 (Qb 2 (gs 14 hm (fun hm=>Qb 2 (QY 9 Qc.toD hm fun v604 hm=>Qb 6 (bi hm fun v605 hx hm=>cp (Qbh hx) (re 1 ⟨kr,zf⟩)))) (fun hm=>re 11 ⟨kr,zf⟩)))))) (fun d=>rib hm (fun hm=>Qn (Qm (R_G (re 3 (J2 _ _ hm _ kr))))) (fun hm=>QI zf)))))
def Jx (x:((List Qc) × Qc)):Option (List Qc) :=
 match x with
 | (p0,p1) =>
 YE p1.box>>=fun v1 =>
 if v1=true then
  some p0
 else
 YM (p0,p1,0)>>=fun v602 =>
 sub p0 0 v602>>=fun v606 =>
 app 120 ([]:List Qc) v606>>=fun v607 =>
 app 120 v607 ([(⟨(⟨p1.box.lo,p1.box.hi⟩:Ql),(⟨p1.access.kind,p1.access.buffer,p1.access.base,p1.access.strides,p1.access.start,p1.access.step,p1.access.mod⟩:Qw)⟩:Qc)]:List Qc)>>=fun v608 =>
 sub p0 v602 (p0.length:Int)>>=fun v609 =>
 app 120 v608 v609>>=fun v610 =>
 some v610
theorem Qb7 {p0 p1 r0} (hm:Jx (p0,p1)=some r0):FQ 32 [(.lst ((List.map Qc.toD) p0)),(Qc.toD p1)] (Z4 r0):=by
 unfold Jx at hm
 exact fp (fn:=f32) rfl (ge 2 (Qf (gr 2 (bi hm fun v1 hx hm=>cp (QaX hx) (QX (rib hm (fun hm=>ge 2 (Qk zf)) (fun hm=>Qn (ge 1 (Qf (Qm (ru1 hm (J2 _) fun v602 d hm=>Qf (Y5 (Qb 3 (bi hm fun v606 hx hm=>Qcr 9 Qc.toD p0 v606 0 v602 (es:=(List.map Qc.toD) p0) (L:=(List.map Qc.toD)) (a:=natI 0) (b:=natI v602) (fun _=>rfl) rfl (fun _=>by first|rfl|exact num_of_fit (Qc.fit _)) hx rfl (Or.inl rfl) (bi hm fun v607 hx hm=>XQ 40 9 120 1 Qc.toD ([]:List Qc) v606 v607 (xs:=(List.map Qc.toD) ([]:List Qc)) (es:=(List.map Qc.toD) v606) (L:=(List.map Qc.toD)) (fun _=>rfl) rfl rfl Qc.fit hx (Qb 2 (bi hm fun v608 hx hm=>XQ 40 9 120 1 Qc.toD v607 ([(⟨(⟨p1.box.lo,p1.box.hi⟩:Ql),(⟨p1.access.kind,p1.access.buffer,p1.access.base,p1.access.strides,p1.access.start,p1.access.step,p1.access.mod⟩:Qw)⟩:Qc)]:List Qc) v608 (xs:=(List.map Qc.toD) v607) (es:=(List.map Qc.toD) ([(⟨(⟨p1.box.lo,p1.box.hi⟩:Ql),(⟨p1.access.kind,p1.access.buffer,p1.access.base,p1.access.strides,p1.access.start,p1.access.step,p1.access.mod⟩:Qw)⟩:Qc)]:List Qc)) (L:=(List.map Qc.toD)) (fun _=>rfl) rfl rfl Qc.fit hx (Qb 2 (bi hm fun v609 hx hm=>Qcr 9 Qc.toD p0 v609 v602 (p0.length:Int) (es:=(List.map Qc.toD) p0) (L:=(List.map Qc.toD)) (a:=natI v602) (b:=some ((List.map Qc.toD) p0).length) (fun _=>rfl) rfl (fun _=>by first|rfl|exact num_of_fit (Qc.fit _)) hx rfl (Or.inr ⟨rfl,rfl⟩) (bi hm fun v610 hx hm=>XQ 40 9 120 1 Qc.toD v608 v609 v610 (xs:=(List.map Qc.toD) v608) (es:=(List.map Qc.toD) v609) (L:=(List.map Qc.toD)) (fun _=>rfl) rfl rfl Qc.fit hx (re 1 ⟨kr,Qk zf⟩)))))))))))))))))))))
def YL (x:(List Int)):Option (List Qc) :=
 match x with
 | p0 =>
 XC p0>>=fun v1 =>
 Jx (([]:(List Qc)),(⟨(⟨v1.lo,v1.hi⟩:Ql),(⟨1,0,0,([]:(List Int)),0,0,0⟩:Qw)⟩:Qc))>>=fun v2 =>
 some v2
theorem QaQ {p0 r0} (hm:YL p0=some r0):FQ 12 [(Lb p0)] (Z4 r0):=by
 unfold YL at hm
 exact fp (fn:=f12) rfl (ge 1 (gr 1 (bi hm fun v1 hx hm=>cp (QbO hx) (Qb 2 (bi hm fun v2 hx hm=>cp (Qb7 hx) (re 1 (Qk zf)))))))
def Zu (x:((List Int) × (List Int) × Int)):Option (Unit ⊕ Unit) :=
 match x with
 | (p0,p1,v201) =>
 if v201 < (p0.length:Int) then
  idx p0 v201>>=fun v601 =>
  idx p1 v201>>=fun v602 =>
  if v601≠v602 then
   some (Sum.inl ())
  else
  Zu (p0,p1,(W (v201+1)))
 else
 some (Sum.inr ())
 partial_fixpoint
theorem Jf:∀ x r,Zu x=some r→match x with|(p0,p1,v201)=>LQ f66 66 [1,1,0,1,0,0] 0 ⟨kp 26 [(0,(La p0)),(1,(La p1)),(5,(Qd v201))],[]⟩ (P2 .ret (fun _ d=>⟨sl d 26 [(4,(Qh false))],[]⟩) (.exit 0) (fun _ d=>⟨sl d 26 [],[]⟩) r):=by
 refine Zu.partial_correctness _ (fun Zu Jf x r hm=>?_)
 obtain ⟨p0,p1,v201⟩:=x
 exact lp (Qf (gr 2 (QP Qi p0 (re 1 (ri hm (fun hm=>Qn (Qf (Qm (Qf (Y5 (Qb 2 (QY 1 Qi hm fun v601 hm=>Qb 3 (QY 1 Qi hm fun v602 hm=>re 2 ⟨kr,rix hm (fun hm=>ge 1 (Qk zf)) (fun hm=>Qn (R_G (re 3 (Jf _ _ hm _ kr))))⟩)))))))) (fun hm=>QI zf))))))
def YD (x:((List Int) × (List Int))):Option Bool :=
 match x with
 | (p0,p1) =>
 if (p0.length:Int)≠(p1.length:Int) then
  some false
 else
 (
 Zu (p0,p1,0)>>=fun out =>
 match out with
 | .inl _ =>
  some false
 | .inr (_) =>
  some true
 )
theorem Qae {p0 p1 r0} (hm:YD (p0,p1)=some r0):FQ 66 [(Lb p0),(Lb p1)] (Qh r0):=by
 unfold YD at hm
 exact fp (fn:=f66) rfl (ge 1 (Qf (gr 1 (QP Qi p0 (Qb 1 (QP Qi p1 (re 1 (rix hm (fun hm=>ge 1 (Qk zf)) (fun hm=>Qn (Qf (ge 1 (Qm (ru2 hm (Jf _) (fun _ d hm=>zf) fun _ d hm=>ge 1 (Qk zf))))))))))))))
def JH (x:(Ql × Ql)):Option Bool :=
 match x with
 | (p0,p1) =>
 YD (p0.lo,p1.lo)>>=fun v1 =>
 if v1=true then
  YD (p0.hi,p1.hi)>>=fun v2 =>
  some v2
 else
 some false
theorem QbT {p0 p1 r0} (hm:JH (p0,p1)=some r0):FQ 30 [(Ql.toD p0),(Ql.toD p1)] (Qh r0):=by
 unfold JH at hm
 exact fp (fn:=f30) rfl (ge 3 (gr 4 (bi hm fun v1 hx hm=>cp (Qae hx) (Qb 1 (gsb 10 hm (fun hm=>Qb 4 (bi hm fun v2 hx hm=>cp (Qae hx) (re 2 (Qk zf)))) (fun hm=>re 7 (Qk zf)))))))
def JI (x:(Qw × Qw)):Option Bool :=
 match x with
 | (p0,p1) =>
 (if p0.kind=p1.kind then
  some (p0.buffer == p1.buffer)
 else
 some false
 )>>=fun (v1:Bool) =>
 (if v1=true then
  some (p0.base == p1.base)
 else
 some false
 )>>=fun (v2:Bool) =>
 (if v2=true then
  some (p0.start == p1.start)
 else
 some false
 )>>=fun (v3:Bool) =>
 (if v3=true then
  some (p0.step == p1.step)
 else
 some false
 )>>=fun (v4:Bool) =>
 (if v4=true then
  some (p0.mod == p1.mod)
 else
 some false
 )>>=fun (v5:Bool) =>
 if v5=true then
  YD (p0.strides,p1.strides)>>=fun v6 =>
  some v6
 else
 some false
theorem QbU {p0 p1 r0} (hm:JI (p0,p1)=some r0):FQ 31 [(Qw.toD p0),(Qw.toD p1)] (Qh r0):=by
 unfold JI at hm
 exact fp (fn:=f31) rfl (ge 3 (Qf (Qa4 (Qb 6 (bi hm fun v1 hs hm=>Zk (j:=12) (fun d=>⟨sl d 52 [(2,(.ptr 0 0)),(3,(.ptr 1 0)),(4,(Qh false)),(16,(Qh v1))],[(Qx p0.kind p0.buffer p0.base p0.strides p0.start p0.step p0.mod),(Qx p1.kind p1.buffer p1.base p1.strides p1.start p1.step p1.mod)]⟩) (fun d=>Qb 1 (bi hm fun v2 hs hm=>Zk (j:=19) (fun d=>⟨sl d 52 [(2,(.ptr 0 0)),(3,(.ptr 1 0)),(4,(Qh false)),(23,(Qh v2))],[(Qx p0.kind p0.buffer p0.base p0.strides p0.start p0.step p0.mod),(Qx p1.kind p1.buffer p1.base p1.strides p1.start p1.step p1.mod)]⟩) (fun d=>Qb 1 (bi hm fun v3 hs hm=>Zk (j:=26) (fun d=>⟨sl d 52 [(2,(.ptr 0 0)),(3,(.ptr 1 0)),(4,(Qh false)),(30,(Qh v3))],[(Qx p0.kind p0.buffer p0.base p0.strides p0.start p0.step p0.mod),(Qx p1.kind p1.buffer p1.base p1.strides p1.start p1.step p1.mod)]⟩) (fun d=>Qb 1 (bi hm fun v4 hs hm=>Zk (j:=33) (fun d=>⟨sl d 52 [(2,(.ptr 0 0)),(3,(.ptr 1 0)),(4,(Qh false)),(37,(Qh v4))],[(Qx p0.kind p0.buffer p0.base p0.strides p0.start p0.step p0.mod),(Qx p1.kind p1.buffer p1.base p1.strides p1.start p1.step p1.mod)]⟩) (fun d=>Qb 1 (bi hm fun v5 hs hm=>Zk (j:=40) (fun d=>⟨sl d 52 [(2,(.ptr 0 0)),(3,(.ptr 1 0)),(4,(Qh false)),(44,(Qh v5))],[(Qx p0.kind p0.buffer p0.base p0.strides p0.start p0.step p0.mod),(Qx p1.kind p1.buffer p1.base p1.strides p1.start p1.step p1.mod)]⟩) (fun d=>Qb 1 (gsb 45 hm (fun hm=>Qb 4 (bi hm fun v6 hx hm=>cp (Qae hx) (re 2 ⟨kr,Qk zf⟩))) (fun hm=>re 7 ⟨kr,Qk zf⟩))) (fun hJ=>gsb 38 hs (fun hm=>Qb 6 zf) (fun hm=>Qb 6 zf)))) (fun hJ=>gsb 31 hs (fun hm=>Qb 6 zf) (fun hm=>Qb 6 zf)))) (fun hJ=>gsb 24 hs (fun hm=>Qb 6 zf) (fun hm=>Qb 6 zf)))) (fun hJ=>gsb 17 hs (fun hm=>Qb 6 zf) (fun hm=>Qb 6 zf)))) (fun hJ=>gsq 10 hs (fun hm=>Qb 6 zf) (fun hm=>Qb 6 zf)))))))
def ZW (x:((List Qc) × (List Qc) × Int)):Option (Unit ⊕ Unit) :=
 match x with
 | (p0,p1,v201) =>
 if v201 < (p0.length:Int) then
  (idx p0 v201>>=fun v602 =>
  idx p1 v201>>=fun v603 =>
  JH (v602.box,v603.box)>>=fun v604 =>
  if v604=false then
   some true
  else
  idx p0 v201>>=fun v605 =>
  idx p1 v201>>=fun v606 =>
  JI (v605.access,v606.access)>>=fun v607 =>
  some (!v607)
  )>>=fun (v601:Bool) =>
  if v601=true then
   some (Sum.inl ())
  else
  ZW (p0,p1,(W (v201+1)))
 else
 some (Sum.inr ())
 partial_fixpoint
theorem JE:∀ x r,ZW x=some r→match x with|(p0,p1,v201)=>LQ f11 11 [1,1,0,1,0,0] 0 ⟨kp 43 [(0,(Z4 p0)),(1,(Z4 p1)),(5,(Qd v201))],[]⟩ (P2 .ret (fun _ d=>⟨sl d 43 [(4,(Qh false))],[]⟩) (.exit 0) (fun _ d=>⟨sl d 43 [],[]⟩) r):=by
 refine ZW.partial_correctness _ (fun ZW JE x r hm=>?_)
 obtain ⟨p0,p1,v201⟩:=x
 exact lp (Qf (gr 2 (QP Qc.toD p0 (re 1 (ri hm (fun hm=>Qn (Qf (Qm (Qf (bi hm fun v601 hs hm=>Xt (fun d=>⟨sl d 43 [(0,(Z4 p0)),(1,(Z4 p1)),(5,(Qd v201)),(42,(Qh v601))],[]⟩) (have hm:=hs;Y5 (Qb 2 (QY 9 Qc.toD hm fun v602 hm=>Qb 4 (QY 9 Qc.toD hm fun v603 hm=>Qb 2 (bi hm fun v604 hx hm=>cp (QbT hx) (Qb 2 (gsn 29 hm (fun hm=>re 13 ⟨kr,zf⟩) (fun hm=>Qb 2 (QY 9 Qc.toD hm fun v605 hm=>Qb 4 (QY 9 Qc.toD hm fun v606 hm=>Qb 2 (bi hm fun v607 hx hm=>cp (QbU hx) (re 2 ⟨kr,zf⟩)))))))))))) (fun d=>rib hm (fun hm=>ge 1 (Qk zf)) (fun hm=>Qn (R_G (re 3 (JE _ _ hm _ kr)))))))))) (fun hm=>QI zf))))))
def Yg (x:((List Qc) × (List Qc))):Option Bool :=
 match x with
 | (p0,p1) =>
 if (p0.length:Int)≠(p1.length:Int) then
  some false
 else
 (
 ZW (p0,p1,0)>>=fun out =>
 match out with
 | .inl _ =>
  some false
 | .inr (_) =>
  some true
 )
theorem Qbg {p0 p1 r0} (hm:Yg (p0,p1)=some r0):FQ 11 [(.lst ((List.map Qc.toD) p0)),(.lst ((List.map Qc.toD) p1))] (Qh r0):=by
 unfold Yg at hm
 exact fp (fn:=f11) rfl (ge 1 (Qf (gr 1 (QP Qc.toD p0 (Qb 1 (QP Qc.toD p1 (re 1 (rix hm (fun hm=>ge 1 (Qk zf)) (fun hm=>Qn (Qf (ge 1 (Qm (ru2 hm (JE _) (fun _ d hm=>zf) fun _ d hm=>ge 1 (Qk zf))))))))))))))
def ZN (x:(Ql × Int)):Option (Unit ⊕ Unit) :=
 match x with
 | (p0,v202) =>
 if v202 < (p0.lo.length:Int) then
  (idx p0.lo v202>>=fun v603 =>
  (if v603 < 0 then
   some true
  else
  idx p0.lo v202>>=fun v605 =>
  idx p0.hi v202>>=fun v606 =>
  some (decide (v605 > v606))
  )>>=fun (v604:Bool) =>
  if v604=true then
   some true
  else
  idx p0.hi v202>>=fun v607 =>
  some (decide (v607 > 65536))
  )>>=fun (v602:Bool) =>
  if v602=true then
   some (Sum.inl ())
  else
  ZN (p0,(W (v202+1)))
 else
 some (Sum.inr ())
 partial_fixpoint
theorem Jk:∀ x r,ZN x=some r→match x with|(p0,v202)=>LQ f34 34 [1,1,0,1,0,0] 1 ⟨kp 51 [(1,(.ptr 0 0)),(3,(Qd v202))],[(Qo p0.lo p0.hi)]⟩ (P2 .ret (fun _ d=>⟨sl d 51 [(2,(Qh false))],[(Qo p0.lo p0.hi)]⟩) (.exit 0) (fun _ d=>⟨sl d 51 [],[(Qo p0.lo p0.hi)]⟩) r):=by
 refine ZN.partial_correctness _ (fun ZN Jk x r hm=>?_)
 obtain ⟨p0,v202⟩:=x
 exact lp (Qf (gr 3 (QP Qi p0.lo (re 1 (ri hm (fun hm=>Qn (Qf (Qm (Qf (bi hm fun v602 hs hm=>Xt (fun d=>⟨sl d 51 [(1,(.ptr 0 0)),(3,(Qd v202)),(50,(Qh v602))],[(Qo p0.lo p0.hi)]⟩) (have hm:=hs;QcH (Qb 3 (QY 1 Qi hm fun v603 hm=>Qb 3 (bi hm fun v604 hs hm=>Zk (j:=19) (fun d=>⟨sl d 51 [(1,(.ptr 0 0)),(3,(Qd v202)),(42,(Qh v604))],[(Qo p0.lo p0.hi)]⟩) (fun d=>Qb 1 (gsb 43 hm (fun hm=>re 7 ⟨kr,zf⟩) (fun hm=>Qb 3 (QY 1 Qi hm fun v607 hm=>re 3 ⟨kr,zf⟩)))) (fun hJ=>gs 30 hs (fun hm=>Qb 12 zf) (fun hm=>Qb 3 (QY 1 Qi hm fun v605 hm=>Qb 4 (QY 1 Qi hm fun v606 hm=>Qb 3 zf)))))))) (fun d=>rib hm (fun hm=>ge 1 (Qk zf)) (fun hm=>Qn (R_G (re 3 (Jk _ _ hm _ kr)))))))))) (fun hm=>QI zf))))))
def Y3 (x:Ql):Option Bool :=
 match x with
 | p0 =>
 (if (p0.lo.length:Int)≠(p0.hi.length:Int) then
  some true
 else
 some (decide ((p0.lo.length:Int) > 16))
 )>>=fun (v1:Bool) =>
 if v1=true then
  some false
 else
 (
 ZN (p0,0)>>=fun out =>
 match out with
 | .inl _ =>
  some false
 | .inr (_) =>
  some true
 )
theorem QaW {p0 r0} (hm:Y3 p0=some r0):FQ 34 [(Ql.toD p0)] (Qh r0):=by
 unfold Y3 at hm
 exact fp (fn:=f34) rfl (ge 2 (Qf (Qf (bi hm fun v1 hs hm=>Xt (fun d=>⟨sl d 51 [(1,(.ptr 0 0)),(16,(Qh v1))],[(Qo p0.lo p0.hi)]⟩) (have hm:=hs;R_G (Qb 2 (QP Qi p0.lo (Qb 2 (QP Qi p0.hi (Qb 2 (gsx 11 hm (fun hm=>re 5 zf) (fun hm=>Qb 2 (QP Qi p0.lo (re 2 zf)))))))))) (fun d=>rib hm (fun hm=>ge 1 (Qk zf)) (fun hm=>Qn (Qf (ge 1 (Qm (ru2 hm (Jk _) (fun _ d hm=>zf) fun _ d hm=>ge 1 (Qk zf)))))))))))
def Z2 (x:(Int × Int)):Option Bool :=
 match x with
 | (p0,p1) =>
 if p0≥(W (0 - p1)) then
  some (decide (p0≤p1))
 else
 some false
theorem Xr {p0 p1 r0} (hm:Z2 (p0,p1)=some r0):FQ 92 [(Qi p0),(Qi p1)] (Qh r0):=by
 unfold Z2 at hm
 exact fp (fn:=f92) rfl (ge 1 (gr 5 (gs 9 hm (fun hm=>re 5 (Qk zf)) (fun hm=>re 5 (Qk zf)))))
end Go.Proofs.Tryz
