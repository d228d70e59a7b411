/-
 Models of functions, their walks, and plain laws.
-/
import Derived.Test.YtjcfpjpdopfefaaGreatPmSx
import Derived.Test.YtjcfpjpdopfefaaGreatLay0
import Derived.Test.YtjcfpjpdopfefaaGreatRows
import Derived.WalkKit
import Derived.WalkSpells
import Derived.Test.YtjcfpjpdopfefaaGreatPmFx
import Derived.Test.YtjcfpjpdopfefaaGreatLay1
import Derived.Test.YtjcfpjpdopfefaaGreatProg
import Derived.Test.YtjcfpjpdopfefaaGreatPmMap
import Derived.Test.YtjcfpjpdopfefaaGreatPmPk
namespace Go.Proofs.Tryz
open Go Go.Pm
set_option linter.unusedVariables false
set_option linter.unusedSimpArgs false
set_option maxRecDepth 2000
def Sm (n:Nat):Prop:=n≤9223372036854775807
theorem Sm_of {n m:Nat} (h:n≤m) (hm:m≤9223372036854775807:=by decide):Sm n:=jW h hm
theorem idx_ok {α:Type} {l:List α} {j:Nat} (h:j < l.length):idx l (j:Int)=some l[j]:=by simp [idx,h]
theorem app_ok {α:Type} {b:Nat} {l es:List α} (h:(l.length+es.length) * b≤room):app b l es=some (l++es):=if_pos h
theorem W_ok {n:Int} (h1:-9223372036854775808≤n) (h2:n < 9223372036854775808):W n=n:=by
 simp only [W,IntKind.wrap,IntKind.bits,IntKind.signed]; simp; split <;> omega
theorem W_succ {j:Nat} (h:j < 9223372036854775807):W ((j:Int)+1)=((j+1:Nat):Int):=by rw [W_ok y5 y5]; omega
section
variable {α:Type} {p s:List α} {x:α}
theorem QU:((p.length:Int) < ((p++x::s).length:Int)):=by simp; omega
theorem Q4:¬ ((p.length:Int) < ((p++([]:List α)).length:Int)):=by simp
theorem Qy:idx (p++x::s) (p.length:Int)=some x:=by simp [idx]
theorem Qr:p++x::s=(p++[x])++s:=by simp
theorem mid_W (hs:Sm (p++x::s).length):W ((p.length:Int)+1)=((p++[x]).length:Int):=by
 unfold Sm at hs;rw [W_ok y5 (by simp at hs; omega)]; simp
end
theorem Qe {α β:Type} (a:α) (f:α→Option β):(some a>>=f)=f a:=rfl
open Go Go.RowKit Go.Sort
def cmpL:List Int→List Int→Int
 | [],[]=>0
 | [],_::_=>-1
 | _::_,[]=>1
 | x::a,y::b=>if x < y then -1 else if y < x then 1 else cmpL a b
theorem wrap_one {j n:Nat} (h:j < n) (hn:n≤1000000):wrap64 ((j:Int)+1)=((j+1:Nat):Int):=by
 unfold wrap64; omega
def cmpI (x y:Int):Int:=if x < y then -1 else if y < x then 1 else 0
set_option maxHeartbeats 1600000 in
set_option maxRecDepth 1000000 in
theorem cmp_int (x y:Int) (w:World):Calls prog 133 #[.int .i64 x,.int .i64 y] w fun e w'=>e=.returned (.int .i64 (cmpI x y))∧w'=w:=by
 go_enter func133,ntmps133
 go_wp2
 all_goals (go_ret; exact ⟨by rw [cmpI]; first|rw [if_pos y5]; rfl|rw [if_neg y5,if_pos y5]; rfl|rw [if_neg y5,if_neg y5]; rfl,rfl⟩)
theorem cmpL_at (a b:List Int):∀ i (ha:i < a.length) (hb:i < b.length),cmpL (a.drop i) (b.drop i)=if cmpI a[i] b[i]=0 then cmpL (a.drop (i+1)) (b.drop (i+1)) else cmpI a[i] b[i]:=fun i ha hb=>by
 rw [List.drop_eq_getElem_cons ha,List.drop_eq_getElem_cons hb,cmpL];unfold cmpI;by_cases h1:a[i] < b[i]
 ·simp [h1]
 ·by_cases h2:b[i] < a[i]
  ·simp [h1,h2]
  ·simp [h1,h2]
def IntsAt (w:World) (v:Value) (a:List Int):Prop:=(a=[]∧∃ ad c,v=.slice ad 0 c)∨∃ b off c,v=.slice (some ⟨b,off,none⟩) a.length c∧∀ j (h:j < a.length),w.cell? ⟨b,off+j,none⟩=some (.int .i64 a[j])
theorem IntsAt.sl {w:World} {v:Value} {a:List Int} (h:IntsAt w v a):∃ ad c,v=.slice ad a.length c∧∀ j (h:j < a.length),∃ b off,ad=some ⟨b,off,none⟩∧w.cell? ⟨b,off+j,none⟩=some (.int .i64 a[j]):=by
 rcases h with ⟨rfl,ad,c,rfl⟩|⟨b,off,c,rfl,h⟩
 ·exact ⟨ad,c,rfl,fun j h=>absurd h (Nat.not_lt_zero _)⟩
 ·exact ⟨_,c,rfl,fun j hj=>⟨b,off,rfl,h j hj⟩⟩
set_option maxHeartbeats 1600000 in
set_option maxRecDepth 1000000 in
theorem cmp_lists (a b:List Int) (u v:Value) (w:World) (hu:IntsAt w u a) (hv:IntsAt w v b) (hl:a.length≤1000000):Calls prog 98 #[u,v] w fun e w'=>e=.returned (.int .i64 (cmpL a b))∧w'=w:=by
 obtain ⟨ua,uc,rfl,hU⟩:=hu.sl;obtain ⟨va,vc,rfl,hV⟩:=hv.sl;have hcmp:=fun x y=>cmp_int x y w
 have HU:Hid (∀ j (h:j < a.length),∃ b off,ua=some ⟨b,off,none⟩∧w.cell? ⟨b,off+j,none⟩=some (.int .i64 a[j])):=hU;have HV:Hid (∀ j (h:j < b.length),∃ b' off,va=some ⟨b',off,none⟩∧w.cell? ⟨b',off+j,none⟩=some (.int .i64 b[j])):=hV;have HL:Hid (a.length≤1000000):=hl;clear hU hV hu hv hl
 go_enter func98,ntmps98
 go_wp2_with fail
 go_loopw [11] (fun i wr=>∃ j:Nat,j≤a.length∧j≤b.length∧i=.int .i64 j∧wr=w∧cmpL (a.drop j) (b.drop j)=cmpL a b) (fun i _=>a.length - (Lib.intOf i).toNat)
 case atStart=>exact ⟨0,zN _,zN _,rfl,rfl,rfl⟩
 case round =>
  obtain ⟨j,hj,hjb,rfl,rfl,hcm⟩:=hrel;have HCM:Hid (cmpL (a.drop j) (b.drop j)=cmpL a b):=hcm;clear hcm;by_cases hlt:j < a.length
  ·obtain ⟨ub,uo,rfl,hx⟩:=HU.out j hlt;by_cases hltb:j < b.length
   ·obtain ⟨vb,vo,rfl,hy⟩:=HV.out j hltb;have hnb:¬ b.length≤j:=by omega
    have HAT:=cmpL_at a b j hlt hltb;rw [HCM.out] at HAT;have HAT:=@id (Hid _) HAT;generalize a[j]=x at *;generalize b[j]=y at *
    go_wp2_with (go_at_call 133; refine (hcmp _ _).mono ?_; rintro e w' ⟨rfl,rfl⟩)
    ·rename_i hne
     go_ret
     exact ⟨by rw [HAT.out,if_neg (by simpa using hne)]; rfl,rfl⟩
    ·rename_i heq;have hw:=wrap_one hlt HL.out;have hm:a.length - (j+1) < a.length - j:=Nat.sub_lt_sub_left hlt (Nat.lt_succ_self j);refine ⟨⟨j+1,hlt,hltb,by rw [hw],trivial,?_⟩,by rw [hw]; exact hm⟩;rw [HAT.out,if_pos (by simpa using heq)]
   ·have hnb:b.length≤j:=by omega
    go_wp2_with fail
    go_ret
    refine ⟨?_,rfl⟩;rw [← HCM.out,List.drop_eq_getElem_cons hlt,List.drop_of_length_le hnb];rfl
  ·have hja:j=a.length:=by omega
   subst hja;by_cases hltb:a.length < b.length
   ·go_wp2_with fail
    go_ret
    refine ⟨?_,rfl⟩;rw [← HCM.out,List.drop_of_length_le (j7 _),List.drop_eq_getElem_cons hltb];rfl
   ·go_wp2_with fail
    go_ret
    refine ⟨?_,rfl⟩;rw [← HCM.out,List.drop_of_length_le (j7 _),List.drop_of_length_le y5];rfl
open Go Go.RowKit Go.Sort Go.Proofs
theorem IntsAt.alloc {w:World} {v:Value} {a:List Int} (h:IntsAt w v a) (o:Obj):IntsAt (w.alloc o) v a:=by
 rcases h with ⟨rfl,ad,c,rfl⟩|⟨b,off,c,rfl,h⟩
 ·exact .inl ⟨rfl,ad,c,rfl⟩
 ·exact .inr ⟨b,off,c,rfl,fun j hj=>Lib.cell?_alloc_some _ (h j hj)⟩
set_option maxHeartbeats 1600000 in
set_option maxRecDepth 1000000 in
theorem before_at (A B:List Int) (a0 a1 a2 a3 a4 a5 a6 a7 a8 b0 b1 b2 b3 b4 b5 b6 b7 b8:Value) (w:World) (hA:IntsAt w a0 A) (hB:IntsAt w b0 B) (hl:A.length≤1000000) :
  Calls prog 51 #[.agg #[a0,a1,a2,a3,a4,a5,a6,a7,a8],.agg #[b0,b1,b2,b3,b4,b5,b6,b7,b8]] w fun e w'=>e=.returned (.int .i64 (cmpL A B))∧∃ q os',w'=grow (w.drewN q) os':=by
 have hcon:=fun o o'=>cmp_lists A B a0 b0 ((w.alloc o).alloc o') ((hA.alloc _).alloc _) ((hB.alloc _).alloc _) hl
 obtain ⟨aa,ac,rfl,_⟩:=hA.sl;obtain ⟨ba,bc,rfl,_⟩:=hB.sl;clear hA hB hl;generalize cmpL A B=r at hcon ⊢
 go_enter func51,ntmps51
 go_wp2_with (go_at_call 98; refine (hcon _ _).mono ?_; rintro e w' ⟨rfl,rfl⟩)
 go_ret
 exact ⟨rfl,0,_,by rw [alloc_eq_grow,alloc_eq_grow,grow_grow]; rfl⟩
open Go Go.RowKit Go.Sort Go.Proofs Go.Pm
theorem cmpL_self:∀ a:List Int,cmpL a a=0
 | []=>rfl
 | x::a=>by rw [cmpL,if_neg y5,if_neg y5,cmpL_self a]
theorem cmpL_trans:∀ {a b c:List Int},cmpL a b < 0→cmpL b c < 0→cmpL a c < 0
 | a,b,[],h1,h2=>by cases b <;> simp [cmpL] at h2
 | [],b,z::c,h1,h2=>by simp [cmpL]
 | x::a,[],z::c,h1,h2=>by simp [cmpL] at h1
 | x::a,y::b,z::c,h1,h2=>by
  simp only [cmpL] at h1 h2 ⊢;split at h1
  ·split at h2
   ·rw [if_pos y5]; decide
   ·split at h2
    ·omega
    ·rw [if_pos y5]; decide
  ·split at h1
   ·omega
   ·split at h2
    ·rw [if_pos y5]; decide
    ·split at h2
     ·omega
     ·rw [if_neg y5,if_neg y5]; exact cmpL_trans h1 h2
theorem cmpL_ntrans:∀ {a b c:List Int},¬ cmpL a b < 0→¬ cmpL b c < 0→¬ cmpL a c < 0
 | [],b,[],h1,h2=>by simp [cmpL]
 | x::a,b,[],h1,h2=>by simp [cmpL]
 | [],[],z::c,h1,h2=>by simp [cmpL] at h2
 | [],y::b,z::c,h1,h2=>by simp [cmpL] at h1
 | x::a,[],z::c,h1,h2=>by simp [cmpL] at h2
 | x::a,y::b,z::c,h1,h2=>by
  simp only [cmpL] at h1 h2 ⊢;split at h1
  ·exact absurd (show (-1:Int) < 0 by decide) h1
  ·split at h2
   ·exact absurd (show (-1:Int) < 0 by decide) h2
   ·rw [if_neg y5];split at h1
    ·rw [if_pos y5]; decide
    ·split at h2
     ·rw [if_pos y5]; decide
     ·rw [if_neg y5]; exact cmpL_ntrans h1 h2
def intOfD:Dat→Int
 | .raw (.int .i64 n)=>n
 | _=>0
def isI:Dat→Bool
 | .raw (.int .i64 _)=>true
 | _=>false
def keyD:Dat→List Int
 | .agg (.lst es::_)=>es.map intOfD
 | _=>[]
def okD:Dat→Bool
 | .agg (.lst es::r)=>decide (es.length≤1000000) && es.all isI && Dat.fits 9 (.agg (.lst es::r))
 | _=>false
def insD (x:Dat):List Dat→List Dat
 | []=>[x]
 | y::l=>if cmpL (keyD y) (keyD x) < 0 then y::insD x l else x::y::l
def sortD (l:List Dat):List Dat:=l.foldr insD []
def strictD:List Dat→Bool
 | a::b::l=>decide (cmpL (keyD a) (keyD b) < 0) && strictD (b::l)
 | _=>true
theorem insD_perm (x:Dat):∀ l,(insD x l).Perm (x::l)
 | []=>.refl _
 | y::l=>by
  rw [insD];split
  ·exact ((insD_perm x l).cons y).trans (.swap x y l)
  ·exact .refl _
theorem sortD_perm:∀ l,(sortD l).Perm l
 | []=>.refl _
 | x::l=>(insD_perm x (sortD l)).trans ((sortD_perm l).cons x)
theorem strict_pair:∀ {l:List Dat},strictD l=true→l.Pairwise fun a b=>cmpL (keyD a) (keyD b) < 0
 | [],_=>.nil
 | [a],_=>by simp
 | a::b::l,h=>by
  simp only [strictD,jE,zA] at h;have ih:=strict_pair h.2;refine List.pairwise_cons.2 ⟨fun c hc=>?_,ih⟩;rcases List.mem_cons.1 hc with rfl|hc
  ·exact h.1
  ·exact cmpL_trans h.1 ((List.pairwise_cons.1 ih).1 c hc)
theorem sorted_only {α:Type} (lt:α→α→Prop) (irr:∀ a,¬ lt a a):∀ {l m:List α},l.Perm m→l.Pairwise lt→m.Pairwise (fun a b=>¬ lt b a)→l=m
 | [],m,hp,_,_=>hp.nil_eq
 | a::l,[],hp,_,_=>(List.cons_ne_nil _ _ (List.perm_nil.1 hp)).elim
 | a::l,b::m,hp,hl,hm=>by
  have hl':=List.pairwise_cons.1 hl;have hm':=List.pairwise_cons.1 hm
  have e:a=b:=by
   rcases List.mem_cons.1 (hp.mem_iff.1 (jM ..)) with e|h1
   ·exact e
   ·rcases List.mem_cons.1 (hp.mem_iff.2 (jM ..)) with e|h2
    ·exact e.symm
    ·exact absurd (hl'.1 b h2) (hm'.1 a h1)
  subst e;rw [sorted_only lt irr hp.cons_inv hl'.2 hm'.2]
open Go Go.RowKit Go.Sort Go.Proofs Go.Pm Go.Shelf
set_option maxHeartbeats 1600000 in
set_option maxRecDepth 1000000 in
theorem ins_empty (ad:Option Addr) (c:Nat) (f:Value) (w:World):Calls prog 213 #[.slice ad 0 c,.int .i64 0,.int .i64 0,f] w fun e w'=>e=.returned (.tuple #[])∧w'=w:=by
 go_enter func213,ntmps213
 go_wp2_with fail
 go_loopw [8] (fun i wr=>i=.int .i64 1∧wr=w) (fun _ _=>0)
 case atStart=>exact ⟨rfl,rfl⟩
 case round =>
  obtain ⟨rfl,rfl⟩:=hrel
  go_wp2_with fail
  go_end0
  exact ⟨rfl,rfl⟩
set_option maxHeartbeats 1600000 in
set_option maxRecDepth 1000000 in
theorem sort_empty (ad:Option Addr) (c:Nat) (w:World):Calls prog 153 #[.slice ad 0 c,.func (.func 51) #[] #[]] w fun e w'=>e=.returned (.tuple #[])∧w'=w:=by
 have hl:Calls prog 147 #[.int .u64 0] w fun e w'=>e=.returned (.int .i64 0)∧w'=w :=
  Any.bits_Len (SlLaysF0.n15.bits (P:=prog) (ρ:=sortP_ren) { Tryz.sortP with }) 0 w y5 y5
 have hi:=fun f=>ins_empty ad c f w
 have hp:∀ f,Calls prog 191 #[.slice ad 0 c,.int .i64 0,.int .i64 0,.int .i64 0,f] w fun e w'=>e=.returned (.tuple #[])∧w'=w:=fun f=>by
  clear hl
  go_enter func191,ntmps191
  go_wp2_with fail
  go_loopw [1,2,3] (fun a b l wr=>a=.int .i64 0∧b=.int .i64 0∧wr=w) (fun _ _ _ _=>0)
  case atStart=>exact ⟨rfl,rfl,rfl⟩
  case round =>
   obtain ⟨rfl,rfl,rfl⟩:=hrel
   go_wp2_with (go_at_call 213; refine (hi _).mono ?_; rintro e w' ⟨rfl,rfl⟩)
   refine bodyPost_ret (results_none rfl _ _ _) rfl ?_;exact ⟨rfl,rfl⟩
 clear hi
 go_enter func153,ntmps153
 go_wp2_with (first|(go_at_call 147; refine hl.mono ?_; rintro e w' ⟨rfl,rfl⟩)|(go_at_call 191; refine (hp _).mono ?_; rintro e w' ⟨rfl,rfl⟩))
 go_end0
 exact ⟨rfl,rfl⟩
theorem good_late {P:Program} {B0:Nat} {w0:World} {S0:Nat→Nat→Prop} {H H':List Blk} {g g':Gh} {w w1 w2:World} {p:PV} {v:Value} (h:Pm.Good P B0 w0 S0 H g w p H' v g' w1) (ho:w2.os=w1.os) (ht:w2.tape=w1.tape) (hu:w2.output=w1.output)
  (hs:w1.heap.size≤w2.heap.size) (hb:∀ b,b < w1.heap.size→w2.heap[b]? = w1.heap[b]?):Pm.Good P B0 w0 S0 H g w p H' v g' w2:=by
 have he:∀ N,Ext N g' w1 g' w2:=fun N=>⟨fun _ _ h=>h,fun b o hs=>World.cell?_of_block (w:=w1) (hb b (h.inv.lt b o hs)),fun _ _ h=>⟨rfl,h⟩,fun _ _ v n h=>⟨v,n,h,j7 _,fun _=>rfl⟩⟩
 exact ⟨h.ext.trans (he H.length) (j7 _),h.len,h.rep.ext (he _) (j7 _),h.heap.keep (he _) (j7 _) (j7 _) (fun i b hi=>hb b (h.heap.occ_lt hi).2.1) (fun _ _ _ _ h=>h) (fun _ _=>rfl),
  ⟨h.inv.below.trans ⟨ho,ht,hu,hs,fun k hk=>hb k (jP hk h.inv.size)⟩,jW h.inv.size hs,h.inv.old,fun b o hs'=>jP (h.inv.lt b o hs') hs⟩,
  h.fr.trans ⟨hs,fun b hb' _=>hb b hb',fun i b hi _=>⟨i,hi⟩,fun _ _ h=>.inl h⟩⟩
theorem cell_of {w:World} {g:Nat} {cur:Array Value} {e:TypeId} (h:w.heap[g]? = some (.cells cur e (0,0))) (j:Nat):w.cell? ⟨g,j,none⟩=cur[j]?∧w.frozen? ⟨g,j,none⟩=false:=by
 constructor
 ·simp [World.cell?,h]
 ·simp [World.frozen?,h]
def cellAt (cur:Array Value) (n i j:Nat):Value:=cur[(if i < n then i else 0) * 9+j]!
def encP (cur:Array Value) (n i:Nat):List Value:=[cellAt cur n i 0,cellAt cur n i 1,cellAt cur n i 2,cellAt cur n i 3,cellAt cur n i 4,cellAt cur n i 5,cellAt cur n i 6,cellAt cur n i 7,cellAt cur n i 8]
theorem encP_get (cur:Array Value) (n i:Nat):∀ j,j < 9→(encP cur n i)[j]! = cellAt cur n i j
 | 0,_=>rfl|1,_=>rfl|2,_=>rfl|3,_=>rfl|4,_=>rfl|5,_=>rfl|6,_=>rfl|7,_=>rfl|8,_=>rfl
 | j+9,h=>by omega
theorem encP_mem {cur:Array Value} {n i:Nat} {v:Value} (h:v∈encP cur n i):∃ j,j < 9∧v=cellAt cur n i j:=by
 simp only [encP,List.mem_cons,List.not_mem_nil,or_false] at h;rcases h with h|h|h|h|h|h|h|h|h
 ·exact ⟨0,by decide,h⟩
 ·exact ⟨1,by decide,h⟩
 ·exact ⟨2,by decide,h⟩
 ·exact ⟨3,by decide,h⟩
 ·exact ⟨4,by decide,h⟩
 ·exact ⟨5,by decide,h⟩
 ·exact ⟨6,by decide,h⟩
 ·exact ⟨7,by decide,h⟩
 ·exact ⟨8,by decide,h⟩
theorem cellAt_get {cur:Array Value} {n i j:Nat} (hi:i < n) (hj:j < 9) (hn:n * 9≤cur.size):cur[i * 9+j]? = some (cellAt cur n i j):=by
 have:i * 9+j < cur.size:=by omega
 rw [cellAt,if_pos hi,getElem!_pos cur _ this,jA this]
theorem range_get {n i:Nat} (h:i < n):(Array.range n)[i]! = i:=by
 rw [getElem!_pos _ _ (by simpa using h)]; simp
theorem holdsP {w:World} {b n:Nat} {cur:Array Value} (hb:w.heap[b]? = some (.cells cur 62 (0,0))) (hn:n * 9≤cur.size):HoldsK (encP cur n) 9 w b 0 (Array.range n):=by
 intro t ht;simp only [size_flatK,Array.size_range] at ht;have h1:t / 9 < n:=by omega
 have h2:t % 9 < 9:=Nat.mod_lt _ y9;have hg:=get_flatK (encP cur n) 9 (Array.range n) t (by simpa using ht);rw [range_get h1,encP_get cur n _ _ h2] at hg;rw [zW,hg];refine ⟨?_,(cell_of hb t).2⟩;rw [(cell_of hb t).1,show t=t / 9 * 9+t % 9 by omega,cellAt_get h1 h2 hn];congr 2 <;> omega
theorem swoK (K:Nat→List Int):SWO (ltOf fun x y=>cmpL (K x) (K y)):=by
 refine ⟨fun x=>by simp [ltOf,cmpL_self],fun x y z h1 h2=>?_,fun x y z h1 h2=>?_⟩
 ·simp only [ltOf,zA] at *; exact cmpL_trans h1 h2
 ·simp only [ltOf,decide_eq_false_iff_not] at *; exact cmpL_ntrans h1 h2
theorem rep_raw {w:World} {S:Nat→Nat→Prop} {v x:Value} (h:RepD w S v (.raw x)):v=x:=by cases h; rfl
theorem isI_eq {d:Dat} (h:isI d=true):d=.raw (.int .i64 (intOfD d)):=by
 unfold isI at h;split at h
 ·rfl
 ·cases h
theorem rep_ints {w:World} {S:Nat→Nat→Prop} {v:Value} {es:List Dat} (h:RepD w S v (.lst es)) (hI:es.all isI=true):IntsAt w v (es.map intOfD):=by
 cases h with
 | nil=>exact .inl ⟨rfl,_,_,rfl⟩
 | empty a cap=>exact .inl ⟨rfl,_,_,rfl⟩
 | lst b off len cap k es c h1 h1' h2 h3 h4 =>
  refine .inr ⟨b,off,cap,by rw [h1,jY],fun j hj=>?_⟩;simp only [jY] at hj;have hd:=isI_eq (List.all_eq_true.1 hI es[j] (z8 hj));have hk:k=1:=by rw [← h2 es[j] (z8 hj),hd]; rfl
  subst hk;rw [(h3 j y5).1];have:=h4 j 0 es[j] (.raw (.int .i64 (intOfD es[j]))) (jC hj) (by rw [hd]; rfl);rw [Nat.mul_one,zV] at this;rw [rep_raw this]; simp
theorem map_set {w:World} {b:Nat} {cur:Array Value} {ty:TypeId} {fz:Nat × Nat} (hb:w.heap[b]? = some (.cells cur ty fz)) (f:Array Value→Array Value):mapBlock w b f=w.setRow b (f cur):=by
 unfold mapBlock World.setRow;congr 1;apply Array.ext_getElem?;intro i;simp only [Array.getElem?_modify];by_cases h:b=i
 ·subst h;rw [if_pos rfl,if_pos rfl,hb]; rfl
 ·rw [if_neg h,if_neg h]
def dO:Dat:=.raw undef
theorem ok_cells {d:Dat} (h:okD d=true):∃ es r,d=.agg (.lst es::r)∧es.length≤1000000∧es.all isI=true∧Dat.fits 9 d=true:=by
 unfold okD at h;split at h
 ·simp only [jE,zA] at h;exact ⟨_,_,rfl,h.1.1,h.1.2,h.2⟩
 ·cases h
theorem perm_list {n:Nat} {d':Array Nat} (h:PermIn 0 n (Array.range n) d'):d'.toList.Perm (List.range n):=by
 obtain ⟨h1,_,h3⟩:=h;simp only [Array.size_range] at h1;have e1:d'.extract 0 n=d':=by rw [← h1]; simp
 have e2:(Array.range n).extract 0 n=Array.range n:=by
  simp
 rw [e1,e2,Array.toList_range] at h3;exact h3
theorem sorted_list {n:Nat} {d':Array Nat} {ds:List Dat} (hn:n=ds.length) (hp:PermIn 0 n (Array.range n) d') (hs:SortedIn (ltOf fun x y=>cmpL (keyD (ds.getD (if x < n then x else 0) dO)) (keyD (ds.getD (if y < n then y else 0) dO))) 0 n d') (hst:strictD (sortD ds)=true) :
  d'.toList.map (fun x=>ds.getD x dO)=sortD ds:=by
 have hl:=perm_list hp
 have hds:(List.range n).map (fun x=>ds.getD x dO)=ds:=by
  subst hn;apply List.ext_getElem
  ·simp
  ·intro i h1 h2;simp [jB,h2]
 have hsz:d'.size=n:=by have:=hp.1; simpa using this
 have hmem:∀ x∈d'.toList,x < n:=fun x hx=>by simpa using hl.mem_iff.1 hx
 refine (sorted_only (fun a b=>cmpL (keyD a) (keyD b) < 0) (fun a=>by simp [cmpL_self]) ((sortD_perm ds).trans ?_) (strict_pair hst) ?_).symm
 ·have:=(hl.map fun x=>ds.getD x dO).symm
  rwa [hds] at this
 ·rw [List.pairwise_map,List.pairwise_iff_getElem];intro i j hi hj hij;simp only [Array.length_toList] at hi hj;have:=hs i j (zN _) hij y5;rw [getElem!_pos d' j hj,getElem!_pos d' i hi] at this;simp only [ltOf,decide_eq_false_iff_not] at this;rw [if_pos (hmem _ (Array.getElem_mem_toList hj)),if_pos (hmem _ (Array.getElem_mem_toList hi))] at this
  simpa using this
theorem sort_row {w:World} {S:Nat→Nat→Prop} {b n cap:Nat} {cur:Array Value} {ds:List Dat} (hb:w.heap[b]? = some (.cells cur 62 (0,0))) (hn:n=ds.length) (hcur:n * 9≤cur.size) (h0:0 < n) (hm:n≤1000000)
  (hok:ds.all okD=true) (hS:∀ b' o,S b' o→b'≠b∧b' < w.heap.size) (q8:RowD w S 9 ds cur) (hst:strictD (sortD ds)=true) :
  Calls prog 153 #[.slice (some ⟨b,0,none⟩) n cap,.func (.func 51) #[] #[]] w fun e w'=>e=.returned (.tuple #[])∧∃ new m os,new.size=cur.size∧w'=grow (Sort.ahead (w.setRow b new) m) os∧RowD w S 9 (sortD ds) new:=by
 have eg:∀ args w,(callFunc 51 args).run prog w=.ok (.enter 51 args) w:=enters_of func51 (by kernel_rfl) rfl;have hblk:b < w.heap.size:=(Array.getElem?_eq_some_iff.1 hb).1;have hI:∀ x,(if x < n then x else 0) < ds.length:=fun x=>by split <;> omega
 have hgd:∀ x,ds[if x < n then x else 0]? = some (ds.getD (if x < n then x else 0) dO):=fun x=>by
  rw [jB,jC (hI x)]; rfl
 have hokx:∀ x,okD (ds.getD (if x < n then x else 0) dO)=true:=fun x=>List.all_eq_true.1 hok _ (jF (hgd x))
 have hcell:∀ x j u,(ds.getD (if x < n then x else 0) dO).cells[j]? = some u→j < 9→RepD w S (cellAt cur n x j) u:=fun x j u hu hj=>by
  have hlt:(if x < n then x else 0) * 9+j < cur.size:=by have:=hI x; omega
  refine q8 _ j _ u _ (hgd x) hu ?_;rw [cellAt,getElem!_pos cur _ hlt,jA hlt]
 have h1:∀ x,∀ v∈encP cur n x,v.oneCell'=true:=fun x v hv=>by
  obtain ⟨j,hj,rfl⟩:=encP_mem hv;obtain ⟨es,r,he,_,_,hf⟩:=ok_cells (hokx x);simp only [Dat.fits,jE,beq_iff_eq] at hf;have hlen:j < (ds.getD (if x < n then x else 0) dO).cells.length:=by rw [← Dat.num_eq,hf.1]; exact hj
  have hu:=jC hlen;have hc:=List.all_eq_true.1 hf.2 _ (z8 hlen);have hr:=hcell x j _ hu hj
  exact one_of_cell (g:=⟨fun _=>0,fun _=>False,fun _=>none,S⟩) (N:=0) (.dat _ _ hr) (by
   generalize (ds.getD (if x < n then x else 0) dO).cells[j]=u at hc;cases u <;> first|rfl|(simp [Dat.isCell] at hc))
 have hcmp:CmpLays prog 51 #[] (encP cur n) 9 (fun x y=>cmpL (keyD (ds.getD (if x < n then x else 0) dO)) (keyD (ds.getD (if y < n then y else 0) dO))) b 0 n w:=fun m os dk hdk x y=>by
  have key:∀ x,IntsAt (sortWorldK (encP cur n) 9 w b 0 m dk os) (cellAt cur n x 0) (keyD (ds.getD (if x < n then x else 0) dO))∧(keyD (ds.getD (if x < n then x else 0) dO)).length≤1000000:=fun x=>by
   obtain ⟨es,r,he,hl,hi,_⟩:=ok_cells (hokx x);have hr:=hcell x 0 (.lst es) (by rw [he]; rfl) y9
   have hr':RepD (sortWorldK (encP cur n) 9 w b 0 m dk os) S (cellAt cur n x 0) (.lst es):=hr.mono (fun _ _ h=>h) fun b' o hs=>by
    obtain ⟨s1,s2⟩:=hS b' o hs;unfold sortWorldK;rw [cell?_grow _ _ _ (by show b' < (putRow _ _ _ _ _).heap.size; rw [size_putRow]; exact s2),cell?_putRowK_other _ _ _ _ _ _ _ s1];rfl
   have:=rep_ints hr' hi;have hk:keyD (ds.getD (if x < n then x else 0) dO)=es.map intOfD:=by rw [he]; rfl
   rw [hk];exact ⟨this,by simpa using hl⟩
  exact before_at _ _ _ _ _ _ _ _ _ _ _ _ _ _ _ _ _ _ _ _ _ (key x).1 (key y).1 (key x).2
 have hcon:=AnyQ.slices_SortFunc Tryz.sortP 9 isAgg62 sizeOf62 (encP cur n) y8 h1 _ (swoK fun x=>keyD (ds.getD (if x < n then x else 0) dO)) 51 #[] b 0 cap (Array.range n) w eg (by rw [Array.size_range]; exact hcmp) (holdsP hb hcur) hblk (by rw [Array.size_range]; omega);rw [Array.size_range] at hcon
 change Calls prog 153 _ _ _ at hcon
 refine hcon.mono ?_
 rintro e w' ⟨rfl,d',m,os,hp,hs,rfl⟩
 have hL:=sorted_list hn hp hs hst;have hsz:d'.size=n:=by have:=hp.1; simpa using this
 refine ⟨rfl,putCells id 0 (flatK (encP cur n) 9 d') cur,m,os,by simp [putCells],?_,?_⟩
 ·unfold sortWorldK putRowK;rw [putRow_ahead,putRow,map_set hb]
 ·intro i j d u v g1 g2 g3;rw [← hL,jD,j5] at g1;obtain ⟨x,hx,rfl⟩:=g1;have hxn:x < n:=by simpa using (perm_list hp).mem_iff.1 (jF hx)
  have hi:i < n:=by have:=(List.getElem?_eq_some_iff.1 hx).1; simp at this; omega
  have hxd:d'[i]! = x:=by
   have:=(List.getElem?_eq_some_iff.1 hx).2;rw [getElem!_pos d' i y5]; simpa using this
  have hox:=hokx x;rw [if_pos hxn] at hox;obtain ⟨es,r,he,_,_,hf⟩:=ok_cells hox;simp only [Dat.fits,jE,beq_iff_eq] at hf;have hj:j < 9:=by rw [← hf.1,Dat.num_eq]; exact (List.getElem?_eq_some_iff.1 g2).1
  have ht:i * 9+j < (flatK (encP cur n) 9 d').size:=by rw [size_flatK]; omega
  have hlt:i * 9+j < cur.size:=by omega
  have hv:v=cellAt cur n x j:=by
   simp only [putCells,Array.getElem?_mapIdx,jA hlt,jN,j9] at g3;rw [if_pos ⟨zN _,by omega⟩,Nat.sub_zero,get_flatK _ _ _ _ (by rw [← size_flatK (encP cur n) 9 d']; exact ht),show (i * 9+j) / 9=i by omega,show (i * 9+j) % 9=j by omega,hxd,encP_get _ _ _ _ hj] at g3;exact g3.symm
  rw [hv];have:=hcell x j u;rw [if_pos hxn] at this;exact this g2 hj
def sortG (args:List PV) (H:List Blk):Option (PV × List Blk) :=
 match args,H with
 | [.ms 0 gg 0 len _,.dat (.raw (.func (.func 51) fx cx))],[.mt e g' cs]=>match allDat cs with
  | some ds=>if (fx.size=0∧cx.size=0∧g'=gg∧e=62)∧len=ds.length∧len≤1000000∧ds.all okD=true∧strictD (sortD ds)=true then some (.tup [],[.mt e gg ((sortD ds).map .dat)]) else none
  | none=>none
 | _,_=>none
theorem size62:szOf prog 62=some 9:=by kernel_rfl
theorem dat_inj:∀ {a b:List Dat},a.map PV.dat=b.map PV.dat→a=b
 | [],[],_=>rfl
 | [],_::_,h=>by simp at h
 | _::_,[],h=>by simp at h
 | x::a,y::b,h=>by
  simp only [zS,List.cons.injEq,PV.dat.injEq] at h;rw [h.1,dat_inj h.2]
theorem grow_old {w:World} {os:Array Obj} {b:Nat} (h:b < w.heap.size):(grow w os).heap[b]? = w.heap[b]?:=by
 show (w.heap++os)[b]? = _
 rw [Array.getElem?_append_left h]
theorem sort_call (args:List PV) (H:List Blk) (p:PV) (H':List Blk) (h:sortG args H=some (p,H')):HeapCall prog 153 args H p H':=by
 unfold sortG at h;split at h
 ·rename_i gg len cp fx cx e g' cs;split at h
  ·rename_i ds hds;split at h
   ·rename_i hc;cases h;obtain ⟨⟨f0,c0,rfl,rfl⟩,hl,hm,hok,hst⟩:=hc;have hcs:=allDat_some _ _ hds;subst hcs;have hfx:fx=#[]:=Array.eq_empty_of_size_eq_zero f0;have hcx:cx=#[]:=Array.eq_empty_of_size_eq_zero c0;subst hfx; subst hcx;intro B0 w0 S0 g w vals hn hr hH hi hG;obtain ⟨l⟩:=vals
    match l,hn with
    | [v0,v1],_ =>
    have h1:v1=.func (.func 51) #[] #[]:=rep_raw (hr 1 v1 _ rfl rfl).datInv;subst h1;have h0:=hr 0 v0 _ rfl rfl;obtain ⟨u0,j1,j2⟩:=hH.mt 0 _ _ _ rfl
    have hfits:(sortD ds).all (Dat.fits 9)=true:=List.all_eq_true.2 fun d hd=>by
     obtain ⟨_,_,_,_,_,hf⟩:=ok_cells (List.all_eq_true.1 hok d ((sortD_perm ds).mem_iff.1 hd));exact hf
    cases h0 with
    | ms _ _ _ _ _ _ u1 n k1 k2 k3 k4 k5 =>
     have hown:=k2;rw [k2] at j1;simp only [j9,jI] at j1;obtain ⟨rfl,rfl⟩:=j1;obtain ⟨hv,_⟩:=k4 rfl;by_cases hz:ds=[]
     ·subst hz;have hl0:len=0:=by simpa using hl
      subst hl0;obtain ⟨ad,c,rfl,_⟩:=k5;refine (sort_empty ad c w).mono ?_
      rintro e w' ⟨rfl,rfl⟩
      exact ⟨_,g,rfl,.same hH hi (.tup _ _ rfl fun j v c h=>by simp at h)⟩
     ·have hne:0 < ds.length:=List.length_pos_iff.2 hz;rcases j2 with ⟨hnil,_⟩|⟨b,l',cap',cur,_,_,_,_,_,⟨_,hflat⟩,_⟩|⟨b,l',cap',cur,size,ds',rfl,q0,q1,q2,q3,q3',q4,q5,q5',q6,q7,q8,q9⟩
      ·exact absurd (by simpa using hnil) hz
      ·exfalso
       obtain ⟨d,r,rfl⟩:=List.exists_cons_of_ne_nil hz;obtain ⟨es,r',rfl,_⟩:=ok_cells (List.all_eq_true.1 hok d y7);simp [PV.flat] at hflat
      ·have:=dat_inj q4;subst this;rw [size62] at q3;cases q3;have hv':v0=.slice (some ⟨b,0,none⟩) len cap':=by rw [hv]; simp [subOf,Addr.add]
       subst hv';refine (sort_row (S:=g.S) (n:=len) (cap:=cap') q2 hl (by rw [q7]; exact Nat.mul_le_mul_right _ y5) y5 hm hok (fun b' o hs=>⟨fun e=>by subst e; exact q8 o hs,hi.lt b' o hs⟩) q9 hst).mono ?_
       rintro e w' ⟨rfl,new,m,os,hnew,rfl,hrow⟩
       have hg:=mul_put (P:=prog) (S0:=S0) (w0:=w0) (gg':=n) (l1:=l') (v:=.tuple #[]) (p:=.tup []) (ds':=sortD ds) (new:=new) (H:=[.mt 62 n (ds.map .dat)]) (tt:=0) rfl hown q0 q1 q2 size62 y9 q6 q7 q8 hfits (by rw [(sortD_perm ds).length_eq]; exact q5') hnew hrow (.inl ⟨rfl,rfl⟩) hH hi
        (.tup _ _ rfl fun j v c h=>by simp at h)
       exact ⟨_,_,rfl,good_late hg rfl rfl rfl (by simp [grow,Sort.ahead]) fun b hb=>by
        rw [grow_old (by exact hb)]; rfl⟩
   ·cases h
  ·cases h
 ·cases h
open Go Go.RowKit Go.Proofs Go.Pm Go.Shelf
def keysZ:List (Value × PV)→Option (List Int)
 | []=>some []
 | (.int .i64 n,.dat (.raw (.bool true)))::l=>if -9223372036854775808≤n∧n≤9223372036854775807 then (keysZ l).map (n::·) else none
 | _::_=>none
def insZ (x:Int):List Int→List Int
 | []=>[x]
 | y::l=>if x≤y then x::y::l else y::insZ x l
def sortZ (l:List Int):List Int:=l.foldr insZ []
def nodZ:List Int→Bool
 | []=>true
 | x::l=>!(l.contains x) && nodZ l
def sortedG (args:List PV) (H:List Blk):Option (PV × List Blk) :=
 match args with
 | [.fn 108 [.ptr b 0]]=>match H[b]? with
  | some (.box [.mapv m])=>match mapOf H m with
   | some es=>match keysZ es with
    | some ns=>if nodZ ns=true∧ns.length≤1000000 then some (.dat (.lst ((sortZ ns).map fun n=>.raw (.int .i64 n))),H) else none
    | none=>none
   | none=>none
  | _=>none
 | _=>none
theorem insZ_perm (x:Int):∀ l,(insZ x l).Perm (x::l)
 | []=>.refl _
 | y::l=>by
  rw [insZ];split
  ·exact .refl _
  ·exact ((insZ_perm x l).cons y).trans (.swap x y l)
theorem sortZ_perm:∀ l,(sortZ l).Perm l
 | []=>.refl _
 | x::l=>(insZ_perm x (sortZ l)).trans ((sortZ_perm l).cons x)
theorem insZ_le (x:Int):∀ l:List Int,l.Pairwise (·≤·)→(insZ x l).Pairwise (·≤·)
 | [],_=>List.pairwise_singleton _ _
 | y::l,h=>by
  obtain ⟨h1,h2⟩:=List.pairwise_cons.1 h;rw [insZ];split
  ·rename_i c;refine List.pairwise_cons.2 ⟨fun z hz=>?_,h⟩;rcases List.mem_cons.1 hz with rfl|hz
   ·exact c
   ·exact Int.le_trans c (h1 z hz)
  ·rename_i c;refine List.pairwise_cons.2 ⟨fun z hz=>?_,insZ_le x l h2⟩;rcases List.mem_cons.1 ((insZ_perm x l).mem_iff.1 hz) with rfl|hz
   ·omega
   ·exact h1 z hz
theorem sortZ_le:∀ l:List Int,(sortZ l).Pairwise (·≤·)
 | []=>.nil
 | x::l=>insZ_le x _ (sortZ_le l)
theorem nodZ_nodup:∀ {l:List Int},nodZ l=true→l.Nodup
 | [],_=>.nil
 | x::l,h=>by
  simp only [nodZ,jE,Bool.not_eq_true',List.contains_eq_mem,decide_eq_false_iff_not] at h;exact List.nodup_cons.2 ⟨h.1,nodZ_nodup h.2⟩
theorem sorted_same:∀ {l m:List Int},l.Perm m→l.Pairwise (·≤·)→m.Pairwise (·≤·)→l=m
 | [],m,hp,_,_=>hp.nil_eq
 | a::l,[],hp,_,_=>(List.cons_ne_nil _ _ (List.perm_nil.1 hp)).elim
 | a::l,b::m,hp,hl,hm=>by
  have hl':=List.pairwise_cons.1 hl;have hm':=List.pairwise_cons.1 hm
  have e:a=b:=by
   rcases List.mem_cons.1 (hp.mem_iff.1 (jM ..)) with e|h1
   ·exact e
   ·rcases List.mem_cons.1 (hp.mem_iff.2 (jM ..)) with e|h2
    ·exact e.symm
    ·have:=hl'.1 b h2; have:=hm'.1 a h1; omega
  subst e;rw [sorted_same (hp.cons_inv) hl'.2 hm'.2]
theorem merge_le (ss:List Int):(ss.mergeSort fun x y=>decide (x≤y)).Pairwise (·≤·):=by
 have:=List.pairwise_mergeSort (le:=fun x y:Int=>decide (x≤y)) (fun a b c h1 h2=>by simp at h1 h2 ⊢; omega) (fun a b=>by simp; omega) ss;exact this.imp fun h=>by simpa using h
theorem good_new {P:Program} {B0:Nat} {w0:World} {S0:Nat→Nat→Prop} {g:Gh} {H:List Blk} {w w':World} {v:Value} {d:Dat} (hH:Ql P g B0 H.length H w) (hi:Pm.Inv B0 w0 S0 g w) (hb:Below w.heap.size w w')
  (hv:RepD w' (fun b o=>g.S b o∨(w.heap.size≤b∧b < w'.heap.size)) v d):∃ g',Pm.Good P B0 w0 S0 H g w (.dat d) H v g' w':=by
 have he:Ext H.length g w { g with S:=fun b o=>g.S b o∨(w.heap.size≤b∧b < w'.heap.size) } w' :=
  ⟨fun _ _ h=>.inl h,fun b o hs=>hb.cell (p:=⟨b,o,none⟩) (hi.lt b o hs),fun _ _ h=>⟨rfl,h⟩,fun _ _ v n h=>⟨v,n,h,j7 _,fun _=>rfl⟩⟩
 refine ⟨_,he,j7 _,.dat _ _ hv,hH.keep he (j7 _) (j7 _) (fun i b h=>hb.block b (hH.occ_lt h).2.1) (fun i b h o hs=>?_) (fun _ _=>rfl),⟨hi.below.trans (hb.mono hi.size),jW hi.size hb.size,fun b o hs=>?_,fun b o hs=>?_⟩,Fr.old hb.size (fun b h=>hb.block b h) (fun i b h _=>⟨i,occ_ghost (g:=g) h (fun _ _=>rfl) (fun _ _=>rfl)⟩) (fun b o h=>h.imp id fun h=>.inl h.1)⟩
 ·rcases hs with hs|⟨hs,_⟩
  ·exact hs
  ·exact absurd (hH.occ_lt h).2.1 y5
 ·rcases hs with hs|⟨hs,_⟩
  ·exact hi.old b o hs
  ·exact .inr (jW hi.size hs)
 ·rcases hs with hs|⟨_,hs⟩
  ·exact jP (hi.lt b o hs) hb.size
  ·exact hs
theorem keysZ_get:∀ {es:List (Value × PV)} {ns:List Int},keysZ es=some ns→es.map (·.1)=ns.map (fun n=>Value.int .i64 n)∧∀ n∈ns,-9223372036854775808≤n∧n≤9223372036854775807
 | [],ns,h=>by
  simp only [keysZ,j9] at h;subst h;exact ⟨rfl,fun n hn=>by simp at hn⟩
 | e::es,ns,h=>by
  unfold keysZ at h;split at h
  ·rename_i h0; cases h0
  ·rename_i n l h0;cases h0;split at h
   ·rename_i hr;simp only [j5] at h;obtain ⟨ns',h1,rfl⟩:=h;obtain ⟨k1,k2⟩:=keysZ_get h1;refine ⟨by simp [k1],fun m hm=>?_⟩;rcases List.mem_cons.1 hm with rfl|hm
    ·exact hr
    ·exact k2 m hm
   ·cases h
  ·cases h
abbrev RB:Value→Option (DataW Unit × List MemPlace):=fun _=>some (.lit (.bool true),[])
theorem wf_in {n:Int} (h:-9223372036854775808≤n∧n≤9223372036854775807):(Lit.int .i64 n).wf=true:=by
 have h1:IntKind.i64.min=-9223372036854775808:=by decide
 have h2:IntKind.i64.max=9223372036854775807:=by decide
 simp only [Lit.wf,h1,h2,h.1,h.2,decide_true,Bool.and_self]
theorem sortsA (m:Nat):AnyZI.SortsIn Tryz.prog Tryz.sortedA_ren Fence.wide m :=
 ⟨fun blk off cap ss W hH hblk hsz=>callsIn_wide.2 (AnyM.slices_Sort_int Tryz.sortA blk off cap ss W hH hblk hsz),
  fun p cap W=>callsIn_wide.2 (AnyM.slices_Sort_int_none Tryz.sortA p cap W)⟩
theorem sorted_keys {bm b:Nat} {D0:DataW Unit} {nn:Nat} {w:World} (hown:w.ownsMap Tryz.prog 3 RB b nn D0) (hbm:bm < w.heap.size) (hcell:w.cell? ⟨bm,0,none⟩=some (.map (some b))) (hmax:Maps.size D0≤maxLen) (hbytes:Maps.size D0 * 8≤140737488355328) :
  Calls Tryz.prog 57 #[.func (.func 108) #[] #[.pointer (some ⟨bm,0,none⟩)]] w fun e w'=>∃ (v:Value) (ss:List Int),e=.returned v∧ss.Perm (intKeys D0) ∧
   w'.ownsRow w.heap.size 3 1 v ss.length ((ss.mergeSort (fun x y=>decide (x≤y))).map encZ)∧(v=.slice none 0 0↔ss=[])∧Below w.heap.size w w':=by
 refine (callsIn_wide (n:=5)).1 ?_
 have hseq:SeqGives Fence.wide 2 Tryz.prog 108 #[.pointer (some ⟨bm,0,none⟩)] encZ (fun ss=>ss.Perm (intKeys D0)) (Maps.size D0) w :=
  AnyZI.keys_gives (ρ:=Tryz.keysA_ren) { Tryz.keysA with } Fence.wide _ trivial rfl y5 bm b nn D0 _ hbm hcell hown
 have cS:=AnyZI.sorted_in Tryz.sortedA Fence.wide 5 trivial trivial trivial trivial rfl y5 (sortsA _) (enters_of Tryz.func107 (by kernel_rfl) rfl) 108 #[.pointer (some ⟨bm,0,none⟩)] trivial (enters_of Tryz.func108 (by kernel_rfl) rfl) _ _ hmax hbytes _ hseq
 change CallsIn _ _ Tryz.prog 57 _ _ _ at cS
 exact cS
theorem map_size {l:List (Lit × DataW Unit)}:Maps.size (.map l)=l.length:=rfl
theorem owns_of {w:World} {b:Nat} {arr:Array MapEntry} {clock:Nat} {ns:List Int} (hb:w.heap[b]? = some (.map arr clock)) (hs:stampE arr clock) (hk:arr.toList.map (·.key)=ns.map (fun n=>Value.int .i64 n)) (hn:ns.Nodup) (hr:∀ n∈ns,-9223372036854775808≤n∧n≤9223372036854775807) (hl:ns.length≤1000000) :
  ∃ D0:DataW Unit,w.ownsMap Tryz.prog 3 RB b ns.length D0∧Maps.size D0=ns.length∧(intKeys D0).Perm ns:=by
 have hlen:arr.size=ns.length:=by have:=congrArg List.length hk; simpa using this
 have hkey:∀ x∈arr.toList,∃ n∈ns,x.key=.int .i64 n∧Go.WideElems.rd Tryz.prog 3 RB x=some (.int .i64 n,.lit (.bool true)):=fun x hx=>by
  have:x.key∈ns.map (fun n=>Value.int .i64 n):=by rw [← hk]; exact List.mem_map.2 ⟨x,hx,rfl⟩
  obtain ⟨n,h1,h2⟩:=List.mem_map.1 this;refine ⟨n,h1,h2.symm,?_⟩;have:=Go.WideElems.rd_mk (P:=Tryz.prog) (k:=3) (R:=RB) (key:=x.key) (val:=x.val) (born:=x.born) (kl:=.int .i64 n) (yv:=(.lit (.bool true),[])) (by rw [← h2]; exact Go.Maps.keyOf_int_mk Tryz.underlying3 (wf_in (hr n h1))) rfl;exact this
 have hrg:arr.toList.map (Go.WideElems.rg Tryz.prog 3 RB)=ns.map fun n=>((.int .i64 n:Lit),(.lit (.bool true):DataW Unit)):=by
  refine List.ext_getElem (by simp [hlen]) fun i h1 h2=>?_
  simp only [List.getElem_map];have hi:i < arr.toList.length:=by simpa using h1
  obtain ⟨n,_,k1,k2⟩:=hkey _ (z8 hi);rw [Go.WideElems.rg_of k2];have e:=congrArg (fun l=>l[i]?) hk;simp only [jD] at e;rw [jC hi,jC (by simpa using h2)] at e;simp only [jN,j9,k1,Value.int.injEq,true_and] at e;rw [e]
 refine ⟨.map ((arr.toList.map (Go.WideElems.rg Tryz.prog 3 RB)).foldr DataW.insert []),⟨arr,clock,hb,⟨by rw [hlen]; exact jW hl y9,⟨hs.1,hs.2,?_⟩,fun x hx=>?_⟩,by omega,rfl⟩,?_,?_⟩
 ·rw [hk];exact List.Pairwise.map _ (fun a b h=>fun e=>h (by simpa using e)) hn
 ·obtain ⟨n,_,_,k2⟩:=hkey x hx;exact ⟨_,k2⟩
 ·rw [map_size,length_sorted,hrg]; simp
 ·have:=(Go.WideShapes.sorted_perm (arr.toList.map (Go.WideElems.rg Tryz.prog 3 RB))).map fun p=>Go.intOf p.1
  rw [hrg] at this ⊢;simp only [intKeys];refine this.trans ?_;rw [zD]
  have e:(fun p:Lit × DataW Unit=>Go.intOf p.1) ∘ (fun n:Int=>((.int .i64 n:Lit),(.lit (.bool true):DataW Unit)))=id:=by
   funext n; rfl
  rw [e,List.map_id]
theorem sorted_call (args:List PV) (H:List Blk) (p:PV) (H':List Blk) (h:sortedG args H=some (p,H')):HeapCall prog 57 args H p H':=by
 unfold sortedG at h;split at h
 case h_2=>cases h
 rename_i b;split at h
 case h_2=>cases h
 rename_i m hb;split at h
 case h_2=>cases h
 rename_i es hm;split at h
 case h_2=>cases h
 rename_i ns hns;split at h
 case isFalse=>cases h
 rename_i hc;cases h;intro B0 w0 S0 g w vals hn hr hH hi hG;obtain ⟨l⟩:=vals
 match l,hn with
 | [v0],_ =>
 have h0:=hr 0 v0 _ rfl rfl;cases h0 with
 | fn f vs cs q1 q2 =>
  obtain ⟨vl⟩:=vs
  match vl,q1 with
  | [u],_ =>
  have hu:=q2 0 u _ rfl rfl;cases hu with
  | ptr i o hio =>
   obtain ⟨_,⟨cv,ty,c1,c2,c3⟩,_⟩:=hH.box b _ hb;obtain ⟨cl⟩:=cv
   match cl,c2 with
   | [z],_ =>
   have hz:=c3 0 z _ rfl rfl;cases hz with
   | mapv i hi2 =>
    obtain ⟨_,⟨arr,o1,⟨m1,m2⟩,m3,m4⟩,_⟩:=hH.map m es (mapOf_some hm);obtain ⟨clock,rfl,_,hst⟩:=entries_map m2 m3 (fun j x c g1 g2=>(m4 j x c g1 g2).1) (mapOf_keys hm);obtain ⟨k1,k2⟩:=keysZ_get hns
    have hk:arr.toList.map (·.key)=ns.map (fun n=>Value.int .i64 n):=by
     rw [← k1];refine List.ext_getElem (by simpa using m3) fun i h1 h2=>?_
     simp only [List.getElem_map];have hi1:i < arr.size:=by simpa using h1
     have hi2:i < es.length:=by simpa using h2
     have:=(m4 i arr[i] es[i] (jA hi1) (jC hi2)).1
     simpa using this
    obtain ⟨D0,d1,d2,d3⟩:=owns_of m1 hst hk (nodZ_nodup hc.1) k2 hc.2;have hbl:g.blk b < w.heap.size:=(Array.getElem?_eq_some_iff.1 c1).1
    have hcell:w.cell? ⟨g.blk b,0,none⟩=some (.map (some (g.blk m))):=by
     rw [cell_of_row _ _ _ _ ty (0,0) c1]; rfl
    refine (sorted_keys d1 hbl hcell (by rw [d2]; exact jW hc.2 y9) (by rw [d2]; have:=hc.2; omega)).mono ?_
    rintro e w' ⟨v,ss,rfl,hp,hrow,hnil,hbw⟩
    have hpn:=hp.trans d3;have hsort:ss.mergeSort (fun x y=>decide (x≤y))=sortZ ns:=sorted_same ((List.mergeSort_perm ss _).trans (hpn.trans (sortZ_perm ns).symm)) (merge_le ss) (sortZ_le ns);rw [hsort] at hrow;have hlen:ss.length=(sortZ ns).length:=by rw [hpn.length_eq,(sortZ_perm ns).length_eq]
    have hv:RepD w' (fun b o=>g.S b o∨(w.heap.size≤b∧b < w'.heap.size)) v (.lst ((sortZ ns).map fun n=>.raw (.int .i64 n))):=by
     rcases hrow.2 with ⟨rfl,hz⟩|⟨gb,cap,cur,rfl,hbase,hgb,r1,r2,r3,r4⟩
     ·have:sortZ ns=[]:=List.eq_nil_of_length_eq_zero y5
      rw [this]; exact .nil
     ·rw [Nat.mul_one] at r3 r4;refine .lst gb 0 ss.length cap 1 _ (fun j=>cur.getD j undef) (by simp [hlen]) r1 (fun d hd=>?_) (fun i hi=>⟨?_,.inr ⟨hbase,(Array.getElem?_eq_some_iff.1 hgb).1⟩⟩) (fun i j d u g1 g2=>?_)
      ·obtain ⟨n,_,rfl⟩:=List.mem_map.1 hd;rfl
      ·rw [cell_of_row _ _ _ cur 3 (0,0) hgb]
       have:i < cur.size:=by omega
       simp [jH,this]
      ·rw [jD,j5] at g1;obtain ⟨n,g1,rfl⟩:=g1
       have hj:j=0∧u=.raw (.int .i64 n):=by
        cases j with
        | zero=>simp [Dat.cells] at g2; exact ⟨rfl,g2.symm⟩
        | succ j=>simp [Dat.cells] at g2
       obtain ⟨rfl,rfl⟩:=hj;have hi3:i < ss.length:=by rw [hlen]; exact (List.getElem?_eq_some_iff.1 g1).1
       have e4:=congrArg (fun l=>l[i]?) r4;simp only [jR,jD,g1,jN,hi3,if_true] at e4;have e5:cur[i]? = some (encZ n):=by simpa using e4
       rw [Nat.mul_one,zV,jH,e5];exact .raw _ rfl
    obtain ⟨g',hg⟩:=good_new hH hi hbw hv;exact ⟨v,g',rfl,hg⟩
set_option maxHeartbeats 2000000
def hintOf:FuncId→Pm.Hint
 | 3=>{ own:=[],keep:=[(10,[7,8,9])] }
 | 4=>{ own:=[],keep:=[(8,[1,5,6,7,8,9])] }
 | 9=>{ own:=[((0,0),[(9000,3)]),((4,2),[(12500,0)])],keep:=[] }
 | 10=>{ own:=[((1,14),[(7,33)]),((1,15),[(7,33)])],keep:=[(3,[1,2,3,4])] }
 | 12=>{ own:=[],keep:=[(4,[0,1,5])] }
 | 13=>{ own:=[((1,0),[(0,83)])],keep:=[(3,[0,3,4])] }
 | 14=>{ own:=[((1,0),[(0,80)])],keep:=[(3,[0,1,5,6])] }
 | 15=>{ own:=[((1,0),[(0,60)])],keep:=[(3,[0,1,5,8,9,10])] }
 | 16=>{ own:=[((1,0),[(0,45)])],keep:=[(4,[1,5,6,7])] }
 | 17=>{ own:=[((1,0),[(0,45)])],keep:=[(4,[1,3,4,5])] }
 | 18=>{ own:=[((1,0),[(0,62)])],keep:=[(3,[0,3,4])] }
 | 19=>{ own:=[],keep:=[(3,[3,7,8,9])] }
 | 20=>{ own:=[],keep:=[(2,[0,1,5])] }
 | 21=>{ own:=[],keep:=[(3,[2,3,6,7,8])] }
 | 22=>{ own:=[],keep:=[(3,[0,1,5,6])] }
 | 23=>{ own:=[],keep:=[(4,[1,3])] }
 | 25=>{ own:=[],keep:=[(4,[1,3])] }
 | 26=>{ own:=[],keep:=[(7,[6,7,8])] }
 | 27=>{ own:=[],keep:=[(4,[0,1,5])] }
 | 30=>{ own:=[],keep:=[(4,[1,2,5])] }
 | 32=>{ own:=[((0,0),[(9000,3)]),((1,0),[(0,29)]),((5,3),[(12500,0)])],keep:=[(3,[1,2,3,5,9,10,11])] }
 | 34=>{ own:=[((6,0),[(0,3),(1,3)]),((6,1),[(0,3),(1,3)]),((14,0),[(0,3),(1,3)]),((14,1),[(0,3),(1,3)])],keep:=[(3,[0,1,2,3,9,10]),(8,[0,1,2,3,9,10,11,12,13]),(16,[1,2,3,9,14,15]),(22,[9,16,17])] }
 | 35=>{ own:=[],keep:=[(3,[0,1,2,7,8])] }
 | 36=>{ own:=[],keep:=[(3,[0,1,2,3,9,10])] }
 | 37=>{ own:=[((5,0),[(0,3),(1,3)]),((5,1),[(0,3),(1,3)])],keep:=[(3,[0,1,2,7,8]),(7,[0,1,2,7,8,9,10]),(12,[0,1,2,7,8,9,10,11,12,13])] }
 | 38=>{ own:=[],keep:=[(3,[0,1,2,3,9,10]),(7,[1,2,3,9,11])] }
 | 39=>{ own:=[((0,0),[(1000,3)]),((14,0),[(1000,83)]),((25,4),[(1,3)]),((25,5),[(1,3)]),((30,0),[(3,3)]),((32,26),[(1000,3)]),((36,2),[(5000,3)])],keep:=[(18,[0,1,5,7,8,9,10]),(27,[0,1,5,7,8,9,10,11,12,14,15])],flat:=[(24,[(5,[1]),(6,[1])]),(25,[(4,[2,1,0,1])]),(36,[(4,[3]),(5,[4])]),(37,[(0,[5])])] }
 | 40=>{ own:=[((1,0),[(0,126)])],keep:=[(3,[0,3,4]),(5,[0,3,4,5])] }
 | 43=>{ own:=[],keep:=[(4,[1,3])] }
 | 44=>{ own:=[],keep:=[(2,[1,3])] }
 | 46=>{ own:=[],keep:=[(2,[0,1,5])] }
 | 47=>{ own:=[],keep:=[(2,[0,1,5]),(7,[0,1,5,6]),(13,[1,7,8]),(17,[1,7,8,9,10])] }
 | 48=>{ own:=[],keep:=[(4,[1,19,20,21])] }
 | 50=>{ own:=[((1,17),[(0,3)])],keep:=[] }
 | 53=>{ own:=[],keep:=[(3,[0,1,5,12,13,14]),(9,[0,1,5,7,12,13,14,29,30,31])] }
 | 54=>{ own:=[((5,0),[(0,22)]),((12,1),[(0,3)])],keep:=[(3,[0,3,4]),(7,[0,3,4,5,6]),(10,[0,3,4,5,6,7])] }
 | 55=>{ own:=[],keep:=[(2,[0,1,4,6])] }
 | 59=>{ own:=[],keep:=[(2,[0,3])] }
 | 60=>{ own:=[],keep:=[(3,[0,4,5]),(9,[0,4,6]),(17,[0,7,8])] }
 | 61=>{ own:=[],keep:=[(5,[1,2,5])] }
 | 62=>{ own:=[],keep:=[(3,[1,3,4])] }
 | 63=>{ own:=[],keep:=[(4,[1,2,5])] }
 | 64=>{ own:=[],keep:=[(5,[0,1,5,6])] }
 | 66=>{ own:=[((1,1),[(7000,3)])],keep:=[] }
 | 68=>{ own:=[((1,0),[(0,62)]),((13,2),[(8000,3)]),((14,1),[(7000,3)])],keep:=[(3,[1,2,3,9,18,19,20]),(7,[1,2,3,9,11,12,18,19,20,26,27,28]),(15,[9,63,64,65])] }
 | 70=>{ own:=[((0,0),[(9000,3)]),((1,0),[(0,62)])],keep:=[(3,[1,5,7,10,11,12])] }
 | 72=>{ own:=[((1,0),[(0,62)])],keep:=[(3,[1,2,3,9,12,13,14])] }
 | 74=>{ own:=[((1,0),[(0,62)]),((12,8),[(5000,3)])],keep:=[(3,[1,2,7,13,14,15]),(7,[1,2,7,9,10,13,14,15,21,22,23])] }
 | 78=>{ own:=[((1,1),[(0,62)]),((12,0),[(5000,62)])],keep:=[(3,[0,2,3,9,16,17,18]),(8,[2,9,33,34,35])] }
 | 79=>{ own:=[((6,0),[(0,83)])],keep:=[(4,[0,3,5])] }
 | 83=>{ own:=[((6,0),[(0,80)]),((13,0),[(0,3),(1,3)])],keep:=[(8,[2,5,7,8]),(11,[2,5,7,8,9]),(15,[2,5,7,8,9,10,11])] }
 | 84=>{ own:=[((0,0),[(9000,3)]),((1,0),[(1001,3)]),((1,4),[(1001,3)])],keep:=[] }
 | 85=>{ own:=[((0,0),[(9000,3)]),((3,0),[(1000,3)]),((5,9),[(5000,3)])],keep:=[] }
 | 86=>{ own:=[((3,0),[(0,3)])],keep:=[(5,[1,2,3,6,7,8]),(9,[1,2,3,6,7,8,9,10])] }
 | 87=>{ own:=[],keep:=[(3,[0,3,4])] }
 | 88=>{ own:=[((1,2),[(8000,3)])],keep:=[] }
 | 89=>{ own:=[((1,1),[(0,3)])],keep:=[(3,[1,5,6])] }
 | 90=>{ own:=[],keep:=[(2,[0,1,5])] }
 | 91=>{ own:=[],keep:=[(2,[0,3])] }
 | 92=>{ own:=[],keep:=[(2,[1,2,5])] }
 | 93=>{ own:=[],keep:=[(4,[1,2,5])] }
 | 94=>{ own:=[],keep:=[(3,[0,1,5,9,10]),(9,[0,1,5,24,25])] }
 | 97=>{ own:=[((0,0),[(9000,3)]),((0,1),[(9000,3)])],keep:=[] }
 | 98=>{ own:=[],keep:=[(2,[0,1,9,10,11])] }
 | 100=>{ own:=[],keep:=[(4,[0,19,20,21])] }
 | 104=>{ own:=[],keep:=[(5,[0,1,5,6])] }
 | 105=>{ own:=[((3,0),[(1000,3)]),((18,0),[(0,3)])],keep:=[(8,[2,7,8,9]),(20,[1,2,7,8,10])] }
 | 108=>{ own:=[],keep:=[(1,[0,5])] }
 | 109=>{ own:=[],keep:=[(15,[2,6])] }
 | 110=>{ own:=[((1,1),[(0,62)])],keep:=[] }
 | 111=>{ own:=[((1,2),[(1000,3)]),((1,4),[(0,3)])],keep:=[] }
 | 114=>{ own:=[((1,0),[(0,3),(1,3)])],keep:=[(3,[0,1,2,8,9,13,14,15])] }
 | 115=>{ own:=[((3,2),[(7000,3)]),((3,5),[(7000,3)]),((3,7),[(1001,60)]),((4,0),[(0,60)]),((9,27),[(1001,60)])],keep:=[(7,[2,5,7,8,30,31])] }
 | 116=>{ own:=[((0,1),[(9000,3)]),((1,3),[(0,3)]),((1,7),[(0,3)]),((2,17),[(6000,3)]),((3,0),[(5000,3)])],keep:=[],late:=[(2,1),(2,4),(2,22),(2,24)] }
 | 119=>{ own:=[((0,1),[(9000,3)]),((0,2),[(9000,3)]),((0,3),[(9000,3)])],keep:=[] }
 | 122=>{ own:=[((10,0),[(0,62)])],keep:=[(12,[0,1,5,6,7,8,9])] }
 | 123=>{ own:=[((1,0),[(0,193)])],keep:=[(3,[0,3,4]),(5,[0,3,4,5])] }
 | 124=>{ own:=[((1,2),[(1000,198)])],keep:=[(3,[3,5,16,17,18,29])] }
 | 125=>{ own:=[((2,0),[(1000,62)]),((3,0),[(1000,62)])],keep:=[] }
 | 126=>{ own:=[((2,0),[(1000,3)]),((3,0),[(1000,3)])],keep:=[(5,[0,3,4]),(11,[0,3,4,5,6])] }
 | 128=>{ own:=[],keep:=[(2,[1,3])] }
 | 129=>{ own:=[((3,0),[(0,3),(1,3)])],keep:=[(5,[2,3,4,6,7])] }
 | 131=>{ own:=[],keep:=[(2,[0,1,7,8])] }
 | 132=>{ own:=[],keep:=[(4,[0,1,12,13])] }
 | 139=>{ own:=[((1,0),[(0,3)])],keep:=[(3,[1,2,7,10,11,12])] }
 | 142=>{ own:=[],keep:=[(3,[0,1,5,6])] }
 | 143=>{ own:=[],keep:=[(4,[0,1,5])] }
 | 144=>{ own:=[],keep:=[(3,[0,1,5,6])] }
 | 146=>{ own:=[],keep:=[(2,[0,1,2,3,8,9])] }
 | 149=>{ own:=[],keep:=[(5,[1,3,4]),(10,[1,3,5]),(14,[1,3,5,6,7])] }
 | 150=>{ own:=[],keep:=[(6,[1,3,4,5])] }
 | 151=>{ own:=[((1,0),[(1000,62)])],keep:=[(3,[1,5,8,9,10])] }
 | 154=>{ own:=[((2,0),[(1000,3)]),((3,0),[(1000,3)])],keep:=[] }
 | 155=>{ own:=[],keep:=[(8,[0,3,4,18,19])] }
 | 160=>{ own:=[((1,2),[(0,3)]),((1,5),[(0,3)])],keep:=[],late:=[(2,1),(2,4),(2,9),(2,11)] }
 | 165=>{ own:=[((0,1),[(1000,3)])],keep:=[(2,[0,6,11,12,13])] }
 | 166=>{ own:=[((1,1),[(7000,3)])],keep:=[] }
 | 169=>{ own:=[((1,0),[(0,62)]),((5,1),[(0,3)]),((5,3),[(0,3)]),((17,1),[(5000,62)])],keep:=[(2,[0,1,2,3,4,11]),(7,[0,1,2,3,4,11,12,13,15,16,44,45])] }
 | 172=>{ own:=[((1,1),[(0,3)]),((1,3),[(0,3)])],keep:=[] }
 | 178=>{ own:=[],keep:=[(2,[0,1,7,8])] }
 | 179=>{ own:=[],keep:=[(3,[2,8,13,14,15])] }
 | 180=>{ own:=[],keep:=[(1,[0,1,2,6]),(4,[0,1,2,6,7])] }
 | 181=>{ own:=[],keep:=[(4,[0,6,7,8,9]),(8,[0,6,7,10])] }
 | 182=>{ own:=[],keep:=[(5,[0,1,6,7,8,9])] }
 | 184=>{ own:=[],keep:=[(2,[0,6,7])] }
 | 185=>{ own:=[],keep:=[(3,[0,1,2,7,8]),(5,[0,1,2,7,8]),(14,[0,1,2,7,8,9]),(20,[0,1,2,7,8,10])] }
 | 187=>{ own:=[],keep:=[(3,[0,1,9,10]),(5,[0,1,9,10])] }
 | 188=>{ own:=[],keep:=[(3,[0,1,10,11]),(5,[0,1,10,11]),(13,[0,1,10,11]),(15,[0,1,10,11])] }
 | 191=>{ own:=[],keep:=[(2,[0,1,2,3,4,10,11])] }
 | 192=>{ own:=[((1,4),[(0,3)])],keep:=[] }
 | 194=>{ own:=[],keep:=[(5,[0,1,5,6])] }
 | 196=>{ own:=[],keep:=[(3,[3,6,7,8])] }
 | 197=>{ own:=[((1,0),[(0,3)])],keep:=[(3,[1,5,8,9,10])] }
 | 199=>{ own:=[],keep:=[(3,[1,5,13,14,15])] }
 | 202=>{ own:=[((0,1),[(0,3)]),((4,2),[(5000,3)])],keep:=[(2,[0,1,2,4,5])] }
 | 203=>{ own:=[],keep:=[(2,[0,1,2,7])] }
 | 204=>{ own:=[],keep:=[(4,[0,12,13,14])] }
 | 208=>{ own:=[],keep:=[(1,[0,2,3,8])] }
 | 213=>{ own:=[],keep:=[(1,[0,1,2,3,8]),(4,[0,1,2,3,8,9])] }
 | 214=>{ own:=[],keep:=[(4,[0,3,8,9,10,11]),(8,[0,3,8,9,12])] }
 | 215=>{ own:=[],keep:=[(5,[0,1,8,9,10,11])] }
 | 217=>{ own:=[],keep:=[(2,[0,8,9])] }
 | 218=>{ own:=[],keep:=[(3,[0,1,2,3,9,10]),(5,[0,1,2,3,9,10]),(14,[0,1,2,3,9,10,11]),(20,[0,1,2,3,9,10,12])] }
 | 219=>{ own:=[],keep:=[(3,[0,1,4,11,12]),(5,[0,1,4,11,12])] }
 | 220=>{ own:=[],keep:=[(3,[0,1,4,12,13]),(5,[0,1,4,12,13]),(13,[0,1,4,12,13]),(15,[0,1,4,12,13])] }
 | 221=>{ own:=[],keep:=[(2,[0,1,7,8])] }
 | 222=>{ own:=[],keep:=[(3,[0,1,2,8,9,10])] }
 | 224=>{ own:=[],keep:=[(3,[0,1,5,11,12])] }
 | 226=>{ own:=[],keep:=[(1,[0,2,3,4,10])] }
 | _=>{}
def env:Env where
 summ:=fun f=>if f=153 then some (fun _=>none) else if f=57 then some (fun _=>none) else none
 hsum:=fun f=>if f=153 then some sortG else if f=57 then some sortedG else none
 hint:=hintOf
 pure:=fun f=>f != 31 && f != 32 && f != 57 && f != 58 && f != 111 && f != 116 && f != 117 && f != 125 && f != 126 && f != 151 && f != 153 && f != 154 && f != 156 && f != 157 && f != 158 && f != 159 && f != 161 && f != 162 && f != 163 && f != 164 && f != 165 && f != 168 && f != 169 && f != 191 && f != 192 && f != 193 && f != 194 && f != 199 && f != 203 && f != 213 && f != 221
 split:=fun f=>f == 154 || f == 125
abbrev FQ:=FP prog env
abbrev LQ:=LP prog env
structure Qa where
 kind:Int
 shape:(List Int)
 buffer:Int
 starts:(List Int)
 axis:Int
 amount:Int
 perm:(List Int)
 kids:(List Qa)
mutual
def Qa.toD:Qa→Dat
 | ⟨kind,shape,buffer,starts,axis,amount,perm,kids⟩=>.agg [(Qh kind),(.lst ((List.map Qh) shape)),(Qh buffer),(.lst ((List.map Qh) starts)),(Qh axis),(Qh amount),(.lst ((List.map Qh) perm)),(.lst (Qa.toDs kids))]
def Qa.toDs:List Qa→List Dat
 | []=>[]
 | k::ks=>Qa.toD k::Qa.toDs ks
end
theorem Qa.toDs_eq:∀ l:List Qa,Qa.toDs l=l.map Qa.toD
 | []=>rfl
 | k::ks=>by rw [Qa.toDs,Qa.toDs_eq ks]; rfl
def Qa.ex (x:Qa):Dat:=.agg [(Qh x.kind),(.lst ((List.map Qh) x.shape)),(Qh x.buffer),(.lst ((List.map Qh) x.starts)),(Qh x.axis),(Qh x.amount),(.lst ((List.map Qh) x.perm)),(.lst (Qa.toDs x.kids))]
theorem Qa.toD_eq (x:Qa):x.toD=x.ex:=by cases x; rfl
theorem Qa.fit (x:Qa):Dat.fits 8 x.toD=true:=by cases x; rfl
structure QG where
 kind:Int
 shape:(List Int)
 buffer:Int
 starts:(List Int)
 axis:Int
 amount:Int
 perm:(List Int)
 kids:(List QG)
mutual
def QG.toD:QG→Dat
 | ⟨kind,shape,buffer,starts,axis,amount,perm,kids⟩=>.agg [(Qh kind),(.lst ((List.map Qh) shape)),(Qh buffer),(.lst ((List.map Qh) starts)),(Qh axis),(Qh amount),(.lst ((List.map Qh) perm)),(.lst (QG.toDs kids))]
def QG.toDs:List QG→List Dat
 | []=>[]
 | k::ks=>QG.toD k::QG.toDs ks
end
theorem QG.toDs_eq:∀ l:List QG,QG.toDs l=l.map QG.toD
 | []=>rfl
 | k::ks=>by rw [QG.toDs,QG.toDs_eq ks]; rfl
def QG.ex (x:QG):Dat:=.agg [(Qh x.kind),(.lst ((List.map Qh) x.shape)),(Qh x.buffer),(.lst ((List.map Qh) x.starts)),(Qh x.axis),(Qh x.amount),(.lst ((List.map Qh) x.perm)),(.lst (QG.toDs x.kids))]
theorem QG.toD_eq (x:QG):x.toD=x.ex:=by cases x; rfl
theorem QG.fit (x:QG):Dat.fits 8 x.toD=true:=by cases x; rfl
structure QY where
 lo:(List Int)
 hi:(List Int)
def QY.toD (x:QY):Dat:=.agg [(.lst ((List.map Qh) x.lo)),(.lst ((List.map Qh) x.hi))]
theorem QY.fit (x:QY):Dat.fits 2 x.toD=true:=rfl
structure Qn where
 kind:Int
 buffer:Int
 base:Int
 strides:(List Int)
 start:Int
 step:Int
 mod:Int
def Qn.toD (x:Qn):Dat:=.agg [(Qh x.kind),(Qh x.buffer),(Qh x.base),(.lst ((List.map Qh) x.strides)),(Qh x.start),(Qh x.step),(Qh x.mod)]
theorem Qn.fit (x:Qn):Dat.fits 7 x.toD=true:=rfl
structure Qc where
 box:QY
 access:Qn
def Qc.toD (x:Qc):Dat:=.agg [(.lst ((List.map Qh) x.box.lo)),(.lst ((List.map Qh) x.box.hi)),(Qh x.access.kind),(Qh x.access.buffer),(Qh x.access.base),(.lst ((List.map Qh) x.access.strides)),(Qh x.access.start),(Qh x.access.step),(Qh x.access.mod)]
theorem Qc.fit (x:Qc):Dat.fits 9 x.toD=true:=rfl
structure S50 where
 c0:Int
 c1:Int
 c2:Int
def S50.toD (x:S50):Dat:=.agg [(Qh x.c0),(Qh x.c1),(Qh x.c2)]
theorem S50.fit (x:S50):Dat.fits 3 x.toD=true:=rfl
structure Qi where
 lo:(List Int)
 hi:(List Int)
def Qi.toD (x:Qi):Dat:=.agg [(.lst ((List.map Qh) x.lo)),(.lst ((List.map Qh) x.hi))]
theorem Qi.fit (x:Qi):Dat.fits 2 x.toD=true:=rfl
structure Qm where
 kind:Int
 buffer:Int
 base:Int
 strides:(List Int)
 start:Int
 step:Int
 mod:Int
def Qm.toD (x:Qm):Dat:=.agg [(Qh x.kind),(Qh x.buffer),(Qh x.base),(.lst ((List.map Qh) x.strides)),(Qh x.start),(Qh x.step),(Qh x.mod)]
theorem Qm.fit (x:Qm):Dat.fits 7 x.toD=true:=rfl
structure Qb where
 box:Qi
 access:Qm
def Qb.toD (x:Qb):Dat:=.agg [(.lst ((List.map Qh) x.box.lo)),(.lst ((List.map Qh) x.box.hi)),(Qh x.access.kind),(Qh x.access.buffer),(Qh x.access.base),(.lst ((List.map Qh) x.access.strides)),(Qh x.access.start),(Qh x.access.step),(Qh x.access.mod)]
theorem Qb.fit (x:Qb):Dat.fits 9 x.toD=true:=rfl
structure Qg where
 fill:Bool
 buffer:Int
 offset:Int
def Qg.toD (x:Qg):Dat:=.agg [(X8 x.fill),(Qh x.buffer),(Qh x.offset)]
theorem Qg.fit (x:Qg):Dat.fits 3 x.toD=true:=rfl
structure Qk where
 at0_:Int
 len:Int
 fill:Bool
 buffer:Int
 offset:Int
 step:Int
def Qk.toD (x:Qk):Dat:=.agg [(Qh x.at0_),(Qh x.len),(X8 x.fill),(Qh x.buffer),(Qh x.offset),(Qh x.step)]
theorem Qk.fit (x:Qk):Dat.fits 6 x.toD=true:=rfl
abbrev ZF:=fun x0 x1=>((.box [(La x0),(La x1)]):Blk)
abbrev JP:=fun x0=>((.mt 3 1 (cellsOf Qh x0)):Blk)
abbrev ZZ:=fun x0 x1=>((.mt 3 x0 (cellsOf Qh x1)):Blk)
abbrev JD:=fun x0=>((.vec 2 ((List.map Qh) x0)):PV)
abbrev QaL:=fun x0=>((.vec 5 ((List.map Qh) x0)):PV)
abbrev QaJ:=fun x0=>((.vec 1 ((List.map Qh) x0)):PV)
abbrev JA:=((.mt 3 0 (cellsOf Qh ([]:List Int))):Blk)
abbrev JQ:=fun x0 x1 x2=>((.box [(La x0),(.ms 0 x1 0 x2 x2)]):Blk)
abbrev ZM:=fun x0=>((.vec 3 ((List.map Qi.toD) x0)):PV)
abbrev X9:=fun x0=>((.vec 0 ((List.map Qk.toD) x0)):PV)
abbrev QaK:=fun x0=>((.vec 0 ((List.map Qc.toD) x0)):PV)
abbrev Yt:=fun x0=>((.dat (.lst ((List.map Qk.toD) x0))):PV)
abbrev YT:=fun x0=>((.dat (.lst ((List.map Qg.toD) x0))):PV)
abbrev JB:=fun x0=>((.dat (.lst ((List.map Qc.toD) x0))):PV)
abbrev Qu:=fun x0=>((.dat (.lst ((List.map Qb.toD) x0))):PV)
abbrev Qbk:=fun x0 x1 x2 x3=>((.mt 83 x0 (flC Qb.toD 1 0 x1 x2 x3)):Blk)
abbrev J2:=fun x0 x1 x2=>((.mt 3 (gb x0 ([x1]:List Int).isEmpty) (cellsOf Qh x2)):Blk)
abbrev J1:=fun x0=>((.vec 0 ((List.map (fun l=>Dat.lst ((List.map Qh) l))) x0)):PV)
abbrev QK:=fun x0=>((.dat (.lst ((List.map (fun l=>Dat.lst ((List.map Qh) l))) x0))):PV)
abbrev Qbn:=fun x0 x1=>((.box [(.vec 5 ((List.map Qh) x0)),(.vec 6 ((List.map Qh) x1))]):Blk)
abbrev Qbm:=fun x0 x1=>((.box [(.vec 0 ((List.map Qh) x0)),(.vec 1 ((List.map Qh) x1))]):Blk)
abbrev XB:=((.box [(Qd 0),(Qd 0),(Qd 0),Ea,(Qd 0),(Qd 0),(Qd 0)]):Blk)
abbrev XC:=fun x0 x1 x2 x3 x4 x5 x6=>((.box [(Qd x0),(Qd x1),(Qd x2),(La x3),(Qd x4),(Qd x5),(Qd x6)]):Blk)
abbrev Qag:=fun x0 x1 x2 x3 x4 x5 x6 x7 x8=>((.box [(La x0),(La x1),(Qd x2),(Qd x3),(Qd x4),(La x5),(Qd x6),(Qd x7),(Qd x8)]):Blk)
abbrev Qbl:=fun x0 x1 x2 x3 x4 x5 x6 x7=>((.box [(Qd x0),(La x1),(Qd x2),(La x3),(Qd x4),(Qd x5),(La x6),(.dat (.lst (Qa.toDs x7)))]):Blk)
abbrev JO:=fun x0 x1 x2=>((.mt 83 x0 (flA Qb.toD (flP (fun (p_:Qb) (h_:List Int)=>(⟨⟨p_.box.lo,h_⟩,p_.access⟩:Qb)) x1 x2))):Blk)
abbrev XA:=fun x0 x1=>([XB,(ZZ x0 x1)]:List Blk)
abbrev Qv:=fun x0 x1 x2 x3 x4 x5 x6 x7=>([(Qbl x0 x1 x2 x3 x4 x5 x6 x7)]:List Blk)
abbrev JC:=fun x0 x1 x2 x3 x4=>([(ZZ x0 x1),(Qbk x2 x0 x3 x4)]:List Blk)
abbrev JN:=fun x0 x1 x2 x3 x4 x5 x6=>([(ZF x0 x1),(ZF x2 x3),(ZF x4 x5),(.tok 80 x6)]:List Blk)
abbrev Ja:=fun x0 x1 x2 x3=>([(.tok 3 x0),(.tok 3 x1),(Qbm x2 x3),(.tok 3 (([]:List Int).length)),(.tok 3 (([]:List Int).length))]:List Blk)
abbrev Yc:=fun x0 x1 x2 x3 x4 x5 x6 x7 x8 x9 x10=>([(ZF x0 x1),(ZF x2 x3),(ZF x4 x5),(.tok 80 x6),(Qbn x7 x8),(.tok 3 x9),(.tok 3 x10)]:List Blk)
def insT (x:Qc):List Qc→List Qc
 | []=>[x]
 | y::l=>if cmpL y.box.lo x.box.lo < 0 then y::insT x l else x::y::l
def sortT (l:List Qc):List Qc:=l.foldr insT []
def strictT:List Qc→Bool
 | a::b::l=>decide (cmpL a.box.lo b.box.lo < 0) && strictT (b::l)
 | _=>true
def sortM (l:List Qc):Option (List Qc):=if l.length≤1000000∧(l.all fun p=>decide (p.box.lo.length≤1000000))=true∧strictT (sortT l)=true then some (sortT l) else none
theorem insT_perm (x:Qc):∀ l,(insT x l).Perm (x::l)
 | []=>.refl _
 | y::l=>by
  rw [insT];split
  ·exact ((insT_perm x l).cons y).trans (.swap x y l)
  ·exact .refl _
theorem sortT_perm:∀ l,(sortT l).Perm l
 | []=>.refl _
 | x::l=>(insT_perm x (sortT l)).trans ((sortT_perm l).cons x)
theorem PC_hsum {P:Program} {E:Env} {f:FuncId} {F:List Dat→Option PV} {G:List PV→List Blk→Option (PV × List Blk)} {args:List PV} {H H':List Blk} {p:PV} (hen:enters P f=true) (hs:E.summ f=some F) (hh:E.hsum f=some G) (h:G args H=some (p,H')):PC P E f args H p H' :=
 ⟨1,fun k hk=>by
  obtain ⟨n,rfl⟩:∃ n,k=n+1:=⟨k - 1,by omega⟩;simp [pfun,hen,hs,hh,h]⟩
theorem Qa7 {P:Program} {E:Env} {ow:List (Nat × Nat)} {o:Oper} {ρ:Operand→PV} {H:List Blk} {K:PV→List Blk→Prop} {α:Type} (f:α→Dat) {l:List α} {x:Operand} {tt e g m cap:Nat} (hl:l.length=m) (hf:∀ a,(f a).isCell=true) (ho:o.op=.move x) (hx:ρ x=.ms tt g 0 m cap) (hb:H[tt]? = some (.mt e g (cellsOf f l))) (hg:giveHint ow=true)
  (hk:K (.dat (.lst (l.map f))) (H.set tt (.mt e (g+1) (cellsOf f ([]:List α))))):SemE P E ow o ρ H K:=SemE_of (fun call=>by
 simp only [sem,ho,hg,if_true,hx,consume1,pc_ms f l hl hf hb,Jq hb,jN]; rfl) hk
theorem kc {n K:Int} {α:Type} {ma mb:Option α} {rr:α} {Pq:Prop} (hm:(if n=K then ma else mb)=some rr) (h1:n=K→ma=some rr→Pq) (h2:mb=some rr→Pq):Pq:=by
 by_cases h:n=K
 ·rw [if_pos h] at hm; exact h1 h hm
 ·rw [if_neg h] at hm; exact h2 hm
theorem Jz {P:Program} {E:Env} {ow:List (Nat × Nat)} {o:Oper} {ρ:Operand→PV} {H:List Blk} {Kp:PV→List Blk→Prop} {t e:TypeId} {x ix:Operand} {i off len size:Nat} {n K:Int} (hc:n=K) (hl:decide (0≤K∧K < (len:Int))=true) (hn:elemOfSlice P t=none) (he:elemOfArray P t=some (len,e)) (hs:szOf P e=some size)
  (ho:o.op=.indexAddr t x ix) (hx:ρ x=.ptr i off) (hi:ρ ix=Qd n) (hk:Kp (.ptr i (off+K.toNat * size)) H):SemE P E ow o ρ H Kp:=by
 subst hc;have hl:=of_decide_eq_true hl;exact SemE_of (fun call=>by simp only [sem,ho,hi,Qd,hn,he,hs,hx]; rw [if_pos hl]) hk
def sortK (l:List Int):Option (List Int):=if nodZ l=true∧l.length≤1000000∧(l.all fun n=>decide (-9223372036854775808≤n∧n≤9223372036854775807))=true then some (sortZ l) else none
theorem keysZ_setE:∀ {l:List Int},(l.all fun n=>decide (-9223372036854775808≤n∧n≤9223372036854775807))=true→keysZ (setE .i64 (X8 true) l)=some l
 | [],_=>rfl
 | n::l,h=>by
  simp only [List.all_cons,jE,zA] at h;have ih:=keysZ_setE h.2;show keysZ ((Value.int .i64 n,.dat (.raw (.bool true)))::setE .i64 (X8 true) l)=_
  rw [keysZ,if_pos h.1,ih]; rfl
theorem setE_notTup (l:List Int):(setE .i64 (X8 true) l).all (fun e=>notTup e.1)=true:=by
 rw [j8];intro e he;obtain ⟨n,_,rfl⟩:=List.mem_map.1 he;rfl
theorem Qbp {H:List Blk} {b m:Nat} {l r:List Int} (h:sortK l=some r) (hb:H[b]? = some (.box [.mapv m])) (hm:H[m]? = some (.map (setE .i64 (X8 true) l))):PC prog env 57 [.fn 108 [.ptr b 0]] H (.dat (.lst (r.map Qh))) H:=by
 unfold sortK at h;split at h
 ·rename_i hc;cases h
  have hmo:mapOf H m=some (setE .i64 (X8 true) l):=by
   simp only [mapOf,hm,zU,Blk.mapOf,setE_notTup,if_true]
  refine PC_hsum (by kernel_rfl) rfl rfl ?_;simp only [sortedG,hb,hmo,keysZ_setE hc.2.2];rw [if_pos ⟨hc.1,hc.2.1⟩];rfl
 ·cases h
theorem equalIn_arr3 {P:Program} {t e:TypeId} {k:IntKind} {a b c a' b' c':Int} (d:Nat) (hu:P.underlying t=some (.array 3 e)) (hs:evalP P (sizeOf e)=some 1) (hd:∀ x y:Int,evalP P (Op.equalIn d e (.int k x) (.int k y))=some (x == y)) (hp:∀ (xs:Array Value) (i:Nat) (v:Value),xs[i]? = some v→evalP P (part e xs i)=some v) :
  evalP P (Op.equalIn (d+1) t (.agg #[.int k a,.int k b,.int k c]) (.agg #[.int k a',.int k b',.int k c']))=some ((a == a') && ((b == b') && ((c == c') && true))):=by
 simp only [Op.equalIn,evalP_bind,evalP_underlying hu,zU,hs];simp only [Std.Legacy.Range.forIn_eq_forIn_range',Std.Legacy.Range.size,Nat.sub_zero,Nat.add_sub_cancel,Nat.div_one,List.range'_succ,List.range'_zero,List.forIn_cons,List.forIn_nil,Nat.mul_one,zW,Nat.reduceAdd];simp only [evalP_bind,hp #[.int k a,.int k b,.int k c] 0 (.int k a) rfl,hp #[.int k a',.int k b',.int k c'] 0 (.int k a') rfl,zU,hd];cases h1:(a == a')
 ·rfl
 simp only [Bool.not_true,j6,if_false,evalP_bind,evalP_pure,zU,hp #[.int k a,.int k b,.int k c] 1 (.int k b) rfl,hp #[.int k a',.int k b',.int k c'] 1 (.int k b') rfl,hd];cases h2:(b == b')
 ·rfl
 simp only [Bool.not_true,j6,if_false,evalP_bind,evalP_pure,zU,hp #[.int k a,.int k b,.int k c] 2 (.int k c) rfl,hp #[.int k a',.int k b',.int k c'] 2 (.int k c') rfl,hd];cases h3:(c == c') <;> rfl
theorem SEq_arr3 {P:Program} {t e:TypeId} {k:IntKind} {a b c a' b' c':Int} (hu:P.underlying t=some (.array 3 e)) (he:P.underlying e=some (.int k)) (hz:szOf P e=some 1) (hg:P.eqGuardType P.depth t=false) :
  SEq P t #[.int k a,.int k b,.int k c] #[.int k a',.int k b',.int k c'] ((a == a') && ((b == b') && ((c == c') && true))):=by
 have hs:evalP P (sizeOf e)=some 1:=by
  simp only [szOf,j5] at hz;obtain ⟨i,h1,h2⟩:=hz;simp only [sizeOf,typeInfo,evalP_bind,evalP_program,zU,h1];exact congrArg some h2
 exact ⟨equalIn_arr3 9999 hu hs (fun x y=>scalarEq_ok 9998 (by simp [scalarEq,he])) (fun xs i v h=>part_ok (scalarEq_type (x:=.int k 0) (y:=.int k 0) (b:=true) (by simp [scalarEq,he])) h),hg⟩
theorem QaV (N:Nat) {P:Program} {E:Env} {ow:List (Nat × Nat)} {o:Oper} {ρ:Operand→PV} {H:List Blk} {K:PV→List Blk→Prop} {α:Type} (f:α→Dat) {es l2:List α} {ts e:TypeId} {x s:Operand} {bytes i off:Nat} (hr:app bytes ([]:List α) es=some l2) (hf:∀ a,(f a).isCell=true) (he:elemOfSlice P ts=some e) (hs:szOf P e=some 1) (hb:bytesOf P e=some bytes) (hz:(zeroOf P e).map Dat.num=some 1) (h0:decide (0 < bytes)=true)
  (ho:o.op=.call { callee:=.builtin .append,args:=#[s,x],argTypes:=#[ts,ts] }) (hsv:ρ s=.arr i off 0 0) (hx:ρ x=.dat (.lst (es.map f)))
  (hk:K (.ms N (mg l2) 0 l2.length l2.length) (H++[.mt e (mg l2) (cellsOf f l2)])) (hN:H.length=N:=by kernel_rfl):SemE P E ow o ρ H K:=by
 subst hN;obtain ⟨hroom,hl2⟩:=app_some hr;have hl2:es=l2:=by simpa using hl2.symm
 subst hl2;refine SemE_of (fun call=>?_) hk;have hc:(es.map f).all Dat.isCell=true:=by simp only [List.all_map,j8]; intro a _; exact hf a
 have:builtinSem P .append #[ts,ts] [ρ s,ρ x] H=some (.ms H.length (mg es) 0 es.length es.length,H++[.mt e (mg es) (cellsOf f es)]):=by
  rw [hsv,hx];simp only [builtinSem,he,hb,hs,hz,of_decide_eq_true h0,and_self,if_true,newApp,hc,jY];rw [if_pos ⟨trivial,by simpa using hroom⟩];cases es <;> simp [mg,cellsOf]
 simp only [sem,ho,zS,List.map_nil,this]

def X3 (x:Unit):Option Bool:=some true
def Qap:Unit→Bool→Prop:=fun x r=>∀ H,PC prog env 7 ([].map .dat) H (Qq r) H
theorem JU:∀ x r,X3 x=some r→Qap x r:=by
 intro x r hm;cases hm;intro H;exact PC_of (n:=200) (by kernel_rfl)
mutual
def Zt (x:(Qa × Int × Int)):Option (Int) :=
 match x with
 | (p0,v203,v204) =>
 (if v204 < (p0.kids.length:Int) then
  some (decide (v203≥0))
 else
 some false
 )>>=fun (v604:Bool) =>
 if v604=true then
  idx p0.kids v204>>=fun v605 =>
  YA (v605,v203)>>=fun v606 =>
  Zt (p0,v606,(W (v204+1)))
 else
 some v203
 partial_fixpoint
def YA (x:(Qa × Int)):Option Int :=
 match x with
 | (p0,p1) =>
 ((if (p0.shape.length:Int) > 40 then
  some true
 else
 some (decide ((p0.starts.length:Int) > 40))
 )>>=fun (v2:Bool) =>
 if v2=true then
  some true
 else
 some (decide ((p0.perm.length:Int) > 40))
 )>>=fun (v1:Bool) =>
 if v1=true then
  some (-1)
 else
 Zt (p0,(W (p1 - 1)),0)>>=fun v603 =>
 some v603
 partial_fixpoint
end
def Xm:(Qa × Int × Int)→(Int)→Prop:=fun x r=>match x with
 | (p0,v203,v204)=>LQ f61 61 [1,1,1,0,1,0,0] 1 ⟨kp 43 [(1,(Qd v203)),(2,(.ptr 0 0)),(5,(Qd v204))],(Qv p0.kind p0.shape p0.buffer p0.starts p0.axis p0.amount p0.perm p0.kids)⟩ (P1 (.exit 0) (fun v603 d=>⟨sl d 43 [(1,(Qd v603))],(Qv p0.kind p0.shape p0.buffer p0.starts p0.axis p0.amount p0.perm p0.kids)⟩) r)
def Jg:(Qa × Int)→Int→Prop:=fun x r=>match x,r with
 | (p0,p1),r0=>∀ H,PC prog env 61 ([(Qa.ex p0),(Qh p1)].map .dat) H (Qd r0) H
theorem g_ref14_left_L1:(∀ x r,Zt x=some r→Xm x r)∧(∀ x r,YA x=some r→Jg x r):=by
 refine Zt.mutual_partial_correctness Xm Jg ?_ ?_
 ·intro Zt YA Xn JG x r hm;unfold Xm;obtain ⟨p0,v203,v204⟩:=x;exact lp (Qj (Qj (bi hm fun v604 hs hm=>Zq (fun d=>⟨sl d 43 [(1,(Qd v203)),(2,(.ptr 0 0)),(5,(Qd v204)),(32,(Qq v604))],(Qv p0.kind p0.shape p0.buffer p0.starts p0.axis p0.amount p0.perm p0.kids)⟩) (have hm:=hs;R_G (Qf 3 (JH Qa.toD p0.kids (es:=Qa.toDs p0.kids) (Qa.toDs_eq _) (Qf 2 (gs 29 hm (fun hm=>re 3 zf) (fun hm=>re 3 zf)))))) (fun d=>rib hm (fun hm=>Qp (Qj (Qo (R_G (Qf 3 (bi hm fun v605 hx hm=>Xw 8 Qa.toD p0.kids v204 v605 (es:=Qa.toDs p0.kids) (d:=(Qa.ex v605)) (Qa.toDs_eq _) hx (Qa.toD_eq v605) rfl (Qf 2 (bi hm fun v606 hx hm=>Yz (JG _ _ hx []) (re 1 (R_G (re 3 (Xn _ _ hm _ kr)))))))))))) (fun hm=>QC zf)))))
 ·intro Zt Xn x r0 hm;unfold Jg;obtain ⟨p0,p1⟩:=x;intro H;refine PC_sx (ds:=[(Qa.ex p0),(Qh p1)]) (fn:=f61) rfl ?_;exact ge 2 (ge 3 (Qj (Qj (bi hm fun v1 hs hm=>Zq (fun d=>⟨sl d 43 [(1,(Qd (W (p1 - 1)))),(2,(.ptr 0 0)),(23,(Qq v1))],(Qv p0.kind p0.shape p0.buffer p0.starts p0.axis p0.amount p0.perm p0.kids)⟩) (have hm:=hs;QaR (Qf 2 (QR Qh p0.shape (Qf 2 (bi hm fun v2 hs hm=>Xc (j:=10) (fun d=>⟨sl d 43 [(1,(Qd (W (p1 - 1)))),(2,(.ptr 0 0)),(17,(Qq v2))],(Qv p0.kind p0.shape p0.buffer p0.starts p0.axis p0.amount p0.perm p0.kids)⟩) (fun d=>Qf 1 (gsb 18 hm (fun hm=>re 5 ⟨kr,zf⟩) (fun hm=>Qf 2 (QR Qh p0.perm (re 2 ⟨kr,zf⟩))))) (fun hJ=>gs 12 hs (fun hm=>Qf 5 zf) (fun hm=>Qf 2 (QR Qh p0.starts (Qf 2 zf))))))))) (fun d=>rib hm (fun hm=>ge 1 (Qs zf)) (fun hm=>Qp (Qj (ge 1 (Qo (ru1 hm (Xn _) fun v603 d hm=>ge 2 (Qs zf)))))))))))
theorem Xn:∀ x r,Zt x=some r→Xm x r:=g_ref14_left_L1.1
theorem JG:∀ x r,YA x=some r→Jg x r:=g_ref14_left_L1.2
def Jc (x:(Qa × Int)):Option Bool :=
 match x with
 | (p0,p1) =>
 YA (p0,p1)>>=fun v1 =>
 some (decide (v1≥0))
theorem QaP {p0 p1 r0} (hm:Jc (p0,p1)=some r0):FQ 28 [(Qa.ex p0),(Qh p1)] (Qq r0):=by
 unfold Jc at hm;exact fp (fn:=f28) rfl (ge 2 (gr 2 (bi hm fun v1 hx hm=>Yz (JG _ _ hx []) (re 2 (Qs zf)))))
mutual
def Zd (x:(Qa × Int × Int)):Option (Int) :=
 match x with
 | (p0,v201,v202) =>
 if v202 < (p0.kids.length:Int) then
  idx p0.kids v202>>=fun v602 =>
  Yk v602>>=fun v603 =>
  Zd (p0,(if v201 < v603 then v603 else v201),(W (v202+1)))
 else
 some v201
 partial_fixpoint
def Yk (x:Qa):Option Int :=
 match x with
 | p0 =>
 Zd (p0,0,0)>>=fun v601 =>
 some (W (v601+1))
 partial_fixpoint
end
def Y4:(Qa × Int × Int)→(Int)→Prop:=fun x r=>match x with
 | (p0,v201,v202)=>LQ f62 62 [1,1,0,1,0,0] 1 ⟨kp 22 [(1,(.ptr 0 0)),(3,(Qd v201)),(4,(Qd v202))],(Qv p0.kind p0.shape p0.buffer p0.starts p0.axis p0.amount p0.perm p0.kids)⟩ (P1 (.exit 0) (fun v601 d=>⟨sl d 22 [(3,(Qd v601))],(Qv p0.kind p0.shape p0.buffer p0.starts p0.axis p0.amount p0.perm p0.kids)⟩) r)
def X0:Qa→Int→Prop:=fun x r=>match x,r with
 | p0,r0=>∀ H,PC prog env 62 ([(Qa.ex p0)].map .dat) H (Qd r0) H
theorem g_ref14_Depth_L1:(∀ x r,Zd x=some r→Y4 x r)∧(∀ x r,Yk x=some r→X0 x r):=by
 refine Zd.mutual_partial_correctness Y4 X0 ?_ ?_
 ·intro Zd Yk Y8 Jt x r hm;unfold Y4;obtain ⟨p0,v201,v202⟩:=x;exact lp (Qj (gr 3 (JH Qa.toD p0.kids (es:=Qa.toDs p0.kids) (Qa.toDs_eq _) (re 1 (ri hm (fun hm=>Qp (Qj (Qo (R_G (Qf 4 (bi hm fun v602 hx hm=>Xw 8 Qa.toD p0.kids v202 v602 (es:=Qa.toDs p0.kids) (d:=(Qa.ex v602)) (Qa.toDs_eq _) hx (Qa.toD_eq v602) rfl (Qf 1 (bi hm fun v603 hx hm=>Yz (Jt _ _ hx []) (Zi rfl (fun _=>Qaf (k:=.i64) (m:=v201) (n:=v603) rfl kr kr) (re 1 (R_G (re 3 (Y8 _ _ hm _ kr))))))))))))) (fun hm=>QC zf))))))
 ·intro Zd Y8 p0 r0 hm;unfold X0;intro H;refine PC_sx (ds:=[(Qa.ex p0)]) (fn:=f62) rfl ?_;exact ge 2 (ge 1 (Qj (ge 1 (Qo (ru1 hm (Y8 _) fun v601 d hm=>ge 3 (Qs zf))))))
theorem Y8:∀ x r,Zd x=some r→Y4 x r:=g_ref14_Depth_L1.1
theorem Jt:∀ x r,Yk x=some r→X0 x r:=g_ref14_Depth_L1.2
def QV (x:((List Int) × Bool × Int)):Option (Unit ⊕ Bool) :=
 match x with
 | (p0,v201,v202) =>
 if v202 < (p0.length:Int) then
  idx p0 v202>>=fun v602 =>
  if v602 < 0 then
   some (Sum.inl ())
  else
  if v201=true then
   QV (p0,true,(W (v202+1)))
  else
  idx p0 v202>>=fun v603 =>
  QV (p0,(v603 == 0),(W (v202+1)))
 else
 some (Sum.inr v201)
 partial_fixpoint
theorem YD:∀ x r,QV x=some r→match x with|(p0,v201,v202)=>LQ f60 60 [1,1,0,1,0,0] 0 ⟨kp 55 [(0,(La p0)),(4,(Qq v201)),(5,(Qd v202))],[]⟩ (P2 .ret (fun _ d=>⟨sl d 55 [(2,(Qd 0)),(3,(Qd 6))],[]⟩) (.exit 0) (fun v601 d=>⟨sl d 55 [(0,(La p0)),(4,(Qq v601))],[]⟩) r):=by
 refine QV.partial_correctness _ (fun QV YD x r hm=>?_);obtain ⟨p0,v201,v202⟩:=x;exact lp (Qj (gr 2 (QR Qh p0 (re 1 (ri hm (fun hm=>Qp (Qj (Qo (Qj (gr 2 (QA 1 Qh hm fun v602 hm=>re 2 (ri hm (fun hm=>ge 2 (Qs zf)) (fun hm=>Qp (R_G (Qf 2 (gsb 21 hm (fun hm=>re 7 (R_G (re 3 (YD _ _ hm _ kr)))) (fun hm=>Qf 2 (QA 1 Qh hm fun v603 hm=>re 4 (R_G (re 3 (YD _ _ hm _ kr)))))))))))))))) (fun hm=>QC zf))))))
def Q5 (x:((List Int) × Bool × Int)):Option (Unit ⊕ Unit) :=
 match x with
 | (p0,v601,v804) =>
 if v804 < (p0.length:Int) then
  idx p0 v804>>=fun v1204 =>
  if v1204 > 65536 then
   some (Sum.inl ())
  else
  Q5 (p0,v601,(W (v804+1)))
 else
 some (Sum.inr ())
 partial_fixpoint
theorem Xq:∀ x r,Q5 x=some r→match x with|(p0,v601,v804)=>LQ f60 60 [1,1,1,0,1,0,0] 0 ⟨kp 55 [(0,(La p0)),(4,(Qq v601)),(6,(Qd v804))],[]⟩ (P2 .ret (fun _ d=>⟨sl d 55 [(2,(Qd 0)),(3,(Qd 7))],[]⟩) (.exit 2) (fun _ d=>⟨sl d 55 [(0,(La p0)),(4,(Qq v601))],[]⟩) r):=by
 refine Q5.partial_correctness _ (fun Q5 Xq x r hm=>?_);obtain ⟨p0,v601,v804⟩:=x;exact lp (Qj (gr 2 (QR Qh p0 (re 1 (ri hm (fun hm=>Qp (Qj (Qo (gr 2 (QA 1 Qh hm fun v1204 hm=>re 2 (ri hm (fun hm=>ge 2 (Qs zf)) (fun hm=>Qp (R_G (re 3 (Xq _ _ hm _ kr)))))))))) (fun hm=>QC zf))))))
def Q6 (x:((List Int) × Int × Int)):Option (Unit ⊕ Int) :=
 match x with
 | (p0,v1405,v1406) =>
 if v1406 < (p0.length:Int) then
  idx p0 v1406>>=fun v1806 =>
  if (W (v1405 * v1806)) > 65536 then
   some (Sum.inl ())
  else
  Q6 (p0,(W (v1405 * v1806)),(W (v1406+1)))
 else
 some (Sum.inr v1405)
 partial_fixpoint
theorem Xr:∀ x r,Q6 x=some r→match x with|(p0,v1405,v1406)=>LQ f60 60 [1,1,1,1,1,1,0,1,0,0] 0 ⟨kp 55 [(0,(La p0)),(7,(Qd v1405)),(8,(Qd v1406))],[]⟩ (P2 .ret (fun _ d=>⟨sl d 55 [(2,(Qd 0)),(3,(Qd 7))],[]⟩) (.exit 4) (fun v1805 d=>⟨sl d 55 [(7,(Qd v1805))],[]⟩) r):=by
 refine Q6.partial_correctness _ (fun Q6 Xr x r hm=>?_);obtain ⟨p0,v1405,v1406⟩:=x;exact lp (Qj (gr 2 (QR Qh p0 (re 1 (ri hm (fun hm=>Qp (Qj (Qo (gr 3 (QA 1 Qh hm fun v1806 hm=>re 3 (ge 2 (ri hm (fun hm=>ge 2 (Qs zf)) (fun hm=>Qp (R_G (re 3 (Xr _ _ hm _ kr))))))))))) (fun hm=>QC zf))))))
def Yb (x:(List Int)):Option (Int × Int) :=
 match x with
 | p0 =>
 (
 QV (p0,false,0)>>=fun out =>
 match out with
 | .inl _ =>
  some (0,6)
 | .inr (v601) =>
  (
  Q5 (p0,v601,0)>>=fun out =>
  match out with
  | .inl _ =>
   some (0,7)
  | .inr (_) =>
   if v601=true then
    some (0,0)
   else
   (
   Q6 (p0,1,0)>>=fun out =>
   match out with
   | .inl _ =>
    some (0,7)
   | .inr (v1805) =>
    some (v1805,0)
   )
  )
 )
theorem JI {p0 r0 r1} (hm:Yb p0=some (r0,r1)):FQ 60 [(Lb p0)] (.tup [(Qd r0),(Qd r1)]):=by
 unfold Yb at hm;exact fp (fn:=f60) rfl (ge 2 (ge 1 (Qj (ge 1 (Qo (ru2 hm (YD _) (fun _ d hm=>zf) fun v601 d hm=>Qj (ge 1 (Qo (ru2 hm (Xq _) (fun _ d hm=>zf) fun _ d hm=>Qj (ge 1 (rib hm (fun hm=>ge 2 (Qs zf)) (fun hm=>Qp (ge 1 (Qj (ge 1 (Qo (ru2 hm (Xr _) (fun _ d hm=>zf) fun v1805 d hm=>ge 3 (Qs zf))))))))))))))))))
def Zv (x:((List Int) × Int)):Option (Unit ⊕ Unit) :=
 match x with
 | (p0,v201) =>
 if v201 < (p0.length:Int) then
  idx p0 v201>>=fun v601 =>
  if v601 < 0 then
   some (Sum.inl ())
  else
  Zv (p0,(W (v201+1)))
 else
 some (Sum.inr ())
 partial_fixpoint
theorem XQ:∀ x r,Zv x=some r→match x with|(p0,v201)=>LQ f59 59 [1,0,1,0,0] 0 ⟨kp 29 [(0,(La p0)),(3,(Qd v201))],[]⟩ (P2 .ret (fun _ d=>⟨sl d 29 [(2,(Qd 6))],[]⟩) (.exit 0) (fun _ d=>⟨sl d 29 [(0,(La p0))],[]⟩) r):=by
 refine Zv.partial_correctness _ (fun Zv XQ x r hm=>?_);obtain ⟨p0,v201⟩:=x;exact lp (Qj (gr 2 (QR Qh p0 (re 1 (ri hm (fun hm=>Qp (Qj (Qo (gr 2 (QA 1 Qh hm fun v601 hm=>re 2 (ri hm (fun hm=>ge 1 (Qs zf)) (fun hm=>Qp (R_G (re 3 (XQ _ _ hm _ kr)))))))))) (fun hm=>QC zf))))))
def ZU (x:(List Int)):Option Int :=
 match x with
 | p0 =>
 (
 Zv (p0,0)>>=fun out =>
 match out with
 | .inl _ =>
  some 6
 | .inr (_) =>
  Yb p0>>=fun (v602,v603) =>
  (if (p0.length:Int) > 16 then
   some true
  else
  some (v603 != 0)
  )>>=fun (v604:Bool) =>
  if v604=true then
   some 7
  else
  some 0
 )
theorem Xl {p0 r0} (hm:ZU p0=some r0):FQ 59 [(Lb p0)] (Qd r0):=by
 unfold ZU at hm;exact fp (fn:=f59) rfl (ge 1 (Qj (ge 1 (Qo (ru2 hm (XQ _) (fun _ d hm=>zf) fun _ d hm=>gr 1 (bi2 hm fun v602 v603 hx hm=>cp (JI hx) (re 5 (Qj (Qj (bi hm fun v604 hs hm=>Zq (fun d=>⟨sl d 29 [(28,(Qq v604))],[]⟩) (have hm:=hs;R_G (Qf 1 (QR Qh p0 (Qf 2 (gs 25 hm (fun hm=>re 3 zf) (fun hm=>re 3 zf)))))) (fun d=>rib hm (fun hm=>ge 1 (Qs zf)) (fun hm=>Qp (ge 1 (Qs zf))))))))))))))
def Zw (x:((List Int) × (List Int) × Int)):Option (Unit ⊕ Unit) :=
 match x with
 | (p0,p1,v201) =>
 if v201 < (p0.length:Int) then
  idx p0 v201>>=fun v601 =>
  idx p1 v201>>=fun v602 =>
  if v601≠v602 then
   some (Sum.inl ())
  else
  Zw (p0,p1,(W (v201+1)))
 else
 some (Sum.inr ())
 partial_fixpoint
theorem XR:∀ x r,Zw x=some r→match x with|(p0,p1,v201)=>LQ f27 27 [1,1,0,1,0,0] 0 ⟨kp 26 [(0,(La p0)),(1,(La p1)),(5,(Qd v201))],[]⟩ (P2 .ret (fun _ d=>⟨sl d 26 [(4,(Qq false))],[]⟩) (.exit 0) (fun _ d=>⟨sl d 26 [],[]⟩) r):=by
 refine Zw.partial_correctness _ (fun Zw XR x r hm=>?_);obtain ⟨p0,p1,v201⟩:=x;exact lp (Qj (gr 2 (QR Qh p0 (re 1 (ri hm (fun hm=>Qp (Qj (Qo (Qj (Ya (Qf 2 (QA 1 Qh hm fun v601 hm=>Qf 3 (QA 1 Qh hm fun v602 hm=>re 2 ⟨kr,rix hm (fun hm=>ge 1 (Qs zf)) (fun hm=>Qp (R_G (re 3 (XR _ _ hm _ kr))))⟩)))))))) (fun hm=>QC zf))))))
def ZV (x:((List Int) × (List Int))):Option Bool :=
 match x with
 | (p0,p1) =>
 if (p0.length:Int)≠(p1.length:Int) then
  some false
 else
 (
 Zw (p0,p1,0)>>=fun out =>
 match out with
 | .inl _ =>
  some false
 | .inr (_) =>
  some true
 )
theorem Js {p0 p1 r0} (hm:ZV (p0,p1)=some r0):FQ 27 [(Lb p0),(Lb p1)] (Qq r0):=by
 unfold ZV at hm;exact fp (fn:=f27) rfl (ge 1 (Qj (gr 1 (QR Qh p0 (Qf 1 (QR Qh p1 (re 1 (rix hm (fun hm=>ge 1 (Qs zf)) (fun hm=>Qp (Qj (ge 1 (Qo (ru2 hm (XR _) (fun _ d hm=>zf) fun _ d hm=>ge 1 (Qs zf))))))))))))))
def YI (x:Qa):Option Bool :=
 match x with
 | p0 =>
 idx p0.kids 0>>=fun v1 =>
 ZV (v1.shape,p0.shape)>>=fun v2 =>
 (if v2=true then
  some (decide (p0.axis≥0))
 else
 some false
 )>>=fun (v3:Bool) =>
 if v3=true then
  some (decide (p0.axis < (p0.shape.length:Int)))
 else
 some false
theorem JV {p0 r0} (hm:YI p0=some r0):FQ 148 [(Qa.ex p0)] (Qq r0):=by
 unfold YI at hm;exact fp (fn:=f148) rfl (ge 2 (Qj (Qbc (Qf 2 (bi hm fun v1 hx hm=>Xw 8 Qa.toD p0.kids 0 v1 (es:=Qa.toDs p0.kids) (d:=(Qa.ex v1)) (Qa.toDs_eq _) hx (Qa.toD_eq v1) rfl (Qf 4 (bi hm fun v2 hx hm=>cp (Js hx) (Qf 1 (bi hm fun v3 hs hm=>Xc (j:=13) (fun d=>⟨sl d 24 [(1,(.ptr 0 0)),(2,(Qq false)),(15,(Qq v3))],(Qv p0.kind p0.shape p0.buffer p0.starts p0.axis p0.amount p0.perm p0.kids)⟩) (fun d=>Qf 1 (gsb 16 hm (fun hm=>Qf 4 (QR Qh p0.shape (re 3 ⟨kr,Qs zf⟩))) (fun hm=>re 8 ⟨kr,Qs zf⟩))) (fun hJ=>gsb 11 hs (fun hm=>Qf 4 zf) (fun hm=>Qf 4 zf)))))))))))
def QI (x:(Qa × Qa × Int)):Option (Unit ⊕ Unit) :=
 match x with
 | (v1,p0,v202) =>
 if v202 < (v1.shape.length:Int) then
  (idx p0.perm v202>>=fun v603 =>
  if v603 < 0 then
   some true
  else
  idx p0.perm v202>>=fun v604 =>
  some (decide (v604≥(p0.shape.length:Int)))
  )>>=fun (v602:Bool) =>
  if v602=true then
   some (Sum.inl ())
  else
  QI (v1,p0,(W (v202+1)))
 else
 some (Sum.inr ())
 partial_fixpoint
theorem YN:∀ x r,QI x=some r→match x with|(v1,p0,v202)=>LQ f149 149 [1,1,1,0,1,0,0] 1 ⟨kp 85 [(1,(.ptr 0 0)),(3,(La v1.shape)),(4,(Qd v202))],(Qv p0.kind p0.shape p0.buffer p0.starts p0.axis p0.amount p0.perm p0.kids)⟩ (P2 .ret (fun _ d=>⟨sl d 85 [(2,(Qq false))],(Qv p0.kind p0.shape p0.buffer p0.starts p0.axis p0.amount p0.perm p0.kids)⟩) (.exit 0) (fun _ d=>⟨sl d 85 [(1,(.ptr 0 0)),(3,(La v1.shape))],(Qv p0.kind p0.shape p0.buffer p0.starts p0.axis p0.amount p0.perm p0.kids)⟩) r):=by
 refine QI.partial_correctness _ (fun QI YN x r hm=>?_);obtain ⟨v1,p0,v202⟩:=x;exact lp (Qj (gr 2 (QR Qh v1.shape (re 1 (ri hm (fun hm=>Qp (Qj (Qo (Qj (bi hm fun v602 hs hm=>Zq (fun d=>⟨sl d 85 [(1,(.ptr 0 0)),(3,(La v1.shape)),(4,(Qd v202)),(41,(Qq v602))],(Qv p0.kind p0.shape p0.buffer p0.starts p0.axis p0.amount p0.perm p0.kids)⟩) (have hm:=hs;Ya (Qf 3 (QA 1 Qh hm fun v603 hm=>Qf 3 (gs 31 hm (fun hm=>re 10 ⟨kr,zf⟩) (fun hm=>Qf 3 (QA 1 Qh hm fun v604 hm=>Qf 3 (QR Qh p0.shape (re 2 ⟨kr,zf⟩)))))))) (fun d=>rib hm (fun hm=>ge 1 (Qs zf)) (fun hm=>Qp (R_G (re 3 (YN _ _ hm _ kr)))))))))) (fun hm=>QC zf))))))
def Qw (x:(Qa × Qa × Int × Int × Int)):Option (Int) :=
 match x with
 | (v1,p0,v805,v1405,v1406) =>
 if v1406 < (v1.shape.length:Int) then
  (idx p0.perm v1406>>=fun v1807 =>
  if v1807=v805 then
   if v1405 < 0 then
    some true
   else
   idx v1.shape v1406>>=fun v1808 =>
   some (decide (v1808 < v1405))
  else
  some false
  )>>=fun (v1806:Bool) =>
  if v1806=true then
   idx v1.shape v1406>>=fun v1809 =>
   Qw (v1,p0,v805,v1809,(W (v1406+1)))
  else
  Qw (v1,p0,v805,v1405,(W (v1406+1)))
 else
 some v1405
 partial_fixpoint
theorem Z9:∀ x r,Qw x=some r→match x with|(v1,p0,v805,v1405,v1406)=>LQ f149 149 [1,1,1,1,0,1,0,0,1,0,0,1,0,1,0,0] 1 ⟨kp 85 [(1,(.ptr 0 0)),(3,(La v1.shape)),(5,(Qd v805)),(6,(Qd v1405)),(7,(Qd v1406))],(Qv p0.kind p0.shape p0.buffer p0.starts p0.axis p0.amount p0.perm p0.kids)⟩ (P1 (.exit 4) (fun v1805 d=>⟨sl d 85 [(1,(.ptr 0 0)),(3,(La v1.shape)),(5,(Qd v805)),(6,(Qd v1805))],(Qv p0.kind p0.shape p0.buffer p0.starts p0.axis p0.amount p0.perm p0.kids)⟩) r):=by
 refine Qw.partial_correctness _ (fun Qw Z9 x r hm=>?_);obtain ⟨v1,p0,v805,v1405,v1406⟩:=x;exact lp (Qj (gr 2 (QR Qh v1.shape (re 1 (ri hm (fun hm=>Qp (Qj (Qo (Qj (bi hm fun v1806 hs hm=>Zq (fun d=>⟨sl d 85 [(1,(.ptr 0 0)),(3,(La v1.shape)),(5,(Qd v805)),(6,(Qd v1405)),(7,(Qd v1406)),(73,(Qq v1806))],(Qv p0.kind p0.shape p0.buffer p0.starts p0.axis p0.amount p0.perm p0.kids)⟩) (have hm:=hs;R_G (Qf 3 (QA 1 Qh hm fun v1807 hm=>Qf 4 (gsq 62 hm (fun hm=>Qf 3 (gs 65 hm (fun hm=>re 8 zf) (fun hm=>Qf 2 (QA 1 Qh hm fun v1808 hm=>re 5 zf)))) (fun hm=>re 11 zf))))) (fun d=>rib hm (fun hm=>R_G (Qf 2 (QA 1 Qh hm fun v1809 hm=>re 2 (R_G (re 3 (Z9 _ _ hm _ kr)))))) (fun hm=>Qp (R_G (re 3 (Z9 _ _ hm _ kr)))))))))) (fun hm=>QC zf))))))
def QB (x:(Qa × Qa × Int)):Option (Unit ⊕ Unit) :=
 match x with
 | (p0,v1,v805) =>
 if v805 < (p0.shape.length:Int) then
  Qw (v1,p0,v805,(-1),0)>>=fun v1805 =>
  idx p0.shape v805>>=fun v1810 =>
  if v1805≠v1810 then
   some (Sum.inl ())
  else
  QB (p0,v1,(W (v805+1)))
 else
 some (Sum.inr ())
 partial_fixpoint
theorem YO:∀ x r,QB x=some r→match x with|(p0,v1,v805)=>LQ f149 149 [1,1,1,1,0,1,0,0] 1 ⟨kp 85 [(1,(.ptr 0 0)),(3,(La v1.shape)),(5,(Qd v805))],(Qv p0.kind p0.shape p0.buffer p0.starts p0.axis p0.amount p0.perm p0.kids)⟩ (P2 .ret (fun _ d=>⟨sl d 85 [(2,(Qq false))],(Qv p0.kind p0.shape p0.buffer p0.starts p0.axis p0.amount p0.perm p0.kids)⟩) (.exit 2) (fun _ d=>⟨sl d 85 [],(Qv p0.kind p0.shape p0.buffer p0.starts p0.axis p0.amount p0.perm p0.kids)⟩) r):=by
 refine QB.partial_correctness _ (fun QB YO x r hm=>?_);obtain ⟨p0,v1,v805⟩:=x;exact lp (Qj (gr 3 (QR Qh p0.shape (re 1 (ri hm (fun hm=>Qp (Qj (Qo (ge 1 (Qj (ge 1 (Qo (ru1 hm (Z9 _) fun v1805 d hm=>gr 4 (QA 1 Qh hm fun v1810 hm=>re 2 (rix hm (fun hm=>ge 1 (Qs zf)) (fun hm=>Qp (R_G (re 3 (YO _ _ hm _ kr)))))))))))))) (fun hm=>QC zf))))))
def ZE (x:Qa):Option Bool :=
 match x with
 | p0 =>
 idx p0.kids 0>>=fun v1 =>
 if (p0.perm.length:Int)≠(v1.shape.length:Int) then
  some false
 else
 (
 QI (v1,p0,0)>>=fun out =>
 match out with
 | .inl _ =>
  some false
 | .inr (_) =>
  (
  QB (p0,v1,0)>>=fun out =>
  match out with
  | .inl _ =>
   some false
  | .inr (_) =>
   some true
  )
 )
theorem JY {p0 r0} (hm:ZE p0=some r0):FQ 149 [(Qa.ex p0)] (Qq r0):=by
 unfold ZE at hm;exact fp (fn:=f149) rfl (ge 2 (gr 2 (bi hm fun v1 hx hm=>Xw 8 Qa.toD p0.kids 0 v1 (es:=Qa.toDs p0.kids) (d:=(Qa.ex v1)) (Qa.toDs_eq _) hx (Qa.toD_eq v1) rfl (re 3 (Qj (gr 2 (QR Qh p0.perm (Qf 1 (QR Qh v1.shape (re 1 (rix hm (fun hm=>ge 1 (Qs zf)) (fun hm=>Qp (Qj (ge 1 (Qo (ru2 hm (YN _) (fun _ d hm=>zf) fun _ d hm=>Qj (ge 1 (Qo (ru2 hm (YO _) (fun _ d hm=>zf) fun _ d hm=>ge 1 (Qs zf))))))))))))))))))))
def Zl (x:(Qa × Qa × Qa × Int)):Option (Unit ⊕ Unit) :=
 match x with
 | (v1,p0,v2,v206) =>
 if v206 < (v1.shape.length:Int) then
  ((if v206=p0.axis then
   idx p0.shape v206>>=fun v608 =>
   idx v1.shape v206>>=fun v609 =>
   idx v2.shape v206>>=fun v610 =>
   some (v608 != (W (v609+v610)))
  else
  some false
  )>>=fun (v607:Bool) =>
  if v607=true then
   some true
  else
  if v206≠p0.axis then
   idx v1.shape v206>>=fun v611 =>
   idx v2.shape v206>>=fun v612 =>
   (if v611≠v612 then
    some true
   else
   idx v1.shape v206>>=fun v614 =>
   idx p0.shape v206>>=fun v615 =>
   some (v614 != v615)
   )>>=fun (v613:Bool) =>
   some v613
  else
  some false
  )>>=fun (v606:Bool) =>
  if v606=true then
   some (Sum.inl ())
  else
  Zl (v1,p0,v2,(W (v206+1)))
 else
 some (Sum.inr ())
 partial_fixpoint
theorem XF:∀ x r,Zl x=some r→match x with|(v1,p0,v2,v206)=>LQ f150 150 [1,1,1,1,0,1,0,0] 1 ⟨kp 97 [(1,(.ptr 0 0)),(3,(La v1.shape)),(4,(La v2.shape)),(5,(Qd v206))],(Qv p0.kind p0.shape p0.buffer p0.starts p0.axis p0.amount p0.perm p0.kids)⟩ (P2 .ret (fun _ d=>⟨sl d 97 [(2,(Qq false))],(Qv p0.kind p0.shape p0.buffer p0.starts p0.axis p0.amount p0.perm p0.kids)⟩) (.exit 0) (fun _ d=>⟨sl d 97 [],(Qv p0.kind p0.shape p0.buffer p0.starts p0.axis p0.amount p0.perm p0.kids)⟩) r):=by
 refine Zl.partial_correctness _ (fun Zl XF x r hm=>?_);obtain ⟨v1,p0,v2,v206⟩:=x
 exact lp (Qj (gr 2 (QR Qh v1.shape (re 1 (ri hm (fun hm=>Qp (Qj (Qo (Qj (bi hm fun v606 hs hm=>Zq (fun d=>⟨sl d 97 [(1,(.ptr 0 0)),(3,(La v1.shape)),(4,(La v2.shape)),(5,(Qd v206)),(96,(Qq v606))],(Qv p0.kind p0.shape p0.buffer p0.starts p0.axis p0.amount p0.perm p0.kids)⟩) (have hm:=hs;Qbc (Qf 5 (bi hm fun v607 hs hm=>Xc (j:=21) (fun d=>⟨sl d 97 [(1,(.ptr 0 0)),(3,(La v1.shape)),(4,(La v2.shape)),(5,(Qd v206)),(67,(Qq v607))],(Qv p0.kind p0.shape p0.buffer p0.starts p0.axis p0.amount p0.perm p0.kids)⟩) (fun d=>Qf 1 (gsb 68 hm (fun hm=>re 28 ⟨kr,zf⟩) (fun hm=>Qf 5 (gsx 73 hm (fun hm=>Qf 2 (QA 1 Qh hm fun v611 hm=>Qf 3 (QA 1 Qh hm fun v612 hm=>Qf 3 (bi hm fun v613 hs hm=>Xc (j:=48) (fun d=>⟨sl d 97 [(1,(.ptr 0 0)),(3,(La v1.shape)),(4,(La v2.shape)),(5,(Qd v206)),(68,(Qq false)),(73,(Qq true)),(94,(Qq v613))],(Qv p0.kind p0.shape p0.buffer p0.starts p0.axis p0.amount p0.perm p0.kids)⟩) (fun d=>re 2 ⟨kr,zf⟩) (fun hJ=>gsx 83 hs (fun hm=>Qf 11 zf) (fun hm=>Qf 2 (QA 1 Qh hm fun v614 hm=>Qf 4 (QA 1 Qh hm fun v615 hm=>Qf 3 zf)))))))) (fun hm=>re 23 ⟨kr,zf⟩))))) (fun hJ=>gsq 51 hs (fun hm=>Qf 3 (QA 1 Qh hm fun v608 hm=>Qf 3 (QA 1 Qh hm fun v609 hm=>Qf 3 (QA 1 Qh hm fun v610 hm=>Qf 4 zf)))) (fun hm=>Qf 16 zf))))) (fun d=>rib hm (fun hm=>ge 1 (Qs zf)) (fun hm=>Qp (R_G (re 3 (XF _ _ hm _ kr)))))))))) (fun hm=>QC zf))))))
def YV (x:Qa):Option Bool :=
 match x with
 | p0 =>
 idx p0.kids 0>>=fun v1 =>
 idx p0.kids 1>>=fun v2 =>
 ((if (v1.shape.length:Int)≠(v2.shape.length:Int) then
  some true
 else
 some ((v1.shape.length:Int) != (p0.shape.length:Int))
 )>>=fun (v4:Bool) =>
 (if v4=true then
  some true
 else
 some (decide (p0.axis < 0))
 )>>=fun (v5:Bool) =>
 if v5=true then
  some true
 else
 some (decide (p0.axis≥(v1.shape.length:Int)))
 )>>=fun (v3:Bool) =>
 if v3=true then
  some false
 else
 (
 Zl (v1,p0,v2,0)>>=fun out =>
 match out with
 | .inl _ =>
  some false
 | .inr (_) =>
  some true
 )
theorem Qaj {p0 r0} (hm:YV p0=some r0):FQ 150 [(Qa.ex p0)] (Qq r0):=by
 unfold YV at hm
 exact fp (fn:=f150) rfl (ge 2 (gr 2 (bi hm fun v1 hx hm=>Xw 8 Qa.toD p0.kids 0 v1 (es:=Qa.toDs p0.kids) (d:=(Qa.ex v1)) (Qa.toDs_eq _) hx (Qa.toD_eq v1) rfl (re 3 (gr 2 (bi hm fun v2 hx hm=>Xw 8 Qa.toD p0.kids 1 v2 (es:=Qa.toDs p0.kids) (d:=(Qa.ex v2)) (Qa.toDs_eq _) hx (Qa.toD_eq v2) rfl (re 3 (Qj (Qj (bi hm fun v3 hs hm=>Zq (fun d=>⟨sl d 97 [(1,(.ptr 0 0)),(3,(La v1.shape)),(4,(La v2.shape)),(40,(Qq v3))],(Qv p0.kind p0.shape p0.buffer p0.starts p0.axis p0.amount p0.perm p0.kids)⟩) (have hm:=hs;QaR (Qf 1 (QR Qh v1.shape (Qf 1 (QR Qh v2.shape (Qf 2 (bi hm fun v4 hs hm=>Xc (j:=13) (fun d=>⟨sl d 97 [(1,(.ptr 0 0)),(3,(La v1.shape)),(4,(La v2.shape)),(28,(Qq v4))],(Qv p0.kind p0.shape p0.buffer p0.starts p0.axis p0.amount p0.perm p0.kids)⟩) (fun d=>Qf 1 (bi hm fun v5 hs hm=>Xc (j:=18) (fun d=>⟨sl d 97 [(1,(.ptr 0 0)),(3,(La v1.shape)),(4,(La v2.shape)),(33,(Qq v5))],(Qv p0.kind p0.shape p0.buffer p0.starts p0.axis p0.amount p0.perm p0.kids)⟩) (fun d=>Qf 1 (gsb 34 hm (fun hm=>re 6 ⟨kr,zf⟩) (fun hm=>Qf 3 (QR Qh v1.shape (re 2 ⟨kr,zf⟩))))) (fun hJ=>gsb 29 hs (fun hm=>Qf 4 zf) (fun hm=>Qf 4 zf)))) (fun hJ=>gsx 21 hs (fun hm=>Qf 7 zf) (fun hm=>Qf 1 (QR Qh v1.shape (Qf 2 (QR Qh p0.shape (Qf 2 zf))))))))))))) (fun d=>rib hm (fun hm=>ge 1 (Qs zf)) (fun hm=>Qp (Qj (ge 1 (Qo (ru2 hm (XF _) (fun _ d hm=>zf) fun _ d hm=>ge 1 (Qs zf)))))))))))))))))
def ZD (x:(Qa × Int)):Option (Unit ⊕ Unit) :=
 match x with
 | (p0,v217) =>
 if v217 < (p0.starts.length:Int) then
  (idx p0.starts v217>>=fun v618 =>
  if v618 < (-65536) then
   some true
  else
  idx p0.starts v217>>=fun v619 =>
  some (decide (v619 > 65536))
  )>>=fun (v617:Bool) =>
  if v617=true then
   some (Sum.inl ())
  else
  ZD (p0,(W (v217+1)))
 else
 some (Sum.inr ())
 partial_fixpoint
theorem Jd:∀ x r,ZD x=some r→match x with|(p0,v217)=>LQ f109 109 [1,1,1,1,1,1,0,1,0,1,1,1,0,0,1,0,0] 1 ⟨kp 197 [(2,(.ptr 0 0)),(6,(Qd v217))],(Qv p0.kind p0.shape p0.buffer p0.starts p0.axis p0.amount p0.perm p0.kids)⟩ (P2 .ret (fun _ d=>⟨sl d 197 [(4,(Qq false))],(Qv p0.kind p0.shape p0.buffer p0.starts p0.axis p0.amount p0.perm p0.kids)⟩) (.exit 1) (fun _ d=>⟨sl d 197 [(2,(.ptr 0 0))],(Qv p0.kind p0.shape p0.buffer p0.starts p0.axis p0.amount p0.perm p0.kids)⟩) r):=by
 refine ZD.partial_correctness _ (fun ZD Jd x r hm=>?_);obtain ⟨p0,v217⟩:=x;exact lp (Qj (gr 3 (QR Qh p0.starts (re 1 (ri hm (fun hm=>Qp (Qj (Qo (Qj (bi hm fun v617 hs hm=>Zq (fun d=>⟨sl d 197 [(2,(.ptr 0 0)),(6,(Qd v217)),(140,(Qq v617))],(Qv p0.kind p0.shape p0.buffer p0.starts p0.axis p0.amount p0.perm p0.kids)⟩) (have hm:=hs;R_G (Qf 3 (QA 1 Qh hm fun v618 hm=>Qf 3 (gs 133 hm (fun hm=>re 7 zf) (fun hm=>Qf 3 (QA 1 Qh hm fun v619 hm=>re 3 zf)))))) (fun d=>rib hm (fun hm=>ge 1 (Qs zf)) (fun hm=>Qp (R_G (re 3 (Jd _ _ hm _ kr)))))))))) (fun hm=>QC zf))))))
def YB (x:(Qa × (List (List Int)))):Option Bool :=
 match x with
 | (p0,p1) =>
 (if p0.kind=1 then
  some 0
 else
 some 1
 )>>=fun (v1:Int) =>
 (if p0.kind=7 then
  some 2
 else
 some v1
 )>>=fun (v2:Int) =>
 ((if p0.kind < 1 then
  some true
 else
 some (decide (p0.kind > 7))
 )>>=fun (v4:Bool) =>
 (if v4=true then
  some true
 else
 some ((p0.kids.length:Int) != v2)
 )>>=fun (v5:Bool) =>
 if v5=true then
  some true
 else
 ZU p0.shape>>=fun v6 =>
 some (v6 != 0)
 )>>=fun (v3:Bool) =>
 if v3=true then
  some false
 else
 ((if p0.kind≠1 then
  some (p0.buffer != 0)
 else
 some false
 )>>=fun (v8:Bool) =>
 (if v8=true then
  some true
 else
 if p0.kind≠2 then
  some (decide ((p0.starts.length:Int) > 0))
 else
 some false
 )>>=fun (v9:Bool) =>
 (if v9=true then
  some true
 else
 (if p0.kind≠3 then
  some (p0.kind != 4)
 else
 some false
 )>>=fun (v11:Bool) =>
 (if v11=true then
  some (p0.kind != 7)
 else
 some false
 )>>=fun (v12:Bool) =>
 if v12=true then
  some (p0.axis != 0)
 else
 some false
 )>>=fun (v10:Bool) =>
 (if v10=true then
  some true
 else
 if p0.kind≠4 then
  some (p0.amount != 0)
 else
 some false
 )>>=fun (v13:Bool) =>
 if v13=true then
  some true
 else
 if p0.kind≠5 then
  some (decide ((p0.perm.length:Int) > 0))
 else
 some false
 )>>=fun (v7:Bool) =>
 if v7=true then
  some false
 else
 if p0.kind=1 then
  (if p0.buffer≥0 then
   some (decide (p0.buffer < (p1.length:Int)))
  else
  some false
  )>>=fun (v14:Bool) =>
  if v14=true then
   idx p1 p0.buffer>>=fun v15 =>
   ZV (v15,p0.shape)>>=fun v16 =>
   some v16
  else
  some false
 else
 if p0.kind=2 then
  (
  ZD (p0,0)>>=fun out =>
  match out with
  | .inl _ =>
   some false
  | .inr (_) =>
   if (p0.starts.length:Int)=(p0.shape.length:Int) then
    idx p0.kids 0>>=fun v620 =>
    some ((v620.shape.length:Int) == (p0.shape.length:Int))
   else
   some false
  )
 else
 if p0.kind=3 then
  YI p0>>=fun v621 =>
  some v621
 else
 if p0.kind=4 then
  YI p0>>=fun v622 =>
  (if v622=true then
   some (decide (p0.amount≥0))
  else
  some false
  )>>=fun (v623:Bool) =>
  if v623=true then
   if p0.amount=0 then
    some true
   else
   idx p0.shape p0.axis>>=fun v624 =>
   some (decide (p0.amount < v624))
  else
  some false
 else
 if p0.kind=5 then
  ZE p0>>=fun v625 =>
  some v625
 else
 if p0.kind=7 then
  YV p0>>=fun v626 =>
  some v626
 else
 some true
theorem QaB {p0 p1 r0} (hm:YB (p0,p1)=some r0):FQ 109 [(Qa.ex p0),(.lst ((List.map (fun l=>Dat.lst ((List.map Qh) l))) p1))] (Qq r0):=by
 unfold YB at hm
 exact fp (fn:=f109) rfl (ge 2 (ge 1 (Qj (ge 3 (bi hm fun v1 hs hm=>Zq (fun d=>⟨sl d 197 [(1,(QK p1)),(2,(.ptr 0 0)),(5,(Qd v1))],(Qv p0.kind p0.shape p0.buffer p0.starts p0.axis p0.amount p0.perm p0.kids)⟩) (have hm:=hs;riq hm (fun hm=>R_G (re 1 zf)) (fun hm=>Qp zf)) (fun d=>Qj (ge 3 (bi hm fun v2 hs hm=>Zq (fun d=>⟨sl d 197 [(1,(QK p1)),(2,(.ptr 0 0)),(5,(Qd v2))],(Qv p0.kind p0.shape p0.buffer p0.starts p0.axis p0.amount p0.perm p0.kids)⟩) (have hm:=hs;riq hm (fun hm=>R_G (re 1 zf)) (fun hm=>Qp zf)) (fun d=>Qj (Qj (bi hm fun v3 hs hm=>Zq (fun d=>⟨sl d 197 [(1,(QK p1)),(2,(.ptr 0 0)),(33,(Qq v3))],(Qv p0.kind p0.shape p0.buffer p0.starts p0.axis p0.amount p0.perm p0.kids)⟩) (have hm:=hs;QaR (Qf 4 (bi hm fun v4 hs hm=>Xc (j:=8) (fun d=>⟨sl d 197 [(1,(QK p1)),(2,(.ptr 0 0)),(5,(Qd v2)),(20,(Qq v4))],(Qv p0.kind p0.shape p0.buffer p0.starts p0.axis p0.amount p0.perm p0.kids)⟩) (fun d=>Qf 1 (bi hm fun v5 hs hm=>Xc (j:=15) (fun d=>⟨sl d 197 [(1,(QK p1)),(2,(.ptr 0 0)),(27,(Qq v5))],(Qv p0.kind p0.shape p0.buffer p0.starts p0.axis p0.amount p0.perm p0.kids)⟩) (fun d=>Qf 1 (gsb 28 hm (fun hm=>re 5 ⟨kr,zf⟩) (fun hm=>Qf 2 (bi hm fun v6 hx hm=>cp (Xl hx) (re 2 ⟨kr,zf⟩))))) (fun hJ=>gsb 21 hs (fun hm=>Qf 6 zf) (fun hm=>Qf 2 (JH Qa.toD p0.kids (es:=Qa.toDs p0.kids) (Qa.toDs_eq _) (Qf 3 zf)))))) (fun hJ=>gs 16 hs (fun hm=>Qf 4 zf) (fun hm=>Qf 4 zf))))) (fun d=>rib hm (fun hm=>ge 1 (Qs zf)) (fun hm=>Qp (Qj (Qj (bi hm fun v7 hs hm=>Zq (fun d=>⟨sl d 197 [(1,(QK p1)),(2,(.ptr 0 0)),(93,(Qq v7))],(Qv p0.kind p0.shape p0.buffer p0.starts p0.axis p0.amount p0.perm p0.kids)⟩) (have hm:=hs;QaR (Qf 4 (bi hm fun v8 hs hm=>Xc (j:=8) (fun d=>⟨sl d 197 [(1,(QK p1)),(2,(.ptr 0 0)),(41,(Qq v8))],(Qv p0.kind p0.shape p0.buffer p0.starts p0.axis p0.amount p0.perm p0.kids)⟩) (fun d=>Qf 1 (bi hm fun v9 hs hm=>Xc (j:=19) (fun d=>⟨sl d 197 [(1,(QK p1)),(2,(.ptr 0 0)),(52,(Qq v9))],(Qv p0.kind p0.shape p0.buffer p0.starts p0.axis p0.amount p0.perm p0.kids)⟩) (fun d=>Qf 1 (bi hm fun v10 hs hm=>Xc (j:=39) (fun d=>⟨sl d 197 [(1,(QK p1)),(2,(.ptr 0 0)),(72,(Qq v10))],(Qv p0.kind p0.shape p0.buffer p0.starts p0.axis p0.amount p0.perm p0.kids)⟩) (fun d=>Qf 1 (bi hm fun v13 hs hm=>Xc (j:=49) (fun d=>⟨sl d 197 [(1,(QK p1)),(2,(.ptr 0 0)),(82,(Qq v13))],(Qv p0.kind p0.shape p0.buffer p0.starts p0.axis p0.amount p0.perm p0.kids)⟩) (fun d=>Qf 1 (gsb 83 hm (fun hm=>re 10 ⟨kr,zf⟩) (fun hm=>Qf 4 (gsx 87 hm (fun hm=>Qf 2 (QR Qh p0.perm (re 3 ⟨kr,zf⟩))) (fun hm=>re 6 ⟨kr,zf⟩))))) (fun hJ=>gsb 73 hs (fun hm=>Qf 9 zf) (fun hm=>Qf 4 (gsx 77 hm (fun hm=>Qf 5 zf) (fun hm=>Qf 5 zf)))))) (fun hJ=>gsb 53 hs (fun hm=>Qf 19 zf) (fun hm=>Qf 4 (bi hm fun v11 hs hm=>Xc (j:=28) (fun d=>⟨sl d 197 [(1,(QK p1)),(2,(.ptr 0 0)),(53,(Qq false)),(61,(Qq v11))],(Qv p0.kind p0.shape p0.buffer p0.starts p0.axis p0.amount p0.perm p0.kids)⟩) (fun d=>Qf 1 (bi hm fun v12 hs hm=>Xc (j:=33) (fun d=>⟨sl d 197 [(1,(QK p1)),(2,(.ptr 0 0)),(53,(Qq false)),(66,(Qq v12))],(Qv p0.kind p0.shape p0.buffer p0.starts p0.axis p0.amount p0.perm p0.kids)⟩) (fun d=>Qf 1 (gsb 67 hm (fun hm=>Qf 5 zf) (fun hm=>Qf 5 zf))) (fun hJ=>gsb 62 hs (fun hm=>Qf 4 zf) (fun hm=>Qf 4 zf)))) (fun hJ=>gsx 57 hs (fun hm=>Qf 4 zf) (fun hm=>Qf 4 zf))))))) (fun hJ=>gsb 42 hs (fun hm=>Qf 10 zf) (fun hm=>Qf 4 (gsx 46 hm (fun hm=>Qf 2 (QR Qh p0.starts (Qf 3 zf))) (fun hm=>Qf 6 zf)))))) (fun hJ=>gsx 37 hs (fun hm=>Qf 4 zf) (fun hm=>Qf 4 zf))))) (fun d=>rib hm (fun hm=>ge 1 (Qs zf)) (fun hm=>Qp (Qj (ge 2 (Qo (ge 2 (riq hm (fun hm=>Qj (Qbc (Qf 4 (bi hm fun v14 hs hm=>Xc (j:=10) (fun d=>⟨sl d 197 [(1,(QK p1)),(2,(.ptr 0 0)),(107,(Qq v14))],(Qv p0.kind p0.shape p0.buffer p0.starts p0.axis p0.amount p0.perm p0.kids)⟩) (fun d=>Qf 1 (gsb 108 hm (fun hm=>Qf 3 (bi hm fun v15 hx hm=>Xw 1 (fun l=>Dat.lst ((List.map Qh) l)) p1 p0.buffer v15 (es:=(List.map (fun l=>Dat.lst ((List.map Qh) l))) p1) (d:=(Lb v15)) rfl hx rfl rfl (Qf 3 (bi hm fun v16 hx hm=>cp (Js hx) (re 2 ⟨kr,Qs zf⟩))))) (fun hm=>re 10 ⟨kr,Qs zf⟩))) (fun hJ=>gs 101 hs (fun hm=>Qf 3 (JH (fun l=>Dat.lst ((List.map Qh) l)) p1 (es:=(List.map (fun l=>Dat.lst ((List.map Qh) l))) p1) rfl (Qf 2 zf))) (fun hm=>Qf 6 zf)))))) (fun hm=>ge 2 (riq hm (fun hm=>Qj (ge 1 (Qo (ru2 hm (Jd _) (fun _ d hm=>zf) fun _ d hm=>Qj (Ya (Qf 2 (QR Qh p0.starts (Qf 2 (QR Qh p0.shape (Qf 2 (gsq 148 hm (fun hm=>Qf 2 (bi hm fun v620 hx hm=>Xw 8 Qa.toD p0.kids 0 v620 (es:=Qa.toDs p0.kids) (d:=(Qa.ex v620)) (Qa.toDs_eq _) hx (Qa.toD_eq v620) rfl (Qf 2 (QR Qh v620.shape (Qf 2 (QR Qh p0.shape (re 3 ⟨kr,Qs zf⟩))))))) (fun hm=>re 12 ⟨kr,Qs zf⟩)))))))))))) (fun hm=>ge 2 (riq hm (fun hm=>gr 1 (bi hm fun v621 hx hm=>cp (JV hx) (re 1 (Qs zf)))) (fun hm=>ge 2 (riq hm (fun hm=>Qj (Qbc (Qf 1 (bi hm fun v622 hx hm=>cp (JV hx) (Qf 1 (bi hm fun v623 hs hm=>Xc (j:=7) (fun d=>⟨sl d 197 [(2,(.ptr 0 0)),(172,(Qq v623))],(Qv p0.kind p0.shape p0.buffer p0.starts p0.axis p0.amount p0.perm p0.kids)⟩) (fun d=>Qf 1 (gsb 173 hm (fun hm=>Qf 4 (gsq 177 hm (fun hm=>re 12 ⟨kr,Qs zf⟩) (fun hm=>Qf 6 (QA 1 Qh hm fun v624 hm=>re 5 ⟨kr,Qs zf⟩)))) (fun hm=>re 16 ⟨kr,Qs zf⟩))) (fun hJ=>gsb 168 hs (fun hm=>Qf 4 zf) (fun hm=>Qf 4 zf)))))))) (fun hm=>ge 2 (riq hm (fun hm=>gr 1 (bi hm fun v625 hx hm=>cp (JY hx) (re 1 (Qs zf)))) (fun hm=>ge 2 (riq hm (fun hm=>gr 1 (bi hm fun v626 hx hm=>cp (Qaj hx) (re 1 (Qs zf)))) (fun hm=>Qp (ge 1 (Qs zf))))))))))))))))))))))))))))))))))))
mutual
def Zf (x:(Qa × (List (List Int)) × Int)):Option (Unit ⊕ Unit) :=
 match x with
 | (p0,p1,v202) =>
 if v202 < (p0.kids.length:Int) then
  idx p0.kids v202>>=fun v602 =>
  Ym (v602,p1)>>=fun v603 =>
  if v603=false then
   some (Sum.inl ())
  else
  Zf (p0,p1,(W (v202+1)))
 else
 some (Sum.inr ())
 partial_fixpoint
def Ym (x:(Qa × (List (List Int)))):Option Bool :=
 match x with
 | (p0,p1) =>
 YB (p0,p1)>>=fun v1 =>
 if v1=false then
  some false
 else
 (
 Zf (p0,p1,0)>>=fun out =>
 match out with
 | .inl _ =>
  some false
 | .inr (_) =>
  some true
 )
 partial_fixpoint
end
def Y6:(Qa × (List (List Int)) × Int)→(Unit ⊕ Unit)→Prop:=fun x r=>match x with
 | (p0,p1,v202)=>LQ f63 63 [1,1,0,1,0,0] 1 ⟨kp 25 [(1,(QK p1)),(2,(.ptr 0 0)),(5,(Qd v202))],(Qv p0.kind p0.shape p0.buffer p0.starts p0.axis p0.amount p0.perm p0.kids)⟩ (P2 .ret (fun _ d=>⟨sl d 25 [(4,(Qq false))],(Qv p0.kind p0.shape p0.buffer p0.starts p0.axis p0.amount p0.perm p0.kids)⟩) (.exit 0) (fun _ d=>⟨sl d 25 [],(Qv p0.kind p0.shape p0.buffer p0.starts p0.axis p0.amount p0.perm p0.kids)⟩) r)
def X2:(Qa × (List (List Int)))→Bool→Prop:=fun x r=>match x,r with
 | (p0,p1),r0=>∀ H,PC prog env 63 ([(Qa.ex p0),(.lst ((List.map (fun l=>Dat.lst ((List.map Qh) l))) p1))].map .dat) H (Qq r0) H
theorem g_ref14_nodes_L1:(∀ x r,Zf x=some r→Y6 x r)∧(∀ x r,Ym x=some r→X2 x r):=by
 refine Zf.mutual_partial_correctness Y6 X2 ?_ ?_
 ·intro Zf Ym Xa Jv x r hm;unfold Y6;obtain ⟨p0,p1,v202⟩:=x;exact lp (Qj (gr 3 (JH Qa.toD p0.kids (es:=Qa.toDs p0.kids) (Qa.toDs_eq _) (re 1 (ri hm (fun hm=>Qp (Qj (Qo (gr 3 (bi hm fun v602 hx hm=>Xw 8 Qa.toD p0.kids v202 v602 (es:=Qa.toDs p0.kids) (d:=(Qa.ex v602)) (Qa.toDs_eq _) hx (Qa.toD_eq v602) rfl (Qf 2 (bi hm fun v603 hx hm=>Yz (Jv _ _ hx []) (re 1 (rin hm (fun hm=>ge 1 (Qs zf)) (fun hm=>Qp (R_G (re 3 (Xa _ _ hm _ kr))))))))))))) (fun hm=>QC zf))))))
 ·intro Zf Xa x r0 hm;unfold X2;obtain ⟨p0,p1⟩:=x;intro H;refine PC_sx (ds:=[(Qa.ex p0),(.lst ((List.map (fun l=>Dat.lst ((List.map Qh) l))) p1))]) (fn:=f63) rfl ?_;exact ge 2 (Qj (gr 2 (bi hm fun v1 hx hm=>cp (QaB hx) (re 1 (rin hm (fun hm=>ge 1 (Qs zf)) (fun hm=>Qp (Qj (ge 1 (Qo (ru2 hm (Xa _) (fun _ d hm=>zf) fun _ d hm=>ge 1 (Qs zf)))))))))))
theorem Xa:∀ x r,Zf x=some r→Y6 x r:=g_ref14_nodes_L1.1
theorem Jv:∀ x r,Ym x=some r→X2 x r:=g_ref14_nodes_L1.2
def X4 (x:(Qa × (List (List Int)))):Option Bool :=
 match x with
 | (p0,p1) =>
 Yk p0>>=fun v1 =>
 if v1≤300 then
  Ym (p0,p1)>>=fun v2 =>
  some v2
 else
 some false
theorem Qat {p0 p1 r0} (hm:X4 (p0,p1)=some r0):FQ 29 [(Qa.ex p0),(.lst ((List.map (fun l=>Dat.lst ((List.map Qh) l))) p1))] (Qq r0):=by
 unfold X4 at hm;exact fp (fn:=f29) rfl (ge 2 (gr 1 (bi hm fun v1 hx hm=>Yz (Jt _ _ hx []) (Qf 2 (gs 8 hm (fun hm=>Qf 2 (bi hm fun v2 hx hm=>Yz (Jv _ _ hx []) (re 2 (Qs zf)))) (fun hm=>re 5 (Qs zf)))))))
def Zs (x:(List Int)):Option Int :=
 match x with
 | p0 =>
 ZU p0>>=fun v1 =>
 if v1≠0 then
  some 0
 else
 Yb p0>>=fun (v2,v3) =>
 some v2
theorem Xk {p0 r0} (hm:Zs p0=some r0):FQ 24 [(Lb p0)] (Qd r0):=by
 unfold Zs at hm;exact fp (fn:=f24) rfl (ge 1 (Qj (gr 1 (bi hm fun v1 hx hm=>cp (Xl hx) (re 1 (rix hm (fun hm=>ge 1 (Qs zf)) (fun hm=>Qp (gr 1 (bi2 hm fun v2 v3 hx hm=>cp (JI hx) (re 5 (ge 2 (Qs zf))))))))))))
def Zx (x:((List Int) × Int × Int × Int)):Option (Unit ⊕ Unit) :=
 match x with
 | (p0,p1,v205,v206) =>
 if v206 < (p0.length:Int) then
  idx p0 v206>>=fun v605 =>
  if (W (v205 * (if v605 < 1 then 1 else v605))) > (W (100 * p1)) then
   some (Sum.inl ())
  else
  Zx (p0,p1,(W (v205 * (if v605 < 1 then 1 else v605))),(W (v206+1)))
 else
 some (Sum.inr ())
 partial_fixpoint
theorem XS:∀ x r,Zx x=some r→match x with|(p0,p1,v205,v206)=>LQ f64 64 [1,1,1,0,1,0,0] 0 ⟨kp 38 [(0,(La p0)),(1,(Qd p1)),(5,(Qd v205)),(6,(Qd v206))],[]⟩ (P2 .ret (fun _ d=>⟨sl d 38 [(4,(Qq false))],[]⟩) (.exit 0) (fun _ d=>⟨sl d 38 [],[]⟩) r):=by
 refine Zx.partial_correctness _ (fun Zx XS x r hm=>?_);obtain ⟨p0,p1,v205,v206⟩:=x;exact lp (Qj (gr 2 (QR Qh p0 (re 1 (ri hm (fun hm=>Qp (Qj (Qo (gr 3 (QA 1 Qh hm fun v605 hm=>Qf 1 (Zi rfl (fun _=>Qaf (k:=.i64) (m:=v605) (n:=1) rfl kr kr) (re 2 (ge 4 (ri hm (fun hm=>ge 1 (Qs zf)) (fun hm=>Qp (R_G (re 3 (XS _ _ hm _ kr))))))))))))) (fun hm=>QC zf))))))
def Xg (x:((List Int) × Int)):Option Bool :=
 match x with
 | (p0,p1) =>
 ((if (p0.length:Int) > 6 then
  some true
 else
 ZU p0>>=fun v3 =>
 some (v3 != 0)
 )>>=fun (v2:Bool) =>
 if v2=true then
  some true
 else
 Zs p0>>=fun v4 =>
 some (decide (v4 > p1))
 )>>=fun (v1:Bool) =>
 if v1=true then
  some false
 else
 (
 Zx (p0,p1,1,0)>>=fun out =>
 match out with
 | .inl _ =>
  some false
 | .inr (_) =>
  some true
 )
theorem Qar {p0 p1 r0} (hm:Xg (p0,p1)=some r0):FQ 64 [(Lb p0),(Qh p1)] (Qq r0):=by
 unfold Xg at hm;exact fp (fn:=f64) rfl (ge 1 (Qj (Qj (bi hm fun v1 hs hm=>Zq (fun d=>⟨sl d 38 [(0,(La p0)),(1,(Qd p1)),(20,(Qq v1))],[]⟩) (have hm:=hs;QaR (Qf 1 (QR Qh p0 (Qf 2 (bi hm fun v2 hs hm=>Xc (j:=8) (fun d=>⟨sl d 38 [(0,(La p0)),(1,(Qd p1)),(14,(Qq v2))],[]⟩) (fun d=>Qf 1 (gsb 15 hm (fun hm=>re 5 ⟨kr,zf⟩) (fun hm=>Qf 1 (bi hm fun v4 hx hm=>cp (Xk hx) (re 3 ⟨kr,zf⟩))))) (fun hJ=>gs 10 hs (fun hm=>Qf 4 zf) (fun hm=>Qf 1 (bi hm fun v3 hx hm=>cp (Xl hx) (Qf 2 zf))))))))) (fun d=>rib hm (fun hm=>ge 1 (Qs zf)) (fun hm=>Qp (ge 1 (Qj (ge 1 (Qo (ru2 hm (XS _) (fun _ d hm=>zf) fun _ d hm=>ge 1 (Qs zf))))))))))))
mutual
def Ze (x:(Qa × Int × Int)):Option (Unit ⊕ Unit) :=
 match x with
 | (p0,p1,v202) =>
 if v202 < (p0.kids.length:Int) then
  idx p0.kids v202>>=fun v602 =>
  Yl (v602,p1)>>=fun v603 =>
  if v603=false then
   some (Sum.inl ())
  else
  Ze (p0,p1,(W (v202+1)))
 else
 some (Sum.inr ())
 partial_fixpoint
def Yl (x:(Qa × Int)):Option Bool :=
 match x with
 | (p0,p1) =>
 Xg (p0.shape,p1)>>=fun v1 =>
 if v1=false then
  some false
 else
 (
 Ze (p0,p1,0)>>=fun out =>
 match out with
 | .inl _ =>
  some false
 | .inr (_) =>
  some true
 )
 partial_fixpoint
end
def Y5:(Qa × Int × Int)→(Unit ⊕ Unit)→Prop:=fun x r=>match x with
 | (p0,p1,v202)=>LQ f30 30 [1,1,0,1,0,0] 1 ⟨kp 26 [(1,(Qd p1)),(2,(.ptr 0 0)),(5,(Qd v202))],(Qv p0.kind p0.shape p0.buffer p0.starts p0.axis p0.amount p0.perm p0.kids)⟩ (P2 .ret (fun _ d=>⟨sl d 26 [(4,(Qq false))],(Qv p0.kind p0.shape p0.buffer p0.starts p0.axis p0.amount p0.perm p0.kids)⟩) (.exit 0) (fun _ d=>⟨sl d 26 [],(Qv p0.kind p0.shape p0.buffer p0.starts p0.axis p0.amount p0.perm p0.kids)⟩) r)
def X1:(Qa × Int)→Bool→Prop:=fun x r=>match x,r with
 | (p0,p1),r0=>∀ H,PC prog env 30 ([(Qa.ex p0),(Qh p1)].map .dat) H (Qq r0) H
theorem g_ref14_cells_L1:(∀ x r,Ze x=some r→Y5 x r)∧(∀ x r,Yl x=some r→X1 x r):=by
 refine Ze.mutual_partial_correctness Y5 X1 ?_ ?_
 ·intro Ze Yl Y9 Ju x r hm;unfold Y5;obtain ⟨p0,p1,v202⟩:=x;exact lp (Qj (gr 3 (JH Qa.toD p0.kids (es:=Qa.toDs p0.kids) (Qa.toDs_eq _) (re 1 (ri hm (fun hm=>Qp (Qj (Qo (gr 3 (bi hm fun v602 hx hm=>Xw 8 Qa.toD p0.kids v202 v602 (es:=Qa.toDs p0.kids) (d:=(Qa.ex v602)) (Qa.toDs_eq _) hx (Qa.toD_eq v602) rfl (Qf 2 (bi hm fun v603 hx hm=>Yz (Ju _ _ hx []) (re 1 (rin hm (fun hm=>ge 1 (Qs zf)) (fun hm=>Qp (R_G (re 3 (Y9 _ _ hm _ kr))))))))))))) (fun hm=>QC zf))))))
 ·intro Ze Y9 x r0 hm;unfold X1;obtain ⟨p0,p1⟩:=x;intro H;refine PC_sx (ds:=[(Qa.ex p0),(Qh p1)]) (fn:=f30) rfl ?_;exact ge 2 (Qj (gr 3 (bi hm fun v1 hx hm=>cp (Qar hx) (re 1 (rin hm (fun hm=>ge 1 (Qs zf)) (fun hm=>Qp (Qj (ge 1 (Qo (ru2 hm (Y9 _) (fun _ d hm=>zf) fun _ d hm=>ge 1 (Qs zf)))))))))))
theorem Y9:∀ x r,Ze x=some r→Y5 x r:=g_ref14_cells_L1.1
theorem Ju:∀ x r,Yl x=some r→X1 x r:=g_ref14_cells_L1.2
def Xi (x:(Qa × (List (List Int)) × Int)):Option Bool :=
 match x with
 | (p0,p1,p2) =>
 (if (p1.length:Int)≤20 then
  Jc (p0,60)>>=fun v2 =>
  some v2
 else
 some false
 )>>=fun (v1:Bool) =>
 (if v1=true then
  X4 (p0,p1)>>=fun v4 =>
  some v4
 else
 some false
 )>>=fun (v3:Bool) =>
 if v3=true then
  Yl ((⟨p0.kind,p0.shape,p0.buffer,p0.starts,p0.axis,p0.amount,p0.perm,p0.kids⟩:Qa),p2)>>=fun v5 =>
  some v5
 else
 some false
theorem Qau {p0 p1 p2 r0} (hm:Xi (p0,p1,p2)=some r0):FQ 8 [(Qa.ex p0),(.lst ((List.map (fun l=>Dat.lst ((List.map Qh) l))) p1)),(Qh p2)] (Qq r0):=by
 unfold Xi at hm;exact fp (fn:=f8) rfl (ge 2 (Qj (QaR (Qf 1 (JH (fun l=>Dat.lst ((List.map Qh) l)) p1 (es:=(List.map (fun l=>Dat.lst ((List.map Qh) l))) p1) rfl (Qf 2 (bi hm fun v1 hs hm=>Xc (j:=7) (fun d=>⟨sl d 24 [(1,(QK p1)),(2,(Qd p2)),(3,(.ptr 0 0)),(6,(Qq false)),(13,(Qq v1))],(Qv p0.kind p0.shape p0.buffer p0.starts p0.axis p0.amount p0.perm p0.kids)⟩) (fun d=>Qf 1 (bi hm fun v3 hs hm=>Xc (j:=12) (fun d=>⟨sl d 24 [(2,(Qd p2)),(3,(.ptr 0 0)),(6,(Qq false)),(18,(Qq v3))],(Qv p0.kind p0.shape p0.buffer p0.starts p0.axis p0.amount p0.perm p0.kids)⟩) (fun d=>Qf 1 (gsb 19 hm (fun hm=>Qf 2 (bi hm fun v5 hx hm=>Yz (Ju _ _ hx []) (re 2 ⟨kr,Qs zf⟩))) (fun hm=>re 5 ⟨kr,Qs zf⟩))) (fun hJ=>gsb 14 hs (fun hm=>Qf 2 (bi hm fun v4 hx hm=>cp (Qat hx) (Qf 1 zf))) (fun hm=>Qf 4 zf)))) (fun hJ=>gs 10 hs (fun hm=>Qf 1 (bi hm fun v2 hx hm=>cp (QaP hx) (Qf 1 zf))) (fun hm=>Qf 3 zf)))))))))
def JF (x:List Int):Option (List Int):=app 8 [] x
def Z5 (x:((List Int) × (List Int) × Int)):Option (Unit ⊕ Unit) :=
 match x with
 | (p0,p1,v201) =>
 if v201 < (p0.length:Int) then
  idx p0 v201>>=fun v601 =>
  idx p1 v201>>=fun v602 =>
  if v601≥v602 then
   some (Sum.inl ())
  else
  Z5 (p0,p1,(W (v201+1)))
 else
 some (Sum.inr ())
 partial_fixpoint
def Z6 (x:((List Int) × (List Int) × Int × Int)):Option (Int) :=
 match x with
 | (p0,p1,v803,v804) =>
 if v804 < (p0.length:Int) then
  idx p1 v804>>=fun v1204 =>
  idx p0 v804>>=fun v1205 =>
  Z6 (p0,p1,(W (v803 * (W (v1204 - v1205)))),(W (v804+1)))
 else
 some v803
 partial_fixpoint
def XP (x:((List Int) × (List Int))):Option Int :=
 match x with
 | (p0,p1) =>
 (
 Z5 (p0,p1,0)>>=fun out =>
 match out with
 | .inl _ =>
  some 0
 | .inr (_) =>
  Z6 (p0,p1,1,0)>>=fun v1203 =>
  some v1203
 )
def Qah (x:QY):Option Int :=
 match x with
 | p0 =>
 XP (p0.lo,p0.hi)>>=fun v1 =>
 some v1
def JE (x:Qc):Option Bool :=
 match x with
 | p0 =>
 Qah (⟨p0.box.lo,p0.box.hi⟩:QY)>>=fun v1 =>
 some (decide (v1 > 0))
def QD (x:((List Qc) × Nat × (List Qc) × Int)):Option ((Nat × (List Qc))) :=
 match x with
 | (q0,v201,v202,v203) =>
 if v203 < (q0.length:Int) then
  idx q0 v203>>=fun v603 =>
  JE v603>>=fun v604 =>
  if v604=true then
   app 120 v202 ([v603]:List Qc)>>=fun v605 =>
   QD (q0,(v201+1),v605,(W (v203+1)))
  else
  QD (q0,v201,v202,(W (v203+1)))
 else
 some (v201,v202)
 partial_fixpoint
def Yu (x:(List Qc)):Option ((Nat × (List Qc))) :=
 match x with
 | q0 =>
 QD (q0,0,([]:List Qc),0)>>=fun (v601,v602) =>
 some (v601,v602)
def Ji (x:(List Qc)):Option (List Qc) :=
 match x with
 | p0 =>
 Yu p0>>=fun (v1,v2) =>
 sortM v2>>=fun v3 =>
 ZY (v3.length=v2.length)>>=fun _ =>
 some v3
end Go.Proofs.Tryz
