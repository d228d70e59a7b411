/-
 The pure machine, walked by program: maps from texts to numbers; the characters of texts, one after the other.
-/
import Derived.Test.YtlddncgoekmflaaGreatPmStr
namespace Go.Pm
open Go
set_option linter.unusedVariables false
def smE (l:List (ByteArray × Int)):List (Value × PV):=l.map fun p=>(.string p.1,Qe p.2)
def getS:List (ByteArray × Int)→ByteArray→Option Int
 | [],_=>none
 | p::l,k=>if k=p.1 then some p.2 else getS l k
def lookS (l:List (ByteArray × Int)) (k:ByteArray):Int × Bool:=((getS l k).getD 0,(getS l k).isSome)
def setS:List (ByteArray × Int)→ByteArray→Int→List (ByteArray × Int)
 | [],k,v=>[(k,v)]
 | p::l,k,v=>if k=p.1 then (k,v)::l else p::setS l k v
theorem findK_sm (k:ByteArray) (v:Int):∀ (l:List (ByteArray × Int)) (i:Nat),(getS l k=none→findK .string (.string k) (smE l) i=some none∧smE l++[(.string k,Qe v)]=smE (setS l k v)) ∧
  ∀ x,getS l k=some x→∃ j,findK .string (.string k) (smE l) i=some (some (i+j,Qe x))∧(smE l).set j (.string k,Qe v)=smE (setS l k v)
 | [],i=>⟨fun _=>⟨rfl,rfl⟩,fun x h=>by cases h⟩
 | p::l,i=>by
  obtain ⟨h1,h2⟩:=findK_sm k v l (i+1)
  have hf:findK .string (.string k) (smE (p::l)) i=match sameK .string (.string k) (.string p.1) with|some true=>some (some (i,Qe p.2))|some false=>findK .string (.string k) (smE l) (i+1)|none=>none:=rfl
  by_cases e:k=p.1
  ·have hs:sameK .string (.string k) (.string p.1)=some true:=by
    have:=(MapKept.bytes_beq k p.1).2 e
    show some (k == p.1)=_; rw [this]
   refine ⟨fun h=>?_,fun x h=>⟨0,?_,?_⟩⟩
   ·rw [getS,if_pos e] at h; cases h
   ·rw [getS,if_pos e] at h; cases h; rw [hf,hs]; rfl
   ·rw [setS,if_pos e]; rfl
  ·have hs:sameK .string (.string k) (.string p.1)=some false:=by
    have:(k == p.1)=false:=by
     cases hb:(k == p.1) with
     | false=>rfl
     | true=>exact absurd ((MapKept.bytes_beq k p.1).1 hb) e
    show some (k == p.1)=_; rw [this]
   refine ⟨fun h=>?_,fun x h=>?_⟩
   ·rw [getS,if_neg e] at h
    obtain ⟨a,b⟩:=h1 h
    refine ⟨by rw [hf,hs]; exact a,?_⟩
    rw [setS,if_neg e]; exact congrArg ((.string p.1,Qe p.2)::·) b
   ·rw [getS,if_neg e] at h
    obtain ⟨j,a,b⟩:=h2 x h
    refine ⟨j+1,by rw [hf,hs]; show findK _ _ _ _=_; rw [a,Nat.add_assoc,Nat.add_comm 1 j],?_⟩
    rw [setS,if_neg e]; exact congrArg ((.string p.1,Qe p.2)::·) b
section
variable {P:Program} {E:Env} {ow:List (Nat × TypeId)} {o:Oper} {ρ:Operand→PV} {H:List Blk} {K:PV→List Blk→Prop}
theorem sm_map {i:Nat} {l:List (ByteArray × Int)} (hb:H[i]? = some (.map (smE l))):mapOf H i=some (smE l):=by
 rw [mapOf,hb]; exact if_pos (List.all_eq_true.2 fun e he=>by obtain ⟨n,_,rfl⟩:=List.mem_map.1 he; rfl)
theorem Qhm {t kt e:TypeId} {m k x:Operand} {i:Nat} {l:List (ByteArray × Int)} {s:ByteArray} {n:Int} (ht:P.underlying t=some (.map kt e)) (hk':P.underlying kt=some .string) (ho:o.op=.mapUpdate t m k x) (hm:ρ m=.mapv i) (hb:H[i]? = some (.map (smE l)))
  (hn:ρ k=.dat (strD s)) (hx:ρ x=Qe n) (hk:K (.tup []) (H.set i (.map (smE (setS l s n))))):SemE P E ow o ρ H K:=by
 have hv:(ρ k).toVal=some (.string s):=by rw [hn]; rfl
 obtain ⟨h1,h2⟩:=findK_sm s n l 0
 cases hg:getS l s with
 | none =>
  obtain ⟨e1,e2⟩:=h1 hg
  have hf:findIn P ρ k t (smE l)=some (.string s,e,none):=by simp [findIn,ht,hk',hv,plainKey,e1]
  refine Qf3 ho hm (sm_map hb) hf ?_
  rw [hx,e2]; exact hk
 | some v =>
  obtain ⟨j,e1,e2⟩:=h2 v hg
  have hf:findIn P ρ k t (smE l)=some (.string s,e,some (0+j,Qe v)):=by simp [findIn,ht,hk',hv,plainKey,e1]
  refine Qf4 ho hm (sm_map hb) hf ?_
  rw [hx,Nat.zero_add,e2]; exact hk
theorem Qf8 {t kt e:TypeId} {m k:Operand} {i:Nat} {l:List (ByteArray × Int)} {s:ByteArray} {v1:Int} {v2:Bool} (he:some (lookS l s)=some (v1,v2)) (ht:P.underlying t=some (.map kt e)) (hk':P.underlying kt=some .string) (hz:zeroOf P e=some (Qj 0)) (ho:o.op=.lookup t m k true) (hm:ρ m=.mapv i) (hb:H[i]? = some (.map (smE l)))
  (hn:ρ k=.dat (strD s)) (hk:K (.tup [Qe v1,Qo v2]) H):SemE P E ow o ρ H K:=by
 simp only [Option.some.injEq,lookS,Prod.mk.injEq] at he
 obtain ⟨rfl,rfl⟩:=he
 have hv:(ρ k).toVal=some (.string s):=by rw [hn]; rfl
 obtain ⟨h1,h2⟩:=findK_sm s 0 l 0
 cases hg:getS l s with
 | none =>
  obtain ⟨e1,_⟩:=h1 hg
  have hf:findIn P ρ k t (smE l)=some (.string s,e,none):=by simp [findIn,ht,hk',hv,plainKey,e1]
  rw [hg] at hk
  exact Qgy hz ho hm (sm_map hb) hf hk
 | some v =>
  obtain ⟨j,e1,_⟩:=h2 v hg
  have hf:findIn P ρ k t (smE l)=some (.string s,e,some (0+j,Qe v)):=by simp [findIn,ht,hk',hv,plainKey,e1]
  rw [hg] at hk
  exact Qg2 ho hm (sm_map hb) hf hk
theorem purge_sm {fl:Bool} (H:List Blk) (h0:Nat) (l:List (ByteArray × Int)):purgeB fl H h0 (.map (smE l))=.map (smE l):=by
 simp only [purgeB,smE,List.map_map]; rfl
theorem purge_it {fl:Bool} (H:List Blk) (h0:Nat) (s:ByteArray) (n:Nat):purgeB fl H h0 (.map (iterE s n))=.map (iterE s n):=rfl
end
theorem rn_sm {f:Nat→Nat} {l:List (ByteArray × Int)}:(Blk.map (smE l)).ren f=.map (smE l):=by
 simp only [Blk.ren,smE,List.map_map]; rfl
theorem under_sm (n:Nat) (l:List (ByteArray × Int)):(Blk.map (smE l)).under n=true:=by
 simp only [Blk.under,smE,List.all_map,List.all_eq_true]
 intro x _; rfl
theorem all_erase {f:Blk→Bool} {x:Blk} (hx:f x=true):∀ (H:List Blk) (j:Nat),H[j]? = some x→(H.eraseIdx j).all f=true→H.all f=true
 | [],j,h,_=>by simp at h
 | b::H,0,h,ha=>by
  cases Option.some.inj h
  rw [List.all_cons,hx]; exact ha
 | b::H,j+1,h,ha=>by
  rw [List.eraseIdx_cons_succ,List.all_cons,Bool.and_eq_true] at ha
  rw [List.all_cons,ha.1]
  exact all_erase hx H j (by simpa using h) ha.2
theorem und_hq {u:Bool} {n:Nat} {H0:List Blk} {l:List (ByteArray × Int)} (j:Nat) (h:(u && (H0.eraseIdx j).all (Blk.under n))=true:=by kernel_rfl) (h0:H0[j]? = some (.map (smE l)):=by rfl):(u && H0.all (Blk.under n))=true:=by
 rw [Bool.and_eq_true] at h
 rw [h.1]; exact all_erase (under_sm n l) H0 j h0 h.2
theorem und_hi {d u:Bool} {n:Nat} {H0:List Blk} {l:List (ByteArray × Int)} (j:Nat) (h:(d && (u && (H0.eraseIdx j).all (Blk.under n)))=true:=by kernel_rfl) (h0:H0[j]? = some (.map (smE l)):=by rfl):(d && (u && H0.all (Blk.under n)))=true:=by
 rw [Bool.and_eq_true] at h
 rw [h.1]; exact und_hq j h.2 h0
section
variable {P:Program} {E:Env} {hn:Hint} {r i:Nat} {ops:Array Oper} {c:Cf} {Q:Cf→Prop}
def nextAt (r:Nat) (ops:Array Oper) (i:Nat) (st:St):Option (ByteArray × Nat × Nat) :=
 match ops[i]? with
 | some o=>if wantedA ops st.slots o=some true then
   (match o.op with
    | .next x true=>match ev st.slots x with
     | .ptr j 0=>(iterOf st.heap j).map fun p=>(p.1,p.2,j)
     | _=>none
    | _=>none) else none
 | none=>none
theorem Qg8 {α:Type} {ma mb:Option α} {rr:α} {s:ByteArray} {pos j:Nat} (hm:(if pos < s.size then ma else mb)=some rr)
  (h1:ma=some rr→G P E hn r ops (i+1) (putF E hn r ops i c (.tup [Qo true,Qe pos,.dat (numD .i32 (Utf8.decode s pos).1)]) fun H=>H.set j (.map (iterE s (pos+(Utf8.decode s pos).2)))) Q)
  (h2:mb=some rr→G P E hn r ops (i+1) (putF E hn r ops i c (.tup [Qo false]) id) Q) (h:nextAt r ops i c.1=some (s,pos,j):=by kernel_rfl):G P E hn r ops i c Q:=by
 have key:semAt P hn r ops i c.1=some (nextSem s pos j c.1.heap):=by
  unfold nextAt at h
  unfold semAt
  split at h
  case h_2=>cases h
  rename_i o ho
  split at h
  case isFalse=>cases h
  rename_i hw
  rw [ho]
  show (if wantedA ops c.fst.slots o=some true then _ else none)=_
  rw [if_pos hw]
  split at h
  case h_2=>cases h
  rename_i x hop
  split at h
  case h_2=>cases h
  rename_i j' hx
  simp only [Option.map_eq_some_iff,Prod.mk.injEq] at h
  obtain ⟨q,hq,rfl,rfl,rfl⟩:=h
  rw [sem]
  simp only [hop,hx,hq]
 by_cases hp:pos < s.size
 ·rw [if_pos hp] at hm
  refine QgX (v:=.tup [Qo true,Qe pos,.dat (numD .i32 (Utf8.decode s pos).1)]) (g:=fun H=>H.set j (.map (iterE s (pos+(Utf8.decode s pos).2)))) ?_ (h1 hm)
  rw [key,nextSem,if_pos hp]; rfl
 ·rw [if_neg hp] at hm
  refine QgX (v:=.tup [Qo false]) (g:=id) ?_ (h2 hm)
  rw [key,nextSem,if_neg hp]; rfl
end
end Go.Pm
