/-
 Models of functions, their walks, and plain laws.
-/
import Derived.Test.YtlnecbnmhhjdpaaGreatDoorPmSx
import Derived.Test.YtlnecbnmhhjdpaaGreatDoorProg
import Derived.Test.YtlnecbnmhhjdpaaGreatDoorPmMap
import Derived.Test.YtlnecbnmhhjdpaaGreatDoorPmMs
import Derived.KernelRfl
namespace Go.Proofs.Tryz
open Go Go.Pm
set_option linter.unusedVariables false
set_option linter.unusedSimpArgs false
set_option maxRecDepth 2000
def Sm (n:Nat):Prop:=n≤9223372036854775807
theorem Sm_of {n m:Nat} (h:n≤m) (hm:m≤9223372036854775807:=by decide):Sm n:=Nat.le_trans h hm
theorem idx_ok {α:Type} {l:List α} {j:Nat} (h:j < l.length):idx l (j:Int)=some l[j]:=by simp [idx,h]
theorem app_ok {α:Type} {b:Nat} {l es:List α} (h:(l.length+es.length) * b≤room):app b l es=some (l++es):=if_pos h
theorem W_ok {n:Int} (h1:-9223372036854775808≤n) (h2:n < 9223372036854775808):W n=n:=by
 simp only [W,IntKind.wrap,IntKind.bits,IntKind.signed]; simp; split <;> omega
theorem W_succ {j:Nat} (h:j < 9223372036854775807):W ((j:Int)+1)=((j+1:Nat):Int):=by rw [W_ok (by omega) (by omega)]; omega
section
variable {α:Type} {p s:List α} {x:α}
theorem Ym:((p.length:Int) < ((p++x::s).length:Int)):=by simp; omega
theorem Y3:¬ ((p.length:Int) < ((p++([]:List α)).length:Int)):=by simp
theorem Zp:idx (p++x::s) (p.length:Int)=some x:=by simp [idx]
theorem QV:p++x::s=(p++[x])++s:=by simp
theorem mid_W (hs:Sm (p++x::s).length):W ((p.length:Int)+1)=((p++[x]).length:Int):=by
 unfold Sm at hs
 rw [W_ok (by omega) (by simp at hs; omega)]; simp
end
theorem Ql {α β:Type} (a:α) (f:α→Option β):(some a>>=f)=f a:=rfl
set_option maxHeartbeats 2000000
def hintOf:FuncId→Hint
 | 3=>{ own:=[((0,0),[(9000,3)])],keep:=[(11,[0,6,8,9])] }
 | 5=>{ own:=[],keep:=[(4,[0,1,5])] }
 | 6=>{ own:=[],keep:=[(2,[0,3]),(7,[0,3,4])] }
 | 9=>{ own:=[((0,0),[(9000,3)]),((1,1),[(1,48)]),((2,2),[(12000,0)]),((5,5),[(5000,3)])],keep:=[] }
 | 10=>{ own:=[((1,0),[(0,9)])],keep:=[(4,[3,4,5])] }
 | 11=>{ own:=[],keep:=[(2,[0,1,4,6])] }
 | 12=>{ own:=[],keep:=[(4,[2,3,5])] }
 | 13=>{ own:=[],keep:=[(2,[0,1,5])] }
 | 15=>{ own:=[((1,0),[(0,33)]),((5,4),[(7000,3)])],keep:=[(3,[3,7,8,9])] }
 | 16=>{ own:=[((1,1),[(0,59)]),((1,2),[(0,59)])],keep:=[(3,[4,11,12,13])],late:=[(8,3),(8,12)] }
 | 24=>{ own:=[((0,0),[(9000,3)]),((2,2),[(12000,0)]),((3,9),[(12000,0)]),((8,0),[(0,3)]),((8,8),[(12000,0)])],keep:=[] }
 | 25=>{ own:=[((1,0),[(0,26)])],keep:=[(3,[1,3,4])] }
 | 26=>{ own:=[],keep:=[(4,[0,1,5])] }
 | 28=>{ own:=[((2,0),[(1000,3)]),((3,0),[(1000,3)])],keep:=[] }
 | 32=>{ own:=[((3,0),[(0,106)])],keep:=[(5,[0,4,5]),(26,[0,4,5,12,13,14])] }
 | 35=>{ own:=[],keep:=[(4,[1,2,15,16,17])] }
 | 39=>{ own:=[],keep:=[(1,[0,1])] }
 | 40=>{ own:=[],keep:=[(2,[0,3])] }
 | 42=>{ own:=[],keep:=[(3,[1,2,5])] }
 | 43=>{ own:=[],keep:=[(3,[1,3,4])] }
 | 44=>{ own:=[],keep:=[(3,[1,3,4])] }
 | 45=>{ own:=[],keep:=[(4,[1,3])] }
 | 46=>{ own:=[((0,0),[(9000,3)]),((8,3),[(12000,0)]),((9,6),[(13000,0)]),((12,5),[(12000,0)])],keep:=[] }
 | 47=>{ own:=[((0,0),[(9000,3)]),((0,1),[(9000,3)])],keep:=[] }
 | 56=>{ own:=[],keep:=[(5,[0,1,6,7])] }
 | 58=>{ own:=[],keep:=[(2,[0,2,4,5,6])] }
 | 60=>{ own:=[],keep:=[(4,[0,1,12,13])] }
 | 61=>{ own:=[],keep:=[(4,[1,2,15,16,17])] }
 | 62=>{ own:=[],keep:=[(4,[0,1,12,13])] }
 | 64=>{ own:=[],keep:=[(3,[0,4,5]),(9,[0,4,6]),(17,[0,7,8])] }
 | 68=>{ own:=[((0,0),[(9000,3)]),((5,3),[(7000,3)])],keep:=[] }
 | 69=>{ own:=[((1,2),[(12000,0)])],keep:=[] }
 | 70=>{ own:=[((4,4),[(0,151)])],keep:=[] }
 | 72=>{ own:=[((1,0),[(0,3)])],keep:=[(3,[0,2,4,7,8])] }
 | 76=>{ own:=[((0,0),[(9000,3)]),((0,1),[(9000,3)]),((1,5),[(12000,0)])],keep:=[] }
 | 77=>{ own:=[((0,0),[(9000,3)]),((0,1),[(9000,3)]),((1,8),[(13000,0)])],keep:=[] }
 | 80=>{ own:=[],keep:=[(2,[0,1,7,8])] }
 | 81=>{ own:=[],keep:=[(2,[0,2,8])] }
 | 85=>{ own:=[((10,5),[(0,2)])],keep:=[(9,[0,1,4,7])] }
 | 88=>{ own:=[],keep:=[(2,[0,1,7,8])] }
 | 93=>{ own:=[((4,1),[(0,3)]),((4,3),[(0,3)])],keep:=[(6,[6,9,23,24,25])] }
 | 95=>{ own:=[((1,0),[(1000,3)]),((9,3),[(0,151)])],keep:=[(3,[1,2,4,6,9,10,11]),(5,[1,2,4,6,7,8,9,10,11])] }
 | 96=>{ own:=[((13,5),[(0,151)])],keep:=[] }
 | 98=>{ own:=[((0,0),[(9000,3)]),((2,2),[(7000,2)]),((3,3),[(12000,0)])],keep:=[] }
 | 99=>{ own:=[((6,0),[(0,3)]),((6,1),[(0,3)]),((18,4),[(0,151)])],keep:=[(8,[4,6,8,9,38,39,40])] }
 | 101=>{ own:=[((6,1),[(0,3)]),((12,4),[(0,151)])],keep:=[(8,[4,6,8,9,41,42,43])] }
 | 102=>{ own:=[((9,10),[(0,151)])],keep:=[] }
 | 107=>{ own:=[],keep:=[(2,[0,1,8])] }
 | 109=>{ own:=[],keep:=[(3,[0,5,6])] }
 | 110=>{ own:=[],keep:=[(3,[1,3,4])] }
 | 113=>{ own:=[((3,1),[(0,3)])],keep:=[] }
 | 116=>{ own:=[((2,0),[(1000,2)]),((3,0),[(1000,2)])],keep:=[] }
 | 137=>{ own:=[((3,2),[(0,2)])],keep:=[] }
 | 138=>{ own:=[((1,2),[(0,3)])],keep:=[(3,[1,6,14,15,16])] }
 | 140=>{ own:=[],keep:=[(5,[0,3,4])] }
 | 147=>{ own:=[],keep:=[(2,[0,1,7,8])] }
 | 148=>{ own:=[],keep:=[(3,[2,8,13,14,15])] }
 | 153=>{ own:=[],keep:=[(8,[7,8])] }
 | 154=>{ own:=[],keep:=[(2,[0,1,7,8])] }
 | 155=>{ own:=[],keep:=[(2,[0,1,7,8])] }
 | 156=>{ own:=[((9,1),[(2000,3)])],keep:=[(3,[0,3,9,10,11]),(11,[6,25,26,27])] }
 | 181=>{ own:=[],keep:=[(2,[1,2,10,11,12])] }
 | 186=>{ own:=[],keep:=[(5,[1,3,23,24,25])] }
 | 187=>{ own:=[((1,0),[(0,3)])],keep:=[(3,[1,7,11,12,13])] }
 | 192=>{ own:=[],keep:=[(4,[0,12,13,14])] }
 | 198=>{ own:=[],keep:=[(3,[1,5,13,14,15])] }
 | 199=>{ own:=[],keep:=[(8,[0,3,4,18,19])] }
 | 200=>{ own:=[],keep:=[(3,[0,1,5,11,12])] }
 | _=>{}
def env:Env where
 summ:=fun _=>none
 hint:=hintOf
 pure:=fun f=>f != 8 && f != 9 && f != 16 && f != 24 && f != 28 && f != 29 && f != 46 && f != 48 && f != 50 && f != 51 && f != 68 && f != 69 && f != 76 && f != 77 && f != 80 && f != 88 && f != 89 && f != 90 && f != 93 && f != 98 && f != 111 && f != 112 && f != 115 && f != 116 && f != 119 && f != 136 && f != 138 && f != 139 && f != 149 && f != 153 && f != 157 && f != 159 && f != 179 && f != 181 && f != 183 && f != 185 && f != 187 && f != 188 && f != 190
 split:=fun f=>f == 28 || f == 116

theorem ag33:aggT prog 33=some false:=by kernel_rfl
theorem by3:bytesOf prog 3=some 8:=by kernel_rfl
theorem el33:elemOfSlice prog 33=some 3:=by kernel_rfl
theorem el54:elemOfSlice prog 54=some 33:=by kernel_rfl
theorem sz3:szOf prog 3=some 1:=by kernel_rfl
theorem sz33:szOf prog 33=some 1:=by kernel_rfl
theorem un3:prog.underlying 3=some (TypeDesc.int IntKind.i64):=by kernel_rfl
theorem un33:prog.underlying 33=some (TypeDesc.slice 3):=by kernel_rfl
theorem un54:prog.underlying 54=some (TypeDesc.slice 33):=by kernel_rfl
theorem ze3:zeroOf prog 3=some (Dat.raw (Value.int IntKind.i64 (0))):=by kernel_rfl
theorem zn3:(zeroOf prog 3).map Dat.num=some 1:=by kernel_rfl
theorem wrap_i64 {n:Int} (h1:-9223372036854775808≤n) (h2:n < 9223372036854775808):IntKind.i64.wrap n=n:=by
 simp only [IntKind.wrap,IntKind.bits,IntKind.signed]; simp; split <;> omega
theorem wrap_succ {j:Nat} (h:j < 9223372036854775807):IntKind.i64.wrap ((j:Int)+1)=((j+1:Nat):Int):=by rw [wrap_i64 (by omega) (by omega)]; omega

def intsD (l:List Int):Dat:=.lst (l.map Qi)
theorem take_next {α:Type} {l:List α} {j:Nat} (h:j < l.length):l.take (j+1)=l.take j++[l[j]]:=List.take_succ_eq_append_getElem h
def zg (n:Nat):Nat:=if n=0 then 0 else 1
theorem c_Grow (n:Nat) (hn:n≤1000000):PC prog env 159 [.ms 0 0 0 0 0,.dat (Qi (n:Int))] [.mt 3 0 []] (.ms 0 (zg n) 0 0 n) [.mt 3 (zg n) (cellsOf Qi (List.replicate n 0))]:=by
 refine PC_body (fn:=f159) (by kernel_rfl) rfl rfl (by kernel_rfl) rfl ?_
 refine QhA (st':=⟨[.ms 0 0 0 0 0,.dat (Qi (n:Int)),.tup [],.tup [],.tup [],.tup [],.tup [],.tup [],.tup [],.tup [],.tup [],.tup [],.tup [],.tup [],.tup [],.tup [],.tup [],.tup [],.tup [],.tup [],.tup [],.tup [],.tup [],.tup [],.tup [],.tup [],.tup []],[.mt 3 0 []]⟩) rfl ?_
 repeat (first|refine Qd ?_|refine Qu ?_|refine Qs ?_)
 refine ZZ ?_
 (refine OpsE_do rfl ?_; refine Jm rfl rfl ?_; refine OpsE_eq (st':=_) (by first|dsimp only [n0,n1,n2,n3,n4,n5,n6,n7,n8,n9,m0,m1,m2,m3,m4,m5,m6,m7,m8,m9,o0,o1,o2,o3,o4,↓reduceIte]|rfl) ?_)
 refine OpsE_nil ?_
 have h0:¬ ((n:Int) < 0):=by omega
 repeat (first|refine Qd ?_|refine Qu ?_|refine Qs ?_)
 refine ZZ ?_
 iterate 2 ((refine OpsE_do rfl ?_; first|refine JB rfl ?_|refine QdA rfl rfl rfl rfl ?_); refine OpsE_eq (st':=_) (by first|(simp only [n0,n1,n2,n3,n4,n5,n6,n7,n8,n9,m0,m1,m2,m3,m4,m5,m6,m7,m8,m9,o0,o1,o2,o3,o4,↓reduceIte,decide_eq_false h0] <;> rfl)|rfl) ?_)
 refine OpsE_nil ?_
 repeat (first|refine Qd ?_|refine Qu ?_|refine Qs ?_)
 refine Xh rfl ?_
 have w1:IntKind.i64.wrap ((n:Int) - IntKind.i64.wrap (0 - ((0:Nat):Int)))=(n:Int):=by rw [wrap_i64 (n:=0 - ((0:Nat):Int)) (by omega) (by omega),wrap_i64 (by omega) (by omega)]; omega
 repeat (first|refine Qd ?_|refine Qu ?_|refine Qs ?_)
 refine ZZ ?_
 iterate 2 ((refine OpsE_do rfl ?_; refine JB rfl ?_); refine OpsE_eq (st':=_) (by first|dsimp only [n0,n1,n2,n3,n4,n5,n6,n7,n8,n9,m0,m1,m2,m3,m4,m5,m6,m7,m8,m9,o0,o1,o2,o3,o4,↓reduceIte]|rfl) ?_)
 (refine OpsE_do rfl ?_; refine Qhp un33 rfl rfl (ZP rfl) ?_; refine OpsE_eq (st':=_) (by first|dsimp only [n0,n1,n2,n3,n4,n5,n6,n7,n8,n9,m0,m1,m2,m3,m4,m5,m6,m7,m8,m9,o0,o1,o2,o3,o4,↓reduceIte]|rfl) ?_)
 iterate 5 ((refine OpsE_do rfl ?_; first|refine JB rfl ?_|refine Qgw un33 rfl rfl ?_|refine QdA rfl rfl rfl rfl ?_|refine Jm rfl rfl ?_); refine OpsE_eq (st':=_) (by first|dsimp only [n0,n1,n2,n3,n4,n5,n6,n7,n8,n9,m0,m1,m2,m3,m4,m5,m6,m7,m8,m9,o0,o1,o2,o3,o4,↓reduceIte]|rfl) ?_)
 refine OpsE_nil ?_
 rw [w1]
 by_cases hz:n=0
 ·subst hz
  repeat (first|refine Qd ?_|refine Qu ?_|refine Qs ?_)
  refine ZZ ?_
  iterate 2 ((refine OpsE_do rfl ?_; first|refine JB rfl ?_|refine QdA rfl rfl rfl rfl ?_); refine OpsE_eq (st':=_) (by first|dsimp only [n0,n1,n2,n3,n4,n5,n6,n7,n8,n9,m0,m1,m2,m3,m4,m5,m6,m7,m8,m9,o0,o1,o2,o3,o4,↓reduceIte]|rfl) ?_)
  refine OpsE_nil ?_
  repeat (first|refine Qd ?_|refine Qu ?_|refine Qs ?_)
  refine Xh rfl ?_
  repeat (first|refine Qd ?_|refine Qu ?_|refine Qs ?_)
  refine ZZ ?_
  iterate 2 ((refine OpsE_do rfl ?_; first|refine JB rfl ?_|refine Jm rfl rfl ?_); refine OpsE_eq (st':=_) (by first|dsimp only [n0,n1,n2,n3,n4,n5,n6,n7,n8,n9,m0,m1,m2,m3,m4,m5,m6,m7,m8,m9,o0,o1,o2,o3,o4,↓reduceIte]|rfl) ?_)
  refine OpsE_nil ?_
  repeat (first|refine Qd ?_|refine Qu ?_|refine Qs ?_)
  refine Qo ?_
  exact ⟨trivial,_,rfl,rfl,rfl⟩
 ·have hp:((n:Int)) > 0:=by omega
  repeat (first|refine Qd ?_|refine Qu ?_|refine Qs ?_)
  refine ZZ ?_
  iterate 2 ((refine OpsE_do rfl ?_; first|refine JB rfl ?_|refine QdA rfl rfl rfl rfl ?_); refine OpsE_eq (st':=_) (by first|(simp only [n0,n1,n2,n3,n4,n5,n6,n7,n8,n9,m0,m1,m2,m3,m4,m5,m6,m7,m8,m9,o0,o1,o2,o3,o4,↓reduceIte,decide_eq_true hp] <;> rfl)|rfl) ?_)
  refine OpsE_nil ?_
  repeat (first|refine Qd ?_|refine Qu ?_|refine Qs ?_)
  refine Qbd rfl ?_
  repeat (first|refine Qd ?_|refine Qu ?_|refine Qs ?_)
  refine ZZ ?_
  iterate 2 ((refine OpsE_do rfl ?_; refine JB rfl ?_); refine OpsE_eq (st':=_) (by first|dsimp only [n0,n1,n2,n3,n4,n5,n6,n7,n8,n9,m0,m1,m2,m3,m4,m5,m6,m7,m8,m9,o0,o1,o2,o3,o4,↓reduceIte]|rfl) ?_)
  (refine OpsE_do rfl ?_; refine Qhp un33 rfl rfl (ZP rfl) ?_; refine OpsE_eq (st':=_) (by first|dsimp only [n0,n1,n2,n3,n4,n5,n6,n7,n8,n9,m0,m1,m2,m3,m4,m5,m6,m7,m8,m9,o0,o1,o2,o3,o4,↓reduceIte]|rfl) ?_)
  (refine OpsE_do rfl ?_; refine Qgk el33 sz3 rfl rfl (cutMs_of (l:=0) (h:=0) rfl rfl (Nat.le_refl _) (Nat.zero_le _) (Or.inl rfl)) ?_; refine OpsE_eq (st':=_) (by first|dsimp only [n0,n1,n2,n3,n4,n5,n6,n7,n8,n9,m0,m1,m2,m3,m4,m5,m6,m7,m8,m9,o0,o1,o2,o3,o4,↓reduceIte]|rfl) ?_)
  (refine OpsE_do rfl ?_; refine JB rfl ?_; refine OpsE_eq (st':=_) (by first|dsimp only [n0,n1,n2,n3,n4,n5,n6,n7,n8,n9,m0,m1,m2,m3,m4,m5,m6,m7,m8,m9,o0,o1,o2,o3,o4,↓reduceIte]|rfl) ?_)
  (refine OpsE_do rfl ?_; refine Qf5 (n:=n) el33 un3 sz3 by3 ze3 rfl (by decide) rfl rfl rfl (ZP rfl) (by omega) (by simp [room]; omega) ?_; refine OpsE_eq (st':=_) (by first|dsimp only [n0,n1,n2,n3,n4,n5,n6,n7,n8,n9,m0,m1,m2,m3,m4,m5,m6,m7,m8,m9,o0,o1,o2,o3,o4,↓reduceIte]|rfl) ?_)
  iterate 2 ((refine OpsE_do rfl ?_; first|refine JB rfl ?_|refine Qgw un33 rfl rfl ?_); refine OpsE_eq (st':=_) (by first|dsimp only [n0,n1,n2,n3,n4,n5,n6,n7,n8,n9,m0,m1,m2,m3,m4,m5,m6,m7,m8,m9,o0,o1,o2,o3,o4,↓reduceIte]|rfl) ?_)
  (refine OpsE_do rfl ?_; refine Qgk el33 sz3 rfl rfl (cutMs_of (l:=0) (h:=0) rfl rfl (Nat.le_refl _) (Nat.zero_le _) (Or.inl rfl)) ?_; refine OpsE_eq (st':=_) (by first|dsimp only [n0,n1,n2,n3,n4,n5,n6,n7,n8,n9,m0,m1,m2,m3,m4,m5,m6,m7,m8,m9,o0,o1,o2,o3,o4,↓reduceIte]|rfl) ?_)
  (refine OpsE_do rfl ?_; refine Jm rfl rfl ?_; refine OpsE_eq (st':=_) (by first|dsimp only [n0,n1,n2,n3,n4,n5,n6,n7,n8,n9,m0,m1,m2,m3,m4,m5,m6,m7,m8,m9,o0,o1,o2,o3,o4,↓reduceIte]|rfl) ?_)
  refine OpsE_nil ?_
  repeat (first|refine Qd ?_|refine Qu ?_|refine Qs ?_)
  refine ZZ ?_
  iterate 2 ((refine OpsE_do rfl ?_; first|refine JB rfl ?_|refine Jm rfl rfl ?_); refine OpsE_eq (st':=_) (by first|dsimp only [n0,n1,n2,n3,n4,n5,n6,n7,n8,n9,m0,m1,m2,m3,m4,m5,m6,m7,m8,m9,o0,o1,o2,o3,o4,↓reduceIte]|rfl) ?_)
  refine OpsE_nil ?_
  repeat (first|refine Qd ?_|refine Qu ?_|refine Qs ?_)
  refine Qo ?_
  refine ⟨trivial,_,rfl,?_,?_⟩
  ·simp [zg,hz,tupOf]
  ·simp [zg,hz,cellsOf,Qi]
def intssD (ls:List (List Int)):Dat:=.lst (ls.map intsD)
theorem flat_next {ls:List (List Int)} {j:Nat} (h:j < ls.length):(ls.take (j+1)).flatten=(ls.take j).flatten++ls[j]:=by
 rw [take_next h,List.flatten_append]; simp
theorem flat_le {ls:List (List Int)} (j:Nat):(ls.take j).flatten.length≤ls.flatten.length:=by
 have:ls.flatten=(ls.take j).flatten++(ls.drop j).flatten:=by rw [← List.flatten_append,List.take_append_drop]
 rw [this,List.length_append]; omega

theorem c_Concat (ls:List (List Int)) (H:List Blk) (hls:ls.length≤1000) (hfl:ls.flatten.length≤1000000):PC prog env 156 [.dat (intssD ls)] H (.dat (intsD ls.flatten)) H:=by
 refine PC_pure (fn:=f156) (by kernel_rfl) rfl rfl (by kernel_rfl) rfl rfl ?_ (by simp [PV.lends])
 refine QhA (st':=⟨[.dat (intssD ls),.tup [],.tup [],.tup [],.tup [],.tup [],.tup [],.tup [],.tup [],.tup [],.tup [],.tup [],.tup [],.tup [],.tup [],.tup [],.tup [],.tup [],.tup [],.tup [],.tup [],.tup [],.tup [],.tup [],.tup [],.tup [],.tup [],.tup [],.tup [],.tup [],.tup [],.tup [],.tup [],.tup [],.tup [],.tup []],[]⟩) rfl ?_
 repeat (first|refine Qd ?_|refine Qu ?_|refine Qs ?_)
 refine ZZ ?_
 (refine OpsE_do rfl ?_; refine Jm rfl rfl ?_; refine OpsE_eq (st':=_) (by first|dsimp only [n0,n1,n2,n3,n4,n5,n6,n7,n8,n9,m0,m1,m2,m3,m4,m5,m6,m7,m8,m9,o0,o1,o2,o3,o4,↓reduceIte]|rfl) ?_)
 refine OpsE_nil ?_
 repeat (first|refine Qd ?_|refine Qu ?_|refine Qs ?_)
 refine ZZ ?_
 (refine OpsE_do rfl ?_; refine Jm rfl rfl ?_; refine OpsE_eq (st':=_) (by first|dsimp only [n0,n1,n2,n3,n4,n5,n6,n7,n8,n9,m0,m1,m2,m3,m4,m5,m6,m7,m8,m9,o0,o1,o2,o3,o4,↓reduceIte]|rfl) ?_)
 refine OpsE_nil ?_
 repeat (first|refine Qd ?_|refine Qu ?_|refine Qs ?_)
 refine ZZ ?_
 iterate 3 ((refine OpsE_do rfl ?_; first|refine JB rfl ?_|refine Qgw un54 rfl rfl ?_); refine OpsE_eq (st':=_) (by first|dsimp only [n0,n1,n2,n3,n4,n5,n6,n7,n8,n9,m0,m1,m2,m3,m4,m5,m6,m7,m8,m9,o0,o1,o2,o3,o4,↓reduceIte]|rfl) ?_)
 refine OpsE_nil ?_
 repeat (first|refine Qd ?_|refine Qu ?_|refine Qs ?_)
 refine Zk ?_
 refine RL_ind (fun (j:Nat)=>⟨[.dat (intssD ls),.undef,.undef,Qg ((ls.take j).flatten.length:Int),.undef,.undef,.undef,.undef,.undef,.dat (intssD ls),Qg (ls.length:Int),Qg (j:Int),.undef,.undef,.undef,.undef,.undef,.undef,.undef,.undef,.undef,.undef,.undef,.undef,.undef,.undef,.undef,.undef,.undef,.undef,.undef,.undef,.undef,.undef,.undef,.undef],[]⟩)
  (fun j=>j≤ls.length) (fun j=>ls.length - j) (fun j hj=>?_) _ 0 _ (Nat.lt_succ_self _) (Nat.zero_le _) (by simp only [intssD,List.length_map]; rfl)
 repeat (first|refine Qd ?_|refine Qu ?_|refine Qs ?_)
 refine ZZ ?_
 (refine OpsE_do rfl ?_; (first|refine QdA rfl rfl rfl rfl ?_|refine E_bin rfl rfl rfl rfl ?_); refine OpsE_eq (st':=_) (by first|dsimp only [n0,n1,n2,n3,n4,n5,n6,n7,n8,n9,m0,m1,m2,m3,m4,m5,m6,m7,m8,m9,o0,o1,o2,o3,o4,↓reduceIte]|rfl) ?_)
 refine OpsE_nil ?_
 repeat (first|refine Qd ?_|refine Qu ?_|refine Qs ?_)
 refine Qhw rfl (fun h=>?_) (fun h=>?_)
 ·have hj':j < ls.length:=by simpa using h
  have hf:=flat_le (ls:=ls) (j+1)
  rw [flat_next hj',List.length_append] at hf
  repeat (first|refine Qd ?_|refine Qu ?_|refine Qs ?_)
  refine ZZ ?_
  (refine OpsE_do rfl ?_; (first|refine Qg1 el54 sz33 rfl rfl rfl rfl (map_get _ (by first|assumption|omega)) rfl ?_|refine Qgv el54 sz33 rfl rfl rfl rfl (map_get _ (by first|assumption|omega)) ?_|refine QeV el54 sz33 rfl rfl rfl rfl (map_get _ (by first|assumption|omega)) ?_); refine OpsE_eq (st':=_) (by first|dsimp only [n0,n1,n2,n3,n4,n5,n6,n7,n8,n9,m0,m1,m2,m3,m4,m5,m6,m7,m8,m9,o0,o1,o2,o3,o4,↓reduceIte]|rfl) ?_)
  iterate 2 ((refine OpsE_do rfl ?_; first|refine Qg3 (ds:=[_]) ag33 sz33 rfl rfl rfl rfl ?_|refine Qg4 (ds:=[_]) ag33 sz33 rfl rfl rfl rfl rfl ?_|refine Jm rfl rfl ?_); refine OpsE_eq (st':=_) (by first|dsimp only [n0,n1,n2,n3,n4,n5,n6,n7,n8,n9,m0,m1,m2,m3,m4,m5,m6,m7,m8,m9,o0,o1,o2,o3,o4,↓reduceIte]|rfl) ?_)
  refine OpsE_nil ?_
  have w1:IntKind.i64.wrap (((ls.take j).flatten.length:Int)+((ls[j].map Qi).length:Int))=((ls.take (j+1)).flatten.length:Int):=by
   rw [flat_next hj',List.length_append,List.length_map,wrap_i64 (by omega) (by omega)]; omega
  have h0:¬ (((ls.take (j+1)).flatten.length:Int) < 0):=by omega
  repeat (first|refine Qd ?_|refine Qu ?_|refine Qs ?_)
  refine ZZ ?_
  iterate 5 ((refine OpsE_do rfl ?_; first|refine JB rfl ?_|refine Qgw un33 rfl rfl ?_|refine QdA rfl rfl rfl rfl ?_|refine Jm rfl rfl ?_); refine OpsE_eq (st':=_) (by first|(simp only [n0,n1,n2,n3,n4,n5,n6,n7,n8,n9,m0,m1,m2,m3,m4,m5,m6,m7,m8,m9,o0,o1,o2,o3,o4,↓reduceIte,w1] <;> rfl)|rfl) ?_)
  refine OpsE_nil ?_
  repeat (first|refine Qd ?_|refine Qu ?_|refine Qs ?_)
  refine ZZ ?_
  iterate 2 ((refine OpsE_do rfl ?_; first|refine JB rfl ?_|refine QdA rfl rfl rfl rfl ?_); refine OpsE_eq (st':=_) (by first|(simp only [n0,n1,n2,n3,n4,n5,n6,n7,n8,n9,m0,m1,m2,m3,m4,m5,m6,m7,m8,m9,o0,o1,o2,o3,o4,↓reduceIte,decide_eq_false h0] <;> rfl)|rfl) ?_)
  refine OpsE_nil ?_
  repeat (first|refine Qd ?_|refine Qu ?_|refine Qs ?_)
  refine Xh rfl ?_
  repeat (first|refine Qd ?_|refine Qu ?_|refine Qs ?_)
  refine ZZ ?_
  iterate 2 ((refine OpsE_do rfl ?_; first|refine QdA rfl rfl rfl rfl ?_|refine JB rfl ?_); refine OpsE_eq (st':=_) (by first|dsimp only [n0,n1,n2,n3,n4,n5,n6,n7,n8,n9,m0,m1,m2,m3,m4,m5,m6,m7,m8,m9,o0,o1,o2,o3,o4,↓reduceIte]|rfl) ?_)
  refine OpsE_nil ?_
  refine ⟨j+1,?_,by omega,hj'⟩
  rw [wrap_succ (by omega)]
  rfl
 ·have hj':j=ls.length:=by simp at h; omega
  subst hj'
  rw [List.take_length]
  repeat (first|refine Qd ?_|refine Qu ?_|refine Qs ?_)
  refine Zh ?_
  repeat (first|refine Qd ?_|refine Qu ?_|refine Qs ?_)
  refine ZZ ?_
  (refine OpsE_do rfl ?_; refine JB rfl ?_; refine OpsE_eq (st':=_) (by first|dsimp only [n0,n1,n2,n3,n4,n5,n6,n7,n8,n9,m0,m1,m2,m3,m4,m5,m6,m7,m8,m9,o0,o1,o2,o3,o4,↓reduceIte]|rfl) ?_)
  (refine OpsE_do rfl ?_; refine Qg9 rfl rfl rfl rfl (c_Grow ls.flatten.length hfl) ?_; refine OpsE_eq (st':=_) (by first|dsimp only [n0,n1,n2,n3,n4,n5,n6,n7,n8,n9,m0,m1,m2,m3,m4,m5,m6,m7,m8,m9,o0,o1,o2,o3,o4,↓reduceIte]|rfl) ?_)
  (refine OpsE_do rfl ?_; refine Jm rfl rfl ?_; refine OpsE_eq (st':=_) (by first|dsimp only [n0,n1,n2,n3,n4,n5,n6,n7,n8,n9,m0,m1,m2,m3,m4,m5,m6,m7,m8,m9,o0,o1,o2,o3,o4,↓reduceIte]|rfl) ?_)
  refine OpsE_nil ?_
  repeat (first|refine Qd ?_|refine Qu ?_|refine Qs ?_)
  refine ZZ ?_
  iterate 3 ((refine OpsE_do rfl ?_; first|refine JB rfl ?_|refine Qgw un54 rfl rfl ?_); refine OpsE_eq (st':=_) (by first|dsimp only [n0,n1,n2,n3,n4,n5,n6,n7,n8,n9,m0,m1,m2,m3,m4,m5,m6,m7,m8,m9,o0,o1,o2,o3,o4,↓reduceIte]|rfl) ?_)
  refine OpsE_nil ?_
  repeat (first|refine Qd ?_|refine Qu ?_|refine Qs ?_)
  refine Zk ?_
  refine RL_h0 (h1:=1) rfl ?_
  refine RL_ind (fun (j:Nat)=>⟨[.undef,.undef,.undef,.undef,.undef,.undef,.ms 0 (zg ls.flatten.length) 0 (ls.take j).flatten.length ls.flatten.length,.undef,.undef,.undef,.undef,.undef,.undef,.undef,.undef,.undef,.undef,.undef,.undef,.undef,.undef,.undef,.undef,.undef,.undef,.dat (intssD ls),Qg (ls.length:Int),Qg (j:Int),.undef,.undef,.undef,.undef,.undef,.undef,.undef,.undef],[.mt 3 (zg ls.flatten.length) (cellsOf Qi ((ls.take j).flatten++List.replicate (ls.flatten.length - (ls.take j).flatten.length) 0))]⟩)
   (fun j=>j≤ls.length) (fun j=>ls.length - j) (fun j hj=>?_) _ 0 _ (Nat.lt_succ_self _) (Nat.zero_le _) ?_
  ·repeat (first|refine Qd ?_|refine Qu ?_|refine Qs ?_)
   refine ZZ ?_
   (refine OpsE_do rfl ?_; (first|refine QdA rfl rfl rfl rfl ?_|refine E_bin rfl rfl rfl rfl ?_); refine OpsE_eq (st':=_) (by first|dsimp only [n0,n1,n2,n3,n4,n5,n6,n7,n8,n9,m0,m1,m2,m3,m4,m5,m6,m7,m8,m9,o0,o1,o2,o3,o4,↓reduceIte]|rfl) ?_)
   refine OpsE_nil ?_
   repeat (first|refine Qd ?_|refine Qu ?_|refine Qs ?_)
   refine Qhw rfl (fun h=>?_) (fun h=>?_)
   ·have hj':j < ls.length:=by simpa using h
    have hf:=flat_le (ls:=ls) (j+1)
    rw [flat_next hj',List.length_append] at hf
    repeat (first|refine Qd ?_|refine Qu ?_|refine Qs ?_)
    refine ZZ ?_
    (refine OpsE_do rfl ?_; (first|refine Qg1 el54 sz33 rfl rfl rfl rfl (map_get _ (by first|assumption|omega)) rfl ?_|refine Qgv el54 sz33 rfl rfl rfl rfl (map_get _ (by first|assumption|omega)) ?_|refine QeV el54 sz33 rfl rfl rfl rfl (map_get _ (by first|assumption|omega)) ?_); refine OpsE_eq (st':=_) (by first|dsimp only [n0,n1,n2,n3,n4,n5,n6,n7,n8,n9,m0,m1,m2,m3,m4,m5,m6,m7,m8,m9,o0,o1,o2,o3,o4,↓reduceIte]|rfl) ?_)
    iterate 2 ((refine OpsE_do rfl ?_; first|refine Qg3 (ds:=[_]) ag33 sz33 rfl rfl rfl rfl ?_|refine Qg4 (ds:=[_]) ag33 sz33 rfl rfl rfl rfl rfl ?_|refine Jm rfl rfl ?_); refine OpsE_eq (st':=_) (by first|dsimp only [n0,n1,n2,n3,n4,n5,n6,n7,n8,n9,m0,m1,m2,m3,m4,m5,m6,m7,m8,m9,o0,o1,o2,o3,o4,↓reduceIte]|rfl) ?_)
    refine OpsE_nil ?_
    have ha:appendMs [.mt 3 (zg ls.flatten.length) (cellsOf Qi ((ls.take j).flatten++List.replicate (ls.flatten.length - (ls.take j).flatten.length) 0))] 3 8 0 (zg ls.flatten.length) 0 (ls.take j).flatten.length ls.flatten.length (cellsOf Qi ls[j]) =
      some (.ms 0 (zg ls.flatten.length) 0 (ls.take (j+1)).flatten.length ls.flatten.length,[.mt 3 (zg ls.flatten.length) (cellsOf Qi ((ls.take (j+1)).flatten++List.replicate (ls.flatten.length - (ls.take (j+1)).flatten.length) 0))]):=by
     rw [flat_next hj']
     generalize (ls.take j).flatten=A at hf ⊢
     generalize ls[j]=B at hf ⊢
     generalize ls.flatten.length=m at hf ⊢
     cases B with
     | nil=>simp only [List.append_nil]; exact appendMs_nil
     | cons x B =>
      rw [ms_append_in (H:=[.mt 3 (zg m) (cellsOf Qi (A++List.replicate (m - A.length) 0))]) (t:=0) (len:=A.length) (es:=x::B) (f:=Qi) (l:=A++List.replicate (m - A.length) 0) (fun _=>rfl) (ZP rfl) (Nat.succ_pos _) (by simp only [List.length_append,List.length_replicate]; omega)]
      have e1:(A++List.replicate (m - A.length) (0:Int)).take A.length=A:=List.take_left' rfl
      have e2:(A++List.replicate (m - A.length) (0:Int)).drop (A.length+(x::B).length)=List.replicate (m - (A++x::B).length) 0:=by
       rw [List.drop_append,List.drop_of_length_le (by omega),List.nil_append,List.drop_replicate,List.length_append]
       congr 1; omega
      rw [e1,e2,Nat.max_eq_left (by omega),List.length_append]
      rfl
    repeat (first|refine Qd ?_|refine Qu ?_|refine Qs ?_)
    refine ZZ ?_
    iterate 2 ((refine OpsE_do rfl ?_; refine JB rfl ?_); refine OpsE_eq (st':=_) (by first|dsimp only [n0,n1,n2,n3,n4,n5,n6,n7,n8,n9,m0,m1,m2,m3,m4,m5,m6,m7,m8,m9,o0,o1,o2,o3,o4,↓reduceIte]|rfl) ?_)
    (refine OpsE_do rfl ?_; refine QeU el33 sz3 by3 zn3 (by decide) rfl rfl (source_lst (f:=Qi) (fun _=>rfl)) ha ?_; refine OpsE_eq (st':=_) (by first|dsimp only [n0,n1,n2,n3,n4,n5,n6,n7,n8,n9,m0,m1,m2,m3,m4,m5,m6,m7,m8,m9,o0,o1,o2,o3,o4,↓reduceIte]|rfl) ?_)
    (refine OpsE_do rfl ?_; refine Jm rfl rfl ?_; refine OpsE_eq (st':=_) (by first|dsimp only [n0,n1,n2,n3,n4,n5,n6,n7,n8,n9,m0,m1,m2,m3,m4,m5,m6,m7,m8,m9,o0,o1,o2,o3,o4,↓reduceIte]|rfl) ?_)
    refine OpsE_nil ?_
    repeat (first|refine Qd ?_|refine Qu ?_|refine Qs ?_)
    refine ZZ ?_
    iterate 2 ((refine OpsE_do rfl ?_; first|refine QdA rfl rfl rfl rfl ?_|refine JB rfl ?_); refine OpsE_eq (st':=_) (by first|dsimp only [n0,n1,n2,n3,n4,n5,n6,n7,n8,n9,m0,m1,m2,m3,m4,m5,m6,m7,m8,m9,o0,o1,o2,o3,o4,↓reduceIte]|rfl) ?_)
    refine OpsE_nil ?_
    refine ⟨j+1,?_,by omega,hj'⟩
    rw [wrap_succ (by omega)]
    refine (prune_some rfl).trans ?_
    dsimp only [m6,m7,o0,o1]
    rw [purge_mt]
    rfl
   ·have hj':j=ls.length:=by simp at h; omega
    subst hj'
    rw [List.take_length,Nat.sub_self,List.replicate_zero,List.append_nil]
    repeat (first|refine Qd ?_|refine Qu ?_|refine Qs ?_)
    refine Zh ?_
    repeat (first|refine Qd ?_|refine Qu ?_|refine Qs ?_)
    refine ZZ ?_
    iterate 2 ((refine OpsE_do rfl ?_; first|refine JB rfl ?_|refine Jm rfl rfl ?_); refine OpsE_eq (st':=_) (by first|dsimp only [n0,n1,n2,n3,n4,n5,n6,n7,n8,n9,m0,m1,m2,m3,m4,m5,m6,m7,m8,m9,o0,o1,o2,o3,o4,↓reduceIte]|rfl) ?_)
    refine OpsE_nil ?_
    repeat (first|refine Qd ?_|refine Qu ?_|refine Qs ?_)
    refine Qo ?_
    refine ⟨trivial,_,rfl,?_⟩
    have r1:=pure_ms (H:=[.mt 3 (zg ls.flatten.length) (cellsOf Qi ls.flatten)]) (g:=zg ls.flatten.length) (t:=0) (cap:=ls.flatten.length) (f:=Qi) (fun _=>rfl) (ZP rfl) (Nat.le_refl _)
    rw [List.take_length] at r1
    show (pureC [.mt 3 (zg ls.flatten.length) (cellsOf Qi ls.flatten)] (.ms 0 (zg ls.flatten.length) 0 ls.flatten.length ls.flatten.length)).map PV.dat=_
    rw [r1]
    rfl
  ·refine (prune_some rfl).trans ?_
   dsimp only [m6,m7,o0,o1]
   rw [purge_mt]
   simp only [intssD,List.length_map]
   rfl

def Z9 (x:List (List Int)):Option (List Int):=if x.length≤1000∧x.flatten.length≤1000000 then some x.flatten else none
def Qdk:List (List Int)→List Int→Prop:=fun x r=>∀ H,PC prog env 156 ([.lst ((List.map (fun l=>Dat.lst ((List.map Qi) l))) x)].map .dat) H (.dat (.lst ((List.map Qi) r))) H
theorem Jy:∀ x r,Z9 x=some r→Qdk x r:=by
 intro x r hm
 unfold Z9 at hm
 split at hm
 ·rename_i h
  cases hm
  intro H
  exact c_Concat x H h.1 h.2
 ·cases hm
structure Qt where
 shape:(List Int)
 data:(List Int)
def Qt.toD (x:Qt):Dat:=.agg [(.lst ((List.map Qi) x.shape)),(.lst ((List.map Qi) x.data))]
theorem Qt.fit (x:Qt):Dat.fits 2 x.toD=true:=rfl
structure Qb where
 name:ByteArray
 value:Qt
def Qb.toD (x:Qb):Dat:=.agg [(strD x.name),(.lst ((List.map Qi) x.value.shape)),(.lst ((List.map Qi) x.value.data))]
theorem Qb.fit (x:Qb):Dat.fits 3 x.toD=true:=rfl
structure Qf where
 kind:Int
 fn:Int
 axis:Int
 name:ByteArray
 nums:(List Int)
 kids:(List Qf)
mutual
def Qf.toD:Qf→Dat
 | ⟨kind,fn,axis,name,nums,kids⟩=>.agg [(Qi kind),(Qi fn),(Qi axis),(strD name),(.lst ((List.map Qi) nums)),(.lst (Qf.toDs kids))]
def Qf.toDs:List Qf→List Dat
 | []=>[]
 | k::ks=>Qf.toD k::Qf.toDs ks
end
theorem Qf.toDs_eq:∀ l:List Qf,Qf.toDs l=l.map Qf.toD
 | []=>rfl
 | k::ks=>by rw [Qf.toDs,Qf.toDs_eq ks]; rfl
def Qf.ex (x:Qf):Dat:=.agg [(Qi x.kind),(Qi x.fn),(Qi x.axis),(strD x.name),(.lst ((List.map Qi) x.nums)),(.lst (Qf.toDs x.kids))]
theorem Qf.toD_eq (x:Qf):x.toD=x.ex:=by cases x; rfl
theorem Qf.fit (x:Qf):Dat.fits 6 x.toD=true:=by cases x; rfl
structure Xz where
 kind:Int
 text:ByteArray
 n:Int
def Xz.toD (x:Xz):Dat:=.agg [(Qi x.kind),(strD x.text),(Qi x.n)]
theorem Xz.fit (x:Xz):Dat.fits 3 x.toD=true:=rfl
structure Qj where
 name:ByteArray
 value:Qt
def Qj.toD (x:Qj):Dat:=.agg [(strD x.name),(.lst ((List.map Qi) x.value.shape)),(.lst ((List.map Qi) x.value.data))]
theorem Qj.fit (x:Qj):Dat.fits 3 x.toD=true:=rfl
structure Qc where
 kind:Int
 shape:(List Int)
 buffer:Int
 starts:(List Int)
 axis:Int
 amount:Int
 perm:(List Int)
 kids:(List Qc)
mutual
def Qc.toD:Qc→Dat
 | ⟨kind,shape,buffer,starts,axis,amount,perm,kids⟩=>.agg [(Qi kind),(.lst ((List.map Qi) shape)),(Qi buffer),(.lst ((List.map Qi) starts)),(Qi axis),(Qi amount),(.lst ((List.map Qi) perm)),(.lst (Qc.toDs kids))]
def Qc.toDs:List Qc→List Dat
 | []=>[]
 | k::ks=>Qc.toD k::Qc.toDs ks
end
theorem Qc.toDs_eq:∀ l:List Qc,Qc.toDs l=l.map Qc.toD
 | []=>rfl
 | k::ks=>by rw [Qc.toDs,Qc.toDs_eq ks]; rfl
def Qc.ex (x:Qc):Dat:=.agg [(Qi x.kind),(.lst ((List.map Qi) x.shape)),(Qi x.buffer),(.lst ((List.map Qi) x.starts)),(Qi x.axis),(Qi x.amount),(.lst ((List.map Qi) x.perm)),(.lst (Qc.toDs x.kids))]
theorem Qc.toD_eq (x:Qc):x.toD=x.ex:=by cases x; rfl
theorem Qc.fit (x:Qc):Dat.fits 8 x.toD=true:=by cases x; rfl
structure Qn where
 left:(List Int)
 right:(List Int)
 shape:(List Int)
 starts:(List Int)
 axis:Int
 amount:Int
 perm:(List Int)
def Qn.toD (x:Qn):Dat:=.agg [(.lst ((List.map Qi) x.left)),(.lst ((List.map Qi) x.right)),(.lst ((List.map Qi) x.shape)),(.lst ((List.map Qi) x.starts)),(Qi x.axis),(Qi x.amount),(.lst ((List.map Qi) x.perm))]
theorem Qn.fit (x:Qn):Dat.fits 7 x.toD=true:=rfl
structure QG where
 values:(List Int)
 scalar:Bool
def QG.toD (x:QG):Dat:=.agg [(.lst ((List.map Qi) x.values)),(QaW x.scalar)]
theorem QG.fit (x:QG):Dat.fits 2 x.toD=true:=rfl
structure ZM where
 core:Qc
 sources:(List Qj)
def ZM.toD (x:ZM):Dat:=.agg [(Qi x.core.kind),(.lst ((List.map Qi) x.core.shape)),(Qi x.core.buffer),(.lst ((List.map Qi) x.core.starts)),(Qi x.core.axis),(Qi x.core.amount),(.lst ((List.map Qi) x.core.perm)),(.lst (Qc.toDs x.core.kids)),(.lst ((List.map Qj.toD) x.sources))]
theorem ZM.fit (x:ZM):Dat.fits 9 x.toD=true:=rfl
abbrev Qdq:Blk:=(.box [(.fn 112 [(.ptr 0 0)])])
abbrev JZ:Blk:=(.box [(.fn 136 [(.ptr 4 0)])])
abbrev QfU:Blk:=(.box [(Qg 0),(.dat (strD ByteArray.empty)),(Qg 0)])
abbrev Qx:Blk:=(.box [Ea,Ea,Ea,Ea,(Qg 0),(Qg 0),Ea])
abbrev XH:Blk:=(.box [(Qg 0),Ea,(Qg 0),Ea,(Qg 0),(Qg 0),Ea,(.dat (.lst (Qc.toDs []))),(.dat (.lst ((List.map Qj.toD) [])))])
abbrev QbD:Blk:=(.box [(Qg 0),Ea,(Qg 0),Ea,(Qg 0),(Qg 0),Ea,(.dat (.lst (Qc.toDs [])))])
def QbO (x:Unit):Option Bool:=some true
def Qf6:Unit→Bool→Prop:=fun x r=>∀ H,PC prog env 4 ([].map .dat) H (Qm r) H
theorem QeP:∀ x r,QbO x=some r→Qf6 x r:=by
 intro x r hm
 cases hm
 intro H
 exact PC_of (n:=200) (by kernel_rfl)
def QcM (x:(Qt × Int)):Option Bool :=
 match x with
 | (p0,p1) =>
 if (p0.shape.length:Int)≤100 then
  some (decide ((p0.data.length:Int)≤p1))
 else
 some false
def Qfv:(Qt × Int)→Bool→Prop:=fun x r=>match x,r with
 | (p0,p1),r0=>∀ H,PC prog env 19 ([(Qt.toD p0),(Qi p1)].map .dat) H (Qm r0) H
theorem QgH:∀ x r,QcM x=some r→Qfv x r:=by
 intro x r0 hm
 unfold QcM at hm
 unfold Qfv
 obtain ⟨p0,p1⟩:=x
 intro H
 refine PC_sx (ds:=[(Qt.toD p0),(Qi p1)]) (fn:=f19) rfl ?_
 refine Qd (R_G (Qa 2 (Qe (Qd (R_G (Qa 2 ?_))))))
 refine QP Qi p0.shape (es:=(List.map Qi) p0.shape) rfl ?_
 refine Qa 2 ?_
 refine Qw 9 hm (rfl) (fun hm=>?_) (fun hm=>?_)
 ·refine Qa 2 ?_
  refine QP Qi p0.data (es:=(List.map Qi) p0.data) rfl ?_
  refine Qa 4 (Qe (Qo ?_))
  obtain rfl:=Qq hm
  exact ⟨trivial,Qk⟩
 refine Qa 7 (Qe (Qo ?_))
 obtain rfl:=Qq hm
 exact ⟨trivial,Qk⟩
def Xc (x:((List Qb) × Int × Int)):Option (Unit ⊕ Unit) :=
 match x with
 | (p0,p1,v201) =>
 if v201 < (p0.length:Int) then
  (idx p0 v201>>=fun v602 =>
  QcM (v602.value,p1)>>=fun (v603:Bool) =>
  if v603=false then
   some true
  else
  idx p0 v201>>=fun v604 =>
  some (decide ((v604.name.size:Int) > 100))
  )>>=fun (v601:Bool) =>
  if v601=true then
   some (Sum.inl ())
  else
  Xc (p0,p1,(W (v201+1)))
 else
 some (Sum.inr ())
 partial_fixpoint
def QdS:((List Qb) × Int × Int)→(Unit ⊕ Unit)→Prop:=fun x r=>match x with
 | (p0,p1,v201)=>∀ st,prune 0 ((QB (QL [1,1,0,1,0,0] (QN f5))).bind (env.hint 5).keepAt) st=⟨kp 32 [(0,(.dat (.lst ((List.map Qb.toD) p0)))),(1,(Qg p1)),(5,(Qg v201))],[]⟩ →
  RL prog env (env.hint 5) true (QL [1,1,0,1,0,0] (QN f5)) 0 st (fun e s=>match r with|.inl _=>e=.ret∧∃ d,s=⟨sl d 32 [(4,(Qm false))],[]⟩|.inr (_)=>e=.exit 0∧∃ d,s=⟨sl d 32 [],[]⟩)
theorem Qbz:∀ x r,Xc x=some r→QdS x r:=by
 refine Xc.partial_correctness _ (fun Xc Qbz x r hm=>?_)
 unfold QdS
 obtain ⟨p0,p1,v201⟩:=x
 intro st hst
 refine RL_at hst ?_
 clear hst
 refine Qd (Qd (R_G (Qa 2 ?_)))
 refine QP Qb.toD p0 (es:=(List.map Qb.toD) p0) rfl ?_
 refine Qa 1 (Qe ?_)
 refine Qy hm (rfl) (fun hm=>?_) (fun hm=>?_)
 ·refine Qs (Qd (Qu (Qd ?_)))
  obtain ⟨v601,hs,hm⟩:=Qh hm
  refine Yx (fun d=>⟨sl d 32 [(0,(.dat (.lst ((List.map Qb.toD) p0)))),(1,(Qg p1)),(5,(Qg v201)),(31,(Qm v601))],[]⟩) ?_ (fun d=>?_)
  ·replace hm:=hs
   clear hs
   refine R_G (Qa 2 ?_)
   refine Zj 3 Qb.toD hm rfl (fun _=>rfl) (fun v602 hm=>?_)
   refine Qa 3 ?_
   obtain ⟨v603,hx,hm⟩:=Qh hm
   have hq:=QgH _ _ hx []
   refine Qr hq ?_
   refine Qa 2 ?_
   refine Qw 23 hm (Xp _) (fun hm=>?_) (fun hm=>?_)
   ·refine Qa 8 (Qe ?_)
    obtain rfl:=Qq hm
    exact Qp
   refine Qa 2 ?_
   refine Zj 3 Qb.toD hm rfl (fun _=>rfl) (fun v604 hm=>?_)
   refine Qa 2 ?_
   refine Zt rfl (fun _=>Qc6 (b:=v604.name) (by kernel_rfl) rfl (by kernel_rfl)) ?_
   refine Qa 2 (Qe ?_)
   obtain rfl:=Qq hm
   exact Qp
  clear hs
  refine Qy hm (Qz _) (fun hm=>?_) (fun hm=>?_)
  ·refine Qd (R_G (Qa 1 (Qe (Qo ?_))))
   obtain rfl:=Qq hm
   exact ⟨rfl,Qp⟩
  refine Qs (R_G (Qa 3 (Qe ?_)))
  exact Qbz _ _ hm _ (by kernel_rfl)
 refine Zh ?_
 obtain rfl:=Qq hm
 exact ⟨rfl,Qp⟩
def Qb5 (x:((List Qb) × Int)):Option Bool :=
 match x with
 | (p0,p1) =>
 if (p0.length:Int) > 12 then
  some false
 else
 (
 Xc (p0,p1,0)>>=fun (out:Unit ⊕ Unit) =>
 match out with
 | .inl _ =>
  some false
 | .inr (_) =>
  some true
 )
def Qfy:((List Qb) × Int)→Bool→Prop:=fun x r=>match x,r with
 | (p0,p1),r0=>∀ H,PC prog env 5 ([(.lst ((List.map Qb.toD) p0)),(Qi p1)].map .dat) H (Qm r0) H
theorem QgK:∀ x r,Qb5 x=some r→Qfy x r:=by
 intro x r0 hm
 unfold Qb5 at hm
 unfold Qfy
 obtain ⟨p0,p1⟩:=x
 intro H
 refine PC_sx (ds:=[(.lst ((List.map Qb.toD) p0)),(Qi p1)]) (fn:=f5) rfl ?_
 refine Qd (R_G (Qa 1 (Qe (Qd (Qd (R_G (Qa 1 ?_)))))))
 refine QP Qb.toD p0 (es:=(List.map Qb.toD) p0) rfl ?_
 refine Qa 1 (Qe ?_)
 refine Qy hm (rfl) (fun hm=>?_) (fun hm=>?_)
 ·refine Qd (R_G (Qa 1 (Qe (Qo ?_))))
  obtain rfl:=Qq hm
  exact ⟨trivial,Qk⟩
 refine Qs (Qd (Qd (R_G (Qa 1 (Qe (Qu ?_))))))
 obtain ⟨out,hs,hm⟩:=Qh hm
 refine Zk ?_
 rcases out with _|_
 ·refine RL_use (Qbz _ _ hs) (by kernel_rfl) ?_
  clear hs
  intro e s hp
  obtain ⟨rfl,d,rfl⟩:=hp
  obtain rfl:=Qq hm
  exact ⟨trivial,Qk⟩
 ·refine RL_use (Qbz _ _ hs) (by kernel_rfl) ?_
  clear hs
  intro e s hp
  obtain ⟨rfl,d,rfl⟩:=hp
  refine Qd (R_G (Qa 1 (Qe (Qo ?_))))
  obtain rfl:=Qq hm
  exact ⟨trivial,Qk⟩
def YS (x:Int):Option Bool :=
 match x with
 | p0 =>
 (if p0≥65 then
  some (decide (p0≤90))
 else
 some false
 )>>=fun (v1:Bool) =>
 (if v1=true then
  some true
 else
 if p0≥97 then
  some (decide (p0≤122))
 else
 some false
 )>>=fun (v2:Bool) =>
 if v2=true then
  some true
 else
 some (p0 == 95)
def QdR:Int→Bool→Prop:=fun x r=>match x,r with
 | p0,r0=>∀ H,PC prog env 38 ([(numD .u8 p0)].map .dat) H (Qm r0) H
theorem Qec:∀ x r,YS x=some r→QdR x r:=by
 intro p0 r0 hm
 unfold YS at hm
 unfold QdR
 intro H
 refine PC_sx (ds:=[(numD .u8 p0)]) (fn:=f38) rfl ?_
 refine Qd (R_G (Qa 1 (Qe (Qd ?_))))
 refine QcY ?_
 refine Qa 3 ?_
 obtain ⟨v1,hs,hm⟩:=Qh hm
 refine YC (j:=6) (fun d=>⟨sl d 21 [(0,(.dat (numD .u8 p0))),(2,(Qm false)),(8,(Qm v1))],[]⟩) (fun d=>?_) (fun hJ=>?_)
 ·clear hs
  refine Qa 1 ?_
  obtain ⟨v2,hs,hm⟩:=Qh hm
  refine YC (j:=14) (fun d=>⟨sl d 21 [(0,(.dat (numD .u8 p0))),(2,(Qm false)),(16,(Qm v2))],[]⟩) (fun d=>?_) (fun hJ=>?_)
  ·clear hs
   refine Qa 1 ?_
   refine Qw 17 hm (Qz _) (fun hm=>?_) (fun hm=>?_)
   ·refine Qa 4 ?_
    refine Qe ⟨by kernel_rfl,?_⟩
    refine Qo ?_
    obtain rfl:=Qq hm
    exact ⟨trivial,Qk⟩
   refine Qa 4 ?_
   refine Qe ⟨by kernel_rfl,?_⟩
   refine Qo ?_
   obtain rfl:=Qq hm
   exact ⟨trivial,Qk⟩
  clear hm
  refine Qw 9 hs (Qz _) (fun hm=>?_) (fun hm=>?_)
  ·refine Qa 7 ?_
   obtain rfl:=Qq hm
   exact hJ _ _
  refine Qa 3 ?_
  refine Qw 12 hm (rfl) (fun hm=>?_) (fun hm=>?_)
  ·refine Qa 4 ?_
   obtain rfl:=Qq hm
   exact hJ _ _
  refine Qa 4 ?_
  obtain rfl:=Qq hm
  exact hJ _ _
 clear hm
 refine Qw 5 hs (rfl) (fun hm=>?_) (fun hm=>?_)
 ·refine Qa 3 ?_
  obtain rfl:=Qq hm
  exact hJ _ _
 refine Qa 3 ?_
 obtain rfl:=Qq hm
 exact hJ _ _
def XB (x:Int):Option Bool :=
 match x with
 | p0 =>
 if p0≥48 then
  some (decide (p0≤57))
 else
 some false
def Qez:Int→Bool→Prop:=fun x r=>match x,r with
 | p0,r0=>∀ H,PC prog env 63 ([(numD .u8 p0)].map .dat) H (Qm r0) H
theorem Qgd:∀ x r,XB x=some r→Qez x r:=by
 intro p0 r0 hm
 unfold XB at hm
 unfold Qez
 intro H
 refine PC_sx (ds:=[(numD .u8 p0)]) (fn:=f63) rfl ?_
 refine Qd (R_G (Qa 1 (Qe (Qd (R_G (Qa 3 ?_))))))
 refine Qw 5 hm (rfl) (fun hm=>?_) (fun hm=>?_)
 ·refine Qa 4 (Qe (Qo ?_))
  obtain rfl:=Qq hm
  exact ⟨trivial,Qk⟩
 refine Qa 4 (Qe (Qo ?_))
 obtain rfl:=Qq hm
 exact ⟨trivial,Qk⟩
def ZO (x:(ByteArray × Int)):Option (Int) :=
 match x with
 | (p0,v201) =>
 (if v201 < (p0.size:Int) then
  sidx p0 v201>>=fun v603 =>
  YS v603>>=fun (v604:Bool) =>
  if v604=true then
   some true
  else
  sidx p0 v201>>=fun v605 =>
  XB v605>>=fun (v606:Bool) =>
  some v606
 else
 some false
 )>>=fun (v602:Bool) =>
 if v602=true then
  ZO (p0,(W (v201+1)))
 else
 some v201
 partial_fixpoint
def QdQ:(ByteArray × Int)→Int→Prop:=fun x r=>match x with
 | (p0,v201)=>∀ st,prune 0 ((QB (QL [1,0,0,0] (QN f39))).bind (env.hint 39).keepAt) st=⟨kp 24 [(0,(.dat (strD p0))),(1,(Qg v201))],[]⟩ →
  RL prog env (env.hint 39) true (QL [1,0,0,0] (QN f39)) 0 st (fun e s=>match r with|v601=>e=.exit 0∧∃ d,s=⟨sl d 24 [(1,(Qg v601))],[]⟩)
theorem Qcy:∀ x r,ZO x=some r→QdQ x r:=by
 refine ZO.partial_correctness _ (fun ZO Qcy x r hm=>?_)
 unfold QdQ
 obtain ⟨p0,v201⟩:=x
 intro st hst
 refine RL_at hst ?_
 clear hst
 refine Qd (Qd ?_)
 obtain ⟨v602,hs,hm⟩:=Qh hm
 refine Yx (fun d=>⟨sl d 24 [(0,(.dat (strD p0))),(1,(Qg v201)),(20,(Qm v602))],[]⟩) ?_ (fun d=>?_)
 ·replace hm:=hs
  clear hs
  refine R_G (Qa 2 ?_)
  refine Zt rfl (fun _=>Qc6 (b:=p0) (by kernel_rfl) rfl (by kernel_rfl)) ?_
  refine Qa 2 ?_
  refine Qw 9 hm (rfl) (fun hm=>?_) (fun hm=>?_)
  ·refine Qa 2 ?_
   obtain ⟨v603,hx,hm⟩:=Qh hm
   refine Zt rfl (fun _=>QfK (b:=p0) (n:=v201) (v:=v603) (k:=.i64) hx (by kernel_rfl) rfl (by kernel_rfl) (by kernel_rfl)) ?_
   obtain ⟨v604,hx,hm⟩:=Qh hm
   have hq:=Qec _ _ hx []
   refine Qr hq ?_
   refine Qa 1 ?_
   refine Qw 14 hm (Qz _) (fun hm=>?_) (fun hm=>?_)
   ·refine Qa 6 (Qe ?_)
    obtain rfl:=Qq hm
    exact Qp
   refine Qa 2 ?_
   obtain ⟨v605,hx,hm⟩:=Qh hm
   refine Zt rfl (fun _=>QfK (b:=p0) (n:=v201) (v:=v605) (k:=.i64) hx (by kernel_rfl) rfl (by kernel_rfl) (by kernel_rfl)) ?_
   obtain ⟨v606,hx,hm⟩:=Qh hm
   have hq:=Qgd _ _ hx []
   refine Qr hq ?_
   refine Qa 2 (Qe ?_)
   obtain rfl:=Qq hm
   exact Qp
  refine Qa 11 (Qe ?_)
  obtain rfl:=Qq hm
  exact Qp
 clear hs
 refine Qy hm (Qz _) (fun hm=>?_) (fun hm=>?_)
 ·refine Qs (Qu (R_G (Qa 3 (Qe ?_))))
  exact Qcy _ _ hm _ (by kernel_rfl)
 refine Zh ?_
 obtain rfl:=Qq hm
 exact ⟨rfl,Qp⟩
def Qb3 (x:(ByteArray × Int)):Option Int :=
 match x with
 | (p0,p1) =>
 ZO (p0,p1)>>=fun (v601:Int) =>
 some v601
def Qfw:(ByteArray × Int)→Int→Prop:=fun x r=>match x,r with
 | (p0,p1),r0=>∀ H,PC prog env 39 ([(strD p0),(Qi p1)].map .dat) H (Qg r0) H
theorem QgI:∀ x r,Qb3 x=some r→Qfw x r:=by
 intro x r0 hm
 unfold Qb3 at hm
 unfold Qfw
 obtain ⟨p0,p1⟩:=x
 intro H
 refine PC_sx (ds:=[(strD p0),(Qi p1)]) (fn:=f39) rfl ?_
 refine Qd (R_G (Qa 1 (Qe (Qd (Qu ?_)))))
 obtain ⟨v601,hs,hm⟩:=Qh hm
 refine Zk ?_
 refine RL_use (Qcy _ _ hs) (by kernel_rfl) ?_
 clear hs
 intro e s hp
 obtain ⟨rfl,d,rfl⟩:=hp
 refine Qd (R_G (Qa 2 (Qe (Qo ?_))))
 obtain rfl:=Qq hm
 exact ⟨trivial,Qk⟩
def YA (x:ByteArray):Option Bool :=
 match x with
 | p0 =>
 (if (p0.size:Int) > 0 then
  sidx p0 0>>=fun v2 =>
  YS v2>>=fun (v3:Bool) =>
  some v3
 else
 some false
 )>>=fun (v1:Bool) =>
 if v1=true then
  Qb3 (p0,0)>>=fun (v4:Int) =>
  some (v4 == (p0.size:Int))
 else
 some false
def Qe8:ByteArray→Bool→Prop:=fun x r=>match x,r with
 | p0,r0=>∀ H,PC prog env 20 ([(strD p0)].map .dat) H (Qm r0) H
theorem Qfi:∀ x r,YA x=some r→Qe8 x r:=by
 intro p0 r0 hm
 unfold YA at hm
 unfold Qe8
 intro H
 refine PC_sx (ds:=[(strD p0)]) (fn:=f20) rfl ?_
 refine Qd (R_G (Qa 1 (Qe (Qd ?_))))
 refine QcY ?_
 refine Qa 1 ?_
 refine Zt rfl (fun _=>Qc6 (b:=p0) (by kernel_rfl) rfl (by kernel_rfl)) ?_
 refine Qa 2 ?_
 obtain ⟨v1,hs,hm⟩:=Qh hm
 refine YC (j:=8) (fun d=>⟨sl d 18 [(0,(.dat (strD p0))),(2,(Qm false)),(10,(Qm v1))],[]⟩) (fun d=>?_) (fun hJ=>?_)
 ·clear hs
  refine Qa 1 ?_
  refine Qw 11 hm (Qz _) (fun hm=>?_) (fun hm=>?_)
  ·refine Qa 1 ?_
   obtain ⟨v4,hx,hm⟩:=Qh hm
   have hq:=QgI _ _ hx []
   refine Qr hq ?_
   refine Qa 1 ?_
   refine Zt rfl (fun _=>Qc6 (b:=p0) (by kernel_rfl) rfl (by kernel_rfl)) ?_
   refine Qa 3 ?_
   refine Qe ⟨by kernel_rfl,?_⟩
   refine Qo ?_
   obtain rfl:=Qq hm
   exact ⟨trivial,Qk⟩
  refine Qa 7 ?_
  refine Qe ⟨by kernel_rfl,?_⟩
  refine Qo ?_
  obtain rfl:=Qq hm
  exact ⟨trivial,Qk⟩
 clear hm
 refine Qw 6 hs (rfl) (fun hm=>?_) (fun hm=>?_)
 ·refine Qa 1 ?_
  obtain ⟨v2,hx,hm⟩:=Qh hm
  refine Zt rfl (fun _=>QfK (b:=p0) (n:=0) (v:=v2) (k:=.i64) hx (by kernel_rfl) rfl (by kernel_rfl) (by kernel_rfl)) ?_
  obtain ⟨v3,hx,hm⟩:=Qh hm
  have hq:=Qec _ _ hx []
  refine Qr hq ?_
  refine Qa 1 ?_
  obtain rfl:=Qq hm
  exact hJ _ _
 refine Qa 4 ?_
 obtain rfl:=Qq hm
 exact hJ _ _
def ZA (x:((List Int) × Bool × Int)):Option (Unit ⊕ Bool) :=
 match x with
 | (p0,v201,v202) =>
 if v202 < (p0.length:Int) then
  idx p0 v202>>=fun v602 =>
  if v602 < 0 then
   some (Sum.inl ())
  else
  if v201=true then
   ZA (p0,true,(W (v202+1)))
  else
  idx p0 v202>>=fun v603 =>
  ZA (p0,(v603 == 0),(W (v202+1)))
 else
 some (Sum.inr v201)
 partial_fixpoint
def Qco:((List Int) × Bool × Int)→(Unit ⊕ Bool)→Prop:=fun x r=>match x with
 | (p0,v201,v202)=>∀ st,prune 0 ((QB (QL [1,1,0,1,0,0] (QN f64))).bind (env.hint 64).keepAt) st=⟨kp 55 [(0,(La p0)),(4,(Qm v201)),(5,(Qg v202))],[]⟩ →
  RL prog env (env.hint 64) true (QL [1,1,0,1,0,0] (QN f64)) 0 st (fun e s=>match r with|.inl _=>e=.ret∧∃ d,s=⟨sl d 55 [(2,(Qg 0)),(3,(Qg 6))],[]⟩|.inr (v601)=>e=.exit 0∧∃ d,s=⟨sl d 55 [(0,(La p0)),(4,(Qm v601))],[]⟩)
theorem XM:∀ x r,ZA x=some r→Qco x r:=by
 refine ZA.partial_correctness _ (fun ZA XM x r hm=>?_)
 unfold Qco
 obtain ⟨p0,v201,v202⟩:=x
 intro st hst
 refine RL_at hst ?_
 clear hst
 refine Qd (Qd (R_G (Qa 2 ?_)))
 refine QP Qi p0 (es:=(List.map Qi) p0) rfl ?_
 refine Qa 1 (Qe ?_)
 refine Qy hm (rfl) (fun hm=>?_) (fun hm=>?_)
 ·refine Qs (Qd (Qu (Qd (Qd (R_G (Qa 2 ?_))))))
  refine Zj 1 Qi hm rfl (fun _=>rfl) (fun v602 hm=>?_)
  refine Qa 2 (Qe ?_)
  refine Qy hm (rfl) (fun hm=>?_) (fun hm=>?_)
  ·refine Qd (R_G (Qa 2 (Qe (Qo ?_))))
   obtain rfl:=Qq hm
   exact ⟨rfl,Qp⟩
  refine Qs (R_G (Qa 2 ?_))
  refine Qw 21 hm (Qz _) (fun hm=>?_) (fun hm=>?_)
  ·refine Qa 7 (Qe (R_G (Qa 3 (Qe ?_))))
   exact XM _ _ hm _ (by kernel_rfl)
  refine Qa 2 ?_
  refine Zj 1 Qi hm rfl (fun _=>rfl) (fun v603 hm=>?_)
  refine Qa 4 (Qe (R_G (Qa 3 (Qe ?_))))
  exact XM _ _ hm _ (by kernel_rfl)
 refine Zh ?_
 obtain rfl:=Qq hm
 exact ⟨rfl,Qp⟩
def ZJ (x:((List Int) × Bool × Int)):Option (Unit ⊕ Unit) :=
 match x with
 | (p0,v601,v804) =>
 if v804 < (p0.length:Int) then
  idx p0 v804>>=fun v1204 =>
  if v1204 > 65536 then
   some (Sum.inl ())
  else
  ZJ (p0,v601,(W (v804+1)))
 else
 some (Sum.inr ())
 partial_fixpoint
def Qcp:((List Int) × Bool × Int)→(Unit ⊕ Unit)→Prop:=fun x r=>match x with
 | (p0,v601,v804)=>∀ st,prune 0 ((QB (QL [1,1,1,0,1,0,0] (QN f64))).bind (env.hint 64).keepAt) st=⟨kp 55 [(0,(La p0)),(4,(Qm v601)),(6,(Qg v804))],[]⟩ →
  RL prog env (env.hint 64) true (QL [1,1,1,0,1,0,0] (QN f64)) 0 st (fun e s=>match r with|.inl _=>e=.ret∧∃ d,s=⟨sl d 55 [(2,(Qg 0)),(3,(Qg 7))],[]⟩|.inr (_)=>e=.exit 2∧∃ d,s=⟨sl d 55 [(0,(La p0)),(4,(Qm v601))],[]⟩)
theorem JL:∀ x r,ZJ x=some r→Qcp x r:=by
 refine ZJ.partial_correctness _ (fun ZJ JL x r hm=>?_)
 unfold Qcp
 obtain ⟨p0,v601,v804⟩:=x
 intro st hst
 refine RL_at hst ?_
 clear hst
 refine Qd (Qd (R_G (Qa 2 ?_)))
 refine QP Qi p0 (es:=(List.map Qi) p0) rfl ?_
 refine Qa 1 (Qe ?_)
 refine Qy hm (rfl) (fun hm=>?_) (fun hm=>?_)
 ·refine Qs (Qd (Qu (Qd (R_G (Qa 2 ?_)))))
  refine Zj 1 Qi hm rfl (fun _=>rfl) (fun v1204 hm=>?_)
  refine Qa 2 (Qe ?_)
  refine Qy hm (rfl) (fun hm=>?_) (fun hm=>?_)
  ·refine Qd (R_G (Qa 2 (Qe (Qo ?_))))
   obtain rfl:=Qq hm
   exact ⟨rfl,Qp⟩
  refine Qs (R_G (Qa 3 (Qe ?_)))
  exact JL _ _ hm _ (by kernel_rfl)
 refine Zh ?_
 obtain rfl:=Qq hm
 exact ⟨rfl,Qp⟩
def ZK (x:((List Int) × Int × Int)):Option (Unit ⊕ Int) :=
 match x with
 | (p0,v1405,v1406) =>
 if v1406 < (p0.length:Int) then
  idx p0 v1406>>=fun v1806 =>
  if (W (v1405 * v1806)) > 65536 then
   some (Sum.inl ())
  else
  ZK (p0,(W (v1405 * v1806)),(W (v1406+1)))
 else
 some (Sum.inr v1405)
 partial_fixpoint
def Qcq:((List Int) × Int × Int)→(Unit ⊕ Int)→Prop:=fun x r=>match x with
 | (p0,v1405,v1406)=>∀ st,prune 0 ((QB (QL [1,1,1,1,1,1,0,1,0,0] (QN f64))).bind (env.hint 64).keepAt) st=⟨kp 55 [(0,(La p0)),(7,(Qg v1405)),(8,(Qg v1406))],[]⟩ →
  RL prog env (env.hint 64) true (QL [1,1,1,1,1,1,0,1,0,0] (QN f64)) 0 st (fun e s=>match r with|.inl _=>e=.ret∧∃ d,s=⟨sl d 55 [(2,(Qg 0)),(3,(Qg 7))],[]⟩|.inr (v1805)=>e=.exit 4∧∃ d,s=⟨sl d 55 [(7,(Qg v1805))],[]⟩)
theorem JM:∀ x r,ZK x=some r→Qcq x r:=by
 refine ZK.partial_correctness _ (fun ZK JM x r hm=>?_)
 unfold Qcq
 obtain ⟨p0,v1405,v1406⟩:=x
 intro st hst
 refine RL_at hst ?_
 clear hst
 refine Qd (Qd (R_G (Qa 2 ?_)))
 refine QP Qi p0 (es:=(List.map Qi) p0) rfl ?_
 refine Qa 1 (Qe ?_)
 refine Qy hm (rfl) (fun hm=>?_) (fun hm=>?_)
 ·refine Qs (Qd (Qu (Qd (R_G (Qa 3 ?_)))))
  refine Zj 1 Qi hm rfl (fun _=>rfl) (fun v1806 hm=>?_)
  refine Qa 3 (Qe (Qd (R_G (Qa 2 (Qe ?_)))))
  refine Qy hm (rfl) (fun hm=>?_) (fun hm=>?_)
  ·refine Qd (R_G (Qa 2 (Qe (Qo ?_))))
   obtain rfl:=Qq hm
   exact ⟨rfl,Qp⟩
  refine Qs (R_G (Qa 3 (Qe ?_)))
  exact JM _ _ hm _ (by kernel_rfl)
 refine Zh ?_
 obtain rfl:=Qq hm
 exact ⟨rfl,Qp⟩
def XV (x:(List Int)):Option (Int × Int) :=
 match x with
 | p0 =>
 (
 ZA (p0,false,0)>>=fun (out:Unit ⊕ Bool) =>
 match out with
 | .inl _ =>
  some (0,6)
 | .inr (v601) =>
  (
  ZJ (p0,v601,0)>>=fun (out:Unit ⊕ Unit) =>
  match out with
  | .inl _ =>
   some (0,7)
  | .inr (_) =>
   if v601=true then
    some (0,0)
   else
   (
   ZK (p0,1,0)>>=fun (out:Unit ⊕ Int) =>
   match out with
   | .inl _ =>
    some (0,7)
   | .inr (v1805) =>
    some (v1805,0)
   )
  )
 )
def QdC:(List Int)→(Int × Int)→Prop:=fun x r=>match x,r with
 | p0,(r0,r1)=>∀ H,PC prog env 64 ([(Lb p0)].map .dat) H (.tup [(Qg r0),(Qg r1)]) H
theorem QdH:∀ x r,XV x=some r→QdC x r:=by
 intro p0 r hm
 unfold XV at hm
 unfold QdC
 obtain ⟨r0,r1⟩:=r
 intro H
 refine PC_sx (ds:=[(Lb p0)]) (fn:=f64) rfl ?_
 refine Qd (R_G (Qa 2 (Qe (Qd (R_G (Qa 1 (Qe (Qd (Qd (R_G (Qa 1 ?_)))))))))))
 refine Qe (Qu ?_)
 obtain ⟨out,hs,hm⟩:=Qh hm
 refine Zk ?_
 rcases out with _|v601
 ·refine RL_use (XM _ _ hs) (by kernel_rfl) ?_
  clear hs
  intro e s hp
  obtain ⟨rfl,d,rfl⟩:=hp
  obtain ⟨rfl,rfl⟩:=Zl hm
  exact ⟨trivial,Qk⟩
 ·refine RL_use (XM _ _ hs) (by kernel_rfl) ?_
  clear hs
  intro e s hp
  obtain ⟨rfl,d,rfl⟩:=hp
  refine Qd (Qd (R_G (Qa 1 (Qe (Qu ?_)))))
  obtain ⟨out,hs,hm⟩:=Qh hm
  refine Zk ?_
  rcases out with _|_
  ·refine RL_use (JL _ _ hs) (by kernel_rfl) ?_
   clear hs
   intro e s hp
   obtain ⟨rfl,d,rfl⟩:=hp
   obtain ⟨rfl,rfl⟩:=Zl hm
   exact ⟨trivial,Qk⟩
  ·refine RL_use (JL _ _ hs) (by kernel_rfl) ?_
   clear hs
   intro e s hp
   obtain ⟨rfl,d,rfl⟩:=hp
   refine Qd (Qd (R_G (Qa 1 (Qe ?_))))
   refine Qy hm (Qz _) (fun hm=>?_) (fun hm=>?_)
   ·refine Qd (R_G (Qa 2 (Qe (Qo ?_))))
    obtain ⟨rfl,rfl⟩:=Zl hm
    exact ⟨trivial,Qk⟩
   refine Qs (Qd (R_G (Qa 1 (Qe (Qd (Qd (R_G (Qa 1 (Qe (Qu ?_))))))))))
   obtain ⟨out,hs,hm⟩:=Qh hm
   refine Zk ?_
   rcases out with _|v1805
   ·refine RL_use (JM _ _ hs) (by kernel_rfl) ?_
    clear hs
    intro e s hp
    obtain ⟨rfl,d,rfl⟩:=hp
    obtain ⟨rfl,rfl⟩:=Zl hm
    exact ⟨trivial,Qk⟩
   ·refine RL_use (JM _ _ hs) (by kernel_rfl) ?_
    clear hs
    intro e s hp
    obtain ⟨rfl,d,rfl⟩:=hp
    refine Qd (R_G (Qa 3 (Qe (Qo ?_))))
    obtain ⟨rfl,rfl⟩:=Zl hm
    exact ⟨trivial,Qk⟩
def Yg (x:((List Int) × Int)):Option (Unit ⊕ Unit) :=
 match x with
 | (p0,v201) =>
 if v201 < (p0.length:Int) then
  idx p0 v201>>=fun v601 =>
  if v601 < 0 then
   some (Sum.inl ())
  else
  Yg (p0,(W (v201+1)))
 else
 some (Sum.inr ())
 partial_fixpoint
def Qc9:((List Int) × Int)→(Unit ⊕ Unit)→Prop:=fun x r=>match x with
 | (p0,v201)=>∀ st,prune 0 ((QB (QL [1,0,1,0,0] (QN f40))).bind (env.hint 40).keepAt) st=⟨kp 29 [(0,(La p0)),(3,(Qg v201))],[]⟩ →
  RL prog env (env.hint 40) true (QL [1,0,1,0,0] (QN f40)) 0 st (fun e s=>match r with|.inl _=>e=.ret∧∃ d,s=⟨sl d 29 [(2,(Qg 6))],[]⟩|.inr (_)=>e=.exit 0∧∃ d,s=⟨sl d 29 [(0,(La p0))],[]⟩)
theorem QaH:∀ x r,Yg x=some r→Qc9 x r:=by
 refine Yg.partial_correctness _ (fun Yg QaH x r hm=>?_)
 unfold Qc9
 obtain ⟨p0,v201⟩:=x
 intro st hst
 refine RL_at hst ?_
 clear hst
 refine Qd (Qd (R_G (Qa 2 ?_)))
 refine QP Qi p0 (es:=(List.map Qi) p0) rfl ?_
 refine Qa 1 (Qe ?_)
 refine Qy hm (rfl) (fun hm=>?_) (fun hm=>?_)
 ·refine Qs (Qd (Qu (Qd (R_G (Qa 2 ?_)))))
  refine Zj 1 Qi hm rfl (fun _=>rfl) (fun v601 hm=>?_)
  refine Qa 2 (Qe ?_)
  refine Qy hm (rfl) (fun hm=>?_) (fun hm=>?_)
  ·refine Qd (R_G (Qa 1 (Qe (Qo ?_))))
   obtain rfl:=Qq hm
   exact ⟨rfl,Qp⟩
  refine Qs (R_G (Qa 3 (Qe ?_)))
  exact QaH _ _ hm _ (by kernel_rfl)
 refine Zh ?_
 obtain rfl:=Qq hm
 exact ⟨rfl,Qp⟩
def JS (x:(List Int)):Option Int :=
 match x with
 | p0 =>
 (
 Yg (p0,0)>>=fun (out:Unit ⊕ Unit) =>
 match out with
 | .inl _ =>
  some 6
 | .inr (_) =>
  XV p0>>=fun ((v602,v603):(Int × Int)) =>
  (if (p0.length:Int) > 16 then
   some true
  else
  some (v603 != 0)
  )>>=fun (v604:Bool) =>
  if v604=true then
   some 7
  else
  some 0
 )
def Qev:(List Int)→Int→Prop:=fun x r=>match x,r with
 | p0,r0=>∀ H,PC prog env 40 ([(Lb p0)].map .dat) H (Qg r0) H
theorem QeR:∀ x r,JS x=some r→Qev x r:=by
 intro p0 r0 hm
 unfold JS at hm
 unfold Qev
 intro H
 refine PC_sx (ds:=[(Lb p0)]) (fn:=f40) rfl ?_
 refine Qd (R_G (Qa 1 (Qe (Qd (Qd (R_G (Qa 1 (Qe (Qu ?_)))))))))
 obtain ⟨out,hs,hm⟩:=Qh hm
 refine Zk ?_
 rcases out with _|_
 ·refine RL_use (QaH _ _ hs) (by kernel_rfl) ?_
  clear hs
  intro e s hp
  obtain ⟨rfl,d,rfl⟩:=hp
  obtain rfl:=Qq hm
  exact ⟨trivial,Qk⟩
 ·refine RL_use (QaH _ _ hs) (by kernel_rfl) ?_
  clear hs
  intro e s hp
  obtain ⟨rfl,d,rfl⟩:=hp
  refine Qd (R_G (Qa 1 ?_))
  obtain ⟨⟨v602,v603⟩,hx,hm⟩:=Qh hm
  have hq:=QdH _ _ hx []
  refine Qr hq ?_
  refine Qa 5 (Qe (Qd (Qd ?_)))
  obtain ⟨v604,hs,hm⟩:=Qh hm
  refine Yx (fun d=>⟨sl d 29 [(28,(Qm v604))],[]⟩) ?_ (fun d=>?_)
  ·replace hm:=hs
   clear hs
   refine R_G (Qa 1 ?_)
   refine QP Qi p0 (es:=(List.map Qi) p0) rfl ?_
   refine Qa 2 ?_
   refine Qw 25 hm (rfl) (fun hm=>?_) (fun hm=>?_)
   ·refine Qa 3 (Qe ?_)
    obtain rfl:=Qq hm
    exact Qp
   refine Qa 3 (Qe ?_)
   obtain rfl:=Qq hm
   exact Qp
  clear hs
  refine Qy hm (Qz _) (fun hm=>?_) (fun hm=>?_)
  ·refine Qd (R_G (Qa 1 (Qe (Qo ?_))))
   obtain rfl:=Qq hm
   exact ⟨trivial,Qk⟩
  refine Qs (Qd (R_G (Qa 1 (Qe (Qo ?_)))))
  obtain rfl:=Qq hm
  exact ⟨trivial,Qk⟩
def QaY (x:(List Int)):Option Int :=
 match x with
 | p0 =>
 JS p0>>=fun (v1:Int) =>
 if v1≠0 then
  some 0
 else
 XV p0>>=fun ((v2,v3):(Int × Int)) =>
 some v2
def Qeu:(List Int)→Int→Prop:=fun x r=>match x,r with
 | p0,r0=>∀ H,PC prog env 41 ([(Lb p0)].map .dat) H (Qg r0) H
theorem Qf9:∀ x r,QaY x=some r→Qeu x r:=by
 intro p0 r0 hm
 unfold QaY at hm
 unfold Qeu
 intro H
 refine PC_sx (ds:=[(Lb p0)]) (fn:=f41) rfl ?_
 refine Qd (R_G (Qa 1 (Qe (Qd (Qd (R_G (Qa 1 ?_)))))))
 obtain ⟨v1,hx,hm⟩:=Qh hm
 have hq:=QeR _ _ hx []
 refine Qr hq ?_
 refine Qa 1 (Qe ?_)
 refine Qy hm (ne_dec _ _) (fun hm=>?_) (fun hm=>?_)
 ·refine Qd (R_G (Qa 1 (Qe (Qo ?_))))
  obtain rfl:=Qq hm
  exact ⟨trivial,Qk⟩
 refine Qs (Qd (R_G (Qa 1 ?_)))
 obtain ⟨⟨v2,v3⟩,hx,hm⟩:=Qh hm
 have hq:=QdH _ _ hx []
 refine Qr hq ?_
 refine Qa 5 (Qe (Qd (R_G (Qa 2 (Qe (Qo ?_))))))
 obtain rfl:=Qq hm
 exact ⟨trivial,Qk⟩
def Qa0 (x:Qt):Option Int :=
 match x with
 | p0 =>
 JS p0.shape>>=fun (v1:Int) =>
 (if v1=0 then
  QaY p0.shape>>=fun (v3:Int) =>
  some ((p0.data.length:Int) != v3)
 else
 some false
 )>>=fun (v2:Bool) =>
 if v2=true then
  some 5
 else
 some v1
def Qex:Qt→Int→Prop:=fun x r=>match x,r with
 | p0,r0=>∀ H,PC prog env 21 ([(Qt.toD p0)].map .dat) H (Qg r0) H
theorem Qgb:∀ x r,Qa0 x=some r→Qex x r:=by
 intro p0 r0 hm
 unfold Qa0 at hm
 unfold Qex
 intro H
 refine PC_sx (ds:=[(Qt.toD p0)]) (fn:=f21) rfl ?_
 refine Qd (R_G (Qa 2 (Qe (Qd (R_G (Qa 2 ?_))))))
 obtain ⟨v1,hx,hm⟩:=Qh hm
 have hq:=QeR _ _ hx []
 refine Qr hq ?_
 refine Qa 1 (Qe (Qd (Qd ?_)))
 obtain ⟨v2,hs,hm⟩:=Qh hm
 refine Yx (fun d=>⟨sl d 19 [(3,(Qg v1)),(17,(Qm v2))],[(.box [(La p0.shape),(La p0.data)])]⟩) ?_ (fun d=>?_)
 ·replace hm:=hs
  clear hs
  refine QaB ?_
  refine Qa 3 ?_
  refine Qw 9 hm (ZN _ _) (fun hm=>?_) (fun hm=>?_)
  ·refine Qa 2 ?_
   refine QP Qi p0.data (es:=(List.map Qi) p0.data) rfl ?_
   refine Qa 2 ?_
   obtain ⟨v3,hx,hm⟩:=Qh hm
   have hq:=Qf9 _ _ hx []
   refine Qr hq ?_
   refine Qa 2 ?_
   refine Qe ⟨by kernel_rfl,?_⟩
   obtain rfl:=Qq hm
   exact Qp
  refine Qa 8 ?_
  refine Qe ⟨by kernel_rfl,?_⟩
  obtain rfl:=Qq hm
  exact Qp
 clear hs
 refine Qy hm (Qz _) (fun hm=>?_) (fun hm=>?_)
 ·refine Qd (R_G (Qa 1 (Qe (Qo ?_))))
  obtain rfl:=Qq hm
  exact ⟨trivial,Qk⟩
 refine Qs (Qd (R_G (Qa 2 (Qe (Qo ?_)))))
 obtain rfl:=Qq hm
 exact ⟨trivial,Qk⟩
def YJ (x:(Int × (List Qb) × Int)):Option (Unit ⊕ Unit) :=
 match x with
 | (v201,p0,v806) =>
 if v806 < v201 then
  idx p0 v806>>=fun v1206 =>
  idx p0 v201>>=fun v1207 =>
  if v1206.name=v1207.name then
   some (Sum.inl ())
  else
  YJ (v201,p0,(W (v806+1)))
 else
 some (Sum.inr ())
 partial_fixpoint
def Qde:(Int × (List Qb) × Int)→(Unit ⊕ Unit)→Prop:=fun x r=>match x with
 | (v201,p0,v806)=>∀ st,prune 0 ((QB (QL [1,0,1,0,0,1,0,0,1,1,0,0] (QN f6))).bind (env.hint 6).keepAt) st=⟨kp 43 [(0,(.dat (.lst ((List.map Qb.toD) p0)))),(3,(Qg v201)),(4,(Qg v806))],[]⟩ →
  RL prog env (env.hint 6) true (QL [1,0,1,0,0,1,0,0,1,1,0,0] (QN f6)) 0 st (fun e s=>match r with|.inl _=>e=.ret∧∃ d,s=⟨sl d 43 [(2,(Qm false))],[]⟩|.inr (_)=>e=.exit 2∧∃ d,s=⟨sl d 43 [(0,(.dat (.lst ((List.map Qb.toD) p0)))),(3,(Qg v201))],[]⟩)
theorem QaO:∀ x r,YJ x=some r→Qde x r:=by
 refine YJ.partial_correctness _ (fun YJ QaO x r hm=>?_)
 unfold Qde
 obtain ⟨v201,p0,v806⟩:=x
 intro st hst
 refine RL_at hst ?_
 clear hst
 refine Qd (Qd (R_G (Qa 3 (Qe ?_))))
 refine Qy hm (rfl) (fun hm=>?_) (fun hm=>?_)
 ·refine Qs (Qd (Qu (Qd ?_)))
  refine QaB ?_
  refine Qa 2 ?_
  refine Zj 3 Qb.toD hm rfl (fun _=>rfl) (fun v1206 hm=>?_)
  refine Qa 4 ?_
  refine Zj 3 Qb.toD hm rfl (fun _=>rfl) (fun v1207 hm=>?_)
  refine Qa 2 ?_
  refine Zt rfl (fun _=>Qc5 (a:=v1206.name) (b:=v1207.name) rfl (by kernel_rfl) (by kernel_rfl)) ?_
  refine Qe ⟨by kernel_rfl,?_⟩
  refine Qy hm (rfl) (fun hm=>?_) (fun hm=>?_)
  ·refine Qd (R_G (Qa 1 (Qe (Qo ?_))))
   obtain rfl:=Qq hm
   exact ⟨rfl,Qp⟩
  refine Qs (R_G (Qa 3 (Qe ?_)))
  exact QaO _ _ hm _ (by kernel_rfl)
 refine Zh ?_
 obtain rfl:=Qq hm
 exact ⟨rfl,Qp⟩
def YI (x:((List Qb) × Int)):Option (Unit ⊕ Unit) :=
 match x with
 | (p0,v201) =>
 if v201 < (p0.length:Int) then
  (idx p0 v201>>=fun v602 =>
  YA v602.name>>=fun (v603:Bool) =>
  if v603=false then
   some true
  else
  idx p0 v201>>=fun v604 =>
  Qa0 v604.value>>=fun (v605:Int) =>
  some (v605 != 0)
  )>>=fun (v601:Bool) =>
  if v601=true then
   some (Sum.inl ())
  else
  (
  YJ (v201,p0,0)>>=fun (out:Unit ⊕ Unit) =>
  match out with
  | .inl _ =>
   some (Sum.inl ())
  | .inr (_) =>
   YI (p0,(W (v201+1)))
  )
 else
 some (Sum.inr ())
 partial_fixpoint
def Qdd:((List Qb) × Int)→(Unit ⊕ Unit)→Prop:=fun x r=>match x with
 | (p0,v201)=>∀ st,prune 0 ((QB (QL [1,0,1,0,0] (QN f6))).bind (env.hint 6).keepAt) st=⟨kp 43 [(0,(.dat (.lst ((List.map Qb.toD) p0)))),(3,(Qg v201))],[]⟩ →
  RL prog env (env.hint 6) true (QL [1,0,1,0,0] (QN f6)) 0 st (fun e s=>match r with|.inl _=>e=.ret∧∃ d,s=⟨sl d 43 [(2,(Qm false))],[]⟩|.inr (_)=>e=.exit 0∧∃ d,s=⟨sl d 43 [],[]⟩)
theorem QaN:∀ x r,YI x=some r→Qdd x r:=by
 refine YI.partial_correctness _ (fun YI QaN x r hm=>?_)
 unfold Qdd
 obtain ⟨p0,v201⟩:=x
 intro st hst
 refine RL_at hst ?_
 clear hst
 refine Qd (Qd (R_G (Qa 2 ?_)))
 refine QP Qb.toD p0 (es:=(List.map Qb.toD) p0) rfl ?_
 refine Qa 1 (Qe ?_)
 refine Qy hm (rfl) (fun hm=>?_) (fun hm=>?_)
 ·refine Qs (Qd (Qu (Qd (Qd ?_))))
  obtain ⟨v601,hs,hm⟩:=Qh hm
  refine Yx (fun d=>⟨sl d 43 [(0,(.dat (.lst ((List.map Qb.toD) p0)))),(3,(Qg v201)),(26,(Qm v601))],[]⟩) ?_ (fun d=>?_)
  ·replace hm:=hs
   clear hs
   refine R_G (Qa 2 ?_)
   refine Zj 3 Qb.toD hm rfl (fun _=>rfl) (fun v602 hm=>?_)
   refine Qa 2 ?_
   obtain ⟨v603,hx,hm⟩:=Qh hm
   have hq:=Qfi _ _ hx []
   refine Qr hq ?_
   refine Qa 2 ?_
   refine Qw 18 hm (Xp _) (fun hm=>?_) (fun hm=>?_)
   ·refine Qa 8 (Qe ?_)
    obtain rfl:=Qq hm
    exact Qp
   refine Qa 2 ?_
   refine Zj 3 Qb.toD hm rfl (fun _=>rfl) (fun v604 hm=>?_)
   refine Qa 2 ?_
   obtain ⟨v605,hx,hm⟩:=Qh hm
   have hq:=Qgb _ _ hx []
   refine Qr hq ?_
   refine Qa 2 (Qe ?_)
   obtain rfl:=Qq hm
   exact Qp
  clear hs
  refine Qy hm (Qz _) (fun hm=>?_) (fun hm=>?_)
  ·refine Qd (R_G (Qa 1 (Qe (Qo ?_))))
   obtain rfl:=Qq hm
   exact ⟨rfl,Qp⟩
  refine Qs (Qd (R_G (Qa 1 (Qe (Qu ?_)))))
  obtain ⟨out,hs,hm⟩:=Qh hm
  refine Zk ?_
  rcases out with _|_
  ·refine RL_use (QaO _ _ hs) (by kernel_rfl) ?_
   clear hs
   intro e s hp
   obtain ⟨rfl,d,rfl⟩:=hp
   obtain rfl:=Qq hm
   exact ⟨rfl,Qp⟩
  ·refine RL_use (QaO _ _ hs) (by kernel_rfl) ?_
   clear hs
   intro e s hp
   obtain ⟨rfl,d,rfl⟩:=hp
   refine R_G (Qa 3 (Qe ?_))
   exact QaN _ _ hm _ (by kernel_rfl)
 refine Zh ?_
 obtain rfl:=Qq hm
 exact ⟨rfl,Qp⟩
def Qa4 (x:(List Qb)):Option Bool :=
 match x with
 | p0 =>
 (
 YI (p0,0)>>=fun (out:Unit ⊕ Unit) =>
 match out with
 | .inl _ =>
  some false
 | .inr (_) =>
  some true
 )
def QeE:(List Qb)→Bool→Prop:=fun x r=>match x,r with
 | p0,r0=>∀ H,PC prog env 6 ([(.lst ((List.map Qb.toD) p0))].map .dat) H (Qm r0) H
theorem Qgh:∀ x r,Qa4 x=some r→QeE x r:=by
 intro p0 r0 hm
 unfold Qa4 at hm
 unfold QeE
 intro H
 refine PC_sx (ds:=[(.lst ((List.map Qb.toD) p0))]) (fn:=f6) rfl ?_
 refine Qd (R_G (Qa 1 (Qe (Qd (Qd (R_G (Qa 1 (Qe (Qu ?_)))))))))
 obtain ⟨out,hs,hm⟩:=Qh hm
 refine Zk ?_
 rcases out with _|_
 ·refine RL_use (QaN _ _ hs) (by kernel_rfl) ?_
  clear hs
  intro e s hp
  obtain ⟨rfl,d,rfl⟩:=hp
  obtain rfl:=Qq hm
  exact ⟨trivial,Qk⟩
 ·refine RL_use (QaN _ _ hs) (by kernel_rfl) ?_
  clear hs
  intro e s hp
  obtain ⟨rfl,d,rfl⟩:=hp
  refine Qd (R_G (Qa 1 (Qe (Qo ?_))))
  obtain rfl:=Qq hm
  exact ⟨trivial,Qk⟩
mutual
def Yf (x:(Qf × Int × Int)):Option (Int) :=
 match x with
 | (p0,v201,v202) =>
 (if v202 < (p0.kids.length:Int) then
  some (decide (v201≥0))
 else
 some false
 )>>=fun (v602:Bool) =>
 if v602=true then
  idx p0.kids v202>>=fun v603 =>
  JI (v603,v201)>>=fun (v604:Int) =>
  Yf (p0,v604,(W (v202+1)))
 else
 some v201
 partial_fixpoint
def JI (x:(Qf × Int)):Option Int :=
 match x with
 | (p0,p1) =>
 Yf (p0,(W (p1 - 1)),0)>>=fun (v601:Int) =>
 some v601
 partial_fixpoint
end
def Qa7:(Qf × Int × Int)→Int→Prop:=fun x r=>match x with
 | (p0,v201,v202)=>∀ st,prune 1 ((QB (QL [1,1,0,1,0,0] (QN f42))).bind (env.hint 42).keepAt) st=⟨kp 27 [(1,(Qg v201)),(2,(.ptr 0 0)),(5,(Qg v202))],[(.box [(Qg p0.kind),(Qg p0.fn),(Qg p0.axis),(.dat (strD p0.name)),(La p0.nums),(.dat (.lst (Qf.toDs p0.kids)))])]⟩ →
  RL prog env (env.hint 42) true (QL [1,1,0,1,0,0] (QN f42)) 1 st (fun e s=>match r with|v601=>e=.exit 0∧∃ d,s=⟨sl d 27 [(1,(Qg v601))],[(.box [(Qg p0.kind),(Qg p0.fn),(Qg p0.axis),(.dat (strD p0.name)),(La p0.nums),(.dat (.lst (Qf.toDs p0.kids)))])]⟩)
def Qci:(Qf × Int)→Int→Prop:=fun x r=>match x,r with
 | (p0,p1),r0=>∀ H,PC prog env 42 ([(Qf.ex p0),(Qi p1)].map .dat) H (Qg r0) H
theorem g_ref08_left_L1:(∀ x r,Yf x=some r→Qa7 x r)∧(∀ x r,JI x=some r→Qci x r):=by
 refine Yf.mutual_partial_correctness Qa7 Qci ?_ ?_
 ·intro Yf JI Qba Qdv x r hm
  unfold Qa7
  obtain ⟨p0,v201,v202⟩:=x
  intro st hst
  refine RL_at hst ?_
  clear hst
  refine Qd (Qd ?_)
  obtain ⟨v602,hs,hm⟩:=Qh hm
  refine Yx (fun d=>⟨sl d 27 [(1,(Qg v201)),(2,(.ptr 0 0)),(5,(Qg v202)),(16,(Qm v602))],[(.box [(Qg p0.kind),(Qg p0.fn),(Qg p0.axis),(.dat (strD p0.name)),(La p0.nums),(.dat (.lst (Qf.toDs p0.kids)))])]⟩) ?_ (fun d=>?_)
  ·replace hm:=hs
   clear hs
   refine R_G (Qa 3 ?_)
   refine QP Qf.toD p0.kids (es:=Qf.toDs p0.kids) (Qf.toDs_eq _) ?_
   refine Qa 2 ?_
   refine Qw 13 hm (rfl) (fun hm=>?_) (fun hm=>?_)
   ·refine Qa 3 (Qe ?_)
    obtain rfl:=Qq hm
    exact Qp
   refine Qa 3 (Qe ?_)
   obtain rfl:=Qq hm
   exact Qp
  clear hs
  refine Qy hm (Qz _) (fun hm=>?_) (fun hm=>?_)
  ·refine Qs (Qd (Qu (R_G (Qa 3 ?_))))
   obtain ⟨v603,hx,hm⟩:=Qh hm
   refine QaP 6 Qf.toD p0.kids v202 v603 (es:=Qf.toDs p0.kids) (d:=(Qf.ex v603)) (Qf.toDs_eq _) hx (Qf.toD_eq v603) rfl ?_
   refine Qa 2 ?_
   obtain ⟨v604,hx,hm⟩:=Qh hm
   have hq:=Qdv _ _ hx []
   refine Qr hq ?_
   refine Qa 1 (Qe (R_G (Qa 3 (Qe ?_))))
   exact Qba _ _ hm _ (by kernel_rfl)
  refine Zh ?_
  obtain rfl:=Qq hm
  exact ⟨rfl,Qp⟩
 ·intro Yf Qba x r0 hm
  unfold Qci
  obtain ⟨p0,p1⟩:=x
  intro H
  refine PC_sx (ds:=[(Qf.ex p0),(Qi p1)]) (fn:=f42) rfl ?_
  refine Qd (R_G (Qa 2 (Qe (Qd (R_G (Qa 3 (Qe (Qd (Qd (R_G (Qa 1 ?_)))))))))))
  refine Qe (Qu ?_)
  obtain ⟨v601,hs,hm⟩:=Qh hm
  refine Zk ?_
  refine RL_use (Qba _ _ hs) (by kernel_rfl) ?_
  clear hs
  intro e s hp
  obtain ⟨rfl,d,rfl⟩:=hp
  refine Qd (R_G (Qa 2 (Qe (Qo ?_))))
  obtain rfl:=Qq hm
  exact ⟨trivial,Qk⟩
theorem Qba:∀ x r,Yf x=some r→Qa7 x r:=g_ref08_left_L1.1
theorem Qdv:∀ x r,JI x=some r→Qci x r:=g_ref08_left_L1.2
mutual
def ZR (x:(Qf × Int × Int)):Option (Int) :=
 match x with
 | (p0,v201,v202) =>
 if v202 < (p0.kids.length:Int) then
  idx p0.kids v202>>=fun v602 =>
  XC v602>>=fun (v603:Int) =>
  ZR (p0,(if v201 < v603 then v603 else v201),(W (v202+1)))
 else
 some v201
 partial_fixpoint
def XC (x:Qf):Option Int :=
 match x with
 | p0 =>
 ZR (p0,0,0)>>=fun (v601:Int) =>
 some (W (v601+1))
 partial_fixpoint
end
def Qay:(Qf × Int × Int)→Int→Prop:=fun x r=>match x with
 | (p0,v201,v202)=>∀ st,prune 1 ((QB (QL [1,1,0,1,0,0] (QN f43))).bind (env.hint 43).keepAt) st=⟨kp 22 [(1,(.ptr 0 0)),(3,(Qg v201)),(4,(Qg v202))],[(.box [(Qg p0.kind),(Qg p0.fn),(Qg p0.axis),(.dat (strD p0.name)),(La p0.nums),(.dat (.lst (Qf.toDs p0.kids)))])]⟩ →
  RL prog env (env.hint 43) true (QL [1,1,0,1,0,0] (QN f43)) 1 st (fun e s=>match r with|v601=>e=.exit 0∧∃ d,s=⟨sl d 22 [(3,(Qg v601))],[(.box [(Qg p0.kind),(Qg p0.fn),(Qg p0.axis),(.dat (strD p0.name)),(La p0.nums),(.dat (.lst (Qf.toDs p0.kids)))])]⟩)
def QbL:Qf→Int→Prop:=fun x r=>match x,r with
 | p0,r0=>∀ H,PC prog env 43 ([(Qf.ex p0)].map .dat) H (Qg r0) H
theorem g_ref08_Depth_L1:(∀ x r,ZR x=some r→Qay x r)∧(∀ x r,XC x=some r→QbL x r):=by
 refine ZR.mutual_partial_correctness Qay QbL ?_ ?_
 ·intro ZR XC QaK QbT x r hm
  unfold Qay
  obtain ⟨p0,v201,v202⟩:=x
  intro st hst
  refine RL_at hst ?_
  clear hst
  refine Qd (Qd (R_G (Qa 3 ?_)))
  refine QP Qf.toD p0.kids (es:=Qf.toDs p0.kids) (Qf.toDs_eq _) ?_
  refine Qa 1 (Qe ?_)
  refine Qy hm (rfl) (fun hm=>?_) (fun hm=>?_)
  ·refine Qs (Qd (Qu (R_G (Qa 4 ?_))))
   obtain ⟨v602,hx,hm⟩:=Qh hm
   refine QaP 6 Qf.toD p0.kids v202 v602 (es:=Qf.toDs p0.kids) (d:=(Qf.ex v602)) (Qf.toDs_eq _) hx (Qf.toD_eq v602) rfl ?_
   refine Qa 1 ?_
   obtain ⟨v603,hx,hm⟩:=Qh hm
   have hq:=QbT _ _ hx []
   refine Qr hq ?_
   refine Zt rfl (fun _=>Qg5 (k:=.i64) (m:=v201) (n:=v603) rfl (by kernel_rfl) (by kernel_rfl)) ?_
   refine Qa 1 (Qe (R_G (Qa 3 (Qe ?_))))
   exact QaK _ _ hm _ (by kernel_rfl)
  refine Zh ?_
  obtain rfl:=Qq hm
  exact ⟨rfl,Qp⟩
 ·intro ZR QaK p0 r0 hm
  unfold QbL
  intro H
  refine PC_sx (ds:=[(Qf.ex p0)]) (fn:=f43) rfl ?_
  refine Qd (R_G (Qa 2 (Qe (Qd (R_G (Qa 1 (Qe (Qd (Qd (R_G (Qa 1 ?_)))))))))))
  refine Qe (Qu ?_)
  obtain ⟨v601,hs,hm⟩:=Qh hm
  refine Zk ?_
  refine RL_use (QaK _ _ hs) (by kernel_rfl) ?_
  clear hs
  intro e s hp
  obtain ⟨rfl,d,rfl⟩:=hp
  refine Qd (R_G (Qa 3 (Qe (Qo ?_))))
  obtain rfl:=Qq hm
  exact ⟨trivial,Qk⟩
theorem QaK:∀ x r,ZR x=some r→Qay x r:=g_ref08_Depth_L1.1
theorem QbT:∀ x r,XC x=some r→QbL x r:=g_ref08_Depth_L1.2
mutual
def ZB (x:(Qf × Int × Int)):Option (Int) :=
 match x with
 | (p0,v201,v202) =>
 if v202 < (p0.kids.length:Int) then
  idx p0.kids v202>>=fun v602 =>
  Xs v602>>=fun (v603:Int) =>
  ZB (p0,(W (v201+v603)),(W (v202+1)))
 else
 some v201
 partial_fixpoint
def Xs (x:Qf):Option Int :=
 match x with
 | p0 =>
 ZB (p0,(p0.nums.length:Int),0)>>=fun (v601:Int) =>
 some v601
 partial_fixpoint
end
def JF:(Qf × Int × Int)→Int→Prop:=fun x r=>match x with
 | (p0,v201,v202)=>∀ st,prune 1 ((QB (QL [1,1,0,1,0,0] (QN f44))).bind (env.hint 44).keepAt) st=⟨kp 24 [(1,(.ptr 0 0)),(3,(Qg v201)),(4,(Qg v202))],[(.box [(Qg p0.kind),(Qg p0.fn),(Qg p0.axis),(.dat (strD p0.name)),(La p0.nums),(.dat (.lst (Qf.toDs p0.kids)))])]⟩ →
  RL prog env (env.hint 44) true (QL [1,1,0,1,0,0] (QN f44)) 1 st (fun e s=>match r with|v601=>e=.exit 0∧∃ d,s=⟨sl d 24 [(3,(Qg v601))],[(.box [(Qg p0.kind),(Qg p0.fn),(Qg p0.axis),(.dat (strD p0.name)),(La p0.nums),(.dat (.lst (Qf.toDs p0.kids)))])]⟩)
def Qa8:Qf→Int→Prop:=fun x r=>match x,r with
 | p0,r0=>∀ H,PC prog env 44 ([(Qf.ex p0)].map .dat) H (Qg r0) H
theorem g_ref08_numbers_L1:(∀ x r,ZB x=some r→JF x r)∧(∀ x r,Xs x=some r→Qa8 x r):=by
 refine ZB.mutual_partial_correctness JF Qa8 ?_ ?_
 ·intro ZB Xs JN Qcc x r hm
  unfold JF
  obtain ⟨p0,v201,v202⟩:=x
  intro st hst
  refine RL_at hst ?_
  clear hst
  refine Qd (Qd (R_G (Qa 3 ?_)))
  refine QP Qf.toD p0.kids (es:=Qf.toDs p0.kids) (Qf.toDs_eq _) ?_
  refine Qa 1 (Qe ?_)
  refine Qy hm (rfl) (fun hm=>?_) (fun hm=>?_)
  ·refine Qs (Qd (Qu (R_G (Qa 4 ?_))))
   obtain ⟨v602,hx,hm⟩:=Qh hm
   refine QaP 6 Qf.toD p0.kids v202 v602 (es:=Qf.toDs p0.kids) (d:=(Qf.ex v602)) (Qf.toDs_eq _) hx (Qf.toD_eq v602) rfl ?_
   refine Qa 1 ?_
   obtain ⟨v603,hx,hm⟩:=Qh hm
   have hq:=Qcc _ _ hx []
   refine Qr hq ?_
   refine Qa 2 (Qe (R_G (Qa 3 (Qe ?_))))
   exact JN _ _ hm _ (by kernel_rfl)
  refine Zh ?_
  obtain rfl:=Qq hm
  exact ⟨rfl,Qp⟩
 ·intro ZB JN p0 r0 hm
  unfold Qa8
  intro H
  refine PC_sx (ds:=[(Qf.ex p0)]) (fn:=f44) rfl ?_
  refine Qd (R_G (Qa 2 (Qe (Qd (R_G (Qa 2 ?_))))))
  refine QP Qi p0.nums (es:=(List.map Qi) p0.nums) rfl ?_
  refine Qa 1 (Qe (Qd (Qd (R_G (Qa 1 (Qe (Qu ?_)))))))
  obtain ⟨v601,hs,hm⟩:=Qh hm
  refine Zk ?_
  refine RL_use (JN _ _ hs) (by kernel_rfl) ?_
  clear hs
  intro e s hp
  obtain ⟨rfl,d,rfl⟩:=hp
  refine Qd (R_G (Qa 2 (Qe (Qo ?_))))
  obtain rfl:=Qq hm
  exact ⟨trivial,Qk⟩
theorem JN:∀ x r,ZB x=some r→JF x r:=g_ref08_numbers_L1.1
theorem Qcc:∀ x r,Xs x=some r→Qa8 x r:=g_ref08_numbers_L1.2
def Qb4 (x:(Qf × Int)):Option Bool :=
 match x with
 | (p0,p1) =>
 JI (p0,p1)>>=fun (v1:Int) =>
 (if v1≥0 then
  XC p0>>=fun (v3:Int) =>
  some (decide (v3≤150))
 else
 some false
 )>>=fun (v2:Bool) =>
 if v2=true then
  Xs p0>>=fun (v4:Int) =>
  some (decide (v4≤(W (10 * p1))))
 else
 some false
def Qfx:(Qf × Int)→Bool→Prop:=fun x r=>match x,r with
 | (p0,p1),r0=>∀ H,PC prog env 22 ([(Qf.ex p0),(Qi p1)].map .dat) H (Qm r0) H
theorem QgJ:∀ x r,Qb4 x=some r→Qfx x r:=by
 intro x r0 hm
 unfold Qb4 at hm
 unfold Qfx
 obtain ⟨p0,p1⟩:=x
 intro H
 refine PC_sx (ds:=[(Qf.ex p0),(Qi p1)]) (fn:=f22) rfl ?_
 refine Qd (R_G (Qa 2 (Qe (Qd ?_))))
 refine QcY ?_
 refine Qa 2 ?_
 obtain ⟨v1,hx,hm⟩:=Qh hm
 have hq:=Qdv _ _ hx []
 refine Qr hq ?_
 refine Qa 2 ?_
 obtain ⟨v2,hs,hm⟩:=Qh hm
 refine YC (j:=9) (fun d=>⟨sl d 21 [(1,(Qg p1)),(2,(.ptr 0 0)),(4,(Qm false)),(13,(Qm v2))],[(.box [(Qg p0.kind),(Qg p0.fn),(Qg p0.axis),(.dat (strD p0.name)),(La p0.nums),(.dat (.lst (Qf.toDs p0.kids)))])]⟩) (fun d=>?_) (fun hJ=>?_)
 ·clear hs
  refine Qa 1 ?_
  refine Qw 14 hm (Qz _) (fun hm=>?_) (fun hm=>?_)
  ·refine Qa 1 ?_
   obtain ⟨v4,hx,hm⟩:=Qh hm
   have hq:=Qcc _ _ hx []
   refine Qr hq ?_
   refine Qa 5 ?_
   refine Qe ⟨by kernel_rfl,?_⟩
   refine Qo ?_
   obtain rfl:=Qq hm
   exact ⟨trivial,Qk⟩
  refine Qa 7 ?_
  refine Qe ⟨by kernel_rfl,?_⟩
  refine Qo ?_
  obtain rfl:=Qq hm
  exact ⟨trivial,Qk⟩
 clear hm
 refine Qw 9 hs (rfl) (fun hm=>?_) (fun hm=>?_)
 ·refine Qa 1 ?_
  obtain ⟨v3,hx,hm⟩:=Qh hm
  have hq:=QbT _ _ hx []
  refine Qr hq ?_
  refine Qa 2 ?_
  obtain rfl:=Qq hm
  exact hJ _ _
 refine Qa 4 ?_
 obtain rfl:=Qq hm
 exact hJ _ _
def Qbu (x:Qf):Option Bool :=
 match x with
 | p0 =>
 (if p0.axis≥0 then
  some (decide (p0.axis≤15))
 else
 some false
 )>>=fun (v1:Bool) =>
 if p0.kind=1 then
  (if p0.fn=0 then
   some (p0.axis == (-1))
  else
  some false
  )>>=fun (v2:Bool) =>
  (if v2=true then
   some (decide (p0.name=ByteArray.empty))
  else
  some false
  )>>=fun (v3:Bool) =>
  if v3=true then
   some ((p0.kids.length:Int) == 0)
  else
  some false
 else
 if p0.kind=2 then
  (if p0.fn=0 then
   some (p0.axis == (-1))
  else
  some false
  )>>=fun (v4:Bool) =>
  (if v4=true then
   YA p0.name>>=fun (v6:Bool) =>
   some v6
  else
  some false
  )>>=fun (v5:Bool) =>
  (if v5=true then
   some ((p0.nums.length:Int) == 0)
  else
  some false
  )>>=fun (v7:Bool) =>
  if v7=true then
   some ((p0.kids.length:Int) == 0)
  else
  some false
 else
 if p0.kind=3 then
  (if p0.name=ByteArray.empty then
   some ((p0.nums.length:Int) == 0)
  else
  some false
  )>>=fun (v8:Bool) =>
  (if v8=true then
   some ((p0.kids.length:Int) == 1)
  else
  some false
  )>>=fun (v9:Bool) =>
  if v9=true then
   (if p0.fn=3 then
    (if p0.axis=(-1) then
     some true
    else
    some v1
    )>>=fun (v11:Bool) =>
    some v11
   else
   some false
   )>>=fun (v10:Bool) =>
   if v10=true then
    some true
   else
   (if p0.fn=4 then
    some true
   else
   some (p0.fn == 6)
   )>>=fun (v12:Bool) =>
   (if v12=true then
    some (p0.axis == (-1))
   else
   some false
   )>>=fun (v13:Bool) =>
   some v13
  else
  some false
 else
 if p0.kind=4 then
  ((if p0.name≠ByteArray.empty then
   some true
  else
  some (decide ((p0.nums.length:Int) > 0))
  )>>=fun (v15:Bool) =>
  (if v15=true then
   some true
  else
  some ((p0.kids.length:Int) != 2)
  )>>=fun (v16:Bool) =>
  (if v16=true then
   some true
  else
  some (decide (p0.fn < 1))
  )>>=fun (v17:Bool) =>
  if v17=true then
   some true
  else
  some (decide (p0.fn > 6))
  )>>=fun (v14:Bool) =>
  if v14=true then
   some false
  else
  (if p0.axis≠(-1) then
   if v1=false then
    some true
   else
   (if p0.fn≠3 then
    some (p0.fn != 6)
   else
   some false
   )>>=fun (v19:Bool) =>
   some v19
  else
  some false
  )>>=fun (v18:Bool) =>
  if v18=true then
   some false
  else
  (if p0.fn=6 then
   some true
  else
  idx p0.kids 0>>=fun v21 =>
  some (v21.kind == 1)
  )>>=fun (v20:Bool) =>
  if v20=true then
   some true
  else
  idx p0.kids 0>>=fun v22 =>
  some (v22.kind == 2)
 else
 some false
def Qe9:Qf→Bool→Prop:=fun x r=>match x,r with
 | p0,r0=>∀ H,PC prog env 65 ([(Qf.ex p0)].map .dat) H (Qm r0) H
theorem Qgr:∀ x r,Qbu x=some r→Qe9 x r:=by
 intro p0 r0 hm
 unfold Qbu at hm
 unfold Qe9
 intro H
 refine PC_sx (ds:=[(Qf.ex p0)]) (fn:=f65) rfl ?_
 refine Qd (R_G (Qa 2 (Qe (Qd ?_))))
 obtain ⟨v1,hs,hm⟩:=Qh hm
 refine Yx (fun d=>⟨sl d 170 [(1,(.ptr 0 0)),(3,(Qm v1))],[(.box [(Qg p0.kind),(Qg p0.fn),(Qg p0.axis),(.dat (strD p0.name)),(La p0.nums),(.dat (.lst (Qf.toDs p0.kids)))])]⟩) ?_ (fun d=>?_)
 ·replace hm:=hs
  clear hs
  refine R_G (Qa 4 ?_)
  refine Qw 7 hm (rfl) (fun hm=>?_) (fun hm=>?_)
  ·refine Qa 5 (Qe ?_)
   obtain rfl:=Qq hm
   exact Qp
  refine Qa 5 (Qe ?_)
  obtain rfl:=Qq hm
  exact Qp
 clear hs
 refine Qd (Qd (R_G (Qa 2 (Qe (Qu (Qd (R_G (Qa 2 (Qe ?_)))))))))
 refine Qy hm (ZN _ _) (fun hm=>?_) (fun hm=>?_)
 ·refine Qd ?_
  refine QcY ?_
  refine Qa 4 ?_
  obtain ⟨v2,hs,hm⟩:=Qh hm
  refine YC (j:=8) (fun d=>⟨sl d 170 [(1,(.ptr 0 0)),(23,(Qm v2))],[(.box [(Qg p0.kind),(Qg p0.fn),(Qg p0.axis),(.dat (strD p0.name)),(La p0.nums),(.dat (.lst (Qf.toDs p0.kids)))])]⟩) (fun d=>?_) (fun hJ=>?_)
  ·clear hs
   refine Qa 1 ?_
   obtain ⟨v3,hs,hm⟩:=Qh hm
   refine YC (j:=13) (fun d=>⟨sl d 170 [(1,(.ptr 0 0)),(28,(Qm v3))],[(.box [(Qg p0.kind),(Qg p0.fn),(Qg p0.axis),(.dat (strD p0.name)),(La p0.nums),(.dat (.lst (Qf.toDs p0.kids)))])]⟩) (fun d=>?_) (fun hJ=>?_)
   ·clear hs
    refine Qa 1 ?_
    refine Qw 29 hm (Qz _) (fun hm=>?_) (fun hm=>?_)
    ·refine Qa 2 ?_
     refine QP Qf.toD p0.kids (es:=Qf.toDs p0.kids) (Qf.toDs_eq _) ?_
     refine Qa 3 ?_
     refine Qe ⟨by kernel_rfl,?_⟩
     refine Qo ?_
     obtain rfl:=Qq hm
     exact ⟨trivial,Qk⟩
    refine Qa 6 ?_
    refine Qe ⟨by kernel_rfl,?_⟩
    refine Qo ?_
    obtain rfl:=Qq hm
    exact ⟨trivial,Qk⟩
   clear hm
   refine Qw 24 hs (Qz _) (fun hm=>?_) (fun hm=>?_)
   ·refine Qa 2 ?_
    refine Zt rfl (fun _=>Qc5 (a:=p0.name) (b:=ByteArray.empty) rfl (by kernel_rfl) (by kernel_rfl)) ?_
    refine Qa 1 ?_
    obtain rfl:=Qq hm
    exact hJ _ _
   refine Qa 4 ?_
   obtain rfl:=Qq hm
   exact hJ _ _
  clear hm
  refine Qw 19 hs (ZN _ _) (fun hm=>?_) (fun hm=>?_)
  ·refine Qa 4 ?_
   obtain rfl:=Qq hm
   exact hJ _ _
  refine Qa 4 ?_
  obtain rfl:=Qq hm
  exact hJ _ _
 refine Qd (R_G (Qa 2 (Qe ?_)))
 refine Qy hm (ZN _ _) (fun hm=>?_) (fun hm=>?_)
 ·refine Qd ?_
  refine QcY ?_
  refine Qa 4 ?_
  obtain ⟨v4,hs,hm⟩:=Qh hm
  refine YC (j:=8) (fun d=>⟨sl d 170 [(1,(.ptr 0 0)),(44,(Qm v4))],[(.box [(Qg p0.kind),(Qg p0.fn),(Qg p0.axis),(.dat (strD p0.name)),(La p0.nums),(.dat (.lst (Qf.toDs p0.kids)))])]⟩) (fun d=>?_) (fun hJ=>?_)
  ·clear hs
   refine Qa 1 ?_
   obtain ⟨v5,hs,hm⟩:=Qh hm
   refine YC (j:=13) (fun d=>⟨sl d 170 [(1,(.ptr 0 0)),(49,(Qm v5))],[(.box [(Qg p0.kind),(Qg p0.fn),(Qg p0.axis),(.dat (strD p0.name)),(La p0.nums),(.dat (.lst (Qf.toDs p0.kids)))])]⟩) (fun d=>?_) (fun hJ=>?_)
   ·clear hs
    refine Qa 1 ?_
    obtain ⟨v7,hs,hm⟩:=Qh hm
    refine YC (j:=19) (fun d=>⟨sl d 170 [(1,(.ptr 0 0)),(55,(Qm v7))],[(.box [(Qg p0.kind),(Qg p0.fn),(Qg p0.axis),(.dat (strD p0.name)),(La p0.nums),(.dat (.lst (Qf.toDs p0.kids)))])]⟩) (fun d=>?_) (fun hJ=>?_)
    ·clear hs
     refine Qa 1 ?_
     refine Qw 56 hm (Qz _) (fun hm=>?_) (fun hm=>?_)
     ·refine Qa 2 ?_
      refine QP Qf.toD p0.kids (es:=Qf.toDs p0.kids) (Qf.toDs_eq _) ?_
      refine Qa 3 ?_
      refine Qe ⟨by kernel_rfl,?_⟩
      refine Qo ?_
      obtain rfl:=Qq hm
      exact ⟨trivial,Qk⟩
     refine Qa 6 ?_
     refine Qe ⟨by kernel_rfl,?_⟩
     refine Qo ?_
     obtain rfl:=Qq hm
     exact ⟨trivial,Qk⟩
    clear hm
    refine Qw 50 hs (Qz _) (fun hm=>?_) (fun hm=>?_)
    ·refine Qa 2 ?_
     refine QP Qi p0.nums (es:=(List.map Qi) p0.nums) rfl ?_
     refine Qa 2 ?_
     obtain rfl:=Qq hm
     exact hJ _ _
    refine Qa 5 ?_
    obtain rfl:=Qq hm
    exact hJ _ _
   clear hm
   refine Qw 45 hs (Qz _) (fun hm=>?_) (fun hm=>?_)
   ·refine Qa 2 ?_
    obtain ⟨v6,hx,hm⟩:=Qh hm
    have hq:=Qfi _ _ hx []
    refine Qr hq ?_
    refine Qa 1 ?_
    obtain rfl:=Qq hm
    exact hJ _ _
   refine Qa 4 ?_
   obtain rfl:=Qq hm
   exact hJ _ _
  clear hm
  refine Qw 40 hs (ZN _ _) (fun hm=>?_) (fun hm=>?_)
  ·refine Qa 4 ?_
   obtain rfl:=Qq hm
   exact hJ _ _
  refine Qa 4 ?_
  obtain rfl:=Qq hm
  exact hJ _ _
 refine Qd (R_G (Qa 2 (Qe ?_)))
 refine Qy hm (ZN _ _) (fun hm=>?_) (fun hm=>?_)
 ·refine Qd ?_
  refine QcY ?_
  refine Qa 2 ?_
  refine Zt rfl (fun _=>Qc5 (a:=p0.name) (b:=ByteArray.empty) rfl (by kernel_rfl) (by kernel_rfl)) ?_
  refine Qa 1 ?_
  obtain ⟨v8,hs,hm⟩:=Qh hm
  refine YC (j:=9) (fun d=>⟨sl d 170 [(1,(.ptr 0 0)),(3,(Qm v1)),(72,(Qm v8))],[(.box [(Qg p0.kind),(Qg p0.fn),(Qg p0.axis),(.dat (strD p0.name)),(La p0.nums),(.dat (.lst (Qf.toDs p0.kids)))])]⟩) (fun d=>?_) (fun hJ=>?_)
  ·clear hs
   refine Qa 1 ?_
   obtain ⟨v9,hs,hm⟩:=Qh hm
   refine YC (j:=15) (fun d=>⟨sl d 170 [(1,(.ptr 0 0)),(3,(Qm v1)),(78,(Qm v9))],[(.box [(Qg p0.kind),(Qg p0.fn),(Qg p0.axis),(.dat (strD p0.name)),(La p0.nums),(.dat (.lst (Qf.toDs p0.kids)))])]⟩) (fun d=>?_) (fun hJ=>?_)
   ·clear hs
    refine Qa 1 ?_
    refine Qw 79 hm (Qz _) (fun hm=>?_) (fun hm=>?_)
    ·refine Qa 4 ?_
     obtain ⟨v10,hs,hm⟩:=Qh hm
     refine YC (j:=27) (fun d=>⟨sl d 170 [(1,(.ptr 0 0)),(79,(Qm true)),(90,(Qm v10))],[(.box [(Qg p0.kind),(Qg p0.fn),(Qg p0.axis),(.dat (strD p0.name)),(La p0.nums),(.dat (.lst (Qf.toDs p0.kids)))])]⟩) (fun d=>?_) (fun hJ=>?_)
     ·clear hs
      refine Qa 1 ?_
      refine Qw 91 hm (Qz _) (fun hm=>?_) (fun hm=>?_)
      ·refine Qa 16 ?_
       refine Qe ⟨by kernel_rfl,?_⟩
       refine Qo ?_
       obtain rfl:=Qq hm
       exact ⟨trivial,Qk⟩
      refine Qa 4 ?_
      obtain ⟨v12,hs,hm⟩:=Qh hm
      refine YC (j:=36) (fun d=>⟨sl d 170 [(1,(.ptr 0 0)),(79,(Qm true)),(91,(Qm false)),(99,(Qm v12))],[(.box [(Qg p0.kind),(Qg p0.fn),(Qg p0.axis),(.dat (strD p0.name)),(La p0.nums),(.dat (.lst (Qf.toDs p0.kids)))])]⟩) (fun d=>?_) (fun hJ=>?_)
      ·clear hs
       refine Qa 1 ?_
       obtain ⟨v13,hs,hm⟩:=Qh hm
       refine YC (j:=41) (fun d=>⟨sl d 170 [(79,(Qm true)),(91,(Qm false)),(104,(Qm v13))],[(.box [(Qg p0.kind),(Qg p0.fn),(Qg p0.axis),(.dat (strD p0.name)),(La p0.nums),(.dat (.lst (Qf.toDs p0.kids)))])]⟩) (fun d=>?_) (fun hJ=>?_)
       ·clear hs
        refine Qa 3 ?_
        refine Qe ⟨by kernel_rfl,?_⟩
        refine Qo ?_
        obtain rfl:=Qq hm
        exact ⟨trivial,Qk⟩
       clear hm
       refine Qw 100 hs (Qz _) (fun hm=>?_) (fun hm=>?_)
       ·refine Qa 4 ?_
        obtain rfl:=Qq hm
        exact hJ _ _
       refine Qa 4 ?_
       obtain rfl:=Qq hm
       exact hJ _ _
      clear hm
      refine Qw 95 hs (ZN _ _) (fun hm=>?_) (fun hm=>?_)
      ·refine Qa 4 ?_
       obtain rfl:=Qq hm
       exact hJ _ _
      refine Qa 4 ?_
      obtain rfl:=Qq hm
      exact hJ _ _
     clear hm
     refine Qw 83 hs (ZN _ _) (fun hm=>?_) (fun hm=>?_)
     ·refine Qa 4 ?_
      obtain ⟨v11,hs,hm⟩:=Qh hm
      refine YC (j:=26) (fun d=>⟨sl d 170 [(1,(.ptr 0 0)),(79,(Qm true)),(83,(Qm true)),(89,(Qm v11))],[(.box [(Qg p0.kind),(Qg p0.fn),(Qg p0.axis),(.dat (strD p0.name)),(La p0.nums),(.dat (.lst (Qf.toDs p0.kids)))])]⟩) (fun d=>?_) (fun hJ=>?_)
      ·clear hs
       refine Qa 1 ?_
       obtain rfl:=Qq hm
       exact hJ _ _
      clear hm
      refine Qw 87 hs (ZN _ _) (fun hm=>?_) (fun hm=>?_)
      ·refine Qa 2 ?_
       obtain rfl:=Qq hm
       exact hJ _ _
      refine Qa 2 ?_
      obtain rfl:=Qq hm
      exact hJ _ _
     refine Qa 7 ?_
     obtain rfl:=Qq hm
     exact hJ _ _
    refine Qa 28 ?_
    refine Qe ⟨by kernel_rfl,?_⟩
    refine Qo ?_
    obtain rfl:=Qq hm
    exact ⟨trivial,Qk⟩
   clear hm
   refine Qw 73 hs (Qz _) (fun hm=>?_) (fun hm=>?_)
   ·refine Qa 2 ?_
    refine QP Qf.toD p0.kids (es:=Qf.toDs p0.kids) (Qf.toDs_eq _) ?_
    refine Qa 2 ?_
    obtain rfl:=Qq hm
    exact hJ _ _
   refine Qa 5 ?_
   obtain rfl:=Qq hm
   exact hJ _ _
  clear hm
  refine Qw 67 hs (rfl) (fun hm=>?_) (fun hm=>?_)
  ·refine Qa 2 ?_
   refine QP Qi p0.nums (es:=(List.map Qi) p0.nums) rfl ?_
   refine Qa 2 ?_
   obtain rfl:=Qq hm
   exact hJ _ _
  refine Qa 5 ?_
  obtain rfl:=Qq hm
  exact hJ _ _
 refine Qd (R_G (Qa 2 (Qe ?_)))
 refine Qy hm (ZN _ _) (fun hm=>?_) (fun hm=>?_)
 ·refine Qd (Qd ?_)
  obtain ⟨v14,hs,hm⟩:=Qh hm
  refine Yx (fun d=>⟨sl d 170 [(1,(.ptr 0 0)),(3,(Qm v1)),(133,(Qm v14))],[(.box [(Qg p0.kind),(Qg p0.fn),(Qg p0.axis),(.dat (strD p0.name)),(La p0.nums),(.dat (.lst (Qf.toDs p0.kids)))])]⟩) ?_ (fun d=>?_)
  ·replace hm:=hs
   clear hs
   refine QcY ?_
   refine Qa 2 ?_
   refine Zt rfl (fun _=>QfM (a:=p0.name) (b:=ByteArray.empty) rfl (by kernel_rfl) (by kernel_rfl)) ?_
   refine Qa 1 ?_
   obtain ⟨v15,hs,hm⟩:=Qh hm
   refine YC (j:=9) (fun d=>⟨sl d 170 [(1,(.ptr 0 0)),(3,(Qm v1)),(117,(Qm v15))],[(.box [(Qg p0.kind),(Qg p0.fn),(Qg p0.axis),(.dat (strD p0.name)),(La p0.nums),(.dat (.lst (Qf.toDs p0.kids)))])]⟩) (fun d=>?_) (fun hJ=>?_)
   ·clear hs
    refine Qa 1 ?_
    obtain ⟨v16,hs,hm⟩:=Qh hm
    refine YC (j:=15) (fun d=>⟨sl d 170 [(1,(.ptr 0 0)),(3,(Qm v1)),(123,(Qm v16))],[(.box [(Qg p0.kind),(Qg p0.fn),(Qg p0.axis),(.dat (strD p0.name)),(La p0.nums),(.dat (.lst (Qf.toDs p0.kids)))])]⟩) (fun d=>?_) (fun hJ=>?_)
    ·clear hs
     refine Qa 1 ?_
     obtain ⟨v17,hs,hm⟩:=Qh hm
     refine YC (j:=20) (fun d=>⟨sl d 170 [(1,(.ptr 0 0)),(3,(Qm v1)),(128,(Qm v17))],[(.box [(Qg p0.kind),(Qg p0.fn),(Qg p0.axis),(.dat (strD p0.name)),(La p0.nums),(.dat (.lst (Qf.toDs p0.kids)))])]⟩) (fun d=>?_) (fun hJ=>?_)
     ·clear hs
      refine Qa 1 ?_
      refine Qw 129 hm (Qz _) (fun hm=>?_) (fun hm=>?_)
      ·refine Qa 4 ?_
       refine Qe ⟨by kernel_rfl,?_⟩
       obtain rfl:=Qq hm
       exact Qp
      refine Qa 4 ?_
      refine Qe ⟨by kernel_rfl,?_⟩
      obtain rfl:=Qq hm
      exact Qp
     clear hm
     refine Qw 124 hs (Qz _) (fun hm=>?_) (fun hm=>?_)
     ·refine Qa 4 ?_
      obtain rfl:=Qq hm
      exact hJ _ _
     refine Qa 4 ?_
     obtain rfl:=Qq hm
     exact hJ _ _
    clear hm
    refine Qw 118 hs (Qz _) (fun hm=>?_) (fun hm=>?_)
    ·refine Qa 5 ?_
     obtain rfl:=Qq hm
     exact hJ _ _
    refine Qa 2 ?_
    refine QP Qf.toD p0.kids (es:=Qf.toDs p0.kids) (Qf.toDs_eq _) ?_
    refine Qa 2 ?_
    obtain rfl:=Qq hm
    exact hJ _ _
   clear hm
   refine Qw 112 hs (rfl) (fun hm=>?_) (fun hm=>?_)
   ·refine Qa 5 ?_
    obtain rfl:=Qq hm
    exact hJ _ _
   refine Qa 2 ?_
   refine QP Qi p0.nums (es:=(List.map Qi) p0.nums) rfl ?_
   refine Qa 2 ?_
   obtain rfl:=Qq hm
   exact hJ _ _
  clear hs
  refine Qy hm (Qz _) (fun hm=>?_) (fun hm=>?_)
  ·refine Qd (R_G (Qa 1 (Qe (Qo ?_))))
   obtain rfl:=Qq hm
   exact ⟨trivial,Qk⟩
  refine Qs (Qd (Qd ?_))
  obtain ⟨v18,hs,hm⟩:=Qh hm
  refine Yx (fun d=>⟨sl d 170 [(1,(.ptr 0 0)),(150,(Qm v18))],[(.box [(Qg p0.kind),(Qg p0.fn),(Qg p0.axis),(.dat (strD p0.name)),(La p0.nums),(.dat (.lst (Qf.toDs p0.kids)))])]⟩) ?_ (fun d=>?_)
  ·replace hm:=hs
   clear hs
   refine QcY ?_
   refine Qa 4 ?_
   refine Qw 137 hm (ne_dec _ _) (fun hm=>?_) (fun hm=>?_)
   ·refine Qa 3 ?_
    refine Qw 140 hm (Xp _) (fun hm=>?_) (fun hm=>?_)
    ·refine Qa 10 ?_
     refine Qe ⟨by kernel_rfl,?_⟩
     obtain rfl:=Qq hm
     exact Qp
    refine Qa 4 ?_
    obtain ⟨v19,hs,hm⟩:=Qh hm
    refine YC (j:=15) (fun d=>⟨sl d 170 [(1,(.ptr 0 0)),(137,(Qm true)),(140,(Qm false)),(148,(Qm v19))],[(.box [(Qg p0.kind),(Qg p0.fn),(Qg p0.axis),(.dat (strD p0.name)),(La p0.nums),(.dat (.lst (Qf.toDs p0.kids)))])]⟩) (fun d=>?_) (fun hJ=>?_)
    ·clear hs
     refine Qa 2 ?_
     refine Qe ⟨by kernel_rfl,?_⟩
     obtain rfl:=Qq hm
     exact Qp
    clear hm
    refine Qw 144 hs (ne_dec _ _) (fun hm=>?_) (fun hm=>?_)
    ·refine Qa 4 ?_
     obtain rfl:=Qq hm
     exact hJ _ _
    refine Qa 4 ?_
    obtain rfl:=Qq hm
    exact hJ _ _
   refine Qa 13 ?_
   refine Qe ⟨by kernel_rfl,?_⟩
   obtain rfl:=Qq hm
   exact Qp
  clear hs
  refine Qy hm (Qz _) (fun hm=>?_) (fun hm=>?_)
  ·refine Qd (R_G (Qa 1 (Qe (Qo ?_))))
   obtain rfl:=Qq hm
   exact ⟨trivial,Qk⟩
  refine Qs (Qd ?_)
  refine QcY ?_
  refine Qa 4 ?_
  obtain ⟨v20,hs,hm⟩:=Qh hm
  refine YC (j:=11) (fun d=>⟨sl d 170 [(1,(.ptr 0 0)),(161,(Qm v20))],[(.box [(Qg p0.kind),(Qg p0.fn),(Qg p0.axis),(.dat (strD p0.name)),(La p0.nums),(.dat (.lst (Qf.toDs p0.kids)))])]⟩) (fun d=>?_) (fun hJ=>?_)
  ·clear hs
   refine Qa 1 ?_
   refine Qw 162 hm (Qz _) (fun hm=>?_) (fun hm=>?_)
   ·refine Qa 8 ?_
    refine Qe ⟨by kernel_rfl,?_⟩
    refine Qo ?_
    obtain rfl:=Qq hm
    exact ⟨trivial,Qk⟩
   refine Qa 2 ?_
   obtain ⟨v22,hx,hm⟩:=Qh hm
   refine QaP 6 Qf.toD p0.kids 0 v22 (es:=Qf.toDs p0.kids) (d:=(Qf.ex v22)) (Qf.toDs_eq _) hx (Qf.toD_eq v22) rfl ?_
   refine Qa 5 ?_
   refine Qe ⟨by kernel_rfl,?_⟩
   refine Qo ?_
   obtain rfl:=Qq hm
   exact ⟨trivial,Qk⟩
  clear hm
  refine Qw 154 hs (ZN _ _) (fun hm=>?_) (fun hm=>?_)
  ·refine Qa 7 ?_
   obtain rfl:=Qq hm
   exact hJ _ _
  refine Qa 2 ?_
  obtain ⟨v21,hx,hm⟩:=Qh hm
  refine QaP 6 Qf.toD p0.kids 0 v21 (es:=Qf.toDs p0.kids) (d:=(Qf.ex v21)) (Qf.toDs_eq _) hx (Qf.toD_eq v21) rfl ?_
  refine Qa 4 ?_
  obtain rfl:=Qq hm
  exact hJ _ _
 refine Qs (Qd (R_G (Qa 1 (Qe (Qo ?_)))))
 obtain rfl:=Qq hm
 exact ⟨trivial,Qk⟩
mutual
def ZT (x:(Qf × Int)):Option (Unit ⊕ Unit) :=
 match x with
 | (p0,v202) =>
 if v202 < (p0.kids.length:Int) then
  idx p0.kids v202>>=fun v602 =>
  Jd v602>>=fun (v603:Bool) =>
  if v603=false then
   some (Sum.inl ())
  else
  ZT (p0,(W (v202+1)))
 else
 some (Sum.inr ())
 partial_fixpoint
def Jd (x:Qf):Option Bool :=
 match x with
 | p0 =>
 Qbu p0>>=fun (v1:Bool) =>
 if v1=false then
  some false
 else
 (
 ZT (p0,0)>>=fun (out:Unit ⊕ Unit) =>
 match out with
 | .inl _ =>
  some false
 | .inr (_) =>
  some true
 )
 partial_fixpoint
end
def QaA:(Qf × Int)→(Unit ⊕ Unit)→Prop:=fun x r=>match x with
 | (p0,v202)=>∀ st,prune 1 ((QB (QL [1,1,0,1,0,0] (QN f45))).bind (env.hint 45).keepAt) st=⟨kp 21 [(1,(.ptr 0 0)),(3,(Qg v202))],[(.box [(Qg p0.kind),(Qg p0.fn),(Qg p0.axis),(.dat (strD p0.name)),(La p0.nums),(.dat (.lst (Qf.toDs p0.kids)))])]⟩ →
  RL prog env (env.hint 45) true (QL [1,1,0,1,0,0] (QN f45)) 1 st (fun e s=>match r with|.inl _=>e=.ret∧∃ d,s=⟨sl d 21 [(2,(Qm false))],[(.box [(Qg p0.kind),(Qg p0.fn),(Qg p0.axis),(.dat (strD p0.name)),(La p0.nums),(.dat (.lst (Qf.toDs p0.kids)))])]⟩|.inr (_)=>e=.exit 0∧∃ d,s=⟨sl d 21 [],[(.box [(Qg p0.kind),(Qg p0.fn),(Qg p0.axis),(.dat (strD p0.name)),(La p0.nums),(.dat (.lst (Qf.toDs p0.kids)))])]⟩)
def QbN:Qf→Bool→Prop:=fun x r=>match x,r with
 | p0,r0=>∀ H,PC prog env 45 ([(Qf.ex p0)].map .dat) H (Qm r0) H
theorem g_ref08_nodes_L1:(∀ x r,ZT x=some r→QaA x r)∧(∀ x r,Jd x=some r→QbN x r):=by
 refine ZT.mutual_partial_correctness QaA QbN ?_ ?_
 ·intro ZT Jd Jx Qc1 x r hm
  unfold QaA
  obtain ⟨p0,v202⟩:=x
  intro st hst
  refine RL_at hst ?_
  clear hst
  refine Qd (Qd (R_G (Qa 3 ?_)))
  refine QP Qf.toD p0.kids (es:=Qf.toDs p0.kids) (Qf.toDs_eq _) ?_
  refine Qa 1 (Qe ?_)
  refine Qy hm (rfl) (fun hm=>?_) (fun hm=>?_)
  ·refine Qs (Qd (Qu (Qd (R_G (Qa 3 ?_)))))
   obtain ⟨v602,hx,hm⟩:=Qh hm
   refine QaP 6 Qf.toD p0.kids v202 v602 (es:=Qf.toDs p0.kids) (d:=(Qf.ex v602)) (Qf.toDs_eq _) hx (Qf.toD_eq v602) rfl ?_
   refine Qa 1 ?_
   obtain ⟨v603,hx,hm⟩:=Qh hm
   have hq:=Qc1 _ _ hx []
   refine Qr hq ?_
   refine Qa 1 (Qe ?_)
   refine Qy hm (Xp _) (fun hm=>?_) (fun hm=>?_)
   ·refine Qd (R_G (Qa 1 (Qe (Qo ?_))))
    obtain rfl:=Qq hm
    exact ⟨rfl,Qp⟩
   refine Qs (R_G (Qa 3 (Qe ?_)))
   exact Jx _ _ hm _ (by kernel_rfl)
  refine Zh ?_
  obtain rfl:=Qq hm
  exact ⟨rfl,Qp⟩
 ·intro ZT Jx p0 r0 hm
  unfold QbN
  intro H
  refine PC_sx (ds:=[(Qf.ex p0)]) (fn:=f45) rfl ?_
  refine Qd (R_G (Qa 2 (Qe (Qd (Qd (R_G (Qa 1 ?_)))))))
  obtain ⟨v1,hx,hm⟩:=Qh hm
  have hq:=Qgr _ _ hx []
  refine Qr hq ?_
  refine Qa 1 (Qe ?_)
  refine Qy hm (Xp _) (fun hm=>?_) (fun hm=>?_)
  ·refine Qd (R_G (Qa 1 (Qe (Qo ?_))))
   obtain rfl:=Qq hm
   exact ⟨trivial,Qk⟩
  refine Qs (Qd (Qd (R_G (Qa 1 (Qe (Qu ?_))))))
  obtain ⟨out,hs,hm⟩:=Qh hm
  refine Zk ?_
  rcases out with _|_
  ·refine RL_use (Jx _ _ hs) (by kernel_rfl) ?_
   clear hs
   intro e s hp
   obtain ⟨rfl,d,rfl⟩:=hp
   obtain rfl:=Qq hm
   exact ⟨trivial,Qk⟩
  ·refine RL_use (Jx _ _ hs) (by kernel_rfl) ?_
   clear hs
   intro e s hp
   obtain ⟨rfl,d,rfl⟩:=hp
   refine Qd (R_G (Qa 1 (Qe (Qo ?_))))
   obtain rfl:=Qq hm
   exact ⟨trivial,Qk⟩
theorem Jx:∀ x r,ZT x=some r→QaA x r:=g_ref08_nodes_L1.1
theorem Qc1:∀ x r,Jd x=some r→QbN x r:=g_ref08_nodes_L1.2
def Qa2 (x:Qf):Option Bool :=
 match x with
 | p0 =>
 XC p0>>=fun (v1:Int) =>
 if v1≤100 then
  Jd p0>>=fun (v2:Bool) =>
  some v2
 else
 some false
def QeC:Qf→Bool→Prop:=fun x r=>match x,r with
 | p0,r0=>∀ H,PC prog env 23 ([(Qf.ex p0)].map .dat) H (Qm r0) H
theorem Qgf:∀ x r,Qa2 x=some r→QeC x r:=by
 intro p0 r0 hm
 unfold Qa2 at hm
 unfold QeC
 intro H
 refine PC_sx (ds:=[(Qf.ex p0)]) (fn:=f23) rfl ?_
 refine Qd (R_G (Qa 2 (Qe (Qd (R_G (Qa 1 ?_))))))
 obtain ⟨v1,hx,hm⟩:=Qh hm
 have hq:=QbT _ _ hx []
 refine Qr hq ?_
 refine Qa 2 ?_
 refine Qw 6 hm (rfl) (fun hm=>?_) (fun hm=>?_)
 ·refine Qa 1 ?_
  obtain ⟨v2,hx,hm⟩:=Qh hm
  have hq:=Qc1 _ _ hx []
  refine Qr hq ?_
  refine Qa 2 (Qe (Qo ?_))
  obtain rfl:=Qq hm
  exact ⟨trivial,Qk⟩
 refine Qa 4 (Qe (Qo ?_))
 obtain rfl:=Qq hm
 exact ⟨trivial,Qk⟩
def Qa3 (x:(Qf × Int)):Option Bool :=
 match x with
 | (p0,p1) =>
 Qb4 (p0,p1)>>=fun (v1:Bool) =>
 if v1=true then
  Qa2 p0>>=fun (v2:Bool) =>
  some v2
 else
 some false
def QeD:(Qf × Int)→Bool→Prop:=fun x r=>match x,r with
 | (p0,p1),r0=>∀ H,PC prog env 7 ([(Qf.ex p0),(Qi p1)].map .dat) H (Qm r0) H
theorem Qgg:∀ x r,Qa3 x=some r→QeD x r:=by
 intro x r0 hm
 unfold Qa3 at hm
 unfold QeD
 obtain ⟨p0,p1⟩:=x
 intro H
 refine PC_sx (ds:=[(Qf.ex p0),(Qi p1)]) (fn:=f7) rfl ?_
 refine Qd (R_G (Qa 2 (Qe (Qd (R_G (Qa 2 ?_))))))
 obtain ⟨v1,hx,hm⟩:=Qh hm
 have hq:=QgJ _ _ hx []
 refine Qr hq ?_
 refine Qa 1 ?_
 refine Qw 8 hm (Qz _) (fun hm=>?_) (fun hm=>?_)
 ·refine Qa 1 ?_
  obtain ⟨v2,hx,hm⟩:=Qh hm
  have hq:=Qgf _ _ hx []
  refine Qr hq ?_
  refine Qa 2 (Qe (Qo ?_))
  obtain rfl:=Qq hm
  exact ⟨trivial,Qk⟩
 refine Qa 4 (Qe (Qo ?_))
 obtain rfl:=Qq hm
 exact ⟨trivial,Qk⟩
def QaD (x:Int):Option Bool :=
 match x with
 | p0 =>
 (if p0≥65 then
  some (decide (p0≤90))
 else
 some false
 )>>=fun (v1:Bool) =>
 (if v1=true then
  some true
 else
 if p0≥97 then
  some (decide (p0≤122))
 else
 some false
 )>>=fun (v2:Bool) =>
 if v2=true then
  some true
 else
 some (p0 == 95)
def Qe7:Int→Bool→Prop:=fun x r=>match x,r with
 | p0,r0=>∀ H,PC prog env 106 ([(numD .i32 p0)].map .dat) H (Qm r0) H
theorem Qfh:∀ x r,QaD x=some r→Qe7 x r:=by
 intro p0 r0 hm
 unfold QaD at hm
 unfold Qe7
 intro H
 refine PC_sx (ds:=[(numD .i32 p0)]) (fn:=f106) rfl ?_
 refine Qd (R_G (Qa 1 (Qe (Qd ?_))))
 refine QcY ?_
 refine Qa 3 ?_
 obtain ⟨v1,hs,hm⟩:=Qh hm
 refine YC (j:=6) (fun d=>⟨sl d 21 [(0,(.dat (numD .i32 p0))),(2,(Qm false)),(8,(Qm v1))],[]⟩) (fun d=>?_) (fun hJ=>?_)
 ·clear hs
  refine Qa 1 ?_
  obtain ⟨v2,hs,hm⟩:=Qh hm
  refine YC (j:=14) (fun d=>⟨sl d 21 [(0,(.dat (numD .i32 p0))),(2,(Qm false)),(16,(Qm v2))],[]⟩) (fun d=>?_) (fun hJ=>?_)
  ·clear hs
   refine Qa 1 ?_
   refine Qw 17 hm (Qz _) (fun hm=>?_) (fun hm=>?_)
   ·refine Qa 4 ?_
    refine Qe ⟨by kernel_rfl,?_⟩
    refine Qo ?_
    obtain rfl:=Qq hm
    exact ⟨trivial,Qk⟩
   refine Qa 4 ?_
   refine Qe ⟨by kernel_rfl,?_⟩
   refine Qo ?_
   obtain rfl:=Qq hm
   exact ⟨trivial,Qk⟩
  clear hm
  refine Qw 9 hs (Qz _) (fun hm=>?_) (fun hm=>?_)
  ·refine Qa 7 ?_
   obtain rfl:=Qq hm
   exact hJ _ _
  refine Qa 3 ?_
  refine Qw 12 hm (rfl) (fun hm=>?_) (fun hm=>?_)
  ·refine Qa 4 ?_
   obtain rfl:=Qq hm
   exact hJ _ _
  refine Qa 4 ?_
  obtain rfl:=Qq hm
  exact hJ _ _
 clear hm
 refine Qw 5 hs (rfl) (fun hm=>?_) (fun hm=>?_)
 ·refine Qa 3 ?_
  obtain rfl:=Qq hm
  exact hJ _ _
 refine Qa 3 ?_
 obtain rfl:=Qq hm
 exact hJ _ _
def QcL (x:Int):Option Bool :=
 match x with
 | p0 =>
 if p0≥48 then
  some (decide (p0≤57))
 else
 some false
def Qft:Int→Bool→Prop:=fun x r=>match x,r with
 | p0,r0=>∀ H,PC prog env 130 ([(numD .i32 p0)].map .dat) H (Qm r0) H
theorem QgF:∀ x r,QcL x=some r→Qft x r:=by
 intro p0 r0 hm
 unfold QcL at hm
 unfold Qft
 intro H
 refine PC_sx (ds:=[(numD .i32 p0)]) (fn:=f130) rfl ?_
 refine Qd (R_G (Qa 1 (Qe (Qd (R_G (Qa 3 ?_))))))
 refine Qw 5 hm (rfl) (fun hm=>?_) (fun hm=>?_)
 ·refine Qa 4 (Qe (Qo ?_))
  obtain rfl:=Qq hm
  exact ⟨trivial,Qk⟩
 refine Qa 4 (Qe (Qo ?_))
 obtain rfl:=Qq hm
 exact ⟨trivial,Qk⟩
def Qb2 (x:Int):Option Bool :=
 match x with
 | p0 =>
 QaD p0>>=fun (v1:Bool) =>
 if v1=true then
  some true
 else
 QcL p0>>=fun (v2:Bool) =>
 some v2
def Qfu:Int→Bool→Prop:=fun x r=>match x,r with
 | p0,r0=>∀ H,PC prog env 108 ([(numD .i32 p0)].map .dat) H (Qm r0) H
theorem QgG:∀ x r,Qb2 x=some r→Qfu x r:=by
 intro p0 r0 hm
 unfold Qb2 at hm
 unfold Qfu
 intro H
 refine PC_sx (ds:=[(numD .i32 p0)]) (fn:=f108) rfl ?_
 refine Qd (R_G (Qa 1 (Qe (Qd (R_G (Qa 1 ?_))))))
 obtain ⟨v1,hx,hm⟩:=Qh hm
 have hq:=Qfh _ _ hx []
 refine Qr hq ?_
 refine Qa 1 ?_
 refine Qw 5 hm (Qz _) (fun hm=>?_) (fun hm=>?_)
 ·refine Qa 4 (Qe (Qo ?_))
  obtain rfl:=Qq hm
  exact ⟨trivial,Qk⟩
 refine Qa 1 ?_
 obtain ⟨v2,hx,hm⟩:=Qh hm
 have hq:=QgF _ _ hx []
 refine Qr hq ?_
 refine Qa 2 (Qe (Qo ?_))
 obtain rfl:=Qq hm
 exact ⟨trivial,Qk⟩
def Zu (x:(ByteArray × Nat)):Option ((Nat × ByteArray) ⊕ Nat) :=
 match x with
 | (p0,v201) =>
 if v201 < (p0).size then
  Qb2 ((Utf8.decode p0 v201).1:Int)>>=fun (v604:Bool) =>
  if v604=false then
   ssub p0 0 (v201:Int)>>=fun v605 =>
   some (Sum.inl ((v201+(Utf8.decode p0 v201).2),v605))
  else
  Zu (p0,(v201+(Utf8.decode p0 v201).2))
 else
 some (Sum.inr v201)
 partial_fixpoint
def Qbg:(ByteArray × Nat)→((Nat × ByteArray) ⊕ Nat)→Prop:=fun x r=>match x with
 | (p0,v201)=>∀ st,prune 1 ((QB (QL [1,0,1,0,0] (QN f107))).bind (env.hint 107).keepAt) st=⟨kp 21 [(0,(.dat (strD p0))),(1,(.dat (.raw (.func (.func 108) #[] #[])))),(8,(.ptr 0 0))],[(.map (iterE p0 v201))]⟩ →
  RL prog env (env.hint 107) true (QL [1,0,1,0,0] (QN f107)) 1 st (fun e s=>match r with|.inl (v601,v602)=>e=.ret∧∃ d,s=⟨sl d 21 [(4,(.dat (strD v602)))],[(.map (iterE p0 v601))]⟩|.inr (v603)=>e=.exit 0∧∃ d,s=⟨sl d 21 [(0,(.dat (strD p0)))],[(.map (iterE p0 v603))]⟩)
theorem Xq:∀ x r,Zu x=some r→Qbg x r:=by
 refine Zu.partial_correctness _ (fun Zu Xq x r hm=>?_)
 unfold Qbg
 obtain ⟨p0,v201⟩:=x
 intro st hst
 refine RL_at hst ?_
 clear hst
 refine Qd (R_G ?_)
 refine Qhj (s:=p0) (pos:=v201) (j:=0) hm (fun hm=>?_) (fun hm=>?_)
 ·refine Qa 1 (Qe (Qd ?_))
  refine Qbd (by kernel_rfl) ?_
  refine Qs (Qu (Qd (R_G (Qa 4 (Qe (Qd (R_G (Qa 2 ?_))))))))
  obtain ⟨v604,hx,hm⟩:=Qh hm
  have hq:=QgG _ _ hx []
  refine Qr hq ?_
  refine Qa 1 (Qe ?_)
  refine Qy hm (Xp _) (fun hm=>?_) (fun hm=>?_)
  ·refine Qd (R_G (Qa 2 ?_))
   obtain ⟨v605,hx,hm⟩:=Qh hm
   refine Zt rfl (fun _=>Qhi (b:=p0) (l:=0) (h:=(v201:Int)) hx (by kernel_rfl) rfl (by kernel_rfl) (Or.inl ⟨rfl,rfl⟩) (Or.inr ⟨_,.i64,rfl,(by kernel_rfl)⟩)) ?_
   refine Qa 1 (Qe (Qo ?_))
   obtain rfl:=Qq hm
   exact ⟨rfl,Qp⟩
  refine Qs ?_
  exact Xq _ _ hm _ (prune_of2 [(.map (iterE p0 (v201+(Utf8.decode p0 v201).2)))] (fun _=>(pg_cons (purge_it _ _ _ _) pg_nil)) rfl)
 refine Qa 1 (Qe (Qd ?_))
 refine Xh (by kernel_rfl) ?_
 refine Zh ?_
 obtain rfl:=Qq hm
 exact ⟨rfl,Qp⟩
def X0 (x:ByteArray):Option ByteArray :=
 match x with
 | p0 =>
 (
 Zu (p0,0)>>=fun (out:(Nat × ByteArray) ⊕ Nat) =>
 match out with
 | .inl (v601,v602) =>
  some v602
 | .inr (v603) =>
  some p0
 )
def QbZ:ByteArray→ByteArray→Prop:=fun x r=>match x,r with
 | p0,r0=>∀ H,PC prog env 107 ([(strD p0),(.raw (.func (.func 108) #[] #[]))].map .dat) H (.dat (strD r0)) H
theorem Qeb:∀ x r,X0 x=some r→QbZ x r:=by
 intro p0 r0 hm
 unfold X0 at hm
 unfold QbZ
 intro H
 refine PC_sx (ds:=[(strD p0),(.raw (.func (.func 108) #[] #[]))]) (fn:=f107) rfl ?_
 refine Qd (R_G (Qa 1 (Qe (Qd (Qd (R_G (Qa 1 (Qa 1 (Qe (Qu ?_))))))))))
 obtain ⟨out,hs,hm⟩:=Qh hm
 refine Zk ?_
 rcases out with ⟨v601,v602⟩|v603
 ·refine RL_use (Xq _ _ hs) (prune_of2 [(.map (iterE p0 0))] (fun _=>(pg_cons (purge_it _ _ _ _) pg_nil)) rfl) ?_
  clear hs
  intro e s hp
  obtain ⟨rfl,d,rfl⟩:=hp
  obtain rfl:=Qq hm
  exact ⟨trivial,Qk⟩
 ·refine RL_use (Xq _ _ hs) (prune_of2 [(.map (iterE p0 0))] (fun _=>(pg_cons (purge_it _ _ _ _) pg_nil)) rfl) ?_
  clear hs
  intro e s hp
  obtain ⟨rfl,d,rfl⟩:=hp
  refine Qd (R_G (Qa 2 (Qe (Qo ?_))))
  obtain rfl:=Qq hm
  exact ⟨trivial,Qk⟩
def QbP (x:ByteArray):Option (Unit ⊕ Nat) :=
 match x with
 | p0 =>
 if (0:Nat) < (p0).size then
  QaD ((Utf8.decode p0 (0:Nat)).1:Int)>>=fun (v402:Bool) =>
  if v402=false then
   some (Sum.inl ())
  else
  some (Sum.inr ((0:Nat)+(Utf8.decode p0 (0:Nat)).2))
 else
 some (Sum.inr 0)
def Qet:ByteArray→(Unit ⊕ Nat)→Prop:=fun x r=>match x with
 | p0=>∀ st,prune 2 ((QB (QL [1,0,1,0,0] (QN f81))).bind (env.hint 81).keepAt) st=⟨kp 22 [(0,(.dat (strD p0))),(2,(.ptr 0 0)),(8,(.ptr 1 0))],[QfU,(.map (iterE p0 0))]⟩ →
  RL prog env (env.hint 81) true (QL [1,0,1,0,0] (QN f81)) 2 st (fun e s=>match r with|.inl _=>e=.ret∧∃ d,s=⟨sl d 22 [(2,(.ptr 0 0)),(3,(Qg 0))],[QfU,(.map (iterE p0 ((0:Nat)+(Utf8.decode p0 (0:Nat)).2)))]⟩|.inr (v401)=>e=.exit 0∧∃ d,s=⟨sl d 22 [(0,(.dat (strD p0))),(2,(.ptr 0 0))],[QfU,(.map (iterE p0 v401))]⟩)
theorem QeQ:∀ x r,QbP x=some r→Qet x r:=by
 intro p0 r hm
 unfold QbP at hm
 unfold Qet
 show ∀ st,_→_
 intro st hst
 refine RL_at hst ?_
 clear hst
 refine Qd (R_G ?_)
 refine Qhj (s:=p0) (pos:=(0:Nat)) (j:=1) hm (fun hm=>?_) (fun hm=>?_)
 ·refine Qa 1 (Qe (Qd ?_))
  refine Qbd (by kernel_rfl) ?_
  refine Qs (Qu (Qd (R_G (Qa 2 (Qe (Qd (Qd (R_G (Qa 1 ?_)))))))))
  obtain ⟨v402,hx,hm⟩:=Qh hm
  have hq:=Qfh _ _ hx []
  refine Qr hq ?_
  refine Qa 1 (Qe ?_)
  refine Qy hm (Xp _) (fun hm=>?_) (fun hm=>?_)
  ·refine Qd (R_G (Qa 3 (Qe (Qo ?_))))
   obtain rfl:=Qq hm
   exact ⟨rfl,Qp⟩
  refine Qs (Zh ?_)
  obtain rfl:=Qq hm
  exact ⟨rfl,Qp⟩
 refine Qa 1 (Qe (Qd ?_))
 refine Xh (by kernel_rfl) ?_
 refine Zh ?_
 obtain rfl:=Qq hm
 exact ⟨rfl,Qp⟩
def Qdr (x:ByteArray):Option (Xz × Int) :=
 match x with
 | p0 =>
 (
 QbP p0>>=fun (out:Unit ⊕ Nat) =>
 match out with
 | .inl _ =>
  some ((⟨0,ByteArray.empty,0⟩:Xz),0)
 | .inr (v401) =>
  X0 p0>>=fun (v403:ByteArray) =>
  some ((⟨1,v403,0⟩:Xz),(v403.size:Int))
 )
def QfO:ByteArray→(Xz × Int)→Prop:=fun x r=>match x,r with
 | p0,(r0,r1)=>∀ H,PC prog env 81 ([(strD p0)].map .dat) H (.tup [(.dat (Xz.toD r0)),(Qg r1)]) H
theorem QgV:∀ x r,Qdr x=some r→QfO x r:=by
 intro p0 r hm
 unfold Qdr at hm
 unfold QfO
 obtain ⟨r0,r1⟩:=r
 intro H
 refine PC_sx (ds:=[(strD p0)]) (fn:=f81) rfl ?_
 refine Qd (R_G (Qa 2 (Qe (Qd (Qd (R_G (Qa 1 (Qa 1 (Qe (Qu ?_))))))))))
 obtain ⟨out,hs,hm⟩:=Qh hm
 refine Zk ?_
 rcases out with _|v401
 ·refine RL_use (QeQ _ _ hs) (prune_of2 [QfU,(.map (iterE p0 0))] (fun _=>(pg_cons (by kernel_rfl) (pg_cons (purge_it _ _ _ _) pg_nil))) rfl) ?_
  clear hs
  intro e s hp
  obtain ⟨rfl,d,rfl⟩:=hp
  obtain ⟨rfl,rfl⟩:=Zl hm
  exact ⟨trivial,Qk⟩
 ·refine RL_use (QeQ _ _ hs) (prune_of2 [QfU,(.map (iterE p0 0))] (fun _=>(pg_cons (by kernel_rfl) (pg_cons (purge_it _ _ _ _) pg_nil))) rfl) ?_
  clear hs
  intro e s hp
  obtain ⟨rfl,d,rfl⟩:=hp
  refine Qd (R_G (Qa 1 ?_))
  obtain ⟨v403,hx,hm⟩:=Qh hm
  have hq:=Qeb _ _ hx []
  refine Qr hq ?_
  refine Qa 1 (Qe (Qd (R_G (Qa 3 ?_))))
  refine Zt rfl (fun _=>Qc6 (b:=v403) (by kernel_rfl) rfl (by kernel_rfl)) ?_
  refine Qa 2 (Qe (Qo ?_))
  obtain ⟨rfl,rfl⟩:=Zl hm
  exact ⟨trivial,Qk⟩
def Qcu (x:ByteArray):Option Bool :=
 match x with
 | p0 =>
 Qdr p0>>=fun ((v1,v2):(Xz × Int)) =>
 if v2 > 0 then
  some (v2 == (p0.size:Int))
 else
 some false
def QfN:ByteArray→Bool→Prop:=fun x r=>match x,r with
 | p0,r0=>∀ H,PC prog env 52 ([(strD p0)].map .dat) H (Qm r0) H
theorem QgU:∀ x r,Qcu x=some r→QfN x r:=by
 intro p0 r0 hm
 unfold Qcu at hm
 unfold QfN
 intro H
 refine PC_sx (ds:=[(strD p0)]) (fn:=f52) rfl ?_
 refine Qd (R_G (Qa 1 (Qe (Qd (R_G (Qa 1 ?_))))))
 obtain ⟨⟨v1,v2⟩,hx,hm⟩:=Qh hm
 have hq:=QgV _ _ hx []
 refine Qr hq ?_
 refine Qa 6 (Qe (Qd (R_G (Qa 3 ?_))))
 refine Qw 12 hm (rfl) (fun hm=>?_) (fun hm=>?_)
 ·refine Qa 2 ?_
  refine Zt rfl (fun _=>Qc6 (b:=p0) (by kernel_rfl) rfl (by kernel_rfl)) ?_
  refine Qa 3 (Qe (Qo ?_))
  obtain rfl:=Qq hm
  exact ⟨trivial,Qk⟩
 refine Qa 6 (Qe (Qo ?_))
 obtain rfl:=Qq hm
 exact ⟨trivial,Qk⟩
def Qbx (x:Int):Option Bool :=
 match x with
 | p0 =>
 some (decide (p0 < 0))
def Qd4:Int→Bool→Prop:=fun x r=>match x,r with
 | p0,r0=>∀ H,PC prog env 145 ([(Qi p0)].map .dat) H (Qm r0) H
theorem Qf3:∀ x r,Qbx x=some r→Qd4 x r:=by
 intro p0 r0 hm
 unfold Qbx at hm
 unfold Qd4
 intro H
 refine PC_sx (ds:=[(Qi p0)]) (fn:=f145) rfl ?_
 refine Qd (R_G (Qa 1 (Qe (Qd (R_G (Qa 3 (Qe (Qo ?_))))))))
 obtain rfl:=Qq hm
 exact ⟨trivial,Qk⟩
def QJ (x:((List Int) × Int)):Option (Int ⊕ Unit) :=
 match x with
 | (p0,v201) =>
 if v201 < (p0.length:Int) then
  idx p0 v201>>=fun v602 =>
  Qbx v602>>=fun (v603:Bool) =>
  if v603=true then
   some (Sum.inl v201)
  else
  QJ (p0,(W (v201+1)))
 else
 some (Sum.inr ())
 partial_fixpoint
def YQ:((List Int) × Int)→(Int ⊕ Unit)→Prop:=fun x r=>match x with
 | (p0,v201)=>∀ st,prune 0 ((QB (QL [1,0,1,0,0] (QN f155))).bind (env.hint 155).keepAt) st=⟨kp 19 [(0,(La p0)),(1,(.dat (.raw (.func (.func 145) #[] #[])))),(7,(Qg (p0.length:Int))),(8,(Qg v201))],[]⟩ →
  RL prog env (env.hint 155) true (QL [1,0,1,0,0] (QN f155)) 0 st (fun e s=>match r with|.inl v601=>e=.ret∧∃ d,s=⟨sl d 19 [(4,(Qg v601))],[]⟩|.inr (_)=>e=.exit 0∧∃ d,s=⟨sl d 19 [],[]⟩)
theorem Zr:∀ x r,QJ x=some r→YQ x r:=by
 refine QJ.partial_correctness _ (fun QJ Zr x r hm=>?_)
 unfold YQ
 obtain ⟨p0,v201⟩:=x
 intro st hst
 refine RL_at hst ?_
 clear hst
 refine Qd (R_G (Qa 1 (Qe (Qd ?_))))
 refine Qy hm (rfl) (fun hm=>?_) (fun hm=>?_)
 ·refine Qs (Qd (Qu (Qd (R_G (Qa 2 (Qe (Qd (R_G (Qa 3 ?_)))))))))
  refine Zj 1 Qi hm rfl (fun _=>rfl) (fun v602 hm=>?_)
  refine Qa 1 ?_
  obtain ⟨v603,hx,hm⟩:=Qh hm
  have hq:=Qf3 _ _ hx []
  refine Qr hq ?_
  refine Qe ?_
  refine Qy hm (Qz _) (fun hm=>?_) (fun hm=>?_)
  ·refine Qd (R_G (Qa 2 (Qe (Qo ?_))))
   obtain rfl:=Qq hm
   exact ⟨rfl,Qp⟩
  refine Qs (R_G (Qa 2 (Qe ?_)))
  exact Zr _ _ hm _ (by kernel_rfl)
 refine Zh ?_
 obtain rfl:=Qq hm
 exact ⟨rfl,Qp⟩
def Zw (x:(List Int)):Option Int :=
 match x with
 | p0 =>
 (
 QJ (p0,0)>>=fun (out:Int ⊕ Unit) =>
 match out with
 | .inl v601 =>
  some v601
 | .inr (_) =>
  some (-1)
 )
def Y4:(List Int)→Int→Prop:=fun x r=>match x,r with
 | p0,r0=>∀ H,PC prog env 155 ([(Lb p0),(.raw (.func (.func 145) #[] #[]))].map .dat) H (Qg r0) H
theorem Qah:∀ x r,Zw x=some r→Y4 x r:=by
 intro p0 r0 hm
 unfold Zw at hm
 unfold Y4
 intro H
 refine PC_sx (ds:=[(Lb p0),(.raw (.func (.func 145) #[] #[]))]) (fn:=f155) rfl ?_
 refine Qd (R_G (Qa 1 (Qe (Qd (Qd (R_G (Qa 1 ?_)))))))
 refine QP Qi p0 (es:=(List.map Qi) p0) rfl ?_
 refine Qa 1 (Qe (Qu ?_))
 obtain ⟨out,hs,hm⟩:=Qh hm
 refine Zk ?_
 rcases out with v601|_
 ·refine RL_use (Zr _ _ hs) (by kernel_rfl) ?_
  clear hs
  intro e s hp
  obtain ⟨rfl,d,rfl⟩:=hp
  obtain rfl:=Qq hm
  exact ⟨trivial,Qk⟩
 ·refine RL_use (Zr _ _ hs) (by kernel_rfl) ?_
  clear hs
  intro e s hp
  obtain ⟨rfl,d,rfl⟩:=hp
  refine Qd (R_G (Qa 1 (Qe (Qo ?_))))
  obtain rfl:=Qq hm
  exact ⟨trivial,Qk⟩
def Q8 (x:(List Int)):Option Bool :=
 match x with
 | p0 =>
 Zw p0>>=fun (v1:Int) =>
 some (decide (v1≥0))
def YO:(List Int)→Bool→Prop:=fun x r=>match x,r with
 | p0,r0=>∀ H,PC prog env 144 ([(Lb p0),(.raw (.func (.func 145) #[] #[]))].map .dat) H (Qm r0) H
theorem JO:∀ x r,Q8 x=some r→YO x r:=by
 intro p0 r0 hm
 unfold Q8 at hm
 unfold YO
 intro H
 refine PC_sx (ds:=[(Lb p0),(.raw (.func (.func 145) #[] #[]))]) (fn:=f144) rfl ?_
 refine Qd (R_G (Qa 1 (Qe (Qd (R_G (Qa 2 ?_))))))
 obtain ⟨v1,hx,hm⟩:=Qh hm
 have hq:=Qah _ _ hx []
 refine Qr hq ?_
 refine Qa 2 (Qe (Qo ?_))
 obtain rfl:=Qq hm
 exact ⟨trivial,Qk⟩
def Qby (x:Int):Option Bool :=
 match x with
 | p0 =>
 some (decide (p0 > 65536))
def Qd5:Int→Bool→Prop:=fun x r=>match x,r with
 | p0,r0=>∀ H,PC prog env 146 ([(Qi p0)].map .dat) H (Qm r0) H
theorem Qf4:∀ x r,Qby x=some r→Qd5 x r:=by
 intro p0 r0 hm
 unfold Qby at hm
 unfold Qd5
 intro H
 refine PC_sx (ds:=[(Qi p0)]) (fn:=f146) rfl ?_
 refine Qd (R_G (Qa 1 (Qe (Qd (R_G (Qa 3 (Qe (Qo ?_))))))))
 obtain rfl:=Qq hm
 exact ⟨trivial,Qk⟩
def QK (x:((List Int) × Int)):Option (Int ⊕ Unit) :=
 match x with
 | (p0,v201) =>
 if v201 < (p0.length:Int) then
  idx p0 v201>>=fun v602 =>
  Qby v602>>=fun (v603:Bool) =>
  if v603=true then
   some (Sum.inl v201)
  else
  QK (p0,(W (v201+1)))
 else
 some (Sum.inr ())
 partial_fixpoint
def YR:((List Int) × Int)→(Int ⊕ Unit)→Prop:=fun x r=>match x with
 | (p0,v201)=>∀ st,prune 0 ((QB (QL [1,0,1,0,0] (QN f155))).bind (env.hint 155).keepAt) st=⟨kp 19 [(0,(La p0)),(1,(.dat (.raw (.func (.func 146) #[] #[])))),(7,(Qg (p0.length:Int))),(8,(Qg v201))],[]⟩ →
  RL prog env (env.hint 155) true (QL [1,0,1,0,0] (QN f155)) 0 st (fun e s=>match r with|.inl v601=>e=.ret∧∃ d,s=⟨sl d 19 [(4,(Qg v601))],[]⟩|.inr (_)=>e=.exit 0∧∃ d,s=⟨sl d 19 [],[]⟩)
theorem Zs:∀ x r,QK x=some r→YR x r:=by
 refine QK.partial_correctness _ (fun QK Zs x r hm=>?_)
 unfold YR
 obtain ⟨p0,v201⟩:=x
 intro st hst
 refine RL_at hst ?_
 clear hst
 refine Qd (R_G (Qa 1 (Qe (Qd ?_))))
 refine Qy hm (rfl) (fun hm=>?_) (fun hm=>?_)
 ·refine Qs (Qd (Qu (Qd (R_G (Qa 2 (Qe (Qd (R_G (Qa 3 ?_)))))))))
  refine Zj 1 Qi hm rfl (fun _=>rfl) (fun v602 hm=>?_)
  refine Qa 1 ?_
  obtain ⟨v603,hx,hm⟩:=Qh hm
  have hq:=Qf4 _ _ hx []
  refine Qr hq ?_
  refine Qe ?_
  refine Qy hm (Qz _) (fun hm=>?_) (fun hm=>?_)
  ·refine Qd (R_G (Qa 2 (Qe (Qo ?_))))
   obtain rfl:=Qq hm
   exact ⟨rfl,Qp⟩
  refine Qs (R_G (Qa 2 (Qe ?_)))
  exact Zs _ _ hm _ (by kernel_rfl)
 refine Zh ?_
 obtain rfl:=Qq hm
 exact ⟨rfl,Qp⟩
def Zx (x:(List Int)):Option Int :=
 match x with
 | p0 =>
 (
 QK (p0,0)>>=fun (out:Int ⊕ Unit) =>
 match out with
 | .inl v601 =>
  some v601
 | .inr (_) =>
  some (-1)
 )
def Y5:(List Int)→Int→Prop:=fun x r=>match x,r with
 | p0,r0=>∀ H,PC prog env 155 ([(Lb p0),(.raw (.func (.func 146) #[] #[]))].map .dat) H (Qg r0) H
theorem Qai:∀ x r,Zx x=some r→Y5 x r:=by
 intro p0 r0 hm
 unfold Zx at hm
 unfold Y5
 intro H
 refine PC_sx (ds:=[(Lb p0),(.raw (.func (.func 146) #[] #[]))]) (fn:=f155) rfl ?_
 refine Qd (R_G (Qa 1 (Qe (Qd (Qd (R_G (Qa 1 ?_)))))))
 refine QP Qi p0 (es:=(List.map Qi) p0) rfl ?_
 refine Qa 1 (Qe (Qu ?_))
 obtain ⟨out,hs,hm⟩:=Qh hm
 refine Zk ?_
 rcases out with v601|_
 ·refine RL_use (Zs _ _ hs) (by kernel_rfl) ?_
  clear hs
  intro e s hp
  obtain ⟨rfl,d,rfl⟩:=hp
  obtain rfl:=Qq hm
  exact ⟨trivial,Qk⟩
 ·refine RL_use (Zs _ _ hs) (by kernel_rfl) ?_
  clear hs
  intro e s hp
  obtain ⟨rfl,d,rfl⟩:=hp
  refine Qd (R_G (Qa 1 (Qe (Qo ?_))))
  obtain rfl:=Qq hm
  exact ⟨trivial,Qk⟩
def Q9 (x:(List Int)):Option Bool :=
 match x with
 | p0 =>
 Zx p0>>=fun (v1:Int) =>
 some (decide (v1≥0))
def YP:(List Int)→Bool→Prop:=fun x r=>match x,r with
 | p0,r0=>∀ H,PC prog env 144 ([(Lb p0),(.raw (.func (.func 146) #[] #[]))].map .dat) H (Qm r0) H
theorem JP:∀ x r,Q9 x=some r→YP x r:=by
 intro p0 r0 hm
 unfold Q9 at hm
 unfold YP
 intro H
 refine PC_sx (ds:=[(Lb p0),(.raw (.func (.func 146) #[] #[]))]) (fn:=f144) rfl ?_
 refine Qd (R_G (Qa 1 (Qe (Qd (R_G (Qa 2 ?_))))))
 obtain ⟨v1,hx,hm⟩:=Qh hm
 have hq:=Qai _ _ hx []
 refine Qr hq ?_
 refine Qa 2 (Qe (Qo ?_))
 obtain rfl:=Qq hm
 exact ⟨trivial,Qk⟩
def JJ (x:(List Int)):Option Int :=
 match x with
 | p0 =>
 Q8 p0>>=fun (v1:Bool) =>
 if v1=true then
  some 6
 else
 Q9 p0>>=fun (v2:Bool) =>
 if v2=true then
  some 7
 else
 some 0
def Qfd:(List Int)→Int→Prop:=fun x r=>match x,r with
 | p0,r0=>∀ H,PC prog env 125 ([(Lb p0)].map .dat) H (Qg r0) H
theorem Qdx:∀ x r,JJ x=some r→Qfd x r:=by
 intro p0 r0 hm
 unfold JJ at hm
 unfold Qfd
 intro H
 refine PC_sx (ds:=[(Lb p0)]) (fn:=f125) rfl ?_
 refine Qd (R_G (Qa 1 (Qe (Qd (Qu (Qd (R_G (Qa 1 ?_))))))))
 obtain ⟨v1,hx,hm⟩:=Qh hm
 have hq:=JO _ _ hx []
 refine Qr hq ?_
 refine Qa 1 (Qe ?_)
 refine Qy hm (Qz _) (fun hm=>?_) (fun hm=>?_)
 ·refine Qd (R_G (Qa 1 (Qe (Qo ?_))))
  obtain rfl:=Qq hm
  exact ⟨trivial,Qk⟩
 refine Qd (R_G (Qa 1 ?_))
 obtain ⟨v2,hx,hm⟩:=Qh hm
 have hq:=JP _ _ hx []
 refine Qr hq ?_
 refine Qa 1 (Qe ?_)
 refine Qy hm (Qz _) (fun hm=>?_) (fun hm=>?_)
 ·refine Qd (R_G (Qa 1 (Qe (Qo ?_))))
  obtain rfl:=Qq hm
  exact ⟨trivial,Qk⟩
 refine Qs (Qd (R_G (Qa 1 (Qe (Qo ?_)))))
 obtain rfl:=Qq hm
 exact ⟨trivial,Qk⟩
def Ze (x:((List Int) × Int × Int)):Option (Int ⊕ Unit) :=
 match x with
 | (p0,p1,v201) =>
 if v201 < (p0.length:Int) then
  idx p0 v201>>=fun v602 =>
  if p1=v602 then
   some (Sum.inl v201)
  else
  Ze (p0,p1,(W (v201+1)))
 else
 some (Sum.inr ())
 partial_fixpoint
def QaS:((List Int) × Int × Int)→(Int ⊕ Unit)→Prop:=fun x r=>match x with
 | (p0,p1,v201)=>∀ st,prune 0 ((QB (QL [1,0,1,0,0] (QN f147))).bind (env.hint 147).keepAt) st=⟨kp 19 [(0,(La p0)),(1,(Qg p1)),(7,(Qg (p0.length:Int))),(8,(Qg v201))],[]⟩ →
  RL prog env (env.hint 147) true (QL [1,0,1,0,0] (QN f147)) 0 st (fun e s=>match r with|.inl v601=>e=.ret∧∃ d,s=⟨sl d 19 [(4,(Qg v601))],[]⟩|.inr (_)=>e=.exit 0∧∃ d,s=⟨sl d 19 [],[]⟩)
theorem Y0:∀ x r,Ze x=some r→QaS x r:=by
 refine Ze.partial_correctness _ (fun Ze Y0 x r hm=>?_)
 unfold QaS
 obtain ⟨p0,p1,v201⟩:=x
 intro st hst
 refine RL_at hst ?_
 clear hst
 refine Qd (R_G (Qa 1 (Qe (Qd ?_))))
 refine Qy hm (rfl) (fun hm=>?_) (fun hm=>?_)
 ·refine Qs (Qd (Qu (Qd (R_G (Qa 2 (Qe (Qd (R_G (Qa 3 ?_)))))))))
  refine Zj 1 Qi hm rfl (fun _=>rfl) (fun v602 hm=>?_)
  refine Qa 2 (Qe ?_)
  refine Qy hm (ZN _ _) (fun hm=>?_) (fun hm=>?_)
  ·refine Qd (R_G (Qa 2 (Qe (Qo ?_))))
   obtain rfl:=Qq hm
   exact ⟨rfl,Qp⟩
  refine Qs (R_G (Qa 2 (Qe ?_)))
  exact Y0 _ _ hm _ (by kernel_rfl)
 refine Zh ?_
 obtain rfl:=Qq hm
 exact ⟨rfl,Qp⟩
def Xw (x:((List Int) × Int)):Option Int :=
 match x with
 | (p0,p1) =>
 (
 Ze (p0,p1,0)>>=fun (out:Int ⊕ Unit) =>
 match out with
 | .inl v601 =>
  some v601
 | .inr (_) =>
  some (-1)
 )
def Qbn:((List Int) × Int)→Int→Prop:=fun x r=>match x,r with
 | (p0,p1),r0=>∀ H,PC prog env 147 ([(Lb p0),(Qi p1)].map .dat) H (Qg r0) H
theorem Qdz:∀ x r,Xw x=some r→Qbn x r:=by
 intro x r0 hm
 unfold Xw at hm
 unfold Qbn
 obtain ⟨p0,p1⟩:=x
 intro H
 refine PC_sx (ds:=[(Lb p0),(Qi p1)]) (fn:=f147) rfl ?_
 refine Qd (R_G (Qa 1 (Qe (Qd (Qd (R_G (Qa 1 ?_)))))))
 refine QP Qi p0 (es:=(List.map Qi) p0) rfl ?_
 refine Qa 1 (Qe (Qu ?_))
 obtain ⟨out,hs,hm⟩:=Qh hm
 refine Zk ?_
 rcases out with v601|_
 ·refine RL_use (Y0 _ _ hs) (by kernel_rfl) ?_
  clear hs
  intro e s hp
  obtain ⟨rfl,d,rfl⟩:=hp
  obtain rfl:=Qq hm
  exact ⟨trivial,Qk⟩
 ·refine RL_use (Y0 _ _ hs) (by kernel_rfl) ?_
  clear hs
  intro e s hp
  obtain ⟨rfl,d,rfl⟩:=hp
  refine Qd (R_G (Qa 1 (Qe (Qo ?_))))
  obtain rfl:=Qq hm
  exact ⟨trivial,Qk⟩
def Yr (x:((List Int) × Int)):Option Bool :=
 match x with
 | (p0,p1) =>
 Xw (p0,p1)>>=fun (v1:Int) =>
 some (decide (v1≥0))
def QaQ:((List Int) × Int)→Bool→Prop:=fun x r=>match x,r with
 | (p0,p1),r0=>∀ H,PC prog env 126 ([(Lb p0),(Qi p1)].map .dat) H (Qm r0) H
theorem QcF:∀ x r,Yr x=some r→QaQ x r:=by
 intro x r0 hm
 unfold Yr at hm
 unfold QaQ
 obtain ⟨p0,p1⟩:=x
 intro H
 refine PC_sx (ds:=[(Lb p0),(Qi p1)]) (fn:=f126) rfl ?_
 refine Qd (R_G (Qa 1 (Qe (Qd (R_G (Qa 2 ?_))))))
 obtain ⟨v1,hx,hm⟩:=Qh hm
 have hq:=Qdz _ _ hx []
 refine Qr hq ?_
 refine Qa 2 (Qe (Qo ?_))
 obtain rfl:=Qq hm
 exact ⟨trivial,Qk⟩
def Qcv (x:(Int × Int × Int)):Option (Int × Bool) :=
 match x with
 | (p0,p1,p2) =>
 ((if p0 < 0 then
  some true
 else
 some (decide (p1 < 0))
 )>>=fun (v2:Bool) =>
 (if v2=true then
  some true
 else
 some (decide (p0 > p2))
 )>>=fun (v3:Bool) =>
 (if v3=true then
  some true
 else
 some (decide (p1 > p2))
 )>>=fun (v4:Bool) =>
 if v4=true then
  some true
 else
 if p1 > 0 then
  quoM p2 p1>>=fun v5 =>
  some (decide (p0 > v5))
 else
 some false
 )>>=fun (v1:Bool) =>
 if v1=true then
  some (0,false)
 else
 some ((W (p0 * p1)),true)
def QfR:(Int × Int × Int)→(Int × Bool)→Prop:=fun x r=>match x,r with
 | (p0,p1,p2),(r0,r1)=>∀ H,PC prog env 129 ([(Qi p0),(Qi p1),(Qi p2)].map .dat) H (.tup [(Qg r0),(Qm r1)]) H
theorem QgX:∀ x r,Qcv x=some r→QfR x r:=by
 intro x r hm
 unfold Qcv at hm
 unfold QfR
 obtain ⟨p0,p1,p2⟩:=x
 obtain ⟨r0,r1⟩:=r
 intro H
 refine PC_sx (ds:=[(Qi p0),(Qi p1),(Qi p2)]) (fn:=f129) rfl ?_
 refine Qd (R_G (Qa 2 (Qe (Qd (Qd ?_)))))
 obtain ⟨v1,hs,hm⟩:=Qh hm
 refine Yx (fun d=>⟨sl d 38 [(0,(Qg p0)),(1,(Qg p1)),(34,(Qm v1))],[]⟩) ?_ (fun d=>?_)
 ·replace hm:=hs
  clear hs
  refine QcY ?_
  refine Qa 3 ?_
  obtain ⟨v2,hs,hm⟩:=Qh hm
  refine YC (j:=6) (fun d=>⟨sl d 38 [(0,(Qg p0)),(1,(Qg p1)),(2,(Qg p2)),(13,(Qm v2))],[]⟩) (fun d=>?_) (fun hJ=>?_)
  ·clear hs
   refine Qa 1 ?_
   obtain ⟨v3,hs,hm⟩:=Qh hm
   refine YC (j:=11) (fun d=>⟨sl d 38 [(0,(Qg p0)),(1,(Qg p1)),(2,(Qg p2)),(18,(Qm v3))],[]⟩) (fun d=>?_) (fun hJ=>?_)
   ·clear hs
    refine Qa 1 ?_
    obtain ⟨v4,hs,hm⟩:=Qh hm
    refine YC (j:=16) (fun d=>⟨sl d 38 [(0,(Qg p0)),(1,(Qg p1)),(2,(Qg p2)),(23,(Qm v4))],[]⟩) (fun d=>?_) (fun hJ=>?_)
    ·clear hs
     refine Qa 1 ?_
     refine Qw 24 hm (Qz _) (fun hm=>?_) (fun hm=>?_)
     ·refine Qa 10 ?_
      refine Qe ⟨by kernel_rfl,?_⟩
      obtain rfl:=Qq hm
      exact Qp
     refine Qa 3 ?_
     refine Qw 27 hm (rfl) (fun hm=>?_) (fun hm=>?_)
     ·refine Qa 3 ?_
      obtain ⟨v5,hx,hm⟩:=Qh hm
      refine Zt rfl (fun _=>Qhy (a:=p2) (b:=p1) hx rfl (by kernel_rfl) (by kernel_rfl)) ?_
      refine Qa 3 ?_
      refine Qe ⟨by kernel_rfl,?_⟩
      obtain rfl:=Qq hm
      exact Qp
     refine Qa 7 ?_
     refine Qe ⟨by kernel_rfl,?_⟩
     obtain rfl:=Qq hm
     exact Qp
    clear hm
    refine Qw 19 hs (Qz _) (fun hm=>?_) (fun hm=>?_)
    ·refine Qa 4 ?_
     obtain rfl:=Qq hm
     exact hJ _ _
    refine Qa 4 ?_
    obtain rfl:=Qq hm
    exact hJ _ _
   clear hm
   refine Qw 14 hs (Qz _) (fun hm=>?_) (fun hm=>?_)
   ·refine Qa 4 ?_
    obtain rfl:=Qq hm
    exact hJ _ _
   refine Qa 4 ?_
   obtain rfl:=Qq hm
   exact hJ _ _
  clear hm
  refine Qw 10 hs (rfl) (fun hm=>?_) (fun hm=>?_)
  ·refine Qa 3 ?_
   obtain rfl:=Qq hm
   exact hJ _ _
  refine Qa 3 ?_
  obtain rfl:=Qq hm
  exact hJ _ _
 clear hs
 refine Qy hm (Qz _) (fun hm=>?_) (fun hm=>?_)
 ·refine Qd (R_G (Qa 2 (Qe (Qo ?_))))
  obtain ⟨rfl,rfl⟩:=Zl hm
  exact ⟨trivial,Qk⟩
 refine Qs (Qd (R_G (Qa 5 (Qe (Qo ?_)))))
 obtain ⟨rfl,rfl⟩:=Zl hm
 exact ⟨trivial,Qk⟩
def QaG (x:(Int × Int)):Option (Int × Bool) :=
 match x with
 | (p0,p1) =>
 Qcv (p0,p1,65536)>>=fun ((v1,v2):(Int × Bool)) =>
 some (v1,v2)
def Qdj:(Int × Int)→(Int × Bool)→Prop:=fun x r=>match x,r with
 | (p0,p1),(r0,r1)=>∀ H,PC prog env 128 ([(Qi p0),(Qi p1)].map .dat) H (.tup [(Qg r0),(Qm r1)]) H
theorem Qfp:∀ x r,QaG x=some r→Qdj x r:=by
 intro x r hm
 unfold QaG at hm
 unfold Qdj
 obtain ⟨p0,p1⟩:=x
 obtain ⟨r0,r1⟩:=r
 intro H
 refine PC_sx (ds:=[(Qi p0),(Qi p1)]) (fn:=f128) rfl ?_
 refine Qd (R_G (Qa 2 (Qe (Qd (R_G (Qa 2 ?_))))))
 obtain ⟨⟨v1,v2⟩,hx,hm⟩:=Qh hm
 have hq:=QgX _ _ hx []
 refine Qr hq ?_
 refine Qa 4 (Qe (Qo ?_))
 obtain ⟨rfl,rfl⟩:=Zl hm
 exact ⟨trivial,Qk⟩
def QU (x:((List Int) × Int × Int)):Option (Int ⊕ Int) :=
 match x with
 | (p0,v201,v202) =>
 if v202 < (p0.length:Int) then
  idx p0 v202>>=fun v603 =>
  QaG (v201,v603)>>=fun ((v604,v605):(Int × Bool)) =>
  if v605=false then
   some (Sum.inl v604)
  else
  QU (p0,v604,(W (v202+1)))
 else
 some (Sum.inr v201)
 partial_fixpoint
def XQ:((List Int) × Int × Int)→(Int ⊕ Int)→Prop:=fun x r=>match x with
 | (p0,v201,v202)=>∀ st,prune 0 ((QB (QL [1,1,0,1,0,0] (QN f148))).bind (env.hint 148).keepAt) st=⟨kp 31 [(2,(.dat (.raw (.func (.func 128) #[] #[])))),(8,(Qg v201)),(13,(La p0)),(14,(Qg (p0.length:Int))),(15,(Qg v202))],[]⟩ →
  RL prog env (env.hint 148) true (QL [1,1,0,1,0,0] (QN f148)) 0 st (fun e s=>match r with|.inl v601=>e=.ret∧∃ d,s=⟨sl d 31 [(6,(Qg v601)),(7,(Qm false))],[]⟩|.inr (v602)=>e=.exit 0∧∃ d,s=⟨sl d 31 [(8,(Qg v602))],[]⟩)
theorem ZQ:∀ x r,QU x=some r→XQ x r:=by
 refine QU.partial_correctness _ (fun QU ZQ x r hm=>?_)
 unfold XQ
 obtain ⟨p0,v201,v202⟩:=x
 intro st hst
 refine RL_at hst ?_
 clear hst
 refine Qd (R_G (Qa 1 (Qe (Qd ?_))))
 refine Qy hm (rfl) (fun hm=>?_) (fun hm=>?_)
 ·refine Qs (Qd (Qu (Qd (R_G ?_))))
  refine Zj 1 Qi hm rfl (fun _=>rfl) (fun v603 hm=>?_)
  refine Qa 2 (Qe (Qd (R_G (Qa 3 ?_))))
  obtain ⟨⟨v604,v605⟩,hx,hm⟩:=Qh hm
  have hq:=Qfp _ _ hx []
  refine Qr hq ?_
  refine Qa 5 (Qe (Qd (R_G (Qa 2 (Qe ?_)))))
  refine Qy hm (Xp _) (fun hm=>?_) (fun hm=>?_)
  ·refine Qd (R_G (Qa 3 (Qe (Qo ?_))))
   obtain rfl:=Qq hm
   exact ⟨rfl,Qp⟩
  refine Qs (R_G (Qa 2 (Qe ?_)))
  exact ZQ _ _ hm _ (by kernel_rfl)
 refine Zh ?_
 obtain rfl:=Qq hm
 exact ⟨rfl,Qp⟩
def Yk (x:((List Int) × Int)):Option (Int × Bool) :=
 match x with
 | (p0,p1) =>
 (
 QU (p0,p1,0)>>=fun (out:Int ⊕ Int) =>
 match out with
 | .inl v601 =>
  some (v601,false)
 | .inr (v602) =>
  some (v602,true)
 )
def Jr:((List Int) × Int)→(Int × Bool)→Prop:=fun x r=>match x,r with
 | (p0,p1),(r0,r1)=>∀ H,PC prog env 148 ([(Lb p0),(Qi p1),(.raw (.func (.func 128) #[] #[]))].map .dat) H (.tup [(Qg r0),(Qm r1)]) H
theorem QbI:∀ x r,Yk x=some r→Jr x r:=by
 intro x r hm
 unfold Yk at hm
 unfold Jr
 obtain ⟨p0,p1⟩:=x
 obtain ⟨r0,r1⟩:=r
 intro H
 refine PC_sx (ds:=[(Lb p0),(Qi p1),(.raw (.func (.func 128) #[] #[]))]) (fn:=f148) rfl ?_
 refine Qd (R_G (Qa 2 (Qe (Qd (R_G (Qa 3 (Qe (Qd (Qd (R_G (Qa 1 ?_)))))))))))
 refine QP Qi p0 (es:=(List.map Qi) p0) rfl ?_
 refine Qa 1 (Qe (Qu ?_))
 obtain ⟨out,hs,hm⟩:=Qh hm
 refine Zk ?_
 rcases out with v601|v602
 ·refine RL_use (ZQ _ _ hs) (by kernel_rfl) ?_
  clear hs
  intro e s hp
  obtain ⟨rfl,d,rfl⟩:=hp
  obtain ⟨rfl,rfl⟩:=Zl hm
  exact ⟨trivial,Qk⟩
 ·refine RL_use (ZQ _ _ hs) (by kernel_rfl) ?_
  clear hs
  intro e s hp
  obtain ⟨rfl,d,rfl⟩:=hp
  refine Qd (R_G (Qa 3 (Qe (Qo ?_))))
  obtain ⟨rfl,rfl⟩:=Zl hm
  exact ⟨trivial,Qk⟩
def Yj (x:((List Int) × Int)):Option (Int × Int) :=
 match x with
 | (p0,p1) =>
 JJ p0>>=fun (v1:Int) =>
 if v1≠0 then
  some (0,v1)
 else
 Yk (p0,p1)>>=fun ((v2,v3):(Int × Bool)) =>
 if v3=false then
  some (0,7)
 else
 some (v2,0)
def Jq:((List Int) × Int)→(Int × Int)→Prop:=fun x r=>match x,r with
 | (p0,p1),(r0,r1)=>∀ H,PC prog env 127 ([(Lb p0),(Qi p1),(.raw (.func (.func 128) #[] #[]))].map .dat) H (.tup [(Qg r0),(Qg r1)]) H
theorem QbH:∀ x r,Yj x=some r→Jq x r:=by
 intro x r hm
 unfold Yj at hm
 unfold Jq
 obtain ⟨p0,p1⟩:=x
 obtain ⟨r0,r1⟩:=r
 intro H
 refine PC_sx (ds:=[(Lb p0),(Qi p1),(.raw (.func (.func 128) #[] #[]))]) (fn:=f127) rfl ?_
 refine Qd (R_G (Qa 2 (Qe (Qd (Qd (R_G (Qa 1 ?_)))))))
 obtain ⟨v1,hx,hm⟩:=Qh hm
 have hq:=Qdx _ _ hx []
 refine Qr hq ?_
 refine Qa 1 (Qe (Qd (R_G (Qa 2 (Qe ?_)))))
 refine Qy hm (ne_dec _ _) (fun hm=>?_) (fun hm=>?_)
 ·refine Qd (R_G (Qa 3 (Qe (Qo ?_))))
  obtain ⟨rfl,rfl⟩:=Zl hm
  exact ⟨trivial,Qk⟩
 refine Qs (Qd (R_G (Qa 3 ?_)))
 obtain ⟨⟨v2,v3⟩,hx,hm⟩:=Qh hm
 have hq:=QbI _ _ hx []
 refine Qr hq ?_
 refine Qa 5 (Qe (Qd (Qd (R_G (Qa 2 (Qe ?_))))))
 refine Qy hm (Xp _) (fun hm=>?_) (fun hm=>?_)
 ·refine Qd (R_G (Qa 2 (Qe (Qo ?_))))
  obtain ⟨rfl,rfl⟩:=Zl hm
  exact ⟨trivial,Qk⟩
 refine Qs (Qd (R_G (Qa 3 (Qe (Qo ?_)))))
 obtain ⟨rfl,rfl⟩:=Zl hm
 exact ⟨trivial,Qk⟩
def Jv (x:(List Int)):Option (Int × Int) :=
 match x with
 | p0 =>
 JJ p0>>=fun (v1:Int) =>
 (if v1=0 then
  Yr (p0,0)>>=fun (v3:Bool) =>
  some v3
 else
 some false
 )>>=fun (v2:Bool) =>
 if v2=true then
  some (0,0)
 else
 Yj (p0,1)>>=fun ((v4,v5):(Int × Int)) =>
 some (v4,v5)
def Qd3:(List Int)→(Int × Int)→Prop:=fun x r=>match x,r with
 | p0,(r0,r1)=>∀ H,PC prog env 105 ([(Lb p0)].map .dat) H (.tup [(Qg r0),(Qg r1)]) H
theorem Qei:∀ x r,Jv x=some r→Qd3 x r:=by
 intro p0 r hm
 unfold Jv at hm
 unfold Qd3
 obtain ⟨r0,r1⟩:=r
 intro H
 refine PC_sx (ds:=[(Lb p0)]) (fn:=f105) rfl ?_
 refine Qd (R_G (Qa 2 (Qe (Qd (Qd (R_G (Qa 1 ?_)))))))
 obtain ⟨v1,hx,hm⟩:=Qh hm
 have hq:=Qdx _ _ hx []
 refine Qr hq ?_
 refine Qa 1 (Qe (Qd ?_))
 obtain ⟨v2,hs,hm⟩:=Qh hm
 refine Yx (fun d=>⟨sl d 17 [(0,(La p0)),(12,(Qm v2))],[]⟩) ?_ (fun d=>?_)
 ·replace hm:=hs
  clear hs
  refine R_G (Qa 3 ?_)
  refine Qw 9 hm (ZN _ _) (fun hm=>?_) (fun hm=>?_)
  ·refine Qa 1 ?_
   obtain ⟨v3,hx,hm⟩:=Qh hm
   have hq:=QcF _ _ hx []
   refine Qr hq ?_
   refine Qa 1 (Qe ?_)
   obtain rfl:=Qq hm
   exact Qp
  refine Qa 3 (Qe ?_)
  obtain rfl:=Qq hm
  exact Qp
 clear hs
 refine Qy hm (Qz _) (fun hm=>?_) (fun hm=>?_)
 ·refine Qd (R_G (Qa 2 (Qe (Qo ?_))))
  obtain ⟨rfl,rfl⟩:=Zl hm
  exact ⟨trivial,Qk⟩
 refine Qs (Qd (R_G (Qa 1 ?_)))
 obtain ⟨⟨v4,v5⟩,hx,hm⟩:=Qh hm
 have hq:=QbH _ _ hx []
 refine Qr hq ?_
 refine Qa 4 (Qe (Qo ?_))
 obtain ⟨rfl,rfl⟩:=Zl hm
 exact ⟨trivial,Qk⟩
def Zo (x:(List Int)):Option Int :=
 match x with
 | p0 =>
 Jv p0>>=fun ((v1,v2):(Int × Int)) =>
 (if v2≠6 then
  some (decide ((p0.length:Int) > 16))
 else
 some false
 )>>=fun (v3:Bool) =>
 if v3=true then
  some 7
 else
 some v2
def QeK:(List Int)→Int→Prop:=fun x r=>match x,r with
 | p0,r0=>∀ H,PC prog env 79 ([(Lb p0)].map .dat) H (Qg r0) H
theorem ZE:∀ x r,Zo x=some r→QeK x r:=by
 intro p0 r0 hm
 unfold Zo at hm
 unfold QeK
 intro H
 refine PC_sx (ds:=[(Lb p0)]) (fn:=f79) rfl ?_
 refine Qd (R_G (Qa 1 (Qe (Qd (R_G (Qa 1 ?_))))))
 obtain ⟨⟨v1,v2⟩,hx,hm⟩:=Qh hm
 have hq:=Qei _ _ hx []
 refine Qr hq ?_
 refine Qa 5 (Qe (Qd (Qd ?_)))
 obtain ⟨v3,hs,hm⟩:=Qh hm
 refine Yx (fun d=>⟨sl d 18 [(4,(Qg v2)),(16,(Qm v3))],[]⟩) ?_ (fun d=>?_)
 ·replace hm:=hs
  clear hs
  refine R_G (Qa 3 ?_)
  refine Qw 12 hm (ne_dec _ _) (fun hm=>?_) (fun hm=>?_)
  ·refine Qa 1 ?_
   refine QP Qi p0 (es:=(List.map Qi) p0) rfl ?_
   refine Qa 2 (Qe ?_)
   obtain rfl:=Qq hm
   exact Qp
  refine Qa 4 (Qe ?_)
  obtain rfl:=Qq hm
  exact Qp
 clear hs
 refine Qy hm (Qz _) (fun hm=>?_) (fun hm=>?_)
 ·refine Qd (R_G (Qa 1 (Qe (Qo ?_))))
  obtain rfl:=Qq hm
  exact ⟨trivial,Qk⟩
 refine Qs (Qd (R_G (Qa 2 (Qe (Qo ?_)))))
 obtain rfl:=Qq hm
 exact ⟨trivial,Qk⟩
def JV (x:(List Int)):Option Int :=
 match x with
 | p0 =>
 Zo p0>>=fun (v1:Int) =>
 if v1≠0 then
  some 0
 else
 Jv p0>>=fun ((v2,v3):(Int × Int)) =>
 some v2
def QeJ:(List Int)→Int→Prop:=fun x r=>match x,r with
 | p0,r0=>∀ H,PC prog env 82 ([(Lb p0)].map .dat) H (Qg r0) H
theorem QeT:∀ x r,JV x=some r→QeJ x r:=by
 intro p0 r0 hm
 unfold JV at hm
 unfold QeJ
 intro H
 refine PC_sx (ds:=[(Lb p0)]) (fn:=f82) rfl ?_
 refine Qd (R_G (Qa 1 (Qe (Qd (Qd (R_G (Qa 1 ?_)))))))
 obtain ⟨v1,hx,hm⟩:=Qh hm
 have hq:=ZE _ _ hx []
 refine Qr hq ?_
 refine Qa 1 (Qe ?_)
 refine Qy hm (ne_dec _ _) (fun hm=>?_) (fun hm=>?_)
 ·refine Qd (R_G (Qa 1 (Qe (Qo ?_))))
  obtain rfl:=Qq hm
  exact ⟨trivial,Qk⟩
 refine Qs (Qd (R_G (Qa 1 ?_)))
 obtain ⟨⟨v2,v3⟩,hx,hm⟩:=Qh hm
 have hq:=Qei _ _ hx []
 refine Qr hq ?_
 refine Qa 5 (Qe (Qd (R_G (Qa 2 (Qe (Qo ?_))))))
 obtain rfl:=Qq hm
 exact ⟨trivial,Qk⟩
def XA (x:Qt):Option Int :=
 match x with
 | p0 =>
 Zo p0.shape>>=fun (v1:Int) =>
 if v1≠0 then
  some v1
 else
 JV p0.shape>>=fun (v2:Int) =>
 if (p0.data.length:Int)≠v2 then
  some 5
 else
 some 0
def Qeo:Qt→Int→Prop:=fun x r=>match x,r with
 | p0,r0=>∀ H,PC prog env 53 ([(Qt.toD p0)].map .dat) H (Qg r0) H
theorem QeM:∀ x r,XA x=some r→Qeo x r:=by
 intro p0 r0 hm
 unfold XA at hm
 unfold Qeo
 intro H
 refine PC_sx (ds:=[(Qt.toD p0)]) (fn:=f53) rfl ?_
 refine Qd (R_G (Qa 2 (Qe (Qd (Qd (R_G (Qa 2 ?_)))))))
 obtain ⟨v1,hx,hm⟩:=Qh hm
 have hq:=ZE _ _ hx []
 refine Qr hq ?_
 refine Qa 1 (Qe (Qd (R_G (Qa 2 (Qe ?_)))))
 refine Qy hm (ne_dec _ _) (fun hm=>?_) (fun hm=>?_)
 ·refine Qd (R_G (Qa 2 (Qe (Qo ?_))))
  obtain rfl:=Qq hm
  exact ⟨trivial,Qk⟩
 refine Qs (Qd (Qd ?_))
 refine QaB ?_
 refine Qa 2 ?_
 refine QP Qi p0.data (es:=(List.map Qi) p0.data) rfl ?_
 refine Qa 2 ?_
 obtain ⟨v2,hx,hm⟩:=Qh hm
 have hq:=QeT _ _ hx []
 refine Qr hq ?_
 refine Qa 1 ?_
 refine Qe ⟨by kernel_rfl,?_⟩
 refine Qy hm (ne_dec _ _) (fun hm=>?_) (fun hm=>?_)
 ·refine Qd (R_G (Qa 1 (Qe (Qo ?_))))
  obtain rfl:=Qq hm
  exact ⟨trivial,Qk⟩
 refine Qs (Qd (R_G (Qa 1 (Qe (Qo ?_)))))
 obtain rfl:=Qq hm
 exact ⟨trivial,Qk⟩
def Qb1 (x:Qb):Option Bool :=
 match x with
 | p0 =>
 Qcu p0.name>>=fun (v1:Bool) =>
 if v1=true then
  XA (⟨p0.value.shape,p0.value.data⟩:Qt)>>=fun (v2:Int) =>
  some (v2 == 0)
 else
 some false
def Qfs:Qb→Bool→Prop:=fun x r=>match x,r with
 | p0,r0=>∀ H,PC prog env 30 ([(Qb.toD p0)].map .dat) H (Qm r0) H
theorem QgE:∀ x r,Qb1 x=some r→Qfs x r:=by
 intro p0 r0 hm
 unfold Qb1 at hm
 unfold Qfs
 intro H
 refine PC_sx (ds:=[(Qb.toD p0)]) (fn:=f30) rfl ?_
 refine Qd (R_G (Qa 2 (Qe (Qd (R_G (Qa 2 ?_))))))
 obtain ⟨v1,hx,hm⟩:=Qh hm
 have hq:=QgU _ _ hx []
 refine Qr hq ?_
 refine Qa 1 ?_
 refine Qw 6 hm (Qz _) (fun hm=>?_) (fun hm=>?_)
 ·refine Qa 2 ?_
  obtain ⟨v2,hx,hm⟩:=Qh hm
  have hq:=QeM _ _ hx []
  refine Qr hq ?_
  refine Qa 3 (Qe (Qo ?_))
  obtain rfl:=Qq hm
  exact ⟨trivial,Qk⟩
 refine Qa 6 (Qe (Qo ?_))
 obtain rfl:=Qq hm
 exact ⟨trivial,Qk⟩
def XI (x:(List Int)):Option (List Int) :=
 match x with
 | p0 =>
 makeM 8 (p0.length:Int) 0>>=fun v1 =>
 Z3 ((cpM v1 p0).length=v1.length)>>=fun (_:Unit) =>
 some (cpM v1 p0)
def Qck:(List Int)→(List Int)→Prop:=fun x r=>match x,r with
 | p0,r0=>∀ H,PC prog env 83 ([(Lb p0)].map .dat) H (La r0) H
theorem QeX:∀ x r,XI x=some r→Qck x r:=by
 intro p0 r0 hm
 unfold XI at hm
 unfold Qck
 intro H
 refine PC_sx (ds:=[(Lb p0)]) (fn:=f83) rfl ?_
 refine Qd (R_G (Qa 1 (Qe (Qd (R_G (Qa 1 ?_))))))
 refine QP Qi p0 (es:=(List.map Qi) p0) rfl ?_
 obtain ⟨v1,hx,hm⟩:=Qh hm
 refine ZI (v:=.arr 0 0 v1.length v1.length) (fun H=>H++[.box (cellsOf Qi v1)]) rfl (by kernel_rfl) ?_ ?_
 ·intro K hk
  exact QfL 0 Qi (z:=0) (n:=(p0.length:Int)) (bytes:=8) hx (e:=3) (by kernel_rfl) (by kernel_rfl) (by kernel_rfl) (by kernel_rfl) rfl rfl (by kernel_rfl) (by kernel_rfl) hk
 refine Qa 1 (Qe (Qd (R_G (Qa 2 ?_))))
 refine ZI (v:=Qg ((min p0.length v1.length:Nat):Int)) (fun H=>H.set 0 (.box (cellsOf Qi (cpM v1 p0)))) rfl (by kernel_rfl) (fun _=>Qg0 Qi (d:=v1) (l:=p0) (e:=3) (i:=0) (m:=v1.length) (cap:=v1.length) (fun _=>rfl) rfl (by kernel_rfl) (by kernel_rfl) rfl (by kernel_rfl) (by kernel_rfl) (by kernel_rfl)) ?_
 refine Qe (Qd (R_G (Qa 2 (Qe (Qo ?_)))))
 obtain ⟨_,hl2,hm⟩:=Qh hm
 replace hl2:=Z7 hl2
 obtain rfl:=Qq hm
 exact ⟨trivial,Xi [(.arr 0 0 v1.length v1.length)] (by kernel_rfl) (po_arr (pc_arr Qi (cpM v1 p0) hl2 (fun _=>rfl) (by kernel_rfl)))⟩
def YE (x:(List Int)):Option (List Int) :=
 match x with
 | p0 =>
 makeM 8 (p0.length:Int) 0>>=fun v1 =>
 Z3 ((cpM v1 p0).length=v1.length)>>=fun (_:Unit) =>
 some (cpM v1 p0)
def QbV:(List Int)→(List Int)→Prop:=fun x r=>match x,r with
 | p0,r0=>∀ H,PC prog env 84 ([(Lb p0)].map .dat) H (La r0) H
theorem Qb9:∀ x r,YE x=some r→QbV x r:=by
 intro p0 r0 hm
 unfold YE at hm
 unfold QbV
 intro H
 refine PC_sx (ds:=[(Lb p0)]) (fn:=f84) rfl ?_
 refine Qd (R_G (Qa 1 (Qe (Qd (R_G (Qa 1 ?_))))))
 refine QP Qi p0 (es:=(List.map Qi) p0) rfl ?_
 obtain ⟨v1,hx,hm⟩:=Qh hm
 refine ZI (v:=.arr 0 0 v1.length v1.length) (fun H=>H++[.box (cellsOf Qi v1)]) rfl (by kernel_rfl) ?_ ?_
 ·intro K hk
  exact QfL 0 Qi (z:=0) (n:=(p0.length:Int)) (bytes:=8) hx (e:=2) (by kernel_rfl) (by kernel_rfl) (by kernel_rfl) (by kernel_rfl) rfl rfl (by kernel_rfl) (by kernel_rfl) hk
 refine Qa 1 (Qe (Qd (R_G (Qa 2 ?_))))
 refine ZI (v:=Qg ((min p0.length v1.length:Nat):Int)) (fun H=>H.set 0 (.box (cellsOf Qi (cpM v1 p0)))) rfl (by kernel_rfl) (fun _=>Qg0 Qi (d:=v1) (l:=p0) (e:=2) (i:=0) (m:=v1.length) (cap:=v1.length) (fun _=>rfl) rfl (by kernel_rfl) (by kernel_rfl) rfl (by kernel_rfl) (by kernel_rfl) (by kernel_rfl)) ?_
 refine Qe (Qd (R_G (Qa 2 (Qe (Qo ?_)))))
 obtain ⟨_,hl2,hm⟩:=Qh hm
 replace hl2:=Z7 hl2
 obtain rfl:=Qq hm
 exact ⟨trivial,Xi [(.arr 0 0 v1.length v1.length)] (by kernel_rfl) (po_arr (pc_arr Qi (cpM v1 p0) hl2 (fun _=>rfl) (by kernel_rfl)))⟩
def XX (x:Qt):Option Qt :=
 match x with
 | p0 =>
 XI p0.shape>>=fun (v1:(List Int)) =>
 YE p0.data>>=fun (v2:(List Int)) =>
 some (⟨v1,v2⟩:Qt)
def Qe2:Qt→Qt→Prop:=fun x r=>match x,r with
 | p0,r0=>∀ H,PC prog env 54 ([(Qt.toD p0)].map .dat) H (.dat (Qt.toD r0)) H
theorem Qfe:∀ x r,XX x=some r→Qe2 x r:=by
 intro p0 r0 hm
 unfold XX at hm
 unfold Qe2
 intro H
 refine PC_sx (ds:=[(Qt.toD p0)]) (fn:=f54) rfl ?_
 refine Qd (R_G (Qa 2 (Qe (Qd ?_))))
 refine QaB ?_
 refine Qa 2 ?_
 obtain ⟨v1,hx,hm⟩:=Qh hm
 have hq:=QeX _ _ hx []
 refine Qr hq ?_
 refine Qa 2 ?_
 obtain ⟨v2,hx,hm⟩:=Qh hm
 have hq:=Qb9 _ _ hx []
 refine Qr hq ?_
 refine Qa 2 ?_
 refine Qe ⟨by kernel_rfl,?_⟩
 refine Qo ?_
 obtain rfl:=Qq hm
 exact ⟨trivial,Qk⟩
def Qbt (x:Qb):Option Qb :=
 match x with
 | p0 =>
 XX (⟨p0.value.shape,p0.value.data⟩:Qt)>>=fun (v1:Qt) =>
 some (⟨p0.name,v1⟩:Qb)
def Qe6:Qb→Qb→Prop:=fun x r=>match x,r with
 | p0,r0=>∀ H,PC prog env 31 ([(Qb.toD p0)].map .dat) H (.dat (Qb.toD r0)) H
theorem Qgq:∀ x r,Qbt x=some r→Qe6 x r:=by
 intro p0 r0 hm
 unfold Qbt at hm
 unfold Qe6
 intro H
 refine PC_sx (ds:=[(Qb.toD p0)]) (fn:=f31) rfl ?_
 refine Qd (R_G (Qa 2 (Qe (Qd ?_))))
 refine QaB ?_
 refine Qa 4 ?_
 obtain ⟨v1,hx,hm⟩:=Qh hm
 have hq:=Qfe _ _ hx []
 refine Qr hq ?_
 refine Qa 2 ?_
 refine Qe ⟨by kernel_rfl,?_⟩
 refine Qo ?_
 obtain rfl:=Qq hm
 exact ⟨trivial,Qk⟩
def Xu (x:((List Qb) × ByteArray × (List (ByteArray × Int)) × (List Int) × (List Int))):Option ((Int × Bool)) :=
 match x with
 | (q0,q1,q2,q3,q4) =>
 some (lookS q2 q1)>>=fun ((v1,v2):(Int × Bool)) =>
 some (v1,v2)
def JC:((List Qb) × ByteArray × (List (ByteArray × Int)) × (List Int) × (List Int))→(Int × Bool)→Prop:=fun x r=>match x with
 | (q0,q1,q2,q3,q4)=>PC prog env 29 [(.agg [(.vec 1 ((List.map Qb.toD) q0)),(.mapv 0)]),(.dat (strD q1))] [(.map (smE q2)),(.tok 59 q0.length),(.box [(.vec 1 ((List.map Qb.toD) q0)),(.mapv 0)]),(.tok 59 (([]:List Qb).length)),(.box [(.dat (strD q1)),(La q3),(La q4)])] (match r with|(v5001,v5002)=>(.tup [(Qg v5001),(Qm v5002)])) (match r with|(v5001,v5002)=>[(.map (smE q2)),(.tok 59 q0.length),(.box [(.vec 1 ((List.map Qb.toD) q0)),(.mapv 0)]),(.tok 59 (([]:List Qb).length)),(.box [(.dat (strD q1)),(La q3),(La q4)]),(.box [(.vec 1 ((List.map Qb.toD) q0)),(.mapv 0)])])
theorem Qdt:∀ x r,Xu x=some r→JC x r:=by
 intro x r hm
 unfold Xu at hm
 unfold JC
 obtain ⟨q0,q1,q2,q3,q4⟩:=x
 refine PC_sxB (fn:=f29) rfl ?_
 refine Qd (R_G (Qa 3 (Qe (Qd (R_G (Qa 3 ?_))))))
 obtain ⟨⟨v1,v2⟩,hx,hm⟩:=Qh hm
 refine Zt (v:=.tup [Qg v1,Qm v2]) rfl (fun _=>QgC (i:=0) (kt:=9) (e:=3) (l:=q2) (s:=q1) hx (by kernel_rfl) (by kernel_rfl) (by kernel_rfl) rfl (by kernel_rfl) (by kernel_rfl) (by kernel_rfl)) ?_
 refine Qa 5 (Qe (Qd (R_G (Qa 4 (Qe (Qo ?_))))))
 obtain rfl:=Qq hm
 exact ⟨trivial,QM (by kernel_rfl) (by kernel_rfl)⟩
def Yb (x:((List Qb) × (List (ByteArray × Int)) × (List Qb) × Int)):Option (((List (ByteArray × Int)) × (List Qb) × ByteArray × (List Int) × (List Int) × (List Qb)) ⊕ ((List (ByteArray × Int)) × (List Qb))) :=
 match x with
 | (q0,v201,v202,v203) =>
 if v203 < (q0.length:Int) then
  idx q0 v203>>=fun v609 =>
  Xu (v202,v609.name,v201,v609.value.shape,v609.value.data)>>=fun ((v610,v611):(Int × Bool)) =>
  (if v611=true then
   some true
  else
  Qb1 v609>>=fun (v613:Bool) =>
  some (!v613)
  )>>=fun (v612:Bool) =>
  if v612=true then
   some (Sum.inl (v201,v202,v609.name,v609.value.shape,v609.value.data,v202))
  else
  Qbt v609>>=fun (v614:Qb) =>
  app 64 v202 ([v614]:List Qb)>>=fun v615 =>
  Yb (q0,(setS v201 v609.name v203),v615,(W (v203+1)))
 else
 some (Sum.inr (v201,v202))
 partial_fixpoint
def Qcn:((List Qb) × (List (ByteArray × Int)) × (List Qb) × Int)→(((List (ByteArray × Int)) × (List Qb) × ByteArray × (List Int) × (List Int) × (List Qb)) ⊕ ((List (ByteArray × Int)) × (List Qb)))→Prop:=fun x r=>match x with
 | (q0,v201,v202,v203)=>∀ st,prune 4 ((QB (QL [1,1,0,1,0,0] (QN f16))).bind (env.hint 16).keepAt) st=⟨kp 47 [(4,(.ptr 2 0)),(11,(.dat (.lst ((List.map Qb.toD) q0)))),(12,(Qg (q0.length:Int))),(13,(Qg v203))],[(.map (smE v201)),(.tok 59 v202.length),(.box [(.vec 1 ((List.map Qb.toD) v202)),(.mapv 0)]),(.tok 59 (([]:List Qb).length))]⟩ →
  RL prog env (env.hint 16) true (QL [1,1,0,1,0,0] (QN f16)) 4 st (fun e s=>match r with|.inl (v601,v602,v603,v604,v605,v606)=>e=.ret∧∃ d,s=⟨sl d 47 [(2,(.dat (.raw (.pointer none)))),(3,(Qg 3))],[(.map (smE v601)),(.tok 59 v602.length),(.box [(.vec 1 ((List.map Qb.toD) v602)),(.mapv 0)]),(.tok 59 (([]:List Qb).length)),(.box [(.dat (strD v603)),(La v604),(La v605)]),(.box [(.vec 1 ((List.map Qb.toD) v606)),(.mapv 0)])]⟩|.inr ((v607,v608))=>e=.exit 0∧∃ d,s=⟨sl d 47 [(4,(.ptr 2 0))],[(.map (smE v607)),(.tok 59 v608.length),(.box [(.vec 1 ((List.map Qb.toD) v608)),(.mapv 0)]),(.tok 59 (([]:List Qb).length))]⟩)
theorem JK:∀ x r,Yb x=some r→Qcn x r:=by
 refine Yb.partial_correctness _ (fun Yb JK x r hm=>?_)
 unfold Qcn
 obtain ⟨q0,v201,v202,v203⟩:=x
 intro st hst
 refine RL_at hst ?_
 clear hst
 refine Qd (R_G (Qa 1 (Qe (Qd ?_))))
 refine Qy hm (rfl) (fun hm=>?_) (fun hm=>?_)
 ·refine Qs (Qd (Qu (Qd (R_G (Qa 1 ?_)))))
  refine Zj 3 Qb.toD hm rfl (fun _=>rfl) (fun v609 hm=>?_)
  refine Qa 4 (Qe (Qd (Qd (R_G (Qa 3 ?_)))))
  obtain ⟨⟨v610,v611⟩,hx,hm⟩:=Qh hm
  have hq:=Qdt _ _ hx
  dsimp only [JC] at hq
  refine Q0 hq ?_
  refine Qa 5 (Qe (Qd ?_))
  obtain ⟨v612,hs,hm⟩:=Qh hm
  refine Yx (fun d=>⟨sl d 47 [(4,(.ptr 2 0)),(5,(Qg v203)),(6,(.ptr 4 0)),(11,(.dat (.lst ((List.map Qb.toD) q0)))),(12,(Qg (q0.length:Int))),(13,(Qg v203)),(30,(Qm v612))],[(.map (smE v201)),(.tok 59 v202.length),(.box [(.vec 1 ((List.map Qb.toD) v202)),(.mapv 0)]),(.tok 59 (([]:List Qb).length)),(.box [(.dat (strD v609.name)),(La v609.value.shape),(La v609.value.data)]),(.box [(.vec 1 ((List.map Qb.toD) v202)),(.mapv 0)])]⟩) ?_ (fun d=>?_)
  ·replace hm:=hs
   clear hs
   refine R_G (Qa 2 ?_)
   refine Qw 26 hm (Qz _) (fun hm=>?_) (fun hm=>?_)
   ·refine Qa 4 (Qe ?_)
    obtain rfl:=Qq hm
    exact Qp
   refine Qa 1 ?_
   obtain ⟨v613,hx,hm⟩:=Qh hm
   have hq:=QgE _ _ hx []
   refine Qr hq ?_
   refine Qa 2 (Qe ?_)
   obtain rfl:=Qq hm
   exact Qp
  clear hs
  refine Qy hm (Qz _) (fun hm=>?_) (fun hm=>?_)
  ·refine Qd (R_G (Qa 2 (Qe (Qo ?_))))
   obtain rfl:=Qq hm
   exact ⟨rfl,Qp⟩
  refine Qs ?_
  refine QaB ?_
  refine Qa 7 ?_
  obtain ⟨v614,hx,hm⟩:=Qh hm
  have hq:=Qgq _ _ hx []
  refine Qr hq ?_
  refine Qa 1 ?_
  obtain ⟨v615,hx,hm⟩:=Qh hm
  refine Qc7 59 3 64 1 Qb.toD v202 ([v614]:List Qb) v615 (xs:=(List.map Qb.toD) v202) (es:=(List.map Qb.toD) ([v614]:List Qb)) (L:=(List.map Qb.toD)) (fun _=>rfl) rfl rfl Qb.fit hx ?_
  refine Qa 3 ?_
  refine ZI (fun H=>H.set 0 (.map (smE (setS v201 v609.name v203)))) rfl (by kernel_rfl) (fun _=>Qhn (i:=0) (kt:=9) (e:=3) (l:=v201) (s:=v609.name) (n:=v203) (by kernel_rfl) (by kernel_rfl) rfl (by kernel_rfl) (by kernel_rfl) (by kernel_rfl) (by kernel_rfl)) ?_
  refine Qe ⟨by kernel_rfl,?_⟩
  refine R_G (Qa 2 (Qe ?_))
  exact JK _ _ hm _ (prune_of2 [(.map (smE (setS v201 v609.name v203))),(.tok 59 v615.length),(.box [(.vec 1 ((List.map Qb.toD) v615)),(.mapv 0)]),(.tok 59 (([]:List Qb).length))] (fun _=>(pg_cons (purge_sm _ _ _) (pg_cons (by kernel_rfl) (pg_cons (by kernel_rfl) (pg_cons (by kernel_rfl) pg_nil))))) rfl)
 refine Zh ?_
 obtain rfl:=Qq hm
 exact ⟨rfl,Qp⟩
def Qa9 (x:(List Qb)):Option (((List (ByteArray × Int)) × (List Qb) × ByteArray × (List Int) × (List Int) × (List Qb)) ⊕ ((List (ByteArray × Int)) × (List Qb) × (List Qb))) :=
 match x with
 | q0 =>
 (
 Yb (q0,([]:List (ByteArray × Int)),([]:List Qb),0)>>=fun (out:((List (ByteArray × Int)) × (List Qb) × ByteArray × (List Int) × (List Int) × (List Qb)) ⊕ ((List (ByteArray × Int)) × (List Qb))) =>
 match out with
 | .inl (v601,v602,v603,v604,v605,v606) =>
  some (Sum.inl (v601,v602,v603,v604,v605,v606))
 | .inr ((v607,v608)) =>
  some (Sum.inr (v607,v608,v608))
 )
def Qa6:(List Qb)→(((List (ByteArray × Int)) × (List Qb) × ByteArray × (List Int) × (List Int) × (List Qb)) ⊕ ((List (ByteArray × Int)) × (List Qb) × (List Qb)))→Prop:=fun x r=>match x with
 | q0=>PC prog env 16 [(.dat (.lst ((List.map Qb.toD) q0)))] [] (match r with|.inl (v5001,v5002,v5003,v5004,v5005,v5006)=>(.tup [(.dat (.raw (.pointer none))),(Qg 3)])|.inr ((v5007,v5008,v5009))=>(.tup [(.ptr 4 0),(Qg 0)])) (match r with|.inl (v5001,v5002,v5003,v5004,v5005,v5006)=>[(.map (smE v5001)),(.tok 59 v5002.length),(.box [(.vec 1 ((List.map Qb.toD) v5002)),(.mapv 0)]),(.tok 59 (([]:List Qb).length)),(.box [(.dat (strD v5003)),(La v5004),(La v5005)]),(.box [(.vec 1 ((List.map Qb.toD) v5006)),(.mapv 0)])]|.inr ((v5007,v5008,v5009))=>[(.map (smE v5007)),(.tok 59 v5008.length),(.box [(.vec 1 ((List.map Qb.toD) v5008)),(.mapv 0)]),(.tok 59 (([]:List Qb).length)),(.box [(.vec 1 ((List.map Qb.toD) v5009)),(.mapv 0)])])
theorem QdG:∀ x r,Qa9 x=some r→Qa6 x r:=by
 intro q0 r hm
 unfold Qa9 at hm
 unfold Qa6
 refine PC_sxB (fn:=f16) rfl ?_
 refine Qd (R_G (Qa 2 (Qe (Qd (R_G (Qa 1 (Qa 3 (Qe (Qd (Qd (R_G ?_)))))))))))
 refine Qa 1 ?_
 refine QP Qb.toD q0 (es:=(List.map Qb.toD) q0) rfl ?_
 refine Qa 1 (Qe (Qu ?_))
 obtain ⟨out,hs,hm⟩:=Qh hm
 refine Zk ?_
 rcases out with ⟨v601,v602,v603,v604,v605,v606⟩|⟨v607,v608⟩
 ·refine RL_use (JK _ _ hs) (prune_of2 [(.map (smE ([]:List (ByteArray × Int)))),(.tok 59 (([]:List Qb).length)),(.box [(.vec 1 []),(.mapv 0)]),(.tok 59 (([]:List Qb).length))] (fun _=>(pg_cons (purge_sm _ _ _) (pg_cons (by kernel_rfl) (pg_cons (by kernel_rfl) (pg_cons (by kernel_rfl) pg_nil))))) rfl) ?_
  clear hs
  intro e s hp
  obtain ⟨rfl,d,rfl⟩:=hp
  obtain rfl:=Qq hm
  exact ⟨trivial,QM (by kernel_rfl) (by kernel_rfl)⟩
 ·refine RL_use (JK _ _ hs) (prune_of2 [(.map (smE ([]:List (ByteArray × Int)))),(.tok 59 (([]:List Qb).length)),(.box [(.vec 1 []),(.mapv 0)]),(.tok 59 (([]:List Qb).length))] (fun _=>(pg_cons (purge_sm _ _ _) (pg_cons (by kernel_rfl) (pg_cons (by kernel_rfl) (pg_cons (by kernel_rfl) pg_nil))))) rfl) ?_
  clear hs
  intro e s hp
  obtain ⟨rfl,d,rfl⟩:=hp
  refine Qd (R_G (Qa 5 (Qe (Qo ?_))))
  obtain rfl:=Qq hm
  exact ⟨trivial,QM (by kernel_rfl) (by kernel_rfl)⟩
def XK (x:(List Qb)):Option (((List (ByteArray × Int)) × (List Qb) × ByteArray × (List Int) × (List Int) × (List Qb)) ⊕ ((List (ByteArray × Int)) × (List Qb) × (List Qb))) :=
 match x with
 | q0 =>
 (
 Qa9 q0>>=fun (out:((List (ByteArray × Int)) × (List Qb) × ByteArray × (List Int) × (List Int) × (List Qb)) ⊕ ((List (ByteArray × Int)) × (List Qb) × (List Qb))) =>
 match out with
 | .inl (v1,v2,v3,v4,v5,v6) =>
  some (Sum.inl (v1,v2,v3,v4,v5,v6))
 | .inr ((v7,v8,v9)) =>
  some (Sum.inr (v7,v8,v9))
 )
def JE:(List Qb)→(((List (ByteArray × Int)) × (List Qb) × ByteArray × (List Int) × (List Int) × (List Qb)) ⊕ ((List (ByteArray × Int)) × (List Qb) × (List Qb)))→Prop:=fun x r=>match x with
 | q0=>PC prog env 8 [(.dat (.lst ((List.map Qb.toD) q0)))] [] (match r with|.inl (v5001,v5002,v5003,v5004,v5005,v5006)=>(.dat (.raw (.pointer none)))|.inr ((v5007,v5008,v5009))=>(.ptr 4 0)) (match r with|.inl (v5001,v5002,v5003,v5004,v5005,v5006)=>[(.map (smE v5001)),(.tok 59 v5002.length),(.box [(.vec 1 ((List.map Qb.toD) v5002)),(.mapv 0)]),(.tok 59 (([]:List Qb).length)),(.box [(.dat (strD v5003)),(La v5004),(La v5005)]),(.box [(.vec 1 ((List.map Qb.toD) v5006)),(.mapv 0)])]|.inr ((v5007,v5008,v5009))=>[(.map (smE v5007)),(.tok 59 v5008.length),(.box [(.vec 1 ((List.map Qb.toD) v5008)),(.mapv 0)]),(.tok 59 (([]:List Qb).length)),(.box [(.vec 1 ((List.map Qb.toD) v5009)),(.mapv 0)])])
theorem Qcx:∀ x r,XK x=some r→JE x r:=by
 intro q0 r hm
 unfold XK at hm
 unfold JE
 refine PC_sxB (fn:=f8) rfl ?_
 refine Qd (R_G (Qa 1 (Qe (Qd (R_G (Qa 1 ?_))))))
 obtain ⟨out,hx,hm⟩:=Qh hm
 rcases out with ⟨v1,v2,v3,v4,v5,v6⟩|⟨v7,v8,v9⟩
 ·have hq:=QdG _ _ hx
  dsimp only [Qa6] at hq
  refine Q0 hq ?_
  refine Qa 5 (Qe (Qd (Qd (R_G (Qa 2 (Qe ?_))))))
  refine Qbd (by kernel_rfl) ?_
  refine Qd (R_G (Qa 1 (Qe (Qo ?_))))
  obtain rfl:=Qq hm
  exact ⟨trivial,QM (by kernel_rfl) (by kernel_rfl)⟩
 ·have hq:=QdG _ _ hx
  dsimp only [Qa6] at hq
  refine Q0 hq ?_
  refine Qa 5 (Qe (Qd (Qd (R_G (Qa 2 (Qe ?_))))))
  refine Xh (by kernel_rfl) ?_
  refine Qs (Qd (R_G (Qa 2 (Qe (Qo ?_)))))
  obtain rfl:=Qq hm
  exact ⟨trivial,QM (by kernel_rfl) (by kernel_rfl)⟩
def Qbq (x:(List Int)):Option Qt :=
 match x with
 | p0 =>
 YE p0>>=fun (v1:(List Int)) =>
 some (⟨([(p0.length:Int)]:List Int),v1⟩:Qt)
def QdO:(List Int)→Qt→Prop:=fun x r=>match x,r with
 | p0,r0=>∀ H,PC prog env 66 ([(Lb p0)].map .dat) H (.dat (Qt.toD r0)) H
theorem QfX:∀ x r,Qbq x=some r→QdO x r:=by
 intro p0 r0 hm
 unfold Qbq at hm
 unfold QdO
 intro H
 refine PC_sx (ds:=[(Lb p0)]) (fn:=f66) rfl ?_
 refine Qd (R_G (Qa 1 (Qe (Qd (R_G (Qa 1 ?_))))))
 refine QP Qi p0 (es:=(List.map Qi) p0) rfl ?_
 refine Qa 2 ?_
 obtain ⟨v1,hx,hm⟩:=Qh hm
 have hq:=Qb9 _ _ hx []
 refine Qr hq ?_
 refine Qa 2 (Qe (Qo ?_))
 obtain rfl:=Qq hm
 exact ⟨trivial,Qk⟩
def Qbp (x:Int):Option Qt :=
 match x with
 | p0 =>
 some (⟨([]:(List Int)),([p0]:List Int)⟩:Qt)
def QdN:Int→Qt→Prop:=fun x r=>match x,r with
 | p0,r0=>∀ H,PC prog env 67 ([(Qi p0)].map .dat) H (.dat (Qt.toD r0)) H
theorem QfW:∀ x r,Qbp x=some r→QdN x r:=by
 intro p0 r0 hm
 unfold Qbp at hm
 unfold QdN
 intro H
 refine PC_sx (ds:=[(Qi p0)]) (fn:=f67) rfl ?_
 refine Qd (R_G (Qa 1 (Qe (Qd (R_G (Qa 4 (Qe (Qo ?_))))))))
 obtain rfl:=Qq hm
 exact ⟨trivial,Qk⟩
def Yq (x:(ByteArray × (List Int) × (List Int) × ByteArray × (List Int) × (List Int) × (List (ByteArray × Int)) × (List Qb) × (List Qb) × (List Qj))):Option (Bool) :=
 match x with
 | (q0,q1,q2,q3,q4,q5,q6,q7,q8,q9) =>
 if q3≠ByteArray.empty then
  some (decide (q0=q3))
 else
 some false
def XR:(ByteArray × (List Int) × (List Int) × ByteArray × (List Int) × (List Int) × (List (ByteArray × Int)) × (List Qb) × (List Qb) × (List Qj))→Bool→Prop:=fun x r=>match x with
 | (q0,q1,q2,q3,q4,q5,q6,q7,q8,q9)=>PC prog env 89 [(.dat (.agg [(strD q0),(Lb q1),(Lb q2)])),(.iptr [(strD q3),(Lb q4),(Lb q5)])] [(.map (smE q6)),(.tok 59 q7.length),(.box [(.vec 1 ((List.map Qb.toD) q7)),(.mapv 0)]),(.tok 59 (([]:List Qb).length)),(.box [(.vec 1 ((List.map Qb.toD) q8)),(.mapv 0)]),XH,(.tok 48 q9.length),(.box [(.ptr 4 0),(.vec 6 ((List.map Qj.toD) q9))]),QbD] (match r with|v5001=>(Qm v5001)) (match r with|v5001=>[(.map (smE q6)),(.tok 59 q7.length),(.box [(.vec 1 ((List.map Qb.toD) q7)),(.mapv 0)]),(.tok 59 (([]:List Qb).length)),(.box [(.vec 1 ((List.map Qb.toD) q8)),(.mapv 0)]),XH,(.tok 48 q9.length),(.box [(.ptr 4 0),(.vec 6 ((List.map Qj.toD) q9))]),QbD,(.box [(.dat (strD q0)),(La q1),(La q2)])])
theorem QcE:∀ x r,Yq x=some r→XR x r:=by
 intro x r hm
 unfold Yq at hm
 unfold XR
 obtain ⟨q0,q1,q2,q3,q4,q5,q6,q7,q8,q9⟩:=x
 refine PC_sxB (fn:=f89) rfl ?_
 refine Qd (R_G (Qa 2 (Qe (Qd (R_G (Qa 2 ?_))))))
 refine Zt rfl (fun _=>QfM (a:=q3) (b:=ByteArray.empty) rfl (by kernel_rfl) (by kernel_rfl)) ?_
 refine Qa 1 ?_
 refine Qw 7 hm (rfl) (fun hm=>?_) (fun hm=>?_)
 ·refine Qa 4 ?_
  refine Zt rfl (fun _=>Qc5 (a:=q0) (b:=q3) rfl (by kernel_rfl) (by kernel_rfl)) ?_
  refine Qa 2 (Qe (Qo ?_))
  obtain rfl:=Qq hm
  exact ⟨trivial,QM (by kernel_rfl) (by kernel_rfl)⟩
 refine Qa 7 (Qe (Qo ?_))
 obtain rfl:=Qq hm
 exact ⟨trivial,QM (by kernel_rfl) (by kernel_rfl)⟩
def QD (x:((List Qj) × ByteArray × (List Int) × (List Int) × (List (ByteArray × Int)) × (List Qb) × (List Qb) × Int)):Option ((ByteArray × (List Int) × (List Int) × Int) ⊕ Unit) :=
 match x with
 | (q0,q1,q2,q3,q4,q5,q6,v201) =>
 if v201 < (q0.length:Int) then
  idx q0 v201>>=fun v605 =>
  Yq (v605.name,v605.value.shape,v605.value.data,q1,q2,q3,q4,q5,q6,q0)>>=fun (v606:Bool) =>
  if v606=true then
   some (Sum.inl (v605.name,v605.value.shape,v605.value.data,v201))
  else
  QD (q0,q1,q2,q3,q4,q5,q6,(W (v201+1)))
 else
 some (Sum.inr ())
 partial_fixpoint
def Z5:((List Qj) × ByteArray × (List Int) × (List Int) × (List (ByteArray × Int)) × (List Qb) × (List Qb) × Int)→((ByteArray × (List Int) × (List Int) × Int) ⊕ Unit)→Prop:=fun x r=>match x with
 | (q0,q1,q2,q3,q4,q5,q6,v201)=>∀ st,prune 9 ((QB (QL [1,0,1,0,0] (QN f88))).bind (env.hint 88).keepAt) st=⟨kp 19 [(0,(.vec 6 ((List.map Qj.toD) q0))),(1,(.fn 89 [(.iptr [(strD q1),(Lb q2),(Lb q3)])])),(7,(Qg (q0.length:Int))),(8,(Qg v201))],[(.map (smE q4)),(.tok 59 q5.length),(.box [(.vec 1 ((List.map Qb.toD) q5)),(.mapv 0)]),(.tok 59 (([]:List Qb).length)),(.box [(.vec 1 ((List.map Qb.toD) q6)),(.mapv 0)]),XH,(.tok 48 q0.length),(.box [(.ptr 4 0),(.vec 6 ((List.map Qj.toD) q0))]),QbD]⟩ →
  RL prog env (env.hint 88) true (QL [1,0,1,0,0] (QN f88)) 9 st (fun e s=>match r with|.inl (v601,v602,v603,v604)=>e=.ret∧∃ d,s=⟨sl d 19 [(4,(Qg v604))],[(.map (smE q4)),(.tok 59 q5.length),(.box [(.vec 1 ((List.map Qb.toD) q5)),(.mapv 0)]),(.tok 59 (([]:List Qb).length)),(.box [(.vec 1 ((List.map Qb.toD) q6)),(.mapv 0)]),XH,(.tok 48 q0.length),(.box [(.ptr 4 0),(.vec 6 ((List.map Qj.toD) q0))]),QbD,(.box [(.dat (strD v601)),(La v602),(La v603)])]⟩|.inr (_)=>e=.exit 0∧∃ d,s=⟨sl d 19 [],[(.map (smE q4)),(.tok 59 q5.length),(.box [(.vec 1 ((List.map Qb.toD) q5)),(.mapv 0)]),(.tok 59 (([]:List Qb).length)),(.box [(.vec 1 ((List.map Qb.toD) q6)),(.mapv 0)]),XH,(.tok 48 q0.length),(.box [(.ptr 4 0),(.vec 6 ((List.map Qj.toD) q0))]),QbD]⟩)
theorem Q5:∀ x r,QD x=some r→Z5 x r:=by
 refine QD.partial_correctness _ (fun QD Q5 x r hm=>?_)
 unfold Z5
 obtain ⟨q0,q1,q2,q3,q4,q5,q6,v201⟩:=x
 intro st hst
 refine RL_at hst ?_
 clear hst
 refine Qd (R_G (Qa 1 (Qe (Qd ?_))))
 refine Qy hm (rfl) (fun hm=>?_) (fun hm=>?_)
 ·refine Qs (Qd (Qu (Qd (R_G (Qa 2 (Qe (Qd (R_G (Qa 3 ?_)))))))))
  refine Zj 3 Qj.toD hm rfl (fun _=>rfl) (fun v605 hm=>?_)
  refine Qa 1 ?_
  obtain ⟨v606,hx,hm⟩:=Qh hm
  have hq:=QcE _ _ hx
  dsimp only [XR] at hq
  refine Q0 hq ?_
  refine Qe ?_
  refine Qy hm (Qz _) (fun hm=>?_) (fun hm=>?_)
  ·refine Qd (R_G (Qa 2 (Qe (Qo ?_))))
   obtain rfl:=Qq hm
   exact ⟨rfl,Qp⟩
  refine Qs (R_G (Qa 2 (Qe ?_)))
  exact Q5 _ _ hm _ (prune_of2 [(.map (smE q4)),(.tok 59 q5.length),(.box [(.vec 1 ((List.map Qb.toD) q5)),(.mapv 0)]),(.tok 59 (([]:List Qb).length)),(.box [(.vec 1 ((List.map Qb.toD) q6)),(.mapv 0)]),XH,(.tok 48 q0.length),(.box [(.ptr 4 0),(.vec 6 ((List.map Qj.toD) q0))]),QbD] (fun _=>(pg_cons (purge_sm _ _ _) (pg_cons (by kernel_rfl) (pg_cons (by kernel_rfl) (pg_cons (by kernel_rfl) (pg_cons (by kernel_rfl) (pg_cons (by kernel_rfl) (pg_cons (by kernel_rfl) (pg_cons (by kernel_rfl) (pg_cons (by kernel_rfl) pg_nil)))))))))) rfl)
 refine Zh ?_
 obtain rfl:=Qq hm
 exact ⟨rfl,Qp⟩
def Zc (x:((List Qj) × ByteArray × (List Int) × (List Int) × (List (ByteArray × Int)) × (List Qb) × (List Qb))):Option ((ByteArray × (List Int) × (List Int) × Int) ⊕ Unit) :=
 match x with
 | (q0,q1,q2,q3,q4,q5,q6) =>
 (
 QD (q0,q1,q2,q3,q4,q5,q6,0)>>=fun (out:(ByteArray × (List Int) × (List Int) × Int) ⊕ Unit) =>
 match out with
 | .inl (v601,v602,v603,v604) =>
  some (Sum.inl (v601,v602,v603,v604))
 | .inr (_) =>
  some (Sum.inr ())
 )
def Za:((List Qj) × ByteArray × (List Int) × (List Int) × (List (ByteArray × Int)) × (List Qb) × (List Qb))→((ByteArray × (List Int) × (List Int) × Int) ⊕ Unit)→Prop:=fun x r=>match x with
 | (q0,q1,q2,q3,q4,q5,q6)=>PC prog env 88 [(.vec 6 ((List.map Qj.toD) q0)),(.fn 89 [(.iptr [(strD q1),(Lb q2),(Lb q3)])])] [(.map (smE q4)),(.tok 59 q5.length),(.box [(.vec 1 ((List.map Qb.toD) q5)),(.mapv 0)]),(.tok 59 (([]:List Qb).length)),(.box [(.vec 1 ((List.map Qb.toD) q6)),(.mapv 0)]),XH,(.tok 48 q0.length),(.box [(.ptr 4 0),(.vec 6 ((List.map Qj.toD) q0))]),QbD] (match r with|.inl (v5001,v5002,v5003,v5004)=>(Qg v5004)|.inr (_)=>(Qg (-1))) (match r with|.inl (v5001,v5002,v5003,v5004)=>[(.map (smE q4)),(.tok 59 q5.length),(.box [(.vec 1 ((List.map Qb.toD) q5)),(.mapv 0)]),(.tok 59 (([]:List Qb).length)),(.box [(.vec 1 ((List.map Qb.toD) q6)),(.mapv 0)]),XH,(.tok 48 q0.length),(.box [(.ptr 4 0),(.vec 6 ((List.map Qj.toD) q0))]),QbD,(.box [(.dat (strD v5001)),(La v5002),(La v5003)])]|.inr (_)=>[(.map (smE q4)),(.tok 59 q5.length),(.box [(.vec 1 ((List.map Qb.toD) q5)),(.mapv 0)]),(.tok 59 (([]:List Qb).length)),(.box [(.vec 1 ((List.map Qb.toD) q6)),(.mapv 0)]),XH,(.tok 48 q0.length),(.box [(.ptr 4 0),(.vec 6 ((List.map Qj.toD) q0))]),QbD])
theorem Yt:∀ x r,Zc x=some r→Za x r:=by
 intro x r hm
 unfold Zc at hm
 unfold Za
 obtain ⟨q0,q1,q2,q3,q4,q5,q6⟩:=x
 refine PC_sxB (fn:=f88) rfl ?_
 refine Qd (R_G (Qa 1 (Qe (Qd (Qd (R_G (Qa 1 ?_)))))))
 refine QP Qj.toD q0 (es:=(List.map Qj.toD) q0) rfl ?_
 refine Qa 1 (Qe (Qu ?_))
 obtain ⟨out,hs,hm⟩:=Qh hm
 refine Zk ?_
 rcases out with ⟨v601,v602,v603,v604⟩|_
 ·refine RL_use (Q5 _ _ hs) (prune_of2 [(.map (smE q4)),(.tok 59 q5.length),(.box [(.vec 1 ((List.map Qb.toD) q5)),(.mapv 0)]),(.tok 59 (([]:List Qb).length)),(.box [(.vec 1 ((List.map Qb.toD) q6)),(.mapv 0)]),XH,(.tok 48 q0.length),(.box [(.ptr 4 0),(.vec 6 ((List.map Qj.toD) q0))]),QbD] (fun _=>(pg_cons (purge_sm _ _ _) (pg_cons (by kernel_rfl) (pg_cons (by kernel_rfl) (pg_cons (by kernel_rfl) (pg_cons (by kernel_rfl) (pg_cons (by kernel_rfl) (pg_cons (by kernel_rfl) (pg_cons (by kernel_rfl) (pg_cons (by kernel_rfl) pg_nil)))))))))) rfl) ?_
  clear hs
  intro e s hp
  obtain ⟨rfl,d,rfl⟩:=hp
  obtain rfl:=Qq hm
  exact ⟨trivial,QM (by kernel_rfl) (by kernel_rfl)⟩
 ·refine RL_use (Q5 _ _ hs) (prune_of2 [(.map (smE q4)),(.tok 59 q5.length),(.box [(.vec 1 ((List.map Qb.toD) q5)),(.mapv 0)]),(.tok 59 (([]:List Qb).length)),(.box [(.vec 1 ((List.map Qb.toD) q6)),(.mapv 0)]),XH,(.tok 48 q0.length),(.box [(.ptr 4 0),(.vec 6 ((List.map Qj.toD) q0))]),QbD] (fun _=>(pg_cons (purge_sm _ _ _) (pg_cons (by kernel_rfl) (pg_cons (by kernel_rfl) (pg_cons (by kernel_rfl) (pg_cons (by kernel_rfl) (pg_cons (by kernel_rfl) (pg_cons (by kernel_rfl) (pg_cons (by kernel_rfl) (pg_cons (by kernel_rfl) pg_nil)))))))))) rfl) ?_
  clear hs
  intro e s hp
  obtain ⟨rfl,d,rfl⟩:=hp
  refine Qd (R_G (Qa 1 (Qe (Qo ?_))))
  obtain rfl:=Qq hm
  exact ⟨trivial,QM (by kernel_rfl) (by kernel_rfl)⟩
def QA (x:List Int):Option (List Int):=app 8 [] x
def cgm_slices_Clone_int_int (l:List Int):Nat:=match l with|[]=>0|_=>1
def QC:List Int→List Int→Prop:=fun x r=>PC prog env 28 [.dat (Lb x)] [] (.ms 0 (cgm_slices_Clone_int_int r) 0 r.length r.length) [.mt 3 (cgm_slices_Clone_int_int r) (cellsOf Qi r)]
theorem QF:∀ x r,QA x=some r→QC x r:=by
 intro x r hm
 obtain ⟨hroom,hr⟩:=app_some hm
 have hr:r=x:=hr
 subst hr
 unfold QC
 cases r with
 | nil=>exact PC_of (n:=20) (by kernel_rfl)
 | cons a l =>
  refine PC_sxB (fn:=f28) rfl ?_
  refine Qd (R_G (Qa 1 (Qe (Qd (Qd (R_G (Qa 1 ?_)))))))
  refine Zt rfl (fun _=>Qgx (p:=.dat (Lb (a::l))) (b:=false) rfl (by kernel_rfl) (by kernel_rfl) (by kernel_rfl)) ?_
  refine Qe ?_
  refine Xh (by kernel_rfl) ?_
  refine Qs (Qd (R_G (Qa 2 ?_)))
  refine ZI (v:=.ms 0 1 0 (a::l).length (a::l).length) (fun H=>H.set 0 (.mt 3 1 (cellsOf Qi (a::l)))) rfl (by kernel_rfl) (fun _ hk=>QgQ Qi (l:=[]) (es:=a::l) (bytes:=8) (e:=3) (tt:=0) (g:=0) (m:=0) hm (fun _=>rfl) (by kernel_rfl) (by kernel_rfl) (by kernel_rfl) (by kernel_rfl) rfl rfl (by kernel_rfl) rfl (by kernel_rfl) (source_lst (fun _=>rfl)) hk) ?_
  refine Qa 1 (Qe (Qo ?_))
  exact ⟨trivial,QM (by kernel_rfl) (by kernel_rfl)⟩
def Z8 (x:(ByteArray × (List Int) × (List Int) × (List (ByteArray × Int)) × (List Qb) × (List Qb) × (List Qj))):Option (((List Qj) × (List Int) × Int)) :=
 match x with
 | (q0,q1,q2,q3,q4,q5,q6) =>
 (
 Zc (q6,q0,q1,q2,q3,q4,q5)>>=fun (out:(ByteArray × (List Int) × (List Int) × Int) ⊕ Unit) =>
 match out with
 | .inl (v1,v2,v3,v4) =>
  (if v4 < 0 then
   app 64 q6 ([(⟨q0,(⟨q1,q2⟩:Qt)⟩:Qj)]:List Qj)>>=fun v7 =>
   some (v7,(q6.length:Int))
  else
  some (q6,v4)
  )>>=fun ((v5,v6):((List Qj) × Int)) =>
  QA q1>>=fun v8 =>
  some (v5,v8,v6)
 | .inr (_) =>
  app 64 q6 ([(⟨q0,(⟨q1,q2⟩:Qt)⟩:Qj)]:List Qj)>>=fun v9 =>
  QA q1>>=fun v10 =>
  some (v9,v10,(q6.length:Int))
 )
def Xg:(ByteArray × (List Int) × (List Int) × (List (ByteArray × Int)) × (List Qb) × (List Qb) × (List Qj))→((List Qj) × (List Int) × Int)→Prop:=fun x r=>match x with
 | (q0,q1,q2,q3,q4,q5,q6)=>PCX prog env 68 [(.ptr 7 0),(.dat (.agg [(strD q0),(Lb q1),(Lb q2)]))] [(.map (smE q3)),(.tok 59 q4.length),(.box [(.vec 1 ((List.map Qb.toD) q4)),(.mapv 0)]),(.tok 59 (([]:List Qb).length)),(.box [(.vec 1 ((List.map Qb.toD) q5)),(.mapv 0)]),XH,(.tok 48 q6.length),(.box [(.ptr 4 0),(.vec 6 ((List.map Qj.toD) q6))])] (match r with|(v5001,v5002,v5003)=>(.dat (.agg [(Qi 1),(Lb v5002),(Qi v5003),Eb,(Qi 0),(Qi 0),Eb,(.lst (Qc.toDs []))]))) (match r with|(v5001,v5002,v5003)=>[(.map (smE q3)),(.tok 59 q4.length),(.box [(.vec 1 ((List.map Qb.toD) q4)),(.mapv 0)]),(.tok 59 (([]:List Qb).length)),(.box [(.vec 1 ((List.map Qb.toD) q5)),(.mapv 0)]),XH,(.tok 48 v5001.length),(.box [(.ptr 4 0),(.vec 6 ((List.map Qj.toD) v5001))])])
theorem Qbk:∀ x r,Z8 x=some r→Xg x r:=by
 intro x r hm
 unfold Z8 at hm
 unfold Xg
 obtain ⟨q0,q1,q2,q3,q4,q5,q6⟩:=x
 refine PCX_sxB (fn:=f68) rfl ?_
 refine Qd (R_G (Qa 2 (Qe (Qd (R_G (Qa 5 ?_))))))
 obtain ⟨out,hx,hm⟩:=Qh hm
 rcases out with ⟨v1,v2,v3,v4⟩|_
 ·have hq:=Yt _ _ hx
  dsimp only [Za] at hq
  refine Q0 hq ?_
  refine Qa 1 (Qe (Qd (Qd (R_G (Qa 2 (Qe ?_))))))
  obtain ⟨⟨v5,v6⟩,hs,hm⟩:=Qh hm
  refine Yx (fun d=>⟨sl d 35 [(3,(.iptr [(strD q0),(Lb q1),(Lb q2)])),(4,(.ptr 8 0)),(5,(Qg v6))],[(.map (smE q3)),(.tok 59 q4.length),(.box [(.vec 1 ((List.map Qb.toD) q4)),(.mapv 0)]),(.tok 59 (([]:List Qb).length)),(.box [(.vec 1 ((List.map Qb.toD) q5)),(.mapv 0)]),XH,(.tok 48 v5.length),(.box [(.ptr 4 0),(.vec 6 ((List.map Qj.toD) v5))]),QbD,(.box [(.dat (strD v1)),(La v2),(La v3)])]⟩) ?_ (fun d=>?_)
  ·replace hm:=hs
   clear hs
   refine Qy hm (rfl) (fun hm=>?_) (fun hm=>?_)
   ·refine Qd (R_G (Qa 4 ?_))
    refine QP Qj.toD q6 (es:=(List.map Qj.toD) q6) rfl ?_
    refine Qa 1 (Qe ?_)
    refine QaB ?_
    refine Qa 7 ?_
    obtain ⟨v7,hx,hm⟩:=Qh hm
    refine Qc7 48 3 64 6 Qj.toD q6 ([(⟨q0,(⟨q1,q2⟩:Qt)⟩:Qj)]:List Qj) v7 (xs:=(List.map Qj.toD) q6) (es:=(List.map Qj.toD) ([(⟨q0,(⟨q1,q2⟩:Qt)⟩:Qj)]:List Qj)) (L:=(List.map Qj.toD)) (fun _=>rfl) rfl rfl Qj.fit hx ?_
    refine Qa 3 ?_
    refine Qe ⟨by kernel_rfl,?_⟩
    obtain ⟨rfl,rfl⟩:=Zl hm
    exact Qp
   refine Qs ?_
   obtain ⟨rfl,rfl⟩:=Zl hm
   exact Qp
  clear hs
  refine Qd (R_G (Qa 3 ?_))
  obtain ⟨v8,hx,hm⟩:=Qh hm
  have hq:=QF _ _ hx
  dsimp only [QC] at hq
  refine Zt (v:=.dat (Lb v8)) rfl (fun _=>QcH (f:=28) (first:=#[]) (cap:=#[]) (e:=3) (ow':=[]) (ds:=[.lst ((List.map Qi) q1)]) rfl (by kernel_rfl) (by kernel_rfl) (by kernel_rfl) (by kernel_rfl) hq (p1_ms (pc_ms (e:=3) Qi v8 rfl (fun _=>rfl) (by kernel_rfl)))) ?_
  refine Qa 3 (Qe (Qo ?_))
  obtain rfl:=Qq hm
  exact ⟨trivial,fin_bodyX 8 (by kernel_rfl) (by kernel_rfl)⟩
 ·have hq:=Yt _ _ hx
  dsimp only [Za] at hq
  refine Q0 hq ?_
  refine Qa 1 (Qe (Qd (Qd (R_G (Qa 2 (Qe ?_))))))
  refine Qbd (by kernel_rfl) ?_
  refine Qd (R_G (Qa 4 ?_))
  refine QP Qj.toD q6 (es:=(List.map Qj.toD) q6) rfl ?_
  refine Qa 1 (Qe ?_)
  refine QaB ?_
  refine Qa 7 ?_
  obtain ⟨v9,hx,hm⟩:=Qh hm
  refine Qc7 48 3 64 6 Qj.toD q6 ([(⟨q0,(⟨q1,q2⟩:Qt)⟩:Qj)]:List Qj) v9 (xs:=(List.map Qj.toD) q6) (es:=(List.map Qj.toD) ([(⟨q0,(⟨q1,q2⟩:Qt)⟩:Qj)]:List Qj)) (L:=(List.map Qj.toD)) (fun _=>rfl) rfl rfl Qj.fit hx ?_
  refine Qa 3 ?_
  refine Qe ⟨by kernel_rfl,?_⟩
  refine Qd (R_G (Qa 3 ?_))
  obtain ⟨v10,hx,hm⟩:=Qh hm
  have hq:=QF _ _ hx
  dsimp only [QC] at hq
  refine Zt (v:=.dat (Lb v10)) rfl (fun _=>QcH (f:=28) (first:=#[]) (cap:=#[]) (e:=3) (ow':=[]) (ds:=[.lst ((List.map Qi) q1)]) rfl (by kernel_rfl) (by kernel_rfl) (by kernel_rfl) (by kernel_rfl) hq (p1_ms (pc_ms (e:=3) Qi v10 rfl (fun _=>rfl) (by kernel_rfl)))) ?_
  refine Qa 3 (Qe (Qo ?_))
  obtain rfl:=Qq hm
  exact ⟨trivial,fin_bodyX 8 (by kernel_rfl) (by kernel_rfl)⟩
def Xv (x:((List Qb) × ByteArray × (List (ByteArray × Int)) × (List Qb))):Option ((Int × Bool)) :=
 match x with
 | (q0,q1,q2,q3) =>
 some (lookS q2 q1)>>=fun ((v1,v2):(Int × Bool)) =>
 some (v1,v2)
def JD:((List Qb) × ByteArray × (List (ByteArray × Int)) × (List Qb))→(Int × Bool)→Prop:=fun x r=>match x with
 | (q0,q1,q2,q3)=>PC prog env 29 [(.agg [(.vec 1 ((List.map Qb.toD) q0)),(.mapv 0)]),(.dat (strD q1))] [(.map (smE q2)),(.tok 59 q3.length),(.box [(.vec 1 ((List.map Qb.toD) q3)),(.mapv 0)]),(.tok 59 (([]:List Qb).length)),(.box [(.vec 1 ((List.map Qb.toD) q0)),(.mapv 0)]),(.box [Ea,Ea])] (match r with|(v5001,v5002)=>(.tup [(Qg v5001),(Qm v5002)])) (match r with|(v5001,v5002)=>[(.map (smE q2)),(.tok 59 q3.length),(.box [(.vec 1 ((List.map Qb.toD) q3)),(.mapv 0)]),(.tok 59 (([]:List Qb).length)),(.box [(.vec 1 ((List.map Qb.toD) q0)),(.mapv 0)]),(.box [Ea,Ea]),(.box [(.vec 1 ((List.map Qb.toD) q0)),(.mapv 0)])])
theorem Qdu:∀ x r,Xv x=some r→JD x r:=by
 intro x r hm
 unfold Xv at hm
 unfold JD
 obtain ⟨q0,q1,q2,q3⟩:=x
 refine PC_sxB (fn:=f29) rfl ?_
 refine Qd (R_G (Qa 3 (Qe (Qd (R_G (Qa 3 ?_))))))
 obtain ⟨⟨v1,v2⟩,hx,hm⟩:=Qh hm
 refine Zt (v:=.tup [Qg v1,Qm v2]) rfl (fun _=>QgC (i:=0) (kt:=9) (e:=3) (l:=q2) (s:=q1) hx (by kernel_rfl) (by kernel_rfl) (by kernel_rfl) rfl (by kernel_rfl) (by kernel_rfl) (by kernel_rfl)) ?_
 refine Qa 5 (Qe (Qd (R_G (Qa 4 (Qe (Qo ?_))))))
 obtain rfl:=Qq hm
 exact ⟨trivial,QM (by kernel_rfl) (by kernel_rfl)⟩
def XN (x:(ByteArray × (List (ByteArray × Int)) × (List Qb) × (List Qb))):Option (((List Int) × (List Int) × Bool)) :=
 match x with
 | (q0,q1,q2,q3) =>
 Xv (q3,q0,q1,q2)>>=fun ((v1,v2):(Int × Bool)) =>
 if v2=false then
  some (([]:List Int),([]:List Int),false)
 else
 idx q3 v1>>=fun v3 =>
 some (v3.value.shape,v3.value.data,true)
def JW:(ByteArray × (List (ByteArray × Int)) × (List Qb) × (List Qb))→((List Int) × (List Int) × Bool)→Prop:=fun x r=>match x with
 | (q0,q1,q2,q3)=>PCX prog env 90 [(.ptr 4 0),(.dat (strD q0))] [(.map (smE q1)),(.tok 59 q2.length),(.box [(.vec 1 ((List.map Qb.toD) q2)),(.mapv 0)]),(.tok 59 (([]:List Qb).length)),(.box [(.vec 1 ((List.map Qb.toD) q3)),(.mapv 0)])] (match r with|(v5001,v5002,v5003)=>(.tup [(.dat (.agg [(Lb v5001),(Lb v5002)])),(Qm v5003)])) (match r with|(v5001,v5002,v5003)=>[(.map (smE q1)),(.tok 59 q2.length),(.box [(.vec 1 ((List.map Qb.toD) q2)),(.mapv 0)]),(.tok 59 (([]:List Qb).length)),(.box [(.vec 1 ((List.map Qb.toD) q3)),(.mapv 0)])])
theorem QdK:∀ x r,XN x=some r→JW x r:=by
 intro x r hm
 unfold XN at hm
 unfold JW
 obtain ⟨q0,q1,q2,q3⟩:=x
 refine PCX_sxB (fn:=f90) rfl ?_
 refine Qd (R_G (Qa 2 (Qe (Qd (Qd (R_G (Qa 2 (Qe ?_))))))))
 refine Xh (by kernel_rfl) ?_
 refine Qs (Qd (R_G (Qa 5 ?_)))
 obtain ⟨⟨v1,v2⟩,hx,hm⟩:=Qh hm
 have hq:=Qdu _ _ hx
 dsimp only [JD] at hq
 refine Q0 hq ?_
 refine Qa 5 (Qe (Qd (Qd (R_G (Qa 2 (Qe ?_))))))
 refine Qy hm (Xp _) (fun hm=>?_) (fun hm=>?_)
 ·refine Qd (R_G (Qa 3 (Qe (Qo ?_))))
  obtain rfl:=Qq hm
  exact ⟨trivial,fin_bodyX 5 (by kernel_rfl) (by kernel_rfl)⟩
 refine Qs (Qd (R_G (Qa 6 ?_)))
 refine Zj 3 Qb.toD hm rfl (fun _=>rfl) (fun v3 hm=>?_)
 refine Qa 4 (Qe (Qo ?_))
 obtain rfl:=Qq hm
 exact ⟨trivial,fin_bodyX 5 (by kernel_rfl) (by kernel_rfl)⟩
def Yu (x:(ByteArray × (List (ByteArray × Int)) × (List Qb) × (List Qb))):Option (((List Int) × (List Int) × Bool)) :=
 match x with
 | (q0,q1,q2,q3) =>
 XN (q0,q1,q2,q3)>>=fun ((v1,v2,v3):((List Int) × (List Int) × Bool)) =>
 if v3=false then
  some (v1,v2,false)
 else
 XX (⟨v1,v2⟩:Qt)>>=fun (v4:Qt) =>
 some (v4.shape,v4.data,true)
def Jg:(ByteArray × (List (ByteArray × Int)) × (List Qb) × (List Qb))→((List Int) × (List Int) × Bool)→Prop:=fun x r=>match x with
 | (q0,q1,q2,q3)=>PCX prog env 69 [(.ptr 4 0),(.dat (strD q0))] [(.map (smE q1)),(.tok 59 q2.length),(.box [(.vec 1 ((List.map Qb.toD) q2)),(.mapv 0)]),(.tok 59 (([]:List Qb).length)),(.box [(.vec 1 ((List.map Qb.toD) q3)),(.mapv 0)])] (match r with|(v5001,v5002,v5003)=>(.tup [(.dat (.agg [(Lb v5001),(Lb v5002)])),(Qm v5003)])) (match r with|(v5001,v5002,v5003)=>[(.map (smE q1)),(.tok 59 q2.length),(.box [(.vec 1 ((List.map Qb.toD) q2)),(.mapv 0)]),(.tok 59 (([]:List Qb).length)),(.box [(.vec 1 ((List.map Qb.toD) q3)),(.mapv 0)])])
theorem Qcf:∀ x r,Yu x=some r→Jg x r:=by
 intro x r hm
 unfold Yu at hm
 unfold Jg
 obtain ⟨q0,q1,q2,q3⟩:=x
 refine PCX_sxB (fn:=f69) rfl ?_
 refine Qd (R_G (Qa 2 (Qe (Qd (R_G (Qa 2 ?_))))))
 obtain ⟨⟨v1,v2,v3⟩,hx,hm⟩:=Qh hm
 have hq:=QdK _ _ hx
 dsimp only [JW] at hq
 refine QbJ (n:=5) hq ?_ (hi:=und_hi 0) (hq:=und_hq 0)
 refine Qa 6 (Qe (Qd (Qd (R_G (Qa 2 (Qe ?_))))))
 refine Qy hm (Xp _) (fun hm=>?_) (fun hm=>?_)
 ·refine Qd (R_G (Qa 3 (Qe (Qo ?_))))
  obtain rfl:=Qq hm
  exact ⟨trivial,fin_bodyX 5 (by kernel_rfl) (by kernel_rfl)⟩
 refine Qs (Qd (R_G (Qa 1 ?_)))
 obtain ⟨v4,hx,hm⟩:=Qh hm
 have hq:=Qfe _ _ hx []
 refine Qr hq ?_
 refine Qa 2 (Qe (Qo ?_))
 obtain rfl:=Qq hm
 exact ⟨trivial,fin_bodyX 5 (by kernel_rfl) (by kernel_rfl)⟩
def YG (x:(Int × Int × Int × ByteArray × (List Int) × (List Qf) × (List (ByteArray × Int)) × (List Qb) × (List Qb) × (List Qj))):Option (((List Qj) × Int × (List Int) × Int × Int)) :=
 match x with
 | (q0,q1,q2,q3,q4,q5,q6,q7,q8,q9) =>
 if q0=1 then
  Qbq q4>>=fun (v1:Qt) =>
  (if (q4.length:Int)=1 then
   idx q4 0>>=fun v4 =>
   Qbp v4>>=fun (v5:Qt) =>
   some (v5.shape,v5.data)
  else
  some (v1.shape,v1.data)
  )>>=fun ((v2,v3):((List Int) × (List Int))) =>
  XA (⟨v2,v3⟩:Qt)>>=fun (v6:Int) =>
  if v6≠0 then
   some (q9,0,([]:List Int),0,v6)
  else
  Z8 (ByteArray.empty,v2,v3,q6,q7,q8,q9)>>=fun ((v7,v8,v9):((List Qj) × (List Int) × Int)) =>
  some (v7,1,v8,v9,0)
 else
 Yu (q3,q6,q7,q8)>>=fun ((v10,v11,v12):((List Int) × (List Int) × Bool)) =>
 if v12=false then
  some (q9,0,([]:List Int),0,2)
 else
 Z8 (q3,v10,v11,q6,q7,q8,q9)>>=fun ((v13,v14,v15):((List Qj) × (List Int) × Int)) =>
 some (v13,1,v14,v15,0)
def Jn:(Int × Int × Int × ByteArray × (List Int) × (List Qf) × (List (ByteArray × Int)) × (List Qb) × (List Qb) × (List Qj))→((List Qj) × Int × (List Int) × Int × Int)→Prop:=fun x r=>match x with
 | (q0,q1,q2,q3,q4,q5,q6,q7,q8,q9)=>PCX prog env 46 [(.ptr 7 0),(.dat (.agg [(Qi q0),(Qi q1),(Qi q2),(strD q3),(Lb q4),(.lst (Qf.toDs q5))]))] [(.map (smE q6)),(.tok 59 q7.length),(.box [(.vec 1 ((List.map Qb.toD) q7)),(.mapv 0)]),(.tok 59 (([]:List Qb).length)),(.box [(.vec 1 ((List.map Qb.toD) q8)),(.mapv 0)]),XH,(.tok 48 q9.length),(.box [(.ptr 4 0),(.vec 6 ((List.map Qj.toD) q9))])] (match r with|(v5001,v5002,v5003,v5004,v5005)=>(.tup [(.dat (.agg [(Qi v5002),(Lb v5003),(Qi v5004),Eb,(Qi 0),(Qi 0),Eb,(.lst (Qc.toDs []))])),(Qg v5005)])) (match r with|(v5001,v5002,v5003,v5004,v5005)=>[(.map (smE q6)),(.tok 59 q7.length),(.box [(.vec 1 ((List.map Qb.toD) q7)),(.mapv 0)]),(.tok 59 (([]:List Qb).length)),(.box [(.vec 1 ((List.map Qb.toD) q8)),(.mapv 0)]),XH,(.tok 48 v5001.length),(.box [(.ptr 4 0),(.vec 6 ((List.map Qj.toD) v5001))])])
theorem Qdl:∀ x r,YG x=some r→Jn x r:=by
 intro x r hm
 unfold YG at hm
 unfold Jn
 obtain ⟨q0,q1,q2,q3,q4,q5,q6,q7,q8,q9⟩:=x
 refine PCX_sxB (fn:=f46) rfl ?_
 refine Qd (R_G (Qa 3 (Qe (Qd (Qd (R_G (Qa 3 (Qe ?_))))))))
 refine Qy hm (ZN _ _) (fun hm=>?_) (fun hm=>?_)
 ·refine Qd (R_G (Qa 2 ?_))
  obtain ⟨v1,hx,hm⟩:=Qh hm
  have hq:=QfX _ _ hx []
  refine Qr hq ?_
  refine Qa 2 (Qe (Qd (Qd (R_G (Qa 2 ?_)))))
  refine QP Qi q4 (es:=(List.map Qi) q4) rfl ?_
  refine Qa 1 (Qe ?_)
  obtain ⟨⟨v2,v3⟩,hs,hm⟩:=Qh hm
  refine Yx (fun d=>⟨sl d 54 [(0,(.ptr 7 0)),(4,(.ptr 8 0)),(6,(.ptr 9 0))],[(.map (smE q6)),(.tok 59 q7.length),(.box [(.vec 1 ((List.map Qb.toD) q7)),(.mapv 0)]),(.tok 59 (([]:List Qb).length)),(.box [(.vec 1 ((List.map Qb.toD) q8)),(.mapv 0)]),XH,(.tok 48 q9.length),(.box [(.ptr 4 0),(.vec 6 ((List.map Qj.toD) q9))]),QbD,(.box [(La v2),(La v3)])]⟩) ?_ (fun d=>?_)
  ·replace hm:=hs
   clear hs
   refine Qy hm (ZN _ _) (fun hm=>?_) (fun hm=>?_)
   ·refine R_G (Qa 2 ?_)
    refine Zj 1 Qi hm rfl (fun _=>rfl) (fun v4 hm=>?_)
    refine Qa 1 ?_
    obtain ⟨v5,hx,hm⟩:=Qh hm
    have hq:=QfW _ _ hx []
    refine Qr hq ?_
    refine Qa 1 (Qe ?_)
    obtain ⟨rfl,rfl⟩:=Zl hm
    exact Qp
   refine Qs ?_
   obtain ⟨rfl,rfl⟩:=Zl hm
   exact Qp
  clear hs
  refine Qd (Qd (R_G (Qa 1 ?_)))
  obtain ⟨v6,hx,hm⟩:=Qh hm
  have hq:=QeM _ _ hx []
  refine Qr hq ?_
  refine Qa 1 (Qe (Qd (R_G (Qa 2 (Qe ?_)))))
  refine Qy hm (ne_dec _ _) (fun hm=>?_) (fun hm=>?_)
  ·refine Qd (R_G (Qa 4 (Qe (Qo ?_))))
   obtain rfl:=Qq hm
   exact ⟨trivial,fin_bodyX 8 (by kernel_rfl) (by kernel_rfl)⟩
  refine Qs (Qd (R_G (Qa 3 ?_)))
  obtain ⟨⟨v7,v8,v9⟩,hx,hm⟩:=Qh hm
  have hq:=Qbk _ _ hx
  dsimp only [Xg] at hq
  refine QbJ (n:=8) hq ?_ (hi:=und_hi 0) (hq:=und_hq 0)
  refine Qa 2 (Qe (Qo ?_))
  obtain rfl:=Qq hm
  exact ⟨trivial,fin_bodyX 8 (by kernel_rfl) (by kernel_rfl)⟩
 refine Qs (Qd ?_)
 refine QaB ?_
 refine Qa 6 ?_
 obtain ⟨⟨v10,v11,v12⟩,hx,hm⟩:=Qh hm
 have hq:=Qcf _ _ hx
 dsimp only [Jg] at hq
 refine Qg7 (n:=5) hq ?_ (hi:=und_hi 0)
 refine Qa 6 ?_
 refine Qe ⟨by kernel_rfl,?_⟩
 refine Qd (Qd (R_G (Qa 2 (Qe ?_))))
 refine Qy hm (Xp _) (fun hm=>?_) (fun hm=>?_)
 ·refine Qd (R_G (Qa 3 (Qe (Qo ?_))))
  obtain rfl:=Qq hm
  exact ⟨trivial,fin_bodyX 8 (by kernel_rfl) (by kernel_rfl)⟩
 refine Qs (Qd (R_G (Qa 5 ?_)))
 obtain ⟨⟨v13,v14,v15⟩,hx,hm⟩:=Qh hm
 have hq:=Qbk _ _ hx
 dsimp only [Xg] at hq
 refine QbJ (n:=8) hq ?_ (hi:=und_hi 0) (hq:=und_hq 0)
 refine Qa 2 (Qe (Qo ?_))
 obtain rfl:=Qq hm
 exact ⟨trivial,fin_bodyX 8 (by kernel_rfl) (by kernel_rfl)⟩
def JU (x:(Int × (List Int))):Option (Int × Int) :=
 match x with
 | (p0,p1) =>
 if p0=(-1) then
  some ((W ((p1.length:Int) - 1)),0)
 else
 if p0≥(p1.length:Int) then
  some (0,4)
 else
 some (p0,0)
def QeG:(Int × (List Int))→(Int × Int)→Prop:=fun x r=>match x,r with
 | (p0,p1),(r0,r1)=>∀ H,PC prog env 91 ([(Qi p0),(Lb p1)].map .dat) H (.tup [(Qg r0),(Qg r1)]) H
theorem QeS:∀ x r,JU x=some r→QeG x r:=by
 intro x r hm
 unfold JU at hm
 unfold QeG
 obtain ⟨p0,p1⟩:=x
 obtain ⟨r0,r1⟩:=r
 intro H
 refine PC_sx (ds:=[(Qi p0),(Lb p1)]) (fn:=f91) rfl ?_
 refine Qd (R_G (Qa 2 (Qe (Qd (Qu (Qd (R_G (Qa 3 (Qe ?_)))))))))
 refine Qy hm (ZN _ _) (fun hm=>?_) (fun hm=>?_)
 ·refine Qd (R_G (Qa 1 ?_))
  refine QP Qi p1 (es:=(List.map Qi) p1) rfl ?_
  refine Qa 3 (Qe (Qo ?_))
  obtain ⟨rfl,rfl⟩:=Zl hm
  exact ⟨trivial,Qk⟩
 refine Qd (R_G (Qa 2 ?_))
 refine QP Qi p1 (es:=(List.map Qi) p1) rfl ?_
 refine Qa 2 (Qe ?_)
 refine Qy hm (rfl) (fun hm=>?_) (fun hm=>?_)
 ·refine Qd (R_G (Qa 2 (Qe (Qo ?_))))
  obtain ⟨rfl,rfl⟩:=Zl hm
  exact ⟨trivial,Qk⟩
 refine Qs (Qd (R_G (Qa 3 (Qe (Qo ?_)))))
 obtain ⟨rfl,rfl⟩:=Zl hm
 exact ⟨trivial,Qk⟩
def Zv (x:Int):Option (Qn × Int) :=
 match x with
 | p0 =>
 some ((⟨([]:(List Int)),([]:(List Int)),([]:(List Int)),([]:(List Int)),0,0,([]:(List Int))⟩:Qn),p0)
def QeH:Int→(Qn × Int)→Prop:=fun x r=>match x,r with
 | p0,(r0,r1)=>∀ H,PC prog env 92 ([(Qi p0)].map .dat) H (.tup [(.dat (Qn.toD r0)),(Qg r1)]) H
theorem ZV:∀ x r,Zv x=some r→QeH x r:=by
 intro p0 r hm
 unfold Zv at hm
 unfold QeH
 obtain ⟨r0,r1⟩:=r
 intro H
 refine PC_sx (ds:=[(Qi p0)]) (fn:=f92) rfl ?_
 refine Qd (R_G (Qa 2 (Qe (Qd (R_G (Qa 4 (Qe (Qo ?_))))))))
 obtain ⟨rfl,rfl⟩:=Zl hm
 exact ⟨trivial,Qk⟩
def Y6 (x:(Int × Int)):Option (Int × Int) :=
 match x with
 | (p0,p1) =>
 some (p0,p1)
def Qfb:(Int × Int)→(Int × Int)→Prop:=fun x r=>match x,r with
 | (p0,p1),(v5001,v5002)=>∀ H,PC prog env 94 ([(Qi p0),(Qi p1)].map .dat) H (.fn 111 [(.iptr [(Qi v5001)]),(.iptr [(Qi v5002)])]) H
theorem Qdw:∀ x r,Y6 x=some r→Qfb x r:=by
 intro x r hm
 unfold Y6 at hm
 unfold Qfb
 obtain ⟨p0,p1⟩:=x
 obtain ⟨v5001,v5002⟩:=r
 intro H
 refine PC_sx (ds:=[(Qi p0),(Qi p1)]) (fn:=f94) rfl ?_
 refine Qd (R_G (Qa 3 (Qe (Qd (R_G (Qa 2 (Qe (Qo ?_))))))))
 obtain ⟨rfl,rfl⟩:=Zl hm
 exact ⟨trivial,Qk⟩
def Qas (x:(Int × Int × (List Int) × (List Int))):Option (Unit) :=
 match x with
 | (q0,q1,q2,q3) =>
 some ()
def Qal:(Int × Int × (List Int) × (List Int))→Unit→Prop:=fun x r=>match x with
 | (q0,q1,q2,q3)=>PC prog env 111 [(.ptr 5 0),(.iptr [(Qi q0)]),(.iptr [(Qi q1)])] [Qx,(.box [(.fn 111 [(.iptr [(Qi q0)]),(.iptr [(Qi q1)])])]),Qx,(.mt 3 1 (cellsOf Qi q2)),(.mt 3 1 (cellsOf Qi q3)),(.box [Ea,(.ms 3 1 0 q2.length q2.length),(.ms 4 1 0 q3.length q3.length),Ea,(Qg (-1)),(Qg 0),Ea])] (match r with|_=>(.tup [])) (match r with|_=>[Qx,(.box [(.fn 111 [(.iptr [(Qi q0)]),(.iptr [(Qi q1)])])]),Qx,(.mt 3 1 (cellsOf Qi q2)),(.mt 3 1 (cellsOf Qi q3)),(.box [Ea,(.ms 3 1 0 q2.length q2.length),(.ms 4 1 0 q3.length q3.length),Ea,(Qg q0),(Qg q1),Ea])])
theorem Qef:∀ x r,Qas x=some r→Qal x r:=by
 intro x r hm
 unfold Qas at hm
 unfold Qal
 obtain ⟨q0,q1,q2,q3⟩:=x
 refine PC_sxB (fn:=f111) rfl ?_
 refine QaB ?_
 refine Qa 10 ?_
 refine Qe ⟨by kernel_rfl,?_⟩
 obtain rfl:=Qq hm
 exact ⟨trivial,QM (by kernel_rfl) (by kernel_rfl)⟩
def X2 (x:((List Int) × Int × Int)):Option (Int ⊕ ((List Int) × (List Int))) :=
 match x with
 | (q0,q1,q2) =>
 Zo q0>>=fun (v1:Int) =>
 if v1≠0 then
  some (Sum.inl v1)
 else
 QA q0>>=fun v2 =>
 QA q0>>=fun v3 =>
 Qas (q1,q2,v2,v3)>>=fun (_:Unit) =>
 some (Sum.inr (v2,v3))
def J0:((List Int) × Int × Int)→(Int ⊕ ((List Int) × (List Int)))→Prop:=fun x r=>match x with
 | (q0,q1,q2)=>PC prog env 93 [(La q0),(La q0),(.arr 1 0 1 1)] [Qx,(.box [(.fn 111 [(.iptr [(Qi q1)]),(.iptr [(Qi q2)])])])] (match r with|.inl v5001=>(.tup [(.dat (.agg [Eb,Eb,Eb,Eb,(Qi 0),(Qi 0),Eb])),(Qg v5001)])|.inr ((v5002,v5003))=>(.tup [(.agg [Ea,(.ms 3 1 0 v5002.length v5002.length),(.ms 4 1 0 v5003.length v5003.length),Ea,(Qg q1),(Qg q2),Ea]),(Qg 0)])) (match r with|.inl v5001=>[Qx,(.box [(.fn 111 [(.iptr [(Qi q1)]),(.iptr [(Qi q2)])])]),Qx]|.inr ((v5002,v5003))=>[Qx,(.box [(.fn 111 [(.iptr [(Qi q1)]),(.iptr [(Qi q2)])])]),(.box [Ea,(.ms 3 1 0 v5002.length v5002.length),(.ms 4 1 0 v5003.length v5003.length),Ea,(Qg q1),(Qg q2),Ea]),(.mt 3 1 (cellsOf Qi v5002)),(.mt 3 1 (cellsOf Qi v5003)),(.box [Ea,(.ms 3 1 0 v5002.length v5002.length),(.ms 4 1 0 v5003.length v5003.length),Ea,(Qg q1),(Qg q2),Ea])])
theorem QcP:∀ x r,X2 x=some r→J0 x r:=by
 intro x r hm
 unfold X2 at hm
 unfold J0
 obtain ⟨q0,q1,q2⟩:=x
 refine PC_sxB (fn:=f93) rfl ?_
 refine Qd (R_G (Qa 2 (Qe (Qd (Qd (R_G (Qa 1 ?_)))))))
 obtain ⟨v1,hx,hm⟩:=Qh hm
 have hq:=ZE _ _ hx []
 refine Qr hq ?_
 refine Qa 1 (Qe (Qd (R_G (Qa 2 (Qe ?_)))))
 refine Qy hm (ne_dec _ _) (fun hm=>?_) (fun hm=>?_)
 ·refine Qd (R_G (Qa 4 (Qe (Qo ?_))))
  obtain rfl:=Qq hm
  exact ⟨trivial,QM (by kernel_rfl) (by kernel_rfl)⟩
 refine Qs (Qd (R_G (Qa 1 ?_)))
 obtain ⟨v2,hx,hm⟩:=Qh hm
 have hq:=QF _ _ hx
 dsimp only [QC] at hq
 have hl9:mtOf [Blk.mt 3 (cgm_slices_Clone_int_int v2) (cellsOf Qi v2)] 0=some (3,cgm_slices_Clone_int_int v2,cellsOf Qi v2):=ZP (by kernel_rfl)
 refine ZI (v:=.ms 3 1 0 v2.length v2.length) (fun H=>H++[.mt 3 1 (cellsOf Qi v2)]) rfl (by kernel_rfl) ?_ ?_
 ·intro K hk
  refine Zz 3 (first:=#[]) (cap:=#[]) (j:=(0,3)) (ow':=[]) (f0:=Qi) (l:=v2) rfl ?_ ?_ ?_ (ds:=[.lst ((List.map Qi) q0)]) ?_ hq hl9 ?_ ?_ ?_
  ·kernel_rfl
  ·kernel_rfl
  ·kernel_rfl
  ·kernel_rfl
  ·exact hk
  ·kernel_rfl
  ·decide
 refine Qa 1 ?_
 obtain ⟨v3,hx,hm⟩:=Qh hm
 have hq:=QF _ _ hx
 dsimp only [QC] at hq
 have hl9:mtOf [Blk.mt 3 (cgm_slices_Clone_int_int v3) (cellsOf Qi v3)] 0=some (3,cgm_slices_Clone_int_int v3,cellsOf Qi v3):=ZP (by kernel_rfl)
 refine ZI (v:=.ms 4 1 0 v3.length v3.length) (fun H=>H++[.mt 3 1 (cellsOf Qi v3)]) rfl (by kernel_rfl) ?_ ?_
 ·intro K hk
  refine Zz 4 (first:=#[]) (cap:=#[]) (j:=(0,3)) (ow':=[]) (f0:=Qi) (l:=v3) rfl ?_ ?_ ?_ (ds:=[.lst ((List.map Qi) q0)]) ?_ hq hl9 ?_ ?_ ?_
  ·kernel_rfl
  ·kernel_rfl
  ·kernel_rfl
  ·kernel_rfl
  ·exact hk
  ·kernel_rfl
  ·decide
 refine Qa 3 (Qe (Qd (Qd (R_G (Qa 1 (Qa 1 (Qa 1 (Qe (Qu ?_)))))))))
 refine Zk ?_
 refine RL_at (st':=⟨kp 33 [(6,(.ptr 2 0)),(9,(.ptr 5 0)),(23,(.arr 1 0 1 1)),(24,(Qg 1)),(25,(Qg 0))],[Qx,(.box [(.fn 111 [(.iptr [(Qi q1)]),(.iptr [(Qi q2)])])]),Qx,(.mt 3 1 (cellsOf Qi v2)),(.mt 3 1 (cellsOf Qi v3)),(.box [Ea,(.ms 3 1 0 v2.length v2.length),(.ms 4 1 0 v3.length v3.length),Ea,(Qg (-1)),(Qg 0),Ea])]⟩) (prune_of2 [Qx,(.box [(.fn 111 [(.iptr [(Qi q1)]),(.iptr [(Qi q2)])])]),Qx,(.mt 3 1 (cellsOf Qi v2)),(.mt 3 1 (cellsOf Qi v3)),(.box [Ea,(.ms 3 1 0 v2.length v2.length),(.ms 4 1 0 v3.length v3.length),Ea,(Qg (-1)),(Qg 0),Ea])] (fun _=>(pg_cons (by kernel_rfl) (pg_cons (by kernel_rfl) (pg_cons (by kernel_rfl) (pg_cons (purge_mt Qi _ _ _ _ _) (pg_cons (purge_mt Qi _ _ _ _ _) (pg_cons (by kernel_rfl) pg_nil))))))) rfl) ?_
 refine Qd (R_G (Qa 1 (Qe (Qd ?_))))
 refine Qbd (by kernel_rfl) ?_
 refine Qs (Qd (Qu (Qd (R_G (Qa 1 (Qa 2 (Qe (R_G (Qa 1 ?_)))))))))
 obtain ⟨_,hx,hm⟩:=Qh hm
 have hq:=Qef _ _ hx
 dsimp only [Qal] at hq
 refine Q0 hq ?_
 refine Qe (R_G (Qa 2 (Qe ?_)))
 refine RL_at (st':=⟨kp 33 [(6,(.ptr 2 0)),(9,(.ptr 5 0)),(23,(.arr 1 0 1 1)),(24,(Qg 1)),(25,(Qg 1))],[Qx,(.box [(.fn 111 [(.iptr [(Qi q1)]),(.iptr [(Qi q2)])])]),Qx,(.mt 3 1 (cellsOf Qi v2)),(.mt 3 1 (cellsOf Qi v3)),(.box [Ea,(.ms 3 1 0 v2.length v2.length),(.ms 4 1 0 v3.length v3.length),Ea,(Qg q1),(Qg q2),Ea])]⟩) (prune_of2 [Qx,(.box [(.fn 111 [(.iptr [(Qi q1)]),(.iptr [(Qi q2)])])]),Qx,(.mt 3 1 (cellsOf Qi v2)),(.mt 3 1 (cellsOf Qi v3)),(.box [Ea,(.ms 3 1 0 v2.length v2.length),(.ms 4 1 0 v3.length v3.length),Ea,(Qg q1),(Qg q2),Ea])] (fun _=>(pg_cons (by kernel_rfl) (pg_cons (by kernel_rfl) (pg_cons (by kernel_rfl) (pg_cons (purge_mt Qi _ _ _ _ _) (pg_cons (purge_mt Qi _ _ _ _ _) (pg_cons (by kernel_rfl) pg_nil))))))) rfl) ?_
 refine Qd (R_G (Qa 1 (Qe (Qd ?_))))
 refine Xh (by kernel_rfl) ?_
 refine Zh (Qd (R_G (Qa 3 (Qe (Qo ?_)))))
 obtain rfl:=Qq hm
 exact ⟨trivial,QM (by kernel_rfl) (by kernel_rfl)⟩
def Qaq (x:(Int × (List Int))):Option (Qn × Int) :=
 match x with
 | (p0,p1) =>
 JU (p0,p1)>>=fun ((v1,v2):(Int × Int)) =>
 if v2≠0 then
  Zv v2>>=fun ((v3,v4):(Qn × Int)) =>
  some (v3,v4)
 else
 Y6 (v1,0)>>=fun ((v5,v6):(Int × Int)) =>
 (
 X2 (p1,v5,v6)>>=fun (out:Int ⊕ ((List Int) × (List Int))) =>
 match out with
 | .inl v7 =>
  some ((⟨([]:(List Int)),([]:(List Int)),([]:(List Int)),([]:(List Int)),0,0,([]:(List Int))⟩:Qn),v7)
 | .inr ((v8,v9)) =>
  some ((⟨([]:(List Int)),v8,v9,([]:(List Int)),v5,v6,([]:(List Int))⟩:Qn),0)
 )
def QdX:(Int × (List Int))→(Qn × Int)→Prop:=fun x r=>match x,r with
 | (p0,p1),(r0,r1)=>∀ H,PC prog env 70 ([(Qi p0),(Lb p1)].map .dat) H (.tup [(.dat (Qn.toD r0)),(Qg r1)]) H
theorem Qf0:∀ x r,Qaq x=some r→QdX x r:=by
 intro x r hm
 unfold Qaq at hm
 unfold QdX
 obtain ⟨p0,p1⟩:=x
 obtain ⟨r0,r1⟩:=r
 intro H
 refine PC_sx (ds:=[(Qi p0),(Lb p1)]) (fn:=f70) rfl ?_
 refine Qd (R_G (Qa 2 (Qe (Qd (R_G (Qa 2 ?_))))))
 obtain ⟨⟨v1,v2⟩,hx,hm⟩:=Qh hm
 have hq:=QeS _ _ hx []
 refine Qr hq ?_
 refine Qa 5 (Qe (Qd (Qd (R_G (Qa 2 (Qe ?_))))))
 refine Qy hm (ne_dec _ _) (fun hm=>?_) (fun hm=>?_)
 ·refine Qd (R_G (Qa 1 ?_))
  obtain ⟨⟨v3,v4⟩,hx,hm⟩:=Qh hm
  have hq:=ZV _ _ hx []
  refine Qr hq ?_
  refine Qa 4 (Qe (Qo ?_))
  obtain ⟨rfl,rfl⟩:=Zl hm
  exact ⟨trivial,Qk⟩
 refine Qs (Qd (R_G (Qa 3 ?_)))
 obtain ⟨⟨v5,v6⟩,hx,hm⟩:=Qh hm
 have hq:=Qdw _ _ hx []
 refine Qr hq ?_
 refine Qa 1 ?_
 obtain ⟨out,hx,hm⟩:=Qh hm
 rcases out with v7|⟨v8,v9⟩
 ·have hq:=QcP _ _ hx
  dsimp only [J0] at hq
  refine Q0 hq ?_
  refine Qa 4 (Qe (Qo ?_))
  obtain ⟨rfl,rfl⟩:=Zl hm
  exact ⟨trivial,Qk⟩
 ·have hq:=QcP _ _ hx
  dsimp only [J0] at hq
  refine Q0 hq ?_
  refine Qa 4 (Qe (Qo ?_))
  obtain ⟨rfl,rfl⟩:=Zl hm
  exact ⟨trivial,Xi [(.agg [Ea,(.ms 3 1 0 v8.length v8.length),(.ms 4 1 0 v9.length v9.length),Ea,(Qg v5),(Qg v6),Ea]),(Qg 0)] (by kernel_rfl) (po_tup (ps_cons (p1_agg (pc_cons (by kernel_rfl) (pc_cons (pc_ms (e:=3) Qi v8 rfl (fun _=>rfl) (by kernel_rfl)) (pc_cons (pc_ms (e:=3) Qi v9 rfl (fun _=>rfl) (by kernel_rfl)) (pc_cons (by kernel_rfl) (pc_cons (by kernel_rfl) (pc_cons (by kernel_rfl) (pc_cons (by kernel_rfl) pc_nil)))))))) (ps_cons (by kernel_rfl) ps_nil)))⟩
def JQ (x:(Int × Qn × Qc)):Option Qc :=
 match x with
 | (p0,p1,p2) =>
 if p1.axis=(-1) then
  some p2
 else
 some (⟨p0,p1.shape,0,([]:(List Int)),p1.axis,p1.amount,([]:(List Int)),([(⟨p2.kind,p2.shape,p2.buffer,p2.starts,p2.axis,p2.amount,p2.perm,p2.kids⟩:Qc)]:(List Qc))⟩:Qc)
def Qer:(Int × Qn × Qc)→Qc→Prop:=fun x r=>match x,r with
 | (p0,p1,p2),r0=>∀ H,PC prog env 71 ([(Qi p0),(Qn.toD p1),(Qc.ex p2)].map .dat) H (.dat (Qc.ex r0)) H
theorem QeN:∀ x r,JQ x=some r→Qer x r:=by
 intro x r0 hm
 unfold JQ at hm
 unfold Qer
 obtain ⟨p0,p1,p2⟩:=x
 intro H
 refine PC_sx (ds:=[(Qi p0),(Qn.toD p1),(Qc.ex p2)]) (fn:=f71) rfl ?_
 refine Qd (R_G (Qa 3 (Qe (Qd (Qd (R_G (Qa 3 (Qe ?_))))))))
 refine Qy hm (ZN _ _) (fun hm=>?_) (fun hm=>?_)
 ·refine Qd (R_G (Qa 2 (Qe (Qo ?_))))
  obtain rfl:=Qq hm
  exact ⟨trivial,Qk⟩
 refine Qs (Qd (R_G (Qa 11 (Qe (Qo ?_)))))
 obtain rfl:=Qq hm
 exact ⟨trivial,Qk⟩
def Xn (x:((List Int) × Nat × (List Int) × (List Int) × (List Int))):Option (Unit) :=
 match x with
 | (q0,q1,q2,q3,q4) =>
 some ()
def Jp:((List Int) × Nat × (List Int) × (List Int) × (List Int))→Unit→Prop:=fun x r=>match x with
 | (q0,q1,q2,q3,q4)=>PC prog env 112 [(.ptr 7 0),(.ptr 0 0)] [(.box [(La q0)]),Qx,(.mt 3 q1 (cellsOf Qi q2)),Qdq,Qx,(.mt 3 1 (cellsOf Qi q3)),(.mt 3 1 (cellsOf Qi q4)),(.box [Ea,(.ms 5 1 0 q3.length q3.length),(.ms 6 1 0 q4.length q4.length),Ea,(Qg (-1)),(Qg 0),Ea])] (match r with|_=>(.tup [])) (match r with|_=>[(.box [(La q0)]),Qx,(.mt 3 q1 (cellsOf Qi q2)),Qdq,Qx,(.mt 3 1 (cellsOf Qi q3)),(.mt 3 1 (cellsOf Qi q4)),(.box [Ea,(.ms 5 1 0 q3.length q3.length),(.ms 6 1 0 q4.length q4.length),Ea,(Qg (-1)),(Qg 0),(La q0)])])
theorem Qdn:∀ x r,Xn x=some r→Jp x r:=by
 intro x r hm
 unfold Xn at hm
 unfold Jp
 obtain ⟨q0,q1,q2,q3,q4⟩:=x
 refine PC_sxB (fn:=f112) rfl ?_
 refine R_G (Qa 5 (Qe ?_))
 obtain rfl:=Qq hm
 exact ⟨trivial,QM (by kernel_rfl) (by kernel_rfl)⟩
def Qaa (x:((List Int) × Nat × (List Int) × Nat × (List Int))):Option (Int ⊕ ((List Int) × (List Int))) :=
 match x with
 | (q0,q1,q2,q3,q4) =>
 Z3 (q2.length=q3)>>=fun (_:Unit) =>
 Zo q2>>=fun (v2:Int) =>
 if v2≠0 then
  some (Sum.inl v2)
 else
 QA q0>>=fun v3 =>
 Z3 (q2.length=q3)>>=fun (_:Unit) =>
 QA q2>>=fun v5 =>
 Xn (q4,q1,q2,v3,v5)>>=fun (_:Unit) =>
 some (Sum.inr (v3,v5))
def J1:((List Int) × Nat × (List Int) × Nat × (List Int))→(Int ⊕ ((List Int) × (List Int)))→Prop:=fun x r=>match x with
 | (q0,q1,q2,q3,q4)=>PC prog env 93 [(La q0),(.ms 2 q1 0 q3 q3),(.arr 3 0 1 1)] [(.box [(La q4)]),Qx,(.mt 3 q1 (cellsOf Qi q2)),Qdq] (match r with|.inl v5001=>(.tup [(.dat (.agg [Eb,Eb,Eb,Eb,(Qi 0),(Qi 0),Eb])),(Qg v5001)])|.inr ((v5002,v5003))=>(.tup [(.agg [Ea,(.ms 5 1 0 v5002.length v5002.length),(.ms 6 1 0 v5003.length v5003.length),Ea,(Qg (-1)),(Qg 0),(La q4)]),(Qg 0)])) (match r with|.inl v5001=>[(.box [(La q4)]),Qx,(.mt 3 q1 (cellsOf Qi q2)),Qdq,Qx]|.inr ((v5002,v5003))=>[(.box [(La q4)]),Qx,(.mt 3 q1 (cellsOf Qi q2)),Qdq,(.box [Ea,(.ms 5 1 0 v5002.length v5002.length),(.ms 6 1 0 v5003.length v5003.length),Ea,(Qg (-1)),(Qg 0),(La q4)]),(.mt 3 1 (cellsOf Qi v5002)),(.mt 3 1 (cellsOf Qi v5003)),(.box [Ea,(.ms 5 1 0 v5002.length v5002.length),(.ms 6 1 0 v5003.length v5003.length),Ea,(Qg (-1)),(Qg 0),(La q4)])])
theorem QcQ:∀ x r,Qaa x=some r→J1 x r:=by
 intro x r hm
 unfold Qaa at hm
 unfold J1
 obtain ⟨q0,q1,q2,q3,q4⟩:=x
 refine PC_sxB (fn:=f93) rfl ?_
 refine Qd (R_G (Qa 2 (Qe (Qd (Qd (R_G (Qa 1 ?_)))))))
 obtain ⟨_,hl1,hm⟩:=Qh hm
 replace hl1:=Z7 hl1
 obtain ⟨v2,hx,hm⟩:=Qh hm
 have hq:=ZE _ _ hx []
 refine Qgm (args:=[(.ms 2 q1 0 q3 q3)]) hq (ps_cons (p1_ms (pc_ms (e:=3) Qi q2 hl1 (fun _=>rfl) (by kernel_rfl))) ps_nil) ?_
 refine Qa 1 (Qe (Qd (R_G (Qa 2 (Qe ?_)))))
 refine Qy hm (ne_dec _ _) (fun hm=>?_) (fun hm=>?_)
 ·refine Qd (R_G (Qa 4 (Qe (Qo ?_))))
  obtain rfl:=Qq hm
  exact ⟨trivial,QM (by kernel_rfl) (by kernel_rfl)⟩
 refine Qs (Qd (R_G (Qa 1 ?_)))
 obtain ⟨v3,hx,hm⟩:=Qh hm
 have hq:=QF _ _ hx
 dsimp only [QC] at hq
 have hl9:mtOf [Blk.mt 3 (cgm_slices_Clone_int_int v3) (cellsOf Qi v3)] 0=some (3,cgm_slices_Clone_int_int v3,cellsOf Qi v3):=ZP (by kernel_rfl)
 refine ZI (v:=.ms 5 1 0 v3.length v3.length) (fun H=>H++[.mt 3 1 (cellsOf Qi v3)]) rfl (by kernel_rfl) ?_ ?_
 ·intro K hk
  refine Zz 5 (first:=#[]) (cap:=#[]) (j:=(0,3)) (ow':=[]) (f0:=Qi) (l:=v3) rfl ?_ ?_ ?_ (ds:=[.lst ((List.map Qi) q0)]) ?_ hq hl9 ?_ ?_ ?_
  ·kernel_rfl
  ·kernel_rfl
  ·kernel_rfl
  ·kernel_rfl
  ·exact hk
  ·kernel_rfl
  ·decide
 refine Qa 1 ?_
 obtain ⟨_,hl4,hm⟩:=Qh hm
 replace hl4:=Z7 hl4
 obtain ⟨v5,hx,hm⟩:=Qh hm
 have hq:=QF _ _ hx
 dsimp only [QC] at hq
 have hl9:mtOf [Blk.mt 3 (cgm_slices_Clone_int_int v5) (cellsOf Qi v5)] 0=some (3,cgm_slices_Clone_int_int v5,cellsOf Qi v5):=ZP (by kernel_rfl)
 refine ZI (v:=.ms 6 1 0 v5.length v5.length) (fun H=>H++[.mt 3 1 (cellsOf Qi v5)]) rfl (by kernel_rfl) ?_ ?_
 ·intro K hk
  refine Zz 6 (first:=#[]) (cap:=#[]) (j:=(0,3)) (ow':=[]) (f0:=Qi) (l:=v5) rfl ?_ ?_ ?_ (ds:=[.lst ((List.map Qi) q2)]) ?_ hq hl9 ?_ ?_ ?_
  ·kernel_rfl
  ·kernel_rfl
  ·exact plain_or (cellsOf_plain (fun _=>rfl) _)
  ·exact ps_one (v:=(.ms 2 q1 0 q3 q3)) (by kernel_rfl) (p1_ms (pc_ms (e:=3) Qi q2 hl4 (fun _=>rfl) (by kernel_rfl)))
  ·exact hk
  ·kernel_rfl
  ·decide
 refine Qa 3 (Qe (Qd (Qd (R_G (Qa 1 (Qa 1 (Qa 1 (Qe (Qu ?_)))))))))
 refine Zk ?_
 refine RL_at (st':=⟨kp 33 [(6,(.ptr 4 0)),(9,(.ptr 7 0)),(23,(.arr 3 0 1 1)),(24,(Qg 1)),(25,(Qg 0))],[(.box [(La q4)]),Qx,(.mt 3 q1 (cellsOf Qi q2)),Qdq,Qx,(.mt 3 1 (cellsOf Qi v3)),(.mt 3 1 (cellsOf Qi v5)),(.box [Ea,(.ms 5 1 0 v3.length v3.length),(.ms 6 1 0 v5.length v5.length),Ea,(Qg (-1)),(Qg 0),Ea])]⟩) (prune_of2 [(.box [(La q4)]),Qx,(.mt 3 q1 (cellsOf Qi q2)),Qdq,Qx,(.mt 3 1 (cellsOf Qi v3)),(.mt 3 1 (cellsOf Qi v5)),(.box [Ea,(.ms 5 1 0 v3.length v3.length),(.ms 6 1 0 v5.length v5.length),Ea,(Qg (-1)),(Qg 0),Ea])] (fun _=>(pg_cons (by kernel_rfl) (pg_cons (by kernel_rfl) (pg_cons (purge_mt Qi _ _ _ _ _) (pg_cons (by kernel_rfl) (pg_cons (by kernel_rfl) (pg_cons (purge_mt Qi _ _ _ _ _) (pg_cons (purge_mt Qi _ _ _ _ _) (pg_cons (by kernel_rfl) pg_nil))))))))) rfl) ?_
 refine Qd (R_G (Qa 1 (Qe (Qd ?_))))
 refine Qbd (by kernel_rfl) ?_
 refine Qs (Qd (Qu (Qd (R_G (Qa 1 (Qa 2 (Qe (R_G (Qa 1 ?_)))))))))
 obtain ⟨_,hx,hm⟩:=Qh hm
 have hq:=Qdn _ _ hx
 dsimp only [Jp] at hq
 refine Q0 hq ?_
 refine Qe (R_G (Qa 2 (Qe ?_)))
 refine RL_at (st':=⟨kp 33 [(6,(.ptr 4 0)),(9,(.ptr 7 0)),(23,(.arr 3 0 1 1)),(24,(Qg 1)),(25,(Qg 1))],[(.box [(La q4)]),Qx,(.mt 3 q1 (cellsOf Qi q2)),Qdq,Qx,(.mt 3 1 (cellsOf Qi v3)),(.mt 3 1 (cellsOf Qi v5)),(.box [Ea,(.ms 5 1 0 v3.length v3.length),(.ms 6 1 0 v5.length v5.length),Ea,(Qg (-1)),(Qg 0),(La q4)])]⟩) (prune_of2 [(.box [(La q4)]),Qx,(.mt 3 q1 (cellsOf Qi q2)),Qdq,Qx,(.mt 3 1 (cellsOf Qi v3)),(.mt 3 1 (cellsOf Qi v5)),(.box [Ea,(.ms 5 1 0 v3.length v3.length),(.ms 6 1 0 v5.length v5.length),Ea,(Qg (-1)),(Qg 0),(La q4)])] (fun _=>(pg_cons (by kernel_rfl) (pg_cons (by kernel_rfl) (pg_cons (purge_mt Qi _ _ _ _ _) (pg_cons (by kernel_rfl) (pg_cons (by kernel_rfl) (pg_cons (purge_mt Qi _ _ _ _ _) (pg_cons (purge_mt Qi _ _ _ _ _) (pg_cons (by kernel_rfl) pg_nil))))))))) rfl) ?_
 refine Qd (R_G (Qa 1 (Qe (Qd ?_))))
 refine Xh (by kernel_rfl) ?_
 refine Zh (Qd (R_G (Qa 3 (Qe (Qo ?_)))))
 obtain rfl:=Qq hm
 exact ⟨trivial,QM (by kernel_rfl) (by kernel_rfl)⟩
end Go.Proofs.Tryz
