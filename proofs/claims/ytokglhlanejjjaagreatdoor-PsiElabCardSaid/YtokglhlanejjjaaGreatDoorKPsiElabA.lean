/-
 Models of functions, their walks, and plain laws.
-/
import Derived.Test.YtokglhlanejjjaaGreatDoorPmSx
import Derived.Test.YtokglhlanejjjaaGreatDoorProg
import Derived.Test.YtokglhlanejjjaaGreatDoorPmMap
import Derived.Test.YtokglhlanejjjaaGreatDoorPmPk
import Derived.Test.YtokglhlanejjjaaGreatDoorPmMs
import Derived.KernelRfl
namespace Go.Proofs.Tryz
open Go Go.Pm
set_option linter.all false
set_option maxRecDepth 2000
def Sm (n:Nat):Prop:=n≤9223372036854775807
theorem Sm_of {n m:Nat} (h:n≤m) (hm:m≤9223372036854775807:=by decide):Sm n:=jV h hm
theorem idx_ok {α:Type} {l:List α} {j:Nat} (h:j < l.length):idx l (j:Int)=some l[j]:=by simp [idx,h]
theorem app_ok {α:Type} {b:Nat} {l es:List α} (h:(l.length+es.length) * b≤room):app b l es=some (l++es):=if_pos h
theorem W_ok {n:Int} (h1:-9223372036854775808≤n) (h2:n < 9223372036854775808):W n=n:=by
 simp only [W,IntKind.wrap,IntKind.bits,IntKind.signed]; simp; split <;> omega
theorem W_succ {j:Nat} (h:j < 9223372036854775807):W ((j:Int)+1)=((j+1:Nat):Int):=by rw [W_ok zV zV]; omega
section
variable {α:Type} {p s:List α} {x:α}
theorem QN:((p.length:Int) < ((p++x::s).length:Int)):=by simp; omega
theorem Ze:¬ ((p.length:Int) < ((p++([]:List α)).length:Int)):=by simp
theorem Qz:idx (p++x::s) (p.length:Int)=some x:=by simp [idx]
theorem Qt:p++x::s=(p++[x])++s:=by simp
theorem mid_W (hs:Sm (p++x::s).length):W ((p.length:Int)+1)=((p++[x]).length:Int):=by
 unfold Sm at hs;rw [W_ok zV (by simp at hs; omega)]; simp
end
theorem Qb {α β:Type} (a:α) (f:α→Option β):(some a>>=f)=f a:=rfl
set_option maxHeartbeats 2000000
def hintOf:FuncId→Hint
 | 3=>{ own:=[((0,0),[(9000,3)])],keep:=[] }
 | 5=>{ own:=[],keep:=[(4,[0,1,5])] }
 | 8=>{ own:=[((0,0),[(9000,3)]),((1,1),[(1,91)]),((2,2),[(12000,0)]),((5,5),[(5000,3)])],keep:=[] }
 | 12=>{ own:=[((1,3),[(8,90)]),((1,4),[(8,90)])],keep:=[(3,[1,2,3,4])] }
 | 15=>{ own:=[],keep:=[(4,[2,3,5])] }
 | 16=>{ own:=[],keep:=[(4,[0,1,5])] }
 | 18=>{ own:=[((1,3),[(8,91)]),((1,4),[(8,91)])],keep:=[(3,[1,2,3,4])] }
 | 19=>{ own:=[],keep:=[(4,[1,2,4,6])] }
 | 21=>{ own:=[((1,0),[(0,67)])],keep:=[(3,[1,3,11,12])] }
 | 22=>{ own:=[],keep:=[(4,[0,1,5])] }
 | 23=>{ own:=[],keep:=[(2,[0,3]),(7,[0,3,4])] }
 | 27=>{ own:=[((1,1),[(0,64)]),((1,2),[(0,64)])],keep:=[(3,[4,11,12,13])],late:=[(8,3),(8,12)] }
 | 28=>{ own:=[((0,0),[(9000,3)]),((2,2),[(12000,0)]),((3,9),[(12000,0)]),((8,0),[(0,3)]),((8,8),[(12000,0)])],keep:=[] }
 | 32=>{ own:=[],keep:=[(4,[2,3,5])] }
 | 33=>{ own:=[],keep:=[(4,[0,1,5])] }
 | 34=>{ own:=[((1,14),[(7,44)]),((1,15),[(7,44)])],keep:=[(3,[1,2,3,4])] }
 | 37=>{ own:=[((3,0),[(0,54)])],keep:=[(5,[2,3,4,5,6])] }
 | 38=>{ own:=[((3,0),[(0,146)])],keep:=[(5,[0,4,5]),(26,[0,4,5,12,13,14])] }
 | 40=>{ own:=[((1,14),[(7,35)]),((1,15),[(7,35)])],keep:=[(3,[1,2,3,4])] }
 | 41=>{ own:=[],keep:=[(4,[0,12,13,14])] }
 | 43=>{ own:=[((3,7),[(0,3)])],keep:=[] }
 | 50=>{ own:=[],keep:=[(5,[0,1,5,6])] }
 | 51=>{ own:=[],keep:=[(3,[1,2,5])] }
 | 52=>{ own:=[],keep:=[(3,[1,3,4])] }
 | 53=>{ own:=[],keep:=[(3,[1,3,4])] }
 | 54=>{ own:=[],keep:=[(4,[1,3])] }
 | 58=>{ own:=[((0,0),[(9000,3)]),((8,3),[(12000,0)]),((9,6),[(13000,0)]),((12,5),[(12000,0)])],keep:=[] }
 | 59=>{ own:=[((0,0),[(9000,3)]),((0,1),[(9000,3)])],keep:=[] }
 | 63=>{ own:=[],keep:=[(19,[0,6,8,10,11,12])] }
 | 66=>{ own:=[((1,0),[(0,32)])],keep:=[(3,[1,3,4])] }
 | 67=>{ own:=[],keep:=[(2,[0,3])] }
 | 68=>{ own:=[],keep:=[(3,[0,4,5]),(9,[0,4,6]),(17,[0,7,8])] }
 | 71=>{ own:=[],keep:=[(2,[1,2,9,10])] }
 | 72=>{ own:=[((0,5),[(6000,3)])],keep:=[] }
 | 73=>{ own:=[((1,2),[(1,2)]),((1,3),[(1,2)]),((6,0),[(1000,3)]),((19,0),[(1000,3)])],keep:=[(4,[1,2,4,5,6,7]),(11,[1,2,4,5,6,7,8,9,10]),(21,[1,2,4,5,6,7,8,9,11])] }
 | 75=>{ own:=[],keep:=[(1,[0,1])] }
 | 77=>{ own:=[],keep:=[(5,[0,1,6,7])] }
 | 79=>{ own:=[],keep:=[(2,[0,2,4,5,6])] }
 | 82=>{ own:=[((2,0),[(1000,3)]),((3,0),[(1000,3)])],keep:=[] }
 | 84=>{ own:=[],keep:=[(3,[1,5,13,14,15])] }
 | 91=>{ own:=[((0,0),[(9000,3)]),((5,3),[(7000,3)])],keep:=[] }
 | 92=>{ own:=[((1,2),[(12000,0)])],keep:=[] }
 | 93=>{ own:=[((4,4),[(0,214)])],keep:=[] }
 | 95=>{ own:=[((1,0),[(0,3)])],keep:=[(3,[0,2,4,7,8])] }
 | 99=>{ own:=[((0,0),[(9000,3)]),((0,1),[(9000,3)]),((1,5),[(12000,0)])],keep:=[] }
 | 100=>{ own:=[((0,0),[(9000,3)]),((0,1),[(9000,3)]),((1,8),[(13000,0)])],keep:=[] }
 | 101=>{ own:=[],keep:=[(2,[0,1,4,6])] }
 | 102=>{ own:=[((8,0),[(0,90)])],keep:=[(3,[0,3,4,6,7])] }
 | 104=>{ own:=[((3,4),[(2,3),(3,3)]),((3,5),[(2,3),(3,3)])],keep:=[(7,[0,4,6,7])] }
 | 105=>{ own:=[((3,4),[(2,3),(3,3)]),((3,5),[(2,3),(3,3)])],keep:=[(7,[0,4,6,7])] }
 | 108=>{ own:=[((1,0),[(0,3)])],keep:=[(3,[0,2,3,4])] }
 | 113=>{ own:=[((1,0),[(0,3)])],keep:=[(3,[0,1,2,7,8])] }
 | 117=>{ own:=[],keep:=[(4,[1,2,5])] }
 | 118=>{ own:=[((5,0),[(0,32)]),((12,1),[(0,3)])],keep:=[(3,[0,3,4]),(7,[0,3,4,5,6]),(10,[0,3,4,5,6,7])] }
 | 121=>{ own:=[((10,5),[(0,2)])],keep:=[(9,[0,1,4,7])] }
 | 124=>{ own:=[],keep:=[(8,[0,3,4,18,19])] }
 | 125=>{ own:=[],keep:=[(3,[0,1,5,11,12])] }
 | 131=>{ own:=[],keep:=[(2,[0,2,8])] }
 | 133=>{ own:=[],keep:=[(2,[0,1,7,8])] }
 | 138=>{ own:=[((4,1),[(0,3)]),((4,3),[(0,3)])],keep:=[(6,[6,9,23,24,25])] }
 | 140=>{ own:=[((1,0),[(1000,3)]),((9,3),[(0,214)])],keep:=[(3,[1,2,4,6,9,10,11]),(5,[1,2,4,6,7,8,9,10,11])] }
 | 141=>{ own:=[((13,5),[(0,214)])],keep:=[] }
 | 143=>{ own:=[((0,0),[(9000,3)]),((2,2),[(7000,2)]),((3,3),[(12000,0)])],keep:=[] }
 | 144=>{ own:=[((6,0),[(0,3)]),((6,1),[(0,3)]),((18,4),[(0,214)])],keep:=[(8,[4,6,8,9,38,39,40])] }
 | 146=>{ own:=[((6,1),[(0,3)]),((12,4),[(0,214)])],keep:=[(8,[4,6,8,9,41,42,43])] }
 | 147=>{ own:=[((9,10),[(0,214)])],keep:=[] }
 | 150=>{ own:=[((3,0),[(0,3)])],keep:=[(5,[1,5,6])] }
 | 152=>{ own:=[((1,2),[(2,3)]),((1,3),[(2,3)])],keep:=[(3,[0,1,4,5,6]),(7,[0,1,4,5,6,7,8])] }
 | 153=>{ own:=[((3,0),[(0,3)])],keep:=[(6,[1,2,6,7,8]),(13,[1,6,7,9]),(17,[1,6,7,9,10,11])] }
 | 154=>{ own:=[((6,0),[(0,3)])],keep:=[(2,[1,4]),(8,[1,5,6])] }
 | 155=>{ own:=[((1,0),[(0,3)])],keep:=[(3,[0,1,5,6])] }
 | 156=>{ own:=[],keep:=[(5,[1,2,5])] }
 | 157=>{ own:=[],keep:=[(3,[1,3,4])] }
 | 158=>{ own:=[],keep:=[(4,[1,2,5])] }
 | 159=>{ own:=[],keep:=[(5,[0,1,5,6])] }
 | 160=>{ own:=[],keep:=[(3,[0,5,6])] }
 | 161=>{ own:=[],keep:=[(3,[1,3,4])] }
 | 165=>{ own:=[],keep:=[(2,[0,1,7,8])] }
 | 166=>{ own:=[],keep:=[(3,[2,8,13,14,15])] }
 | 168=>{ own:=[],keep:=[(2,[0,1,8])] }
 | 172=>{ own:=[((3,1),[(0,3)])],keep:=[] }
 | 176=>{ own:=[((2,0),[(1000,2)]),((3,0),[(1000,2)])],keep:=[] }
 | 185=>{ own:=[],keep:=[(15,[2,6])] }
 | 186=>{ own:=[],keep:=[(4,[0,1,5])] }
 | 187=>{ own:=[],keep:=[(2,[0,1,7,8])] }
 | 193=>{ own:=[],keep:=[(4,[0,1,12,13])] }
 | 196=>{ own:=[((3,2),[(0,2)])],keep:=[] }
 | 197=>{ own:=[((1,2),[(0,3)])],keep:=[(3,[1,6,14,15,16])] }
 | 199=>{ own:=[],keep:=[(5,[0,3,4])] }
 | 204=>{ own:=[],keep:=[(5,[1,3,4]),(10,[1,3,5]),(14,[1,3,5,6,7])] }
 | 205=>{ own:=[],keep:=[(6,[1,3,4,5])] }
 | 210=>{ own:=[],keep:=[(8,[7,8])] }
 | 211=>{ own:=[],keep:=[(2,[0,1,7,8])] }
 | 212=>{ own:=[((9,1),[(2000,3)])],keep:=[(3,[0,3,9,10,11]),(11,[6,25,26,27])] }
 | 237=>{ own:=[],keep:=[(2,[1,2,10,11,12])] }
 | 242=>{ own:=[],keep:=[(5,[1,3,23,24,25])] }
 | 243=>{ own:=[((1,0),[(0,3)])],keep:=[(3,[1,7,11,12,13])] }
 | _=>{}
def env:Env where
 summ:=fun _=>none
 hint:=hintOf
 pure:=fun f=>f != 7 && f != 8 && f != 27 && f != 28 && f != 35 && f != 36 && f != 55 && f != 58 && f != 60 && f != 71 && f != 72 && f != 82 && f != 91 && f != 92 && f != 99 && f != 100 && f != 133 && f != 134 && f != 135 && f != 138 && f != 143 && f != 170 && f != 171 && f != 174 && f != 176 && f != 179 && f != 195 && f != 197 && f != 198 && f != 206 && f != 210 && f != 213 && f != 215 && f != 235 && f != 237 && f != 239 && f != 241 && f != 243 && f != 244 && f != 246
 split:=fun f=>f == 82 || f == 176
abbrev FQ:=FP prog env
abbrev LQ:=LP prog env

theorem ag32:aggT prog 32=some false:=by kernel_rfl
theorem by3:bytesOf prog 3=some 8:=by kernel_rfl
theorem el133:elemOfSlice prog 133=some 32:=by kernel_rfl
theorem el32:elemOfSlice prog 32=some 3:=by kernel_rfl
theorem sz3:szOf prog 3=some 1:=by kernel_rfl
theorem sz32:szOf prog 32=some 1:=by kernel_rfl
theorem un133:prog.underlying 133=some (TypeDesc.slice 32):=by kernel_rfl
theorem un3:prog.underlying 3=some (TypeDesc.int IntKind.i64):=by kernel_rfl
theorem un32:prog.underlying 32=some (TypeDesc.slice 3):=by kernel_rfl
theorem ze3:zeroOf prog 3=some (Dat.raw (Value.int IntKind.i64 (0))):=by kernel_rfl
theorem zn3:(zeroOf prog 3).map Dat.num=some 1:=by kernel_rfl
theorem wrap_i64 {n:Int} (h1:-9223372036854775808≤n) (h2:n < 9223372036854775808):IntKind.i64.wrap n=n:=by
 simp only [IntKind.wrap,IntKind.bits,IntKind.signed]; simp; split <;> omega
theorem wrap_succ {j:Nat} (h:j < 9223372036854775807):IntKind.i64.wrap ((j:Int)+1)=((j+1:Nat):Int):=by rw [wrap_i64 zV zV]; omega

def intsD (l:List Int):Dat:=.lst (l.map Qf)
theorem take_next {α:Type} {l:List α} {j:Nat} (h:j < l.length):l.take (j+1)=l.take j++[l[j]]:=List.take_succ_eq_append_getElem h
def zg (n:Nat):Nat:=if n=0 then 0 else 1
theorem c_Grow (n:Nat) (hn:n≤1000000):PC prog env 215 [.ms 0 0 0 0 0,.dat (Qf (n:Int))] [.mt 3 0 []] (.ms 0 (zg n) 0 0 n) [.mt 3 (zg n) (cellsOf Qf (List.replicate n 0))]:=by
 refine PC_body (fn:=f215) (by kernel_rfl) rfl rfl (by kernel_rfl) rfl ?_;refine Qjy (st':=⟨[.ms 0 0 0 0 0,.dat (Qf (n:Int)),.tup [],.tup [],.tup [],.tup [],.tup [],.tup [],.tup [],.tup [],.tup [],.tup [],.tup [],.tup [],.tup [],.tup [],.tup [],.tup [],.tup [],.tup [],.tup [],.tup [],.tup [],.tup [],.tup [],.tup [],.tup []],[.mt 3 0 []]⟩) rfl ?_
 repeat (first|refine Qi ?_|refine Qn ?_|refine Qk ?_)
 refine Ya ?_
 (refine OpsE_do rfl ?_; refine J3 rfl rfl ?_; refine OpsE_eq (st':=_) (by first|dsimp only [n0,n1,n2,n3,n4,n5,n6,n7,n8,n9,m0,m1,m2,m3,m4,m5,m6,m7,m8,m9,o0,o1,o2,o3,o4,↓reduceIte]|rfl) ?_)
 refine OpsE_nil ?_;have h0:¬ ((n:Int) < 0):=by omega
 repeat (first|refine Qi ?_|refine Qn ?_|refine Qk ?_)
 refine Ya ?_
 iterate 2 ((refine OpsE_do rfl ?_; first|refine Qai rfl ?_|refine Qfk rfl rfl rfl rfl ?_); refine OpsE_eq (st':=_) (by first|(simp only [n0,n1,n2,n3,n4,n5,n6,n7,n8,n9,m0,m1,m2,m3,m4,m5,m6,m7,m8,m9,o0,o1,o2,o3,o4,↓reduceIte,zP h0] <;> rfl)|rfl) ?_)
 refine OpsE_nil ?_
 repeat (first|refine Qi ?_|refine Qn ?_|refine Qk ?_)
 refine XN rfl ?_;have w1:IntKind.i64.wrap ((n:Int) - IntKind.i64.wrap (0 - ((0:Nat):Int)))=(n:Int):=by rw [wrap_i64 (n:=0 - ((0:Nat):Int)) zV zV,wrap_i64 zV zV]; omega
 repeat (first|refine Qi ?_|refine Qn ?_|refine Qk ?_)
 refine Ya ?_
 iterate 2 ((refine OpsE_do rfl ?_; refine Qai rfl ?_); refine OpsE_eq (st':=_) (by first|dsimp only [n0,n1,n2,n3,n4,n5,n6,n7,n8,n9,m0,m1,m2,m3,m4,m5,m6,m7,m8,m9,o0,o1,o2,o3,o4,↓reduceIte]|rfl) ?_)
 (refine OpsE_do rfl ?_; refine Qjp un32 rfl rfl (Z2 rfl) ?_; refine OpsE_eq (st':=_) (by first|dsimp only [n0,n1,n2,n3,n4,n5,n6,n7,n8,n9,m0,m1,m2,m3,m4,m5,m6,m7,m8,m9,o0,o1,o2,o3,o4,↓reduceIte]|rfl) ?_)
 iterate 5 ((refine OpsE_do rfl ?_; first|refine Qai rfl ?_|refine Qh8 un32 rfl rfl ?_|refine Qfk rfl rfl rfl rfl ?_|refine J3 rfl rfl ?_); refine OpsE_eq (st':=_) (by first|dsimp only [n0,n1,n2,n3,n4,n5,n6,n7,n8,n9,m0,m1,m2,m3,m4,m5,m6,m7,m8,m9,o0,o1,o2,o3,o4,↓reduceIte]|rfl) ?_)
 refine OpsE_nil ?_;rw [w1];by_cases hz:n=0
 ·subst hz
  repeat (first|refine Qi ?_|refine Qn ?_|refine Qk ?_)
  refine Ya ?_
  iterate 2 ((refine OpsE_do rfl ?_; first|refine Qai rfl ?_|refine Qfk rfl rfl rfl rfl ?_); refine OpsE_eq (st':=_) (by first|dsimp only [n0,n1,n2,n3,n4,n5,n6,n7,n8,n9,m0,m1,m2,m3,m4,m5,m6,m7,m8,m9,o0,o1,o2,o3,o4,↓reduceIte]|rfl) ?_)
  refine OpsE_nil ?_
  repeat (first|refine Qi ?_|refine Qn ?_|refine Qk ?_)
  refine XN rfl ?_
  repeat (first|refine Qi ?_|refine Qn ?_|refine Qk ?_)
  refine Ya ?_
  iterate 2 ((refine OpsE_do rfl ?_; first|refine Qai rfl ?_|refine J3 rfl rfl ?_); refine OpsE_eq (st':=_) (by first|dsimp only [n0,n1,n2,n3,n4,n5,n6,n7,n8,n9,m0,m1,m2,m3,m4,m5,m6,m7,m8,m9,o0,o1,o2,o3,o4,↓reduceIte]|rfl) ?_)
  refine OpsE_nil ?_
  repeat (first|refine Qi ?_|refine Qn ?_|refine Qk ?_)
  refine Qj ?_;exact ⟨trivial,_,rfl,rfl,rfl⟩
 ·have hp:((n:Int)) > 0:=by omega
  repeat (first|refine Qi ?_|refine Qn ?_|refine Qk ?_)
  refine Ya ?_
  iterate 2 ((refine OpsE_do rfl ?_; first|refine Qai rfl ?_|refine Qfk rfl rfl rfl rfl ?_); refine OpsE_eq (st':=_) (by first|(simp only [n0,n1,n2,n3,n4,n5,n6,n7,n8,n9,m0,m1,m2,m3,m4,m5,m6,m7,m8,m9,o0,o1,o2,o3,o4,↓reduceIte,decide_eq_true hp] <;> rfl)|rfl) ?_)
  refine OpsE_nil ?_
  repeat (first|refine Qi ?_|refine Qn ?_|refine Qk ?_)
  refine Qb8 rfl ?_
  repeat (first|refine Qi ?_|refine Qn ?_|refine Qk ?_)
  refine Ya ?_
  iterate 2 ((refine OpsE_do rfl ?_; refine Qai rfl ?_); refine OpsE_eq (st':=_) (by first|dsimp only [n0,n1,n2,n3,n4,n5,n6,n7,n8,n9,m0,m1,m2,m3,m4,m5,m6,m7,m8,m9,o0,o1,o2,o3,o4,↓reduceIte]|rfl) ?_)
  (refine OpsE_do rfl ?_; refine Qjp un32 rfl rfl (Z2 rfl) ?_; refine OpsE_eq (st':=_) (by first|dsimp only [n0,n1,n2,n3,n4,n5,n6,n7,n8,n9,m0,m1,m2,m3,m4,m5,m6,m7,m8,m9,o0,o1,o2,o3,o4,↓reduceIte]|rfl) ?_)
  (refine OpsE_do rfl ?_; refine QhO el32 sz3 rfl rfl (cutMs_of (l:=0) (h:=0) rfl rfl (j6 _) (zH _) (Or.inl rfl)) ?_; refine OpsE_eq (st':=_) (by first|dsimp only [n0,n1,n2,n3,n4,n5,n6,n7,n8,n9,m0,m1,m2,m3,m4,m5,m6,m7,m8,m9,o0,o1,o2,o3,o4,↓reduceIte]|rfl) ?_)
  (refine OpsE_do rfl ?_; refine Qai rfl ?_; refine OpsE_eq (st':=_) (by first|dsimp only [n0,n1,n2,n3,n4,n5,n6,n7,n8,n9,m0,m1,m2,m3,m4,m5,m6,m7,m8,m9,o0,o1,o2,o3,o4,↓reduceIte]|rfl) ?_)
  (refine OpsE_do rfl ?_; refine Qhx (n:=n) el32 un3 sz3 by3 ze3 rfl zZ rfl rfl rfl (Z2 rfl) zV (by simp [room]; omega) ?_; refine OpsE_eq (st':=_) (by first|dsimp only [n0,n1,n2,n3,n4,n5,n6,n7,n8,n9,m0,m1,m2,m3,m4,m5,m6,m7,m8,m9,o0,o1,o2,o3,o4,↓reduceIte]|rfl) ?_)
  iterate 2 ((refine OpsE_do rfl ?_; first|refine Qai rfl ?_|refine Qh8 un32 rfl rfl ?_); refine OpsE_eq (st':=_) (by first|dsimp only [n0,n1,n2,n3,n4,n5,n6,n7,n8,n9,m0,m1,m2,m3,m4,m5,m6,m7,m8,m9,o0,o1,o2,o3,o4,↓reduceIte]|rfl) ?_)
  (refine OpsE_do rfl ?_; refine QhO el32 sz3 rfl rfl (cutMs_of (l:=0) (h:=0) rfl rfl (j6 _) (zH _) (Or.inl rfl)) ?_; refine OpsE_eq (st':=_) (by first|dsimp only [n0,n1,n2,n3,n4,n5,n6,n7,n8,n9,m0,m1,m2,m3,m4,m5,m6,m7,m8,m9,o0,o1,o2,o3,o4,↓reduceIte]|rfl) ?_)
  (refine OpsE_do rfl ?_; refine J3 rfl rfl ?_; refine OpsE_eq (st':=_) (by first|dsimp only [n0,n1,n2,n3,n4,n5,n6,n7,n8,n9,m0,m1,m2,m3,m4,m5,m6,m7,m8,m9,o0,o1,o2,o3,o4,↓reduceIte]|rfl) ?_)
  refine OpsE_nil ?_
  repeat (first|refine Qi ?_|refine Qn ?_|refine Qk ?_)
  refine Ya ?_
  iterate 2 ((refine OpsE_do rfl ?_; first|refine Qai rfl ?_|refine J3 rfl rfl ?_); refine OpsE_eq (st':=_) (by first|dsimp only [n0,n1,n2,n3,n4,n5,n6,n7,n8,n9,m0,m1,m2,m3,m4,m5,m6,m7,m8,m9,o0,o1,o2,o3,o4,↓reduceIte]|rfl) ?_)
  refine OpsE_nil ?_
  repeat (first|refine Qi ?_|refine Qn ?_|refine Qk ?_)
  refine Qj ?_;refine ⟨trivial,_,rfl,?_,?_⟩
  ·simp [zg,hz,tupOf]
  ·simp [zg,hz,cellsOf,Qf]
def intssD (ls:List (List Int)):Dat:=.lst (ls.map intsD)
theorem flat_next {ls:List (List Int)} {j:Nat} (h:j < ls.length):(ls.take (j+1)).flatten=(ls.take j).flatten++ls[j]:=by
 rw [take_next h,List.flatten_append]; simp
theorem flat_le {ls:List (List Int)} (j:Nat):(ls.take j).flatten.length≤ls.flatten.length:=by
 have:ls.flatten=(ls.take j).flatten++(ls.drop j).flatten:=by rw [← List.flatten_append,zU]
 rw [this,jU]; omega

theorem c_Concat (ls:List (List Int)) (H:List Blk) (hls:ls.length≤1000) (hfl:ls.flatten.length≤1000000):PC prog env 212 [.dat (intssD ls)] H (.dat (intsD ls.flatten)) H:=by
 refine PC_pure (fn:=f212) (by kernel_rfl) rfl rfl (by kernel_rfl) rfl rfl ?_ (by simp [PV.lends]);refine Qjy (st':=⟨[.dat (intssD ls),.tup [],.tup [],.tup [],.tup [],.tup [],.tup [],.tup [],.tup [],.tup [],.tup [],.tup [],.tup [],.tup [],.tup [],.tup [],.tup [],.tup [],.tup [],.tup [],.tup [],.tup [],.tup [],.tup [],.tup [],.tup [],.tup [],.tup [],.tup [],.tup [],.tup [],.tup [],.tup [],.tup [],.tup [],.tup []],[]⟩) rfl ?_
 repeat (first|refine Qi ?_|refine Qn ?_|refine Qk ?_)
 refine Ya ?_
 (refine OpsE_do rfl ?_; refine J3 rfl rfl ?_; refine OpsE_eq (st':=_) (by first|dsimp only [n0,n1,n2,n3,n4,n5,n6,n7,n8,n9,m0,m1,m2,m3,m4,m5,m6,m7,m8,m9,o0,o1,o2,o3,o4,↓reduceIte]|rfl) ?_)
 refine OpsE_nil ?_
 repeat (first|refine Qi ?_|refine Qn ?_|refine Qk ?_)
 refine Ya ?_
 (refine OpsE_do rfl ?_; refine J3 rfl rfl ?_; refine OpsE_eq (st':=_) (by first|dsimp only [n0,n1,n2,n3,n4,n5,n6,n7,n8,n9,m0,m1,m2,m3,m4,m5,m6,m7,m8,m9,o0,o1,o2,o3,o4,↓reduceIte]|rfl) ?_)
 refine OpsE_nil ?_
 repeat (first|refine Qi ?_|refine Qn ?_|refine Qk ?_)
 refine Ya ?_
 iterate 3 ((refine OpsE_do rfl ?_; first|refine Qai rfl ?_|refine Qh8 un133 rfl rfl ?_); refine OpsE_eq (st':=_) (by first|dsimp only [n0,n1,n2,n3,n4,n5,n6,n7,n8,n9,m0,m1,m2,m3,m4,m5,m6,m7,m8,m9,o0,o1,o2,o3,o4,↓reduceIte]|rfl) ?_)
 refine OpsE_nil ?_
 repeat (first|refine Qi ?_|refine Qn ?_|refine Qk ?_)
 refine Qdu ?_
 refine RL_ind (fun (j:Nat)=>⟨[.dat (intssD ls),.undef,.undef,Qe ((ls.take j).flatten.length:Int),.undef,.undef,.undef,.undef,.undef,.dat (intssD ls),Qe (ls.length:Int),Qe (j:Int),.undef,.undef,.undef,.undef,.undef,.undef,.undef,.undef,.undef,.undef,.undef,.undef,.undef,.undef,.undef,.undef,.undef,.undef,.undef,.undef,.undef,.undef,.undef,.undef],[]⟩)
  (fun j=>j≤ls.length) (fun j=>ls.length - j) (fun j hj=>?_) _ 0 _ (Nat.lt_succ_self _) (zH _) (by simp only [intssD,jW]; rfl)
 repeat (first|refine Qi ?_|refine Qn ?_|refine Qk ?_)
 refine Ya ?_
 (refine OpsE_do rfl ?_; (first|refine Qfk rfl rfl rfl rfl ?_|refine E_bin rfl rfl rfl rfl ?_); refine OpsE_eq (st':=_) (by first|dsimp only [n0,n1,n2,n3,n4,n5,n6,n7,n8,n9,m0,m1,m2,m3,m4,m5,m6,m7,m8,m9,o0,o1,o2,o3,o4,↓reduceIte]|rfl) ?_)
 refine OpsE_nil ?_
 repeat (first|refine Qi ?_|refine Qn ?_|refine Qk ?_)
 refine Qjx rfl (fun h=>?_) (fun h=>?_)
 ·have hj':j < ls.length:=by simpa using h
  have hf:=flat_le (ls:=ls) (j+1);rw [flat_next hj',jU] at hf
  repeat (first|refine Qi ?_|refine Qn ?_|refine Qk ?_)
  refine Ya ?_
  (refine OpsE_do rfl ?_; (first|refine QiU el133 sz32 rfl rfl rfl rfl (map_get _ (by first|assumption|omega)) rfl ?_|refine Qh7 el133 sz32 rfl rfl rfl rfl (map_get _ (by first|assumption|omega)) ?_|refine Qga el133 sz32 rfl rfl rfl rfl (map_get _ (by first|assumption|omega)) ?_); refine OpsE_eq (st':=_) (by first|dsimp only [n0,n1,n2,n3,n4,n5,n6,n7,n8,n9,m0,m1,m2,m3,m4,m5,m6,m7,m8,m9,o0,o1,o2,o3,o4,↓reduceIte]|rfl) ?_)
  iterate 2 ((refine OpsE_do rfl ?_; first|refine QiV (ds:=[_]) ag32 sz32 rfl rfl rfl rfl ?_|refine QiW (ds:=[_]) ag32 sz32 rfl rfl rfl rfl rfl ?_|refine J3 rfl rfl ?_); refine OpsE_eq (st':=_) (by first|dsimp only [n0,n1,n2,n3,n4,n5,n6,n7,n8,n9,m0,m1,m2,m3,m4,m5,m6,m7,m8,m9,o0,o1,o2,o3,o4,↓reduceIte]|rfl) ?_)
  refine OpsE_nil ?_
  have w1:IntKind.i64.wrap (((ls.take j).flatten.length:Int)+((ls[j].map Qf).length:Int))=((ls.take (j+1)).flatten.length:Int):=by
   rw [flat_next hj',jU,jW,wrap_i64 zV zV]; omega
  have h0:¬ (((ls.take (j+1)).flatten.length:Int) < 0):=by omega
  repeat (first|refine Qi ?_|refine Qn ?_|refine Qk ?_)
  refine Ya ?_
  iterate 5 ((refine OpsE_do rfl ?_; first|refine Qai rfl ?_|refine Qh8 un32 rfl rfl ?_|refine Qfk rfl rfl rfl rfl ?_|refine J3 rfl rfl ?_); refine OpsE_eq (st':=_) (by first|(simp only [n0,n1,n2,n3,n4,n5,n6,n7,n8,n9,m0,m1,m2,m3,m4,m5,m6,m7,m8,m9,o0,o1,o2,o3,o4,↓reduceIte,w1] <;> rfl)|rfl) ?_)
  refine OpsE_nil ?_
  repeat (first|refine Qi ?_|refine Qn ?_|refine Qk ?_)
  refine Ya ?_
  iterate 2 ((refine OpsE_do rfl ?_; first|refine Qai rfl ?_|refine Qfk rfl rfl rfl rfl ?_); refine OpsE_eq (st':=_) (by first|(simp only [n0,n1,n2,n3,n4,n5,n6,n7,n8,n9,m0,m1,m2,m3,m4,m5,m6,m7,m8,m9,o0,o1,o2,o3,o4,↓reduceIte,zP h0] <;> rfl)|rfl) ?_)
  refine OpsE_nil ?_
  repeat (first|refine Qi ?_|refine Qn ?_|refine Qk ?_)
  refine XN rfl ?_
  repeat (first|refine Qi ?_|refine Qn ?_|refine Qk ?_)
  refine Ya ?_
  iterate 2 ((refine OpsE_do rfl ?_; first|refine Qfk rfl rfl rfl rfl ?_|refine Qai rfl ?_); refine OpsE_eq (st':=_) (by first|dsimp only [n0,n1,n2,n3,n4,n5,n6,n7,n8,n9,m0,m1,m2,m3,m4,m5,m6,m7,m8,m9,o0,o1,o2,o3,o4,↓reduceIte]|rfl) ?_)
  refine OpsE_nil ?_;refine ⟨j+1,?_,by omega,hj'⟩;rw [wrap_succ zV];rfl
 ·have hj':j=ls.length:=by simp at h; omega
  subst hj';rw [List.take_length]
  repeat (first|refine Qi ?_|refine Qn ?_|refine Qk ?_)
  refine QE ?_
  repeat (first|refine Qi ?_|refine Qn ?_|refine Qk ?_)
  refine Ya ?_
  (refine OpsE_do rfl ?_; refine Qai rfl ?_; refine OpsE_eq (st':=_) (by first|dsimp only [n0,n1,n2,n3,n4,n5,n6,n7,n8,n9,m0,m1,m2,m3,m4,m5,m6,m7,m8,m9,o0,o1,o2,o3,o4,↓reduceIte]|rfl) ?_)
  (refine OpsE_do rfl ?_; refine Qi1 rfl rfl rfl rfl (c_Grow ls.flatten.length hfl) ?_; refine OpsE_eq (st':=_) (by first|dsimp only [n0,n1,n2,n3,n4,n5,n6,n7,n8,n9,m0,m1,m2,m3,m4,m5,m6,m7,m8,m9,o0,o1,o2,o3,o4,↓reduceIte]|rfl) ?_)
  (refine OpsE_do rfl ?_; refine J3 rfl rfl ?_; refine OpsE_eq (st':=_) (by first|dsimp only [n0,n1,n2,n3,n4,n5,n6,n7,n8,n9,m0,m1,m2,m3,m4,m5,m6,m7,m8,m9,o0,o1,o2,o3,o4,↓reduceIte]|rfl) ?_)
  refine OpsE_nil ?_
  repeat (first|refine Qi ?_|refine Qn ?_|refine Qk ?_)
  refine Ya ?_
  iterate 3 ((refine OpsE_do rfl ?_; first|refine Qai rfl ?_|refine Qh8 un133 rfl rfl ?_); refine OpsE_eq (st':=_) (by first|dsimp only [n0,n1,n2,n3,n4,n5,n6,n7,n8,n9,m0,m1,m2,m3,m4,m5,m6,m7,m8,m9,o0,o1,o2,o3,o4,↓reduceIte]|rfl) ?_)
  refine OpsE_nil ?_
  repeat (first|refine Qi ?_|refine Qn ?_|refine Qk ?_)
  refine Qdu ?_;refine RL_h0 (h1:=1) rfl ?_
  refine RL_ind (fun (j:Nat)=>⟨[.undef,.undef,.undef,.undef,.undef,.undef,.ms 0 (zg ls.flatten.length) 0 (ls.take j).flatten.length ls.flatten.length,.undef,.undef,.undef,.undef,.undef,.undef,.undef,.undef,.undef,.undef,.undef,.undef,.undef,.undef,.undef,.undef,.undef,.undef,.dat (intssD ls),Qe (ls.length:Int),Qe (j:Int),.undef,.undef,.undef,.undef,.undef,.undef,.undef,.undef],[.mt 3 (zg ls.flatten.length) (cellsOf Qf ((ls.take j).flatten++List.replicate (ls.flatten.length - (ls.take j).flatten.length) 0))]⟩)
   (fun j=>j≤ls.length) (fun j=>ls.length - j) (fun j hj=>?_) _ 0 _ (Nat.lt_succ_self _) (zH _) ?_
  ·repeat (first|refine Qi ?_|refine Qn ?_|refine Qk ?_)
   refine Ya ?_
   (refine OpsE_do rfl ?_; (first|refine Qfk rfl rfl rfl rfl ?_|refine E_bin rfl rfl rfl rfl ?_); refine OpsE_eq (st':=_) (by first|dsimp only [n0,n1,n2,n3,n4,n5,n6,n7,n8,n9,m0,m1,m2,m3,m4,m5,m6,m7,m8,m9,o0,o1,o2,o3,o4,↓reduceIte]|rfl) ?_)
   refine OpsE_nil ?_
   repeat (first|refine Qi ?_|refine Qn ?_|refine Qk ?_)
   refine Qjx rfl (fun h=>?_) (fun h=>?_)
   ·have hj':j < ls.length:=by simpa using h
    have hf:=flat_le (ls:=ls) (j+1);rw [flat_next hj',jU] at hf
    repeat (first|refine Qi ?_|refine Qn ?_|refine Qk ?_)
    refine Ya ?_
    (refine OpsE_do rfl ?_; (first|refine QiU el133 sz32 rfl rfl rfl rfl (map_get _ (by first|assumption|omega)) rfl ?_|refine Qh7 el133 sz32 rfl rfl rfl rfl (map_get _ (by first|assumption|omega)) ?_|refine Qga el133 sz32 rfl rfl rfl rfl (map_get _ (by first|assumption|omega)) ?_); refine OpsE_eq (st':=_) (by first|dsimp only [n0,n1,n2,n3,n4,n5,n6,n7,n8,n9,m0,m1,m2,m3,m4,m5,m6,m7,m8,m9,o0,o1,o2,o3,o4,↓reduceIte]|rfl) ?_)
    iterate 2 ((refine OpsE_do rfl ?_; first|refine QiV (ds:=[_]) ag32 sz32 rfl rfl rfl rfl ?_|refine QiW (ds:=[_]) ag32 sz32 rfl rfl rfl rfl rfl ?_|refine J3 rfl rfl ?_); refine OpsE_eq (st':=_) (by first|dsimp only [n0,n1,n2,n3,n4,n5,n6,n7,n8,n9,m0,m1,m2,m3,m4,m5,m6,m7,m8,m9,o0,o1,o2,o3,o4,↓reduceIte]|rfl) ?_)
    refine OpsE_nil ?_
    have ha:appendMs [.mt 3 (zg ls.flatten.length) (cellsOf Qf ((ls.take j).flatten++List.replicate (ls.flatten.length - (ls.take j).flatten.length) 0))] 3 8 0 (zg ls.flatten.length) 0 (ls.take j).flatten.length ls.flatten.length (cellsOf Qf ls[j]) =
      some (.ms 0 (zg ls.flatten.length) 0 (ls.take (j+1)).flatten.length ls.flatten.length,[.mt 3 (zg ls.flatten.length) (cellsOf Qf ((ls.take (j+1)).flatten++List.replicate (ls.flatten.length - (ls.take (j+1)).flatten.length) 0))]):=by
     rw [flat_next hj'];generalize (ls.take j).flatten=A at hf ⊢;generalize ls[j]=B at hf ⊢;generalize ls.flatten.length=m at hf ⊢;cases B with
     | nil=>simp only [jT]; exact appendMs_nil
     | cons x B =>
      rw [ms_append_in (H:=[.mt 3 (zg m) (cellsOf Qf (A++List.replicate (m - A.length) 0))]) (t:=0) (len:=A.length) (es:=x::B) (f:=Qf) (l:=A++List.replicate (m - A.length) 0) zY (Z2 rfl) (Nat.succ_pos _) (by simp only [jU,zB]; omega)];have e1:(A++List.replicate (m - A.length) (0:Int)).take A.length=A:=List.take_left' rfl
      have e2:(A++List.replicate (m - A.length) (0:Int)).drop (A.length+(x::B).length)=List.replicate (m - (A++x::B).length) 0:=by
       rw [List.drop_append,List.drop_of_length_le zV,jP,List.drop_replicate,jU];congr 1; omega
      rw [e1,e2,Nat.max_eq_left zV,jU];rfl
    repeat (first|refine Qi ?_|refine Qn ?_|refine Qk ?_)
    refine Ya ?_
    iterate 2 ((refine OpsE_do rfl ?_; refine Qai rfl ?_); refine OpsE_eq (st':=_) (by first|dsimp only [n0,n1,n2,n3,n4,n5,n6,n7,n8,n9,m0,m1,m2,m3,m4,m5,m6,m7,m8,m9,o0,o1,o2,o3,o4,↓reduceIte]|rfl) ?_)
    (refine OpsE_do rfl ?_; refine Qf9 el32 sz3 by3 zn3 zZ rfl rfl (source_lst (f:=Qf) zY) ha ?_; refine OpsE_eq (st':=_) (by first|dsimp only [n0,n1,n2,n3,n4,n5,n6,n7,n8,n9,m0,m1,m2,m3,m4,m5,m6,m7,m8,m9,o0,o1,o2,o3,o4,↓reduceIte]|rfl) ?_)
    (refine OpsE_do rfl ?_; refine J3 rfl rfl ?_; refine OpsE_eq (st':=_) (by first|dsimp only [n0,n1,n2,n3,n4,n5,n6,n7,n8,n9,m0,m1,m2,m3,m4,m5,m6,m7,m8,m9,o0,o1,o2,o3,o4,↓reduceIte]|rfl) ?_)
    refine OpsE_nil ?_
    repeat (first|refine Qi ?_|refine Qn ?_|refine Qk ?_)
    refine Ya ?_
    iterate 2 ((refine OpsE_do rfl ?_; first|refine Qfk rfl rfl rfl rfl ?_|refine Qai rfl ?_); refine OpsE_eq (st':=_) (by first|dsimp only [n0,n1,n2,n3,n4,n5,n6,n7,n8,n9,m0,m1,m2,m3,m4,m5,m6,m7,m8,m9,o0,o1,o2,o3,o4,↓reduceIte]|rfl) ?_)
    refine OpsE_nil ?_;refine ⟨j+1,?_,by omega,hj'⟩;rw [wrap_succ zV];refine (prune_some rfl).trans ?_;dsimp only [m6,m7,o0,o1];rw [purge_mt];rfl
   ·have hj':j=ls.length:=by simp at h; omega
    subst hj';rw [List.take_length,Nat.sub_self,List.replicate_zero,jT]
    repeat (first|refine Qi ?_|refine Qn ?_|refine Qk ?_)
    refine QE ?_
    repeat (first|refine Qi ?_|refine Qn ?_|refine Qk ?_)
    refine Ya ?_
    iterate 2 ((refine OpsE_do rfl ?_; first|refine Qai rfl ?_|refine J3 rfl rfl ?_); refine OpsE_eq (st':=_) (by first|dsimp only [n0,n1,n2,n3,n4,n5,n6,n7,n8,n9,m0,m1,m2,m3,m4,m5,m6,m7,m8,m9,o0,o1,o2,o3,o4,↓reduceIte]|rfl) ?_)
    refine OpsE_nil ?_
    repeat (first|refine Qi ?_|refine Qn ?_|refine Qk ?_)
    refine Qj ?_;refine ⟨trivial,_,rfl,?_⟩;have r1:=pure_ms (H:=[.mt 3 (zg ls.flatten.length) (cellsOf Qf ls.flatten)]) (g:=zg ls.flatten.length) (t:=0) (cap:=ls.flatten.length) (f:=Qf) zY (Z2 rfl) (j6 _);rw [List.take_length] at r1;show (pureC [.mt 3 (zg ls.flatten.length) (cellsOf Qf ls.flatten)] (.ms 0 (zg ls.flatten.length) 0 ls.flatten.length ls.flatten.length)).map PV.dat=_
    rw [r1];rfl
  ·refine (prune_some rfl).trans ?_;dsimp only [m6,m7,o0,o1];rw [purge_mt];simp only [intssD,jW];rfl

def Yh (x:List (List Int)):Option (List Int):=if x.length≤1000∧x.flatten.length≤1000000 then some x.flatten else none
def QeQ:List (List Int)→List Int→Prop:=fun x r=>∀ H,PC prog env 212 ([.lst ((List.map (fun l=>Dat.lst ((List.map Qf) l))) x)].map .dat) H (.dat (.lst ((List.map Qf) r))) H
theorem Qac:∀ x r,Yh x=some r→QeQ x r:=by
 intro x r hm;unfold Yh at hm;split at hm
 ·rename_i h;cases hm;intro H;exact c_Concat x H h.1 h.2
 ·cases hm
structure Qo where
 shape:(List Int)
 data:(List Int)
def Qo.toD (x:Qo):Dat:=.agg [(.lst ((List.map Qf) x.shape)),(.lst ((List.map Qf) x.data))]
theorem Qo.fit (x:Qo):Dat.fits 2 x.toD=true:=rfl
structure Qg where
 name:ByteArray
 value:Qo
def Qg.toD (x:Qg):Dat:=.agg [(strD x.name),(.lst ((List.map Qf) x.value.shape)),(.lst ((List.map Qf) x.value.data))]
theorem Qg.fit (x:Qg):Dat.fits 3 x.toD=true:=rfl
structure Qc where
 kind:Int
 fn:Int
 axis:Int
 name:ByteArray
 nums:(List Int)
 kids:(List Qc)
mutual
def Qc.toD:Qc→Dat
 | ⟨kind,fn,axis,name,nums,kids⟩=>.agg [(Qf kind),(Qf fn),(Qf axis),(strD name),(.lst ((List.map Qf) nums)),(.lst (Qc.toDs kids))]
def Qc.toDs:List Qc→List Dat
 | []=>[]
 | k::ks=>Qc.toD k::Qc.toDs ks
end
theorem Qc.toDs_eq:∀ l:List Qc,Qc.toDs l=l.map Qc.toD
 | []=>rfl
 | k::ks=>by rw [Qc.toDs,Qc.toDs_eq ks]; rfl
def Qc.ex (x:Qc):Dat:=.agg [(Qf x.kind),(Qf x.fn),(Qf x.axis),(strD x.name),(.lst ((List.map Qf) x.nums)),(.lst (Qc.toDs x.kids))]
theorem Qc.toD_eq (x:Qc):x.toD=x.ex:=by cases x; rfl
theorem Qc.fit (x:Qc):Dat.fits 6 x.toD=true:=by cases x; rfl
structure Qaf where
 kind:Int
 text:ByteArray
 n:Int
def Qaf.toD (x:Qaf):Dat:=.agg [(Qf x.kind),(strD x.text),(Qf x.n)]
theorem Qaf.fit (x:Qaf):Dat.fits 3 x.toD=true:=rfl
structure Qp where
 name:ByteArray
 value:Qo
def Qp.toD (x:Qp):Dat:=.agg [(strD x.name),(.lst ((List.map Qf) x.value.shape)),(.lst ((List.map Qf) x.value.data))]
theorem Qp.fit (x:Qp):Dat.fits 3 x.toD=true:=rfl
structure Qh where
 kind:Int
 shape:(List Int)
 buffer:Int
 starts:(List Int)
 axis:Int
 amount:Int
 perm:(List Int)
 kids:(List Qh)
mutual
def Qh.toD:Qh→Dat
 | ⟨kind,shape,buffer,starts,axis,amount,perm,kids⟩=>.agg [(Qf kind),(.lst ((List.map Qf) shape)),(Qf buffer),(.lst ((List.map Qf) starts)),(Qf axis),(Qf amount),(.lst ((List.map Qf) perm)),(.lst (Qh.toDs kids))]
def Qh.toDs:List Qh→List Dat
 | []=>[]
 | k::ks=>Qh.toD k::Qh.toDs ks
end
theorem Qh.toDs_eq:∀ l:List Qh,Qh.toDs l=l.map Qh.toD
 | []=>rfl
 | k::ks=>by rw [Qh.toDs,Qh.toDs_eq ks]; rfl
def Qh.ex (x:Qh):Dat:=.agg [(Qf x.kind),(.lst ((List.map Qf) x.shape)),(Qf x.buffer),(.lst ((List.map Qf) x.starts)),(Qf x.axis),(Qf x.amount),(.lst ((List.map Qf) x.perm)),(.lst (Qh.toDs x.kids))]
theorem Qh.toD_eq (x:Qh):x.toD=x.ex:=by cases x; rfl
theorem Qh.fit (x:Qh):Dat.fits 8 x.toD=true:=by cases x; rfl
structure Qr where
 left:(List Int)
 right:(List Int)
 shape:(List Int)
 starts:(List Int)
 axis:Int
 amount:Int
 perm:(List Int)
def Qr.toD (x:Qr):Dat:=.agg [(.lst ((List.map Qf) x.left)),(.lst ((List.map Qf) x.right)),(.lst ((List.map Qf) x.shape)),(.lst ((List.map Qf) x.starts)),(Qf x.axis),(Qf x.amount),(.lst ((List.map Qf) x.perm))]
theorem Qr.fit (x:Qr):Dat.fits 7 x.toD=true:=rfl
structure QP where
 values:(List Int)
 scalar:Bool
def QP.toD (x:QP):Dat:=.agg [(.lst ((List.map Qf) x.values)),(Qfw x.scalar)]
theorem QP.fit (x:QP):Dat.fits 2 x.toD=true:=rfl
structure Qa where
 kind:Int
 shape:(List Int)
 buffer:Int
 starts:(List Int)
 axis:Int
 amount:Int
 perm:(List Int)
 kids:(List Qa)
mutual
def Qa.toD:Qa→Dat
 | ⟨kind,shape,buffer,starts,axis,amount,perm,kids⟩=>.agg [(Qf kind),(.lst ((List.map Qf) shape)),(Qf buffer),(.lst ((List.map Qf) starts)),(Qf axis),(Qf amount),(.lst ((List.map Qf) perm)),(.lst (Qa.toDs kids))]
def Qa.toDs:List Qa→List Dat
 | []=>[]
 | k::ks=>Qa.toD k::Qa.toDs ks
end
theorem Qa.toDs_eq:∀ l:List Qa,Qa.toDs l=l.map Qa.toD
 | []=>rfl
 | k::ks=>by rw [Qa.toDs,Qa.toDs_eq ks]; rfl
def Qa.ex (x:Qa):Dat:=.agg [(Qf x.kind),(.lst ((List.map Qf) x.shape)),(Qf x.buffer),(.lst ((List.map Qf) x.starts)),(Qf x.axis),(Qf x.amount),(.lst ((List.map Qf) x.perm)),(.lst (Qa.toDs x.kids))]
theorem Qa.toD_eq (x:Qa):x.toD=x.ex:=by cases x; rfl
theorem Qa.fit (x:Qa):Dat.fits 8 x.toD=true:=by cases x; rfl
structure Ql where
 name:ByteArray
 value:Qo
def Ql.toD (x:Ql):Dat:=.agg [(strD x.name),(.lst ((List.map Qf) x.value.shape)),(.lst ((List.map Qf) x.value.data))]
theorem Ql.fit (x:Ql):Dat.fits 3 x.toD=true:=rfl
structure QA where
 core:Qa
 sources:(List Ql)
def QA.toD (x:QA):Dat:=.agg [(Qf x.core.kind),(.lst ((List.map Qf) x.core.shape)),(Qf x.core.buffer),(.lst ((List.map Qf) x.core.starts)),(Qf x.core.axis),(Qf x.core.amount),(.lst ((List.map Qf) x.core.perm)),(.lst (Qa.toDs x.core.kids)),(.lst ((List.map Ql.toD) x.sources))]
theorem QA.fit (x:QA):Dat.fits 9 x.toD=true:=rfl
structure Q0 where
 values:(List Int)
 scalar:Bool
def Q0.toD (x:Q0):Dat:=.agg [(.lst ((List.map Qf) x.values)),(Qfw x.scalar)]
theorem Q0.fit (x:Q0):Dat.fits 2 x.toD=true:=rfl
structure Qw where
 left:(List Int)
 right:(List Int)
 shape:(List Int)
 starts:(List Int)
 axis:Int
 amount:Int
 perm:(List Int)
def Qw.toD (x:Qw):Dat:=.agg [(.lst ((List.map Qf) x.left)),(.lst ((List.map Qf) x.right)),(.lst ((List.map Qf) x.shape)),(.lst ((List.map Qf) x.starts)),(Qf x.axis),(Qf x.amount),(.lst ((List.map Qf) x.perm))]
theorem Qw.fit (x:Qw):Dat.fits 7 x.toD=true:=rfl
structure Q9 where
 core:Qh
 sources:(List Qp)
def Q9.toD (x:Q9):Dat:=.agg [(Qf x.core.kind),(.lst ((List.map Qf) x.core.shape)),(Qf x.core.buffer),(.lst ((List.map Qf) x.core.starts)),(Qf x.core.axis),(Qf x.core.amount),(.lst ((List.map Qf) x.core.perm)),(.lst (Qh.toDs x.core.kids)),(.lst ((List.map Qp.toD) x.sources))]
theorem Q9.fit (x:Q9):Dat.fits 9 x.toD=true:=rfl
structure Yj where
 strides:(List Int)
 dims:(List Int)
def Yj.toD (x:Yj):Dat:=.agg [(.lst ((List.map Qf) x.strides)),(.lst ((List.map Qf) x.dims))]
theorem Yj.fit (x:Yj):Dat.fits 2 x.toD=true:=rfl
structure XY where
 fill:Bool
 buffer:Int
 offset:Int
def XY.toD (x:XY):Dat:=.agg [(Qfw x.fill),(Qf x.buffer),(Qf x.offset)]
theorem XY.fit (x:XY):Dat.fits 3 x.toD=true:=rfl
abbrev YW:=fun x0 x1=>((.box [(La x0),(La x1)]):Blk)
abbrev QB:=fun x0=>((.mt 3 1 (cellsOf Qf x0)):Blk)
abbrev Qcp:=fun x0 x1=>((.mt 3 x0 (cellsOf Qf x1)):Blk)
abbrev XB:=fun x0=>((.vec 1 ((List.map Qf) x0)):PV)
abbrev Qdi:=fun x0=>((.vec 3 ((List.map Qf) x0)):PV)
abbrev Qhj:=fun x0=>((.vec 2 ((List.map Qf) x0)):PV)
abbrev QdV:=fun x0=>((.vec 0 ((List.map Qf) x0)):PV)
abbrev Qgt:=((.box [(.fn 36 [(.ptr 0 0)])]):Blk)
abbrev QfA:=((.box [(.fn 171 [(.ptr 0 0)])]):Blk)
abbrev QT:=fun x0 x1=>((.box [(La x0),(Qm x1)]):Blk)
abbrev QbL:=((.box [(.fn 195 [(.ptr 4 0)])]):Blk)
abbrev QdU:=fun x0 x1=>((.dat (.agg [(Lb x0),(Lb x1)])):PV)
abbrev Qil:=fun x0=>((.dat (.lst (Qa.toDs x0))):PV)
abbrev QeT:=fun x0 x1=>((.box [(La x0),(.arr 4 0 x1 x1)]):Blk)
abbrev QbN:=fun x0 x1=>((.mt 3 (gb 0 x0) (cellsOf Qf x1)):Blk)
abbrev QeY:=fun x0=>((.box [(.vec 3 ((List.map Qf) x0))]):Blk)
abbrev Qik:=fun x0=>((.vec 1 ((List.map Qg.toD) x0)):PV)
abbrev Qir:=fun x0=>((.vec 6 ((List.map Qp.toD) x0)):PV)
abbrev Qco:=fun x0 x1 x2=>((.box [(.dat (strD x0)),(La x1),(La x2)]):Blk)
abbrev QeV:=fun x0=>((.dat (.lst ((List.map Qo.toD) x0))):PV)
abbrev Xs:=fun x0=>((.dat (.lst ((List.map Qg.toD) x0))):PV)
abbrev Qu:=((.box [Ea,Ea,Ea,Ea,(Qe 0),(Qe 0),Ea]):Blk)
abbrev QaB:=fun x0=>((.dat (.lst ((List.map Ql.toD) x0))):PV)
abbrev QdW:=fun x0 x1=>((.box [(La x0),(.vec 2 ((List.map Qf) x1))]):Blk)
abbrev Qcq:=((.dat (.agg [Eb,Eb,Eb,Eb,(Qf 0),(Qf 0),Eb])):PV)
abbrev Qgo:=((.box [(Qe 0),(.dat (strD ByteArray.empty)),(Qe 0)]):Blk)
abbrev Zp:=fun x0=>((.box [(.vec 1 ((List.map Qg.toD) x0)),(.mapv 0)]):Blk)
abbrev QbO:=fun x0 x1=>((.box [(.fn 170 [(.iptr [(Qf x0)]),(.iptr [(Qf x1)])])]):Blk)
abbrev QdR:=fun x0=>((.box [(.ptr 4 0),(.vec 6 ((List.map Qp.toD) x0))]):Blk)
abbrev Qgm:=fun x0=>((.vec 0 ((List.map (fun l=>Dat.lst ((List.map Qf) l))) x0)):PV)
abbrev ZI:=fun x0=>((.dat (.lst ((List.map (fun l=>Dat.lst ((List.map Qf) l))) x0))):PV)
abbrev QaC:=fun x0 x1 x2 x3 x4 x5 x6=>((.box [(La x0),(La x1),(La x2),(La x3),(Qe x4),(Qe x5),(La x6)]):Blk)
abbrev QeX:=fun x0 x1=>((.box [Ea,(.ms 3 1 0 x0 x0),(.ms 4 1 0 x1 x1),Ea,(Qe (-1)),(Qe 0),Ea]):Blk)
abbrev Qjh:=fun x0 x1=>((.box [Ea,(.ms 5 1 0 x0 x0),(.ms 6 1 0 x1 x1),Ea,(Qe (-1)),(Qe 0),Ea]):Blk)
abbrev Qgu:=fun x0 x1=>((.box [Ea,(.ms 2 1 0 x0 x0),(.ms 3 1 0 x1 x1),Ea,(Qe (-1)),(Qe 0),Ea]):Blk)
abbrev Qin:=fun x0 x1=>((.box [Ea,(.ms 4 1 0 x0 x0),(.ms 5 1 0 x1 x1),Ea,(Qe (-1)),(Qe 0),Ea]):Blk)
abbrev Qip:=fun x0 x1=>((.box [Ea,(.ms 7 1 0 x0 x0),(.ms 8 1 0 x1 x1),Ea,(Qe (-1)),(Qe 0),Ea]):Blk)
abbrev Qg1:=fun x0 x1 x2 x3=>((.box [Ea,(.ms 3 1 0 x0 x0),(.ms 4 1 0 x1 x1),Ea,(Qe x2),(Qe x3),Ea]):Blk)
abbrev QeZ:=fun x0 x1=>((.box [(.fn 170 [(.iptr [(Qf x0)]),(.iptr [(Qf x1)])]),(.fn 174 [(.ptr 1 0)])]):Blk)
abbrev Qgl:=fun x0 x1 x2 x3=>((.box [Ea,(.ms 4 1 0 x0 x0),(.ms 5 1 0 x1 x1),Ea,(Qe x2),(Qe x3),Ea]):Blk)
abbrev Qhb:=fun x0 x1 x2=>((.box [Ea,(.ms 5 1 0 x0 x0),(.ms 6 1 0 x1 x1),Ea,(Qe (-1)),(Qe 0),(La x2)]):Blk)
abbrev Qje:=fun x0 x1 x2=>((.box [Ea,(La x0),(.vec 1 ((List.map Qf) x1)),Ea,(Qe (-1)),(Qe 0),(La x2)]):Blk)
abbrev Qg0:=fun x0 x1 x2 x3 x4=>((.box [(La x0),(.ms 4 1 0 x1 x1),(.ms 5 1 0 x2 x2),Ea,(Qe x3),(Qe x4),Ea]):Blk)
abbrev Qhg:=((.box [(Qe 0),Ea,(Qe 0),Ea,(Qe 0),(Qe 0),Ea,(.dat (.lst (Qh.toDs [])))]):Blk)
abbrev Xa:=((.box [(Qe 0),Ea,(Qe 0),Ea,(Qe 0),(Qe 0),Ea,(.dat (.lst (Qa.toDs [])))]):Blk)
abbrev Qiq:=((.box [(Qe 2),Ea,(Qe 0),Ea,(Qe 0),(Qe 0),Ea,(.dat (.lst (Qa.toDs [])))]):Blk)
abbrev QeS:=fun x0 x1 x2 x3 x4 x5=>((.dat (.agg [(Qf x0),(Qf x1),(Qf x2),(strD x3),(Lb x4),(.lst (Qc.toDs x5))])):PV)
abbrev Qhc:=fun x0 x1 x2=>((.box [Ea,(.ms 7 1 0 x0 x0),(.ms 8 1 0 x1 x1),(.arr 3 0 x2 x2),(Qe (-1)),(Qe 0),Ea]):Blk)
abbrev Qgr:=fun x0=>((.box [(Qe x0),Ea,(Qe 0),Ea,(Qe 0),(Qe 0),Ea,(.dat (.lst (Qa.toDs [])))]):Blk)
abbrev Qjg:=fun x0 x1 x2=>((.dat (.agg [(Qf x0),(Lb x1),(Qf x2),Eb,(Qf 0),(Qf 0),Eb,(.lst (Qh.toDs []))])):PV)
abbrev Qio:=fun x0 x1=>((.box [(Qe x0),Ea,(Qe 0),Ea,(Qe 0),(Qe 0),(La x1),(.dat (.lst (Qa.toDs [])))]):Blk)
abbrev QU:=fun x0 x1 x2 x3 x4 x5=>((.box [(Qe x0),(Qe x1),(Qe x2),(.dat (strD x3)),(La x4),(.dat (.lst (Qc.toDs x5)))]):Blk)
abbrev Qg7:=fun x0 x1 x2=>((.box [Ea,(.ms 7 1 0 x0 x0),(.ms 8 1 0 x1 x1),(.vec 3 ((List.map Qf) x2)),(Qe (-1)),(Qe 0),Ea]):Blk)
abbrev Qji:=fun x0 x1 x2=>((.box [Ea,(La x0),(.vec 1 ((List.map Qf) x1)),(.vec 2 ((List.map Qf) x2)),(Qe (-1)),(Qe 0),Ea]):Blk)
abbrev Qbd:=fun x0 x1 x2 x3 x4 x5 x6 x7=>((.dat (.agg [(Qf x0),(Lb x1),(Qf x2),(Lb x3),(Qf x4),(Qf x5),(Lb x6),(.lst (Qh.toDs x7))])):PV)
abbrev JE:=fun x0 x1 x2 x3 x4 x5 x6 x7=>((.box [(Qe x0),(La x1),(Qe x2),(La x3),(Qe x4),(Qe x5),(La x6),(.dat (.lst (Qh.toDs x7)))]):Blk)
abbrev QX:=fun x0 x1 x2 x3 x4 x5 x6 x7=>((.box [(Qe x0),(La x1),(Qe x2),(La x3),(Qe x4),(Qe x5),(La x6),(.dat (.lst (Qa.toDs x7)))]):Blk)
abbrev Qgv:=((.box [(Qe 0),Ea,(Qe 0),Ea,(Qe 0),(Qe 0),Ea,(.dat (.lst (Qh.toDs []))),(.dat (.lst ((List.map Qp.toD) [])))]):Blk)
abbrev Qim:=((.box [(Qe 0),Ea,(Qe 0),Ea,(Qe 0),(Qe 0),Ea,(.dat (.lst (Qa.toDs []))),(.dat (.lst ((List.map Ql.toD) [])))]):Blk)
abbrev QaD:=fun x0 x1 x2 x3 x4 x5 x6 x7 x8=>((.box [(Qe x0),(La x1),(Qe x2),(La x3),(Qe x4),(Qe x5),(La x6),(.dat (.lst (Qh.toDs x7))),(.dat (.lst ((List.map Qp.toD) x8)))]):Blk)
abbrev QeW:=fun x0 x1 x2 x3 x4 x5 x6 x7 x8=>((.box [(Qe x0),(La x1),(Qe x2),(La x3),(Qe x4),(Qe x5),(La x6),(.dat (.lst (Qa.toDs x7))),(.dat (.lst ((List.map Ql.toD) x8)))]):Blk)
abbrev Xb:=fun x0 x1 x2=>([(QT x0 x1),(.tok 3 x2)]:List Blk)
abbrev QK:=fun x0 x1 x2 x3 x4 x5 x6 x7=>([(QX x0 x1 x2 x3 x4 x5 x6 x7)]:List Blk)
abbrev QeU:=fun x0 x1 x2=>([(.box [(La x0)]),Qu,(Qcp x1 x2)]:List Blk)
abbrev QdS:=fun x0 x1 x2 x3 x4 x5 x6 x7 x8=>([(JE x0 x1 x2 x3 x4 x5 x6 x7),(QB x8)]:List Blk)
abbrev Qfy:=fun x0 x1 x2 x3=>([(QT x0 x1),Qu,(QB x2),(.box (cellsOf Qf x3))]:List Blk)
abbrev QfB:=fun x0 x1 x2 x3=>([Qu,(.tok 3 x0),(Qje x1 x2 x3),(.tok 3 (([]:List Int).length))]:List Blk)
abbrev Qg5:=fun x0 x1 x2 x3 x4 x5=>([Qu,(QbO x0 x1),Qu,(QB x2),(QB x3),(QeX x4 x5)]:List Blk)
abbrev Qgn:=fun x0 x1 x2 x3 x4 x5=>([(QT x0 x1),Qu,Qu,(QB x2),(QB x3),(QeX x4 x5)]:List Blk)
abbrev Qg6:=fun x0 x1 x2 x3 x4 x5=>([Qu,(QbO x0 x1),Qu,(QB x2),(QB x3),(Qg1 x4 x5 x0 x1)]:List Blk)
abbrev Qbc:=fun x0 x1 x2 x3 x4 x5 x6 x7 x8=>([(JE x0 x1 x2 x3 x4 x5 x6 x7),(QB x8),(JE x0 x1 x2 x3 x4 x5 x6 x7)]:List Blk)
abbrev Qcn:=fun x0 x1 x2 x3=>([(.map (smE x0)),(.tok 64 x1),(Zp x2),(.tok 64 (([]:List Qg).length)),(Zp x3)]:List Blk)
abbrev Qg8:=fun x0 x1 x2 x3 x4 x5 x6=>([Qu,(.box [(La x0)]),(QeZ x1 x2),Qu,(QB x3),(QB x4),(Qin x5 x6)]:List Blk)
abbrev Qg2:=fun x0 x1 x2 x3 x4 x5 x6 x7=>([(QT x0 x1),Qu,(QbO x2 x3),Qu,(QB x4),(QB x5),(Qin x6 x7)]:List Blk)
abbrev QaA:=fun x0 x1 x2 x3 x4=>([(QT x0 x1),(.box [(Qe x2)]),(.map (setE .i64 (Qfw true) x3)),(.box [(.mapv 2)]),(.tok 3 x4)]:List Blk)
abbrev Qgp:=fun x0 x1 x2 x3 x4 x5 x6 x7 x8 x9=>([(JE x0 x1 x2 x3 x4 x5 x6 x7),(QB x8),(JE x0 x1 x2 x3 x4 x5 x6 x7),(.tok 3 x9)]:List Blk)
abbrev Qgq:=fun x0 x1 x2 x3 x4 x5 x6=>([Qu,(.box [(La x0)]),(QeZ x1 x2),Qu,(QB x3),(QB x4),(Qgl x5 x6 x1 x2)]:List Blk)
abbrev Qg9:=fun x0 x1 x2 x3 x4 x5 x6 x7=>([(QT x0 x1),Qu,(QbO x2 x3),Qu,(QB x4),(QB x5),(Qgl x6 x7 x2 x3)]:List Blk)
abbrev Qhe:=fun x0 x1 x2 x3 x4 x5 x6=>([(.box [(La x0)]),Qu,(Qcp x1 x2),QfA,Qu,(QB x3),(QB x4),(Qjh x5 x6)]:List Blk)
abbrev Qg4:=fun x0 x1 x2 x3 x4 x5 x6=>([Qu,(.box [(La x0)]),(QeZ x1 x2),Qu,(QB x3),(QB x4),(Qg0 x0 x5 x6 x1 x2)]:List Blk)
abbrev Qhf:=fun x0 x1 x2 x3 x4 x5 x6=>([(.box [(La x0)]),Qu,(Qcp x1 x2),QfA,Qu,(QB x3),(QB x4),(Qhb x5 x6 x0)]:List Blk)
abbrev Qdh:=fun x0 x1 x2 x3 x4=>([Qu,(.tok 3 x0),(.tok 3 x1),(Qji x2 x3 x4),(.tok 3 (([]:List Int).length)),(.tok 3 (([]:List Int).length))]:List Blk)
abbrev Qhh:=fun x0 x1 x2 x3 x4 x5 x6=>([(.map (smE x0)),(.tok 64 x1),(Zp x2),(.tok 64 (([]:List Qg).length)),(Qco x3 x4 x5),(Zp x6)]:List Blk)
abbrev Qg3:=fun x0 x1 x2 x3 x4 x5 x6 x7 x8=>([(QT x0 x1),Qu,(.tok 3 x2),(.tok 3 x3),(QeY x4),QbL,Qu,(QB x5),(QB x6),(Qip x7 x8)]:List Blk)
abbrev Qjf:=fun x0 x1 x2=>([(QT x0 x1),(.box [(Qe x2)]),(.map (setE .i64 (Qfw true) ([]:List Int))),(.box [(.mapv 2)]),(.tok 3 (([]:List Int).length))]:List Blk)
abbrev Qhd:=fun x0 x1 x2 x3 x4 x5 x6 x7 x8=>([(QT x0 x1),Qu,(.tok 3 x2),(.tok 3 x3),(QeY x4),QbL,Qu,(QB x5),(QB x6),(Qg7 x7 x8 x4)]:List Blk)
abbrev QbM:=fun x0 x1 x2 x3 x4 x5=>([(.map (smE x0)),(.tok 64 x1),(Zp x2),(.tok 64 (([]:List Qg).length)),(Zp x3),Qgv,(.tok 91 x4),(QdR x5)]:List Blk)
abbrev QdT:=fun x0 x1 x2 x3 x4 x5=>([(.map (smE x0)),(.tok 64 x1),(Zp x2),(.tok 64 (([]:List Qg).length)),(Zp x3),Qgv,(.tok 91 x4),(QdR x5),Qhg]:List Blk)
abbrev Qcm:=fun x0 x1 x2 x3 x4 x5 x6 x7 x8 x9 x10 x11=>([(QaD x0 x1 x2 x3 x4 x5 x6 x7 x8),(.box [Ea,Ea]),Qgt,(.box [Ea,Ea]),(.box (cellsOf Qf x9)),(QeT x10 x11),(QeT x10 x11)]:List Blk)
abbrev Qha:=fun x0 x1 x2 x3 x4 x5 x6 x7 x8=>([(QT x0 x1),Qu,(QB x2),(.box (cellsOf Qf x3)),(.box [(.arr 3 0 x4 x4)]),QbL,Qu,(QB x5),(QB x6),(Qip x7 x8)]:List Blk)
abbrev Qfz:=fun x0 x1 x2 x3 x4 x5 x6 x7 x8 x9 x10 x11 x12 x13=>([(QX x0 x1 x2 x3 x4 x5 x6 x7),(.box [Ea,Ea]),(.tok 2 x8),(QdW x1 x9),(.tok 2 (([]:List Int).length)),(QbN x10 x11),(YW x12 x13)]:List Blk)
abbrev Qhi:=fun x0 x1 x2 x3 x4 x5 x6 x7 x8=>([(QT x0 x1),Qu,(QB x2),(.box (cellsOf Qf x3)),(.box [(.arr 3 0 x4 x4)]),QbL,Qu,(QB x5),(QB x6),(Qhc x7 x8 x4)]:List Blk)
abbrev Qgs:=fun x0 x1 x2 x3 x4 x5 x6 x7 x8=>([(.map (smE x0)),(.tok 64 x1),(Zp x2),(.tok 64 (([]:List Qg).length)),(Zp x3),Qgv,(.tok 91 x4),(QdR x5),Qhg,(Qco x6 x7 x8)]:List Blk)
def Qc5 (x:Unit):Option Bool:=some true
def Qhy:Unit→Bool→Prop:=fun x r=>∀ H,PC prog env 4 ([].map .dat) H (Qm r) H
theorem Qf1:∀ x r,Qc5 x=some r→Qhy x r:=by
 intro x r hm;cases hm;intro H;exact PC_of (n:=200) (by kernel_rfl)
def Qen (x:(Qo × Int)):Option Bool :=
 match x with
 | (p0,p1) =>
 if (p0.shape.length:Int)≤100 then
  some (decide ((p0.data.length:Int)≤p1))
 else
 some false
theorem Qiz {p0 p1 r0} (hm:Qen (p0,p1)=some r0):FQ 47 [(Qo.toD p0),(Qf p1)] (Qm r0):=by
 unfold Qen at hm;exact fp (fn:=f47) rfl (ge 2 (gr 2 (QH Qf p0.shape (Qd 2 (gs 9 hm (fun hm=>Qd 2 (QH Qf p0.data (re 4 (Qj zf)))) (fun hm=>re 7 (Qj zf)))))))
def XE (x:((List Qg) × Int × Int)):Option (Unit ⊕ Unit) :=
 match x with
 | (p0,p1,v201) =>
 if v201 < (p0.length:Int) then
  (idx p0 v201>>=fun v602 =>
  Qen (v602.value,p1)>>=fun v603 =>
  if v603=false then
   some true
  else
  idx p0 v201>>=fun v604 =>
  some (decide ((v604.name.size:Int) > 100))
  )>>=fun (v601:Bool) =>
  if v601=true then
   some (Sum.inl ())
  else
  XE (p0,p1,(W (v201+1)))
 else
 some (Sum.inr ())
 partial_fixpoint
theorem Qea:∀ x r,XE x=some r→match x with|(p0,p1,v201)=>LQ f22 22 [1,1,0,1,0,0] 0 ⟨kp 32 [(0,(Xs p0)),(1,(Qe p1)),(5,(Qe v201))],[]⟩ (P2 .ret (fun _ d=>⟨sl d 32 [(4,(Qm false))],[]⟩) (.exit 0) (fun _ d=>⟨sl d 32 [],[]⟩) r):=by
 refine XE.partial_correctness _ (fun XE Qea x r hm=>?_);obtain ⟨p0,p1,v201⟩:=x;exact lp (Qi (gr 2 (QH Qg.toD p0 (re 1 (ri hm (fun hm=>Qk (Qi (Qn (Qi (bi hm fun v601 hs hm=>QY (fun d=>⟨sl d 32 [(0,(Xs p0)),(1,(Qe p1)),(5,(Qe v201)),(31,(Qm v601))],[]⟩) (have hm:=hs;R_G (Qd 2 (QV 3 Qg.toD hm fun v602 hm=>Qd 3 (bi hm fun v603 hx hm=>cp (Qiz hx) (Qd 2 (gsn 23 hm (fun hm=>re 8 zf) (fun hm=>Qd 2 (QV 3 Qg.toD hm fun v604 hm=>Qd 2 (QG rfl (fun _=>QeO (b:=v604.name) kr rfl kr) (re 2 zf)))))))))) (fun d=>rib hm (fun hm=>ge 1 (Qj zf)) (fun hm=>Qk (R_G (re 3 (Qea _ _ hm _ kr)))))))))) (fun hm=>QE zf))))))
def Qdo (x:((List Qg) × Int)):Option Bool :=
 match x with
 | (p0,p1) =>
 if (p0.length:Int) > 12 then
  some false
 else
 (
 XE (p0,p1,0)>>=fun out =>
 match out with
 | .inl _ =>
  some false
 | .inr (_) =>
  some true
 )
theorem QiC {p0 p1 r0} (hm:Qdo (p0,p1)=some r0):FQ 22 [(.lst ((List.map Qg.toD) p0)),(Qf p1)] (Qm r0):=by
 unfold Qdo at hm;exact fp (fn:=f22) rfl (ge 1 (Qi (gr 1 (QH Qg.toD p0 (re 1 (ri hm (fun hm=>ge 1 (Qj zf)) (fun hm=>Qk (Qi (ge 1 (Qn (ru2 hm (Qea _) (fun _ d hm=>zf) fun _ d hm=>ge 1 (Qj zf))))))))))))
def Xh (x:Int):Option Bool :=
 match x with
 | p0 =>
 (if p0≥65 then
  some (decide (p0≤90))
 else
 some false
 )>>=fun (v1:Bool) =>
 (if v1=true then
  some true
 else
 if p0≥97 then
  some (decide (p0≤122))
 else
 some false
 )>>=fun (v2:Bool) =>
 if v2=true then
  some true
 else
 some (p0 == 95)
theorem QfH {p0 r0} (hm:Xh p0=some r0):FQ 74 [(numD .u8 p0)] (Qm r0):=by
 unfold Xh at hm;exact fp (fn:=f74) rfl (ge 1 (Qi (Qdg (Qd 3 (bi hm fun v1 hs hm=>ZH (j:=6) (fun d=>⟨sl d 21 [(0,(.dat (numD .u8 p0))),(2,(Qm false)),(8,(Qm v1))],[]⟩) (fun d=>Qd 1 (bi hm fun v2 hs hm=>ZH (j:=14) (fun d=>⟨sl d 21 [(0,(.dat (numD .u8 p0))),(2,(Qm false)),(16,(Qm v2))],[]⟩) (fun d=>Qd 1 (gsb 17 hm (fun hm=>re 4 ⟨kr,Qj zf⟩) (fun hm=>re 4 ⟨kr,Qj zf⟩))) (fun hJ=>gsb 9 hs (fun hm=>Qd 7 zf) (fun hm=>Qd 3 (gs 12 hm (fun hm=>Qd 4 zf) (fun hm=>Qd 4 zf)))))) (fun hJ=>gs 5 hs (fun hm=>Qd 3 zf) (fun hm=>Qd 3 zf)))))))
def Jd (x:Int):Option Bool :=
 match x with
 | p0 =>
 if p0≥48 then
  some (decide (p0≤57))
 else
 some false
theorem QhC {p0 r0} (hm:Jd p0=some r0):FQ 120 [(numD .u8 p0)] (Qm r0):=by
 unfold Jd at hm;exact fp (fn:=f120) rfl (ge 1 (gr 3 (gs 5 hm (fun hm=>re 4 (Qj zf)) (fun hm=>re 4 (Qj zf)))))
def ZZ (x:(ByteArray × Int)):Option (Int) :=
 match x with
 | (p0,v201) =>
 (if v201 < (p0.size:Int) then
  sidx p0 v201>>=fun v603 =>
  Xh v603>>=fun v604 =>
  if v604=true then
   some true
  else
  sidx p0 v201>>=fun v605 =>
  Jd v605>>=fun v606 =>
  some v606
 else
 some false
 )>>=fun (v602:Bool) =>
 if v602=true then
  ZZ (p0,(W (v201+1)))
 else
 some v201
 partial_fixpoint
theorem Qd9:∀ x r,ZZ x=some r→match x with|(p0,v201)=>LQ f75 75 [1,0,0,0] 0 ⟨kp 24 [(0,(.dat (strD p0))),(1,(Qe v201))],[]⟩ (P1 (.exit 0) (fun v601 d=>⟨sl d 24 [(1,(Qe v601))],[]⟩) r):=by
 refine ZZ.partial_correctness _ (fun ZZ Qd9 x r hm=>?_);obtain ⟨p0,v201⟩:=x;exact lp (Qi (Qi (bi hm fun v602 hs hm=>QY (fun d=>⟨sl d 24 [(0,(.dat (strD p0))),(1,(Qe v201)),(20,(Qm v602))],[]⟩) (have hm:=hs;R_G (Qd 2 (QG rfl (fun _=>QeO (b:=p0) kr rfl kr) (Qd 2 (gs 9 hm (fun hm=>Qd 2 (bi hm fun v603 hx hm=>QG rfl (fun _=>QgY (b:=p0) (n:=v201) (v:=v603) (k:=.i64) hx kr rfl kr kr) (bi hm fun v604 hx hm=>cp (QfH hx) (Qd 1 (gsb 14 hm (fun hm=>re 6 zf) (fun hm=>Qd 2 (bi hm fun v605 hx hm=>QG rfl (fun _=>QgY (b:=p0) (n:=v201) (v:=v605) (k:=.i64) hx kr rfl kr kr) (bi hm fun v606 hx hm=>cp (QhC hx) (re 2 zf))))))))) (fun hm=>re 11 zf)))))) (fun d=>rib hm (fun hm=>Qk (Qn (R_G (re 3 (Qd9 _ _ hm _ kr))))) (fun hm=>QE zf)))))
def Qdm (x:(ByteArray × Int)):Option Int :=
 match x with
 | (p0,p1) =>
 ZZ (p0,p1)>>=fun v601 =>
 some v601
theorem QiA {p0 p1 r0} (hm:Qdm (p0,p1)=some r0):FQ 75 [(strD p0),(Qf p1)] (Qe r0):=by
 unfold Qdm at hm;exact fp (fn:=f75) rfl (ge 1 (Qi (Qn (ru1 hm (Qd9 _) fun v601 d hm=>ge 2 (Qj zf)))))
def YT (x:ByteArray):Option Bool :=
 match x with
 | p0 =>
 (if (p0.size:Int) > 0 then
  sidx p0 0>>=fun v2 =>
  Xh v2>>=fun v3 =>
  some v3
 else
 some false
 )>>=fun (v1:Bool) =>
 if v1=true then
  Qdm (p0,0)>>=fun v4 =>
  some (v4 == (p0.size:Int))
 else
 some false
theorem QgB {p0 r0} (hm:YT p0=some r0):FQ 48 [(strD p0)] (Qm r0):=by
 unfold YT at hm;exact fp (fn:=f48) rfl (ge 1 (Qi (Qdg (Qd 1 (QG rfl (fun _=>QeO (b:=p0) kr rfl kr) (Qd 2 (bi hm fun v1 hs hm=>ZH (j:=8) (fun d=>⟨sl d 18 [(0,(.dat (strD p0))),(2,(Qm false)),(10,(Qm v1))],[]⟩) (fun d=>Qd 1 (gsb 11 hm (fun hm=>Qd 1 (bi hm fun v4 hx hm=>cp (QiA hx) (Qd 1 (QG rfl (fun _=>QeO (b:=p0) kr rfl kr) (re 3 ⟨kr,Qj zf⟩))))) (fun hm=>re 7 ⟨kr,Qj zf⟩))) (fun hJ=>gs 6 hs (fun hm=>Qd 1 (bi hm fun v2 hx hm=>QG rfl (fun _=>QgY (b:=p0) (n:=0) (v:=v2) (k:=.i64) hx kr rfl kr kr) (bi hm fun v3 hx hm=>cp (QfH hx) (Qd 1 zf)))) (fun hm=>Qd 4 zf)))))))))
def ZD (x:((List Int) × Bool × Int)):Option (Unit ⊕ Bool) :=
 match x with
 | (p0,v201,v202) =>
 if v202 < (p0.length:Int) then
  idx p0 v202>>=fun v602 =>
  if v602 < 0 then
   some (Sum.inl ())
  else
  if v201=true then
   ZD (p0,true,(W (v202+1)))
  else
  idx p0 v202>>=fun v603 =>
  ZD (p0,(v603 == 0),(W (v202+1)))
 else
 some (Sum.inr v201)
 partial_fixpoint
theorem Qas:∀ x r,ZD x=some r→match x with|(p0,v201,v202)=>LQ f68 68 [1,1,0,1,0,0] 0 ⟨kp 55 [(0,(La p0)),(4,(Qm v201)),(5,(Qe v202))],[]⟩ (P2 .ret (fun _ d=>⟨sl d 55 [(2,(Qe 0)),(3,(Qe 6))],[]⟩) (.exit 0) (fun v601 d=>⟨sl d 55 [(0,(La p0)),(4,(Qm v601))],[]⟩) r):=by
 refine ZD.partial_correctness _ (fun ZD Qas x r hm=>?_);obtain ⟨p0,v201,v202⟩:=x;exact lp (Qi (gr 2 (QH Qf p0 (re 1 (ri hm (fun hm=>Qk (Qi (Qn (Qi (gr 2 (QV 1 Qf hm fun v602 hm=>re 2 (ri hm (fun hm=>ge 2 (Qj zf)) (fun hm=>Qk (R_G (Qd 2 (gsb 21 hm (fun hm=>re 7 (R_G (re 3 (Qas _ _ hm _ kr)))) (fun hm=>Qd 2 (QV 1 Qf hm fun v603 hm=>re 4 (R_G (re 3 (Qas _ _ hm _ kr)))))))))))))))) (fun hm=>QE zf))))))
def ZU (x:((List Int) × Bool × Int)):Option (Unit ⊕ Unit) :=
 match x with
 | (p0,v601,v804) =>
 if v804 < (p0.length:Int) then
  idx p0 v804>>=fun v1204 =>
  if v1204 > 65536 then
   some (Sum.inl ())
  else
  ZU (p0,v601,(W (v804+1)))
 else
 some (Sum.inr ())
 partial_fixpoint
theorem Qca:∀ x r,ZU x=some r→match x with|(p0,v601,v804)=>LQ f68 68 [1,1,1,0,1,0,0] 0 ⟨kp 55 [(0,(La p0)),(4,(Qm v601)),(6,(Qe v804))],[]⟩ (P2 .ret (fun _ d=>⟨sl d 55 [(2,(Qe 0)),(3,(Qe 7))],[]⟩) (.exit 2) (fun _ d=>⟨sl d 55 [(0,(La p0)),(4,(Qm v601))],[]⟩) r):=by
 refine ZU.partial_correctness _ (fun ZU Qca x r hm=>?_);obtain ⟨p0,v601,v804⟩:=x;exact lp (Qi (gr 2 (QH Qf p0 (re 1 (ri hm (fun hm=>Qk (Qi (Qn (gr 2 (QV 1 Qf hm fun v1204 hm=>re 2 (ri hm (fun hm=>ge 2 (Qj zf)) (fun hm=>Qk (R_G (re 3 (Qca _ _ hm _ kr)))))))))) (fun hm=>QE zf))))))
def ZV (x:((List Int) × Int × Int)):Option (Unit ⊕ Int) :=
 match x with
 | (p0,v1405,v1406) =>
 if v1406 < (p0.length:Int) then
  idx p0 v1406>>=fun v1806 =>
  if (W (v1405 * v1806)) > 65536 then
   some (Sum.inl ())
  else
  ZV (p0,(W (v1405 * v1806)),(W (v1406+1)))
 else
 some (Sum.inr v1405)
 partial_fixpoint
theorem Qcb:∀ x r,ZV x=some r→match x with|(p0,v1405,v1406)=>LQ f68 68 [1,1,1,1,1,1,0,1,0,0] 0 ⟨kp 55 [(0,(La p0)),(7,(Qe v1405)),(8,(Qe v1406))],[]⟩ (P2 .ret (fun _ d=>⟨sl d 55 [(2,(Qe 0)),(3,(Qe 7))],[]⟩) (.exit 4) (fun v1805 d=>⟨sl d 55 [(7,(Qe v1805))],[]⟩) r):=by
 refine ZV.partial_correctness _ (fun ZV Qcb x r hm=>?_);obtain ⟨p0,v1405,v1406⟩:=x;exact lp (Qi (gr 2 (QH Qf p0 (re 1 (ri hm (fun hm=>Qk (Qi (Qn (gr 3 (QV 1 Qf hm fun v1806 hm=>re 3 (ge 2 (ri hm (fun hm=>ge 2 (Qj zf)) (fun hm=>Qk (R_G (re 3 (Qcb _ _ hm _ kr))))))))))) (fun hm=>QE zf))))))
def JB (x:(List Int)):Option (Int × Int) :=
 match x with
 | p0 =>
 (
 ZD (p0,false,0)>>=fun out =>
 match out with
 | .inl _ =>
  some (0,6)
 | .inr (v601) =>
  (
  ZU (p0,v601,0)>>=fun out =>
  match out with
  | .inl _ =>
   some (0,7)
  | .inr (_) =>
   if v601=true then
    some (0,0)
   else
   (
   ZV (p0,1,0)>>=fun out =>
   match out with
   | .inl _ =>
    some (0,7)
   | .inr (v1805) =>
    some (v1805,0)
   )
  )
 )
theorem Qfn {p0 r0 r1} (hm:JB p0=some (r0,r1)):FQ 68 [(Lb p0)] (.tup [(Qe r0),(Qe r1)]):=by
 unfold JB at hm;exact fp (fn:=f68) rfl (ge 2 (ge 1 (Qi (ge 1 (Qn (ru2 hm (Qas _) (fun _ d hm=>zf) fun v601 d hm=>Qi (ge 1 (Qn (ru2 hm (Qca _) (fun _ d hm=>zf) fun _ d hm=>Qi (ge 1 (rib hm (fun hm=>ge 2 (Qj zf)) (fun hm=>Qk (ge 1 (Qi (ge 1 (Qn (ru2 hm (Qcb _) (fun _ d hm=>zf) fun v1805 d hm=>ge 3 (Qj zf))))))))))))))))))
def Yx (x:((List Int) × Int)):Option (Unit ⊕ Unit) :=
 match x with
 | (p0,v201) =>
 if v201 < (p0.length:Int) then
  idx p0 v201>>=fun v601 =>
  if v601 < 0 then
   some (Sum.inl ())
  else
  Yx (p0,(W (v201+1)))
 else
 some (Sum.inr ())
 partial_fixpoint
theorem QcN:∀ x r,Yx x=some r→match x with|(p0,v201)=>LQ f67 67 [1,0,1,0,0] 0 ⟨kp 29 [(0,(La p0)),(3,(Qe v201))],[]⟩ (P2 .ret (fun _ d=>⟨sl d 29 [(2,(Qe 6))],[]⟩) (.exit 0) (fun _ d=>⟨sl d 29 [(0,(La p0))],[]⟩) r):=by
 refine Yx.partial_correctness _ (fun Yx QcN x r hm=>?_);obtain ⟨p0,v201⟩:=x;exact lp (Qi (gr 2 (QH Qf p0 (re 1 (ri hm (fun hm=>Qk (Qi (Qn (gr 2 (QV 1 Qf hm fun v601 hm=>re 2 (ri hm (fun hm=>ge 1 (Qj zf)) (fun hm=>Qk (R_G (re 3 (QcN _ _ hm _ kr)))))))))) (fun hm=>QE zf))))))
def Yr (x:(List Int)):Option Int :=
 match x with
 | p0 =>
 (
 Yx (p0,0)>>=fun out =>
 match out with
 | .inl _ =>
  some 6
 | .inr (_) =>
  JB p0>>=fun (v602,v603) =>
  (if (p0.length:Int) > 16 then
   some true
  else
  some (v603 != 0)
  )>>=fun (v604:Bool) =>
  if v604=true then
   some 7
  else
  some 0
 )
theorem JV {p0 r0} (hm:Yr p0=some r0):FQ 67 [(Lb p0)] (Qe r0):=by
 unfold Yr at hm;exact fp (fn:=f67) rfl (ge 1 (Qi (ge 1 (Qn (ru2 hm (QcN _) (fun _ d hm=>zf) fun _ d hm=>gr 1 (bi2 hm fun v602 v603 hx hm=>cp (Qfn hx) (re 5 (Qi (Qi (bi hm fun v604 hs hm=>QY (fun d=>⟨sl d 29 [(28,(Qm v604))],[]⟩) (have hm:=hs;R_G (Qd 1 (QH Qf p0 (Qd 2 (gs 25 hm (fun hm=>re 3 zf) (fun hm=>re 3 zf)))))) (fun d=>rib hm (fun hm=>ge 1 (Qj zf)) (fun hm=>Qk (ge 1 (Qj zf))))))))))))))
def Xv (x:(List Int)):Option Int :=
 match x with
 | p0 =>
 Yr p0>>=fun v1 =>
 if v1≠0 then
  some 0
 else
 JB p0>>=fun (v2,v3) =>
 some v2
theorem Qde {p0 r0} (hm:Xv p0=some r0):FQ 31 [(Lb p0)] (Qe r0):=by
 unfold Xv at hm;exact fp (fn:=f31) rfl (ge 1 (Qi (gr 1 (bi hm fun v1 hx hm=>cp (JV hx) (re 1 (rix hm (fun hm=>ge 1 (Qj zf)) (fun hm=>Qk (gr 1 (bi2 hm fun v2 v3 hx hm=>cp (Qfn hx) (re 5 (ge 2 (Qj zf))))))))))))
def QaL (x:Qo):Option Int :=
 match x with
 | p0 =>
 Yr p0.shape>>=fun v1 =>
 (if v1=0 then
  Xv p0.shape>>=fun v3 =>
  some ((p0.data.length:Int) != v3)
 else
 some false
 )>>=fun (v2:Bool) =>
 if v2=true then
  some 5
 else
 some v1
theorem Qf3 {p0 r0} (hm:QaL p0=some r0):FQ 49 [(Qo.toD p0)] (Qe r0):=by
 unfold QaL at hm;exact fp (fn:=f49) rfl (ge 2 (gr 2 (bi hm fun v1 hx hm=>cp (JV hx) (re 1 (Qi (Qi (bi hm fun v2 hs hm=>QY (fun d=>⟨sl d 19 [(3,(Qe v1)),(17,(Qm v2))],[(YW p0.shape p0.data)]⟩) (have hm:=hs;Yv (Qd 3 (gsq 9 hm (fun hm=>Qd 2 (QH Qf p0.data (Qd 2 (bi hm fun v3 hx hm=>cp (Qde hx) (re 2 ⟨kr,zf⟩))))) (fun hm=>re 8 ⟨kr,zf⟩)))) (fun d=>rib hm (fun hm=>ge 1 (Qj zf)) (fun hm=>Qk (ge 2 (Qj zf)))))))))))
def Y1 (x:(Int × (List Qg) × Int)):Option (Unit ⊕ Unit) :=
 match x with
 | (v201,p0,v806) =>
 if v806 < v201 then
  idx p0 v806>>=fun v1206 =>
  idx p0 v201>>=fun v1207 =>
  if v1206.name=v1207.name then
   some (Sum.inl ())
  else
  Y1 (v201,p0,(W (v806+1)))
 else
 some (Sum.inr ())
 partial_fixpoint
theorem QcT:∀ x r,Y1 x=some r→match x with|(v201,p0,v806)=>LQ f23 23 [1,0,1,0,0,1,0,0,1,1,0,0] 0 ⟨kp 43 [(0,(Xs p0)),(3,(Qe v201)),(4,(Qe v806))],[]⟩ (P2 .ret (fun _ d=>⟨sl d 43 [(2,(Qm false))],[]⟩) (.exit 2) (fun _ d=>⟨sl d 43 [(0,(Xs p0)),(3,(Qe v201))],[]⟩) r):=by
 refine Y1.partial_correctness _ (fun Y1 QcT x r hm=>?_);obtain ⟨v201,p0,v806⟩:=x;exact lp (Qi (ge 3 (ri hm (fun hm=>Qk (Qi (Qn (Qi (Yv (Qd 2 (QV 3 Qg.toD hm fun v1206 hm=>Qd 4 (QV 3 Qg.toD hm fun v1207 hm=>Qd 2 (QG rfl (fun _=>QeN (a:=v1206.name) (b:=v1207.name) rfl kr kr) (Yf ⟨kr,ri hm (fun hm=>ge 1 (Qj zf)) (fun hm=>Qk (R_G (re 3 (QcT _ _ hm _ kr))))⟩)))))))))) (fun hm=>QE zf))))
def Y0 (x:((List Qg) × Int)):Option (Unit ⊕ Unit) :=
 match x with
 | (p0,v201) =>
 if v201 < (p0.length:Int) then
  (idx p0 v201>>=fun v602 =>
  YT v602.name>>=fun v603 =>
  if v603=false then
   some true
  else
  idx p0 v201>>=fun v604 =>
  QaL v604.value>>=fun v605 =>
  some (v605 != 0)
  )>>=fun (v601:Bool) =>
  if v601=true then
   some (Sum.inl ())
  else
  (
  Y1 (v201,p0,0)>>=fun out =>
  match out with
  | .inl _ =>
   some (Sum.inl ())
  | .inr (_) =>
   Y0 (p0,(W (v201+1)))
  )
 else
 some (Sum.inr ())
 partial_fixpoint
theorem QcS:∀ x r,Y0 x=some r→match x with|(p0,v201)=>LQ f23 23 [1,0,1,0,0] 0 ⟨kp 43 [(0,(Xs p0)),(3,(Qe v201))],[]⟩ (P2 .ret (fun _ d=>⟨sl d 43 [(2,(Qm false))],[]⟩) (.exit 0) (fun _ d=>⟨sl d 43 [],[]⟩) r):=by
 refine Y0.partial_correctness _ (fun Y0 QcS x r hm=>?_);obtain ⟨p0,v201⟩:=x;exact lp (Qi (gr 2 (QH Qg.toD p0 (re 1 (ri hm (fun hm=>Qk (Qi (Qn (Qi (Qi (bi hm fun v601 hs hm=>QY (fun d=>⟨sl d 43 [(0,(Xs p0)),(3,(Qe v201)),(26,(Qm v601))],[]⟩) (have hm:=hs;R_G (Qd 2 (QV 3 Qg.toD hm fun v602 hm=>Qd 2 (bi hm fun v603 hx hm=>cp (QgB hx) (Qd 2 (gsn 18 hm (fun hm=>re 8 zf) (fun hm=>Qd 2 (QV 3 Qg.toD hm fun v604 hm=>Qd 2 (bi hm fun v605 hx hm=>cp (Qf3 hx) (re 2 zf)))))))))) (fun d=>rib hm (fun hm=>ge 1 (Qj zf)) (fun hm=>Qk (ge 1 (Qn (ru2 hm (QcT _) (fun _ d hm=>zf) fun _ d hm=>R_G (re 3 (QcS _ _ hm _ kr))))))))))))) (fun hm=>QE zf))))))
def QbR (x:(List Qg)):Option Bool :=
 match x with
 | p0 =>
 (
 Y0 (p0,0)>>=fun out =>
 match out with
 | .inl _ =>
  some false
 | .inr (_) =>
  some true
 )
theorem QhF {p0 r0} (hm:QbR p0=some r0):FQ 23 [(.lst ((List.map Qg.toD) p0))] (Qm r0):=by
 unfold QbR at hm;exact fp (fn:=f23) rfl (ge 1 (Qi (ge 1 (Qn (ru2 hm (QcS _) (fun _ d hm=>zf) fun _ d hm=>ge 1 (Qj zf))))))
def Yz (x:((List Int) × Int × Int × Int)):Option (Unit ⊕ Unit) :=
 match x with
 | (p0,p1,v205,v206) =>
 if v206 < (p0.length:Int) then
  idx p0 v206>>=fun v605 =>
  if (W (v205 * (if v605 < 1 then 1 else v605))) > (W (100 * p1)) then
   some (Sum.inl ())
  else
  Yz (p0,p1,(W (v205 * (if v605 < 1 then 1 else v605))),(W (v206+1)))
 else
 some (Sum.inr ())
 partial_fixpoint
theorem QcP:∀ x r,Yz x=some r→match x with|(p0,p1,v205,v206)=>LQ f50 50 [1,1,1,0,1,0,0] 0 ⟨kp 38 [(0,(La p0)),(1,(Qe p1)),(5,(Qe v205)),(6,(Qe v206))],[]⟩ (P2 .ret (fun _ d=>⟨sl d 38 [(4,(Qm false))],[]⟩) (.exit 0) (fun _ d=>⟨sl d 38 [],[]⟩) r):=by
 refine Yz.partial_correctness _ (fun Yz QcP x r hm=>?_);obtain ⟨p0,p1,v205,v206⟩:=x;exact lp (Qi (gr 2 (QH Qf p0 (re 1 (ri hm (fun hm=>Qk (Qi (Qn (gr 3 (QV 1 Qf hm fun v605 hm=>Qd 1 (QG rfl (fun _=>QgZ (k:=.i64) (m:=v605) (n:=1) rfl kr kr) (re 2 (ge 4 (ri hm (fun hm=>ge 1 (Qj zf)) (fun hm=>Qk (R_G (re 3 (QcP _ _ hm _ kr))))))))))))) (fun hm=>QE zf))))))
def QaK (x:((List Int) × Int)):Option Bool :=
 match x with
 | (p0,p1) =>
 ((if (p0.length:Int) > 6 then
  some true
 else
 Yr p0>>=fun v3 =>
 some (v3 != 0)
 )>>=fun (v2:Bool) =>
 if v2=true then
  some true
 else
 Xv p0>>=fun v4 =>
 some (decide (v4 > p1))
 )>>=fun (v1:Bool) =>
 if v1=true then
  some false
 else
 (
 Yz (p0,p1,1,0)>>=fun out =>
 match out with
 | .inl _ =>
  some false
 | .inr (_) =>
  some true
 )
theorem Qf2 {p0 p1 r0} (hm:QaK (p0,p1)=some r0):FQ 50 [(Lb p0),(Qf p1)] (Qm r0):=by
 unfold QaK at hm;exact fp (fn:=f50) rfl (ge 1 (Qi (Qi (bi hm fun v1 hs hm=>QY (fun d=>⟨sl d 38 [(0,(La p0)),(1,(Qe p1)),(20,(Qm v1))],[]⟩) (have hm:=hs;Qdg (Qd 1 (QH Qf p0 (Qd 2 (bi hm fun v2 hs hm=>ZH (j:=8) (fun d=>⟨sl d 38 [(0,(La p0)),(1,(Qe p1)),(14,(Qm v2))],[]⟩) (fun d=>Qd 1 (gsb 15 hm (fun hm=>re 5 ⟨kr,zf⟩) (fun hm=>Qd 1 (bi hm fun v4 hx hm=>cp (Qde hx) (re 3 ⟨kr,zf⟩))))) (fun hJ=>gs 10 hs (fun hm=>Qd 4 zf) (fun hm=>Qd 1 (bi hm fun v3 hx hm=>cp (JV hx) (Qd 2 zf))))))))) (fun d=>rib hm (fun hm=>ge 1 (Qj zf)) (fun hm=>Qk (ge 1 (Qi (ge 1 (Qn (ru2 hm (QcP _) (fun _ d hm=>zf) fun _ d hm=>ge 1 (Qj zf))))))))))))
def Qc7 (x:(Qo × Int)):Option Bool :=
 match x with
 | (p0,p1) =>
 QaK (p0.shape,p1)>>=fun v1 =>
 if v1=true then
  QaL (⟨p0.shape,p0.data⟩:Qo)>>=fun v2 =>
  some (v2 == 0)
 else
 some false
theorem QhB {p0 p1 r0} (hm:Qc7 (p0,p1)=some r0):FQ 24 [(Qo.toD p0),(Qf p1)] (Qm r0):=by
 unfold Qc7 at hm;exact fp (fn:=f24) rfl (ge 2 (gr 3 (bi hm fun v1 hx hm=>cp (Qf2 hx) (Qd 1 (gsb 9 hm (fun hm=>Qd 1 (bi hm fun v2 hx hm=>cp (Qf3 hx) (re 3 (Qj zf)))) (fun hm=>re 5 (Qj zf)))))))
def Y2 (x:((List Qg) × Int × Int)):Option (Unit ⊕ Unit) :=
 match x with
 | (p0,p1,v204) =>
 if v204 < (p0.length:Int) then
  idx p0 v204>>=fun v604 =>
  Qc7 (v604.value,p1)>>=fun v605 =>
  if v605=false then
   some (Sum.inl ())
  else
  Y2 (p0,p1,(W (v204+1)))
 else
 some (Sum.inr ())
 partial_fixpoint
theorem QcU:∀ x r,Y2 x=some r→match x with|(p0,p1,v204)=>LQ f5 5 [1,1,0,1,0,0] 0 ⟨kp 29 [(0,(Xs p0)),(1,(Qe p1)),(5,(Qe v204))],[]⟩ (P2 .ret (fun _ d=>⟨sl d 29 [(4,(Qm false))],[]⟩) (.exit 0) (fun _ d=>⟨sl d 29 [],[]⟩) r):=by
 refine Y2.partial_correctness _ (fun Y2 QcU x r hm=>?_);obtain ⟨p0,p1,v204⟩:=x;exact lp (Qi (gr 2 (QH Qg.toD p0 (re 1 (ri hm (fun hm=>Qk (Qi (Qn (gr 2 (QV 3 Qg.toD hm fun v604 hm=>Qd 3 (bi hm fun v605 hx hm=>cp (QhB hx) (re 1 (rin hm (fun hm=>ge 1 (Qj zf)) (fun hm=>Qk (R_G (re 3 (QcU _ _ hm _ kr)))))))))))) (fun hm=>QE zf))))))
def QbS (x:((List Qg) × Int)):Option Bool :=
 match x with
 | (p0,p1) =>
 (Qdo (p0,p1)>>=fun (v2:Bool) =>
 if v2=false then
  some true
 else
 QbR p0>>=fun v3 =>
 some (!v3)
 )>>=fun (v1:Bool) =>
 if v1=true then
  some false
 else
 (
 Y2 (p0,p1,0)>>=fun out =>
 match out with
 | .inl _ =>
  some false
 | .inr (_) =>
  some true
 )
theorem QhG {p0 p1 r0} (hm:QbS (p0,p1)=some r0):FQ 5 [(.lst ((List.map Qg.toD) p0)),(Qf p1)] (Qm r0):=by
 unfold QbS at hm;exact fp (fn:=f5) rfl (ge 1 (Qi (Qi (bi hm fun v1 hs hm=>QY (fun d=>⟨sl d 29 [(0,(Xs p0)),(1,(Qe p1)),(14,(Qm v1))],[]⟩) (have hm:=hs;R_G (Qd 2 (bi hm fun v2 hx hm=>cp (QiC hx) (Qd 2 (gsn 10 hm (fun hm=>re 4 zf) (fun hm=>Qd 1 (bi hm fun v3 hx hm=>cp (QhF hx) (re 2 zf)))))))) (fun d=>rib hm (fun hm=>ge 1 (Qj zf)) (fun hm=>Qk (Qi (ge 1 (Qn (ru2 hm (QcU _) (fun _ d hm=>zf) fun _ d hm=>ge 1 (Qj zf)))))))))))
mutual
def Ys (x:(Qc × Int × Int)):Option (Int) :=
 match x with
 | (p0,v201,v202) =>
 (if v202 < (p0.kids.length:Int) then
  some (decide (v201≥0))
 else
 some false
 )>>=fun (v602:Bool) =>
 if v602=true then
  idx p0.kids v202>>=fun v603 =>
  Qan (v603,v201)>>=fun v604 =>
  Ys (p0,v604,(W (v202+1)))
 else
 some v201
 partial_fixpoint
def Qan (x:(Qc × Int)):Option Int :=
 match x with
 | (p0,p1) =>
 Ys (p0,(W (p1 - 1)),0)>>=fun v601 =>
 some v601
 partial_fixpoint
end
def QbX:(Qc × Int × Int)→(Int)→Prop:=fun x r=>match x with
 | (p0,v201,v202)=>LQ f51 51 [1,1,0,1,0,0] 1 ⟨kp 27 [(1,(Qe v201)),(2,(.ptr 0 0)),(5,(Qe v202))],[(QU p0.kind p0.fn p0.axis p0.name p0.nums p0.kids)]⟩ (P1 (.exit 0) (fun v601 d=>⟨sl d 27 [(1,(Qe v601))],[(QU p0.kind p0.fn p0.axis p0.name p0.nums p0.kids)]⟩) r)
def QdJ:(Qc × Int)→Int→Prop:=fun x r=>match x,r with
 | (p0,p1),r0=>∀ H,PC prog env 51 ([(Qc.ex p0),(Qf p1)].map .dat) H (Qe r0) H
theorem g_ref08_left_L1:(∀ x r,Ys x=some r→QbX x r)∧(∀ x r,Qan x=some r→QdJ x r):=by
 refine Ys.mutual_partial_correctness QbX QdJ ?_ ?_
 ·intro Ys Qan Qb3 Qfd x r hm;unfold QbX;obtain ⟨p0,v201,v202⟩:=x;exact lp (Qi (Qi (bi hm fun v602 hs hm=>QY (fun d=>⟨sl d 27 [(1,(Qe v201)),(2,(.ptr 0 0)),(5,(Qe v202)),(16,(Qm v602))],[(QU p0.kind p0.fn p0.axis p0.name p0.nums p0.kids)]⟩) (have hm:=hs;R_G (Qd 3 (Qae Qc.toD p0.kids (es:=Qc.toDs p0.kids) (Qc.toDs_eq _) (Qd 2 (gs 13 hm (fun hm=>re 3 zf) (fun hm=>re 3 zf)))))) (fun d=>rib hm (fun hm=>Qk (Qi (Qn (R_G (Qd 3 (bi hm fun v603 hx hm=>XA 6 Qc.toD p0.kids v202 v603 (es:=Qc.toDs p0.kids) (d:=(Qc.ex v603)) (Qc.toDs_eq _) hx (Qc.toD_eq v603) rfl (Qd 2 (bi hm fun v604 hx hm=>ZL (Qfd _ _ hx []) (re 1 (R_G (re 3 (Qb3 _ _ hm _ kr)))))))))))) (fun hm=>QE zf)))))
 ·intro Ys Qb3 x r0 hm;unfold QdJ;obtain ⟨p0,p1⟩:=x;intro H;refine PC_sx (ds:=[(Qc.ex p0),(Qf p1)]) (fn:=f51) rfl ?_;exact ge 2 (ge 3 (Qi (ge 1 (Qn (ru1 hm (Qb3 _) fun v601 d hm=>ge 2 (Qj zf))))))
theorem Qb3:∀ x r,Ys x=some r→QbX x r:=g_ref08_left_L1.1
theorem Qfd:∀ x r,Qan x=some r→QdJ x r:=g_ref08_left_L1.2
mutual
def Z3 (x:(Qc × Int × Int)):Option (Int) :=
 match x with
 | (p0,v201,v202) =>
 if v202 < (p0.kids.length:Int) then
  idx p0.kids v202>>=fun v602 =>
  Je v602>>=fun v603 =>
  Z3 (p0,(if v201 < v603 then v603 else v201),(W (v202+1)))
 else
 some v201
 partial_fixpoint
def Je (x:Qc):Option Int :=
 match x with
 | p0 =>
 Z3 (p0,0,0)>>=fun v601 =>
 some (W (v601+1))
 partial_fixpoint
end
def Qbr:(Qc × Int × Int)→(Int)→Prop:=fun x r=>match x with
 | (p0,v201,v202)=>LQ f52 52 [1,1,0,1,0,0] 1 ⟨kp 22 [(1,(.ptr 0 0)),(3,(Qe v201)),(4,(Qe v202))],[(QU p0.kind p0.fn p0.axis p0.name p0.nums p0.kids)]⟩ (P1 (.exit 0) (fun v601 d=>⟨sl d 22 [(3,(Qe v601))],[(QU p0.kind p0.fn p0.axis p0.name p0.nums p0.kids)]⟩) r)
def Qc0:Qc→Int→Prop:=fun x r=>match x,r with
 | p0,r0=>∀ H,PC prog env 52 ([(Qc.ex p0)].map .dat) H (Qe r0) H
theorem g_ref08_Depth_L1:(∀ x r,Z3 x=some r→Qbr x r)∧(∀ x r,Je x=some r→Qc0 x r):=by
 refine Z3.mutual_partial_correctness Qbr Qc0 ?_ ?_
 ·intro Z3 Je QbF Qdf x r hm;unfold Qbr;obtain ⟨p0,v201,v202⟩:=x;exact lp (Qi (gr 3 (Qae Qc.toD p0.kids (es:=Qc.toDs p0.kids) (Qc.toDs_eq _) (re 1 (ri hm (fun hm=>Qk (Qi (Qn (R_G (Qd 4 (bi hm fun v602 hx hm=>XA 6 Qc.toD p0.kids v202 v602 (es:=Qc.toDs p0.kids) (d:=(Qc.ex v602)) (Qc.toDs_eq _) hx (Qc.toD_eq v602) rfl (Qd 1 (bi hm fun v603 hx hm=>ZL (Qdf _ _ hx []) (QG rfl (fun _=>QgZ (k:=.i64) (m:=v201) (n:=v603) rfl kr kr) (re 1 (R_G (re 3 (QbF _ _ hm _ kr))))))))))))) (fun hm=>QE zf))))))
 ·intro Z3 QbF p0 r0 hm;unfold Qc0;intro H;refine PC_sx (ds:=[(Qc.ex p0)]) (fn:=f52) rfl ?_;exact ge 2 (ge 1 (Qi (ge 1 (Qn (ru1 hm (QbF _) fun v601 d hm=>ge 3 (Qj zf))))))
theorem QbF:∀ x r,Z3 x=some r→Qbr x r:=g_ref08_Depth_L1.1
theorem Qdf:∀ x r,Je x=some r→Qc0 x r:=g_ref08_Depth_L1.2
mutual
def ZE (x:(Qc × Int × Int)):Option (Int) :=
 match x with
 | (p0,v201,v202) =>
 if v202 < (p0.kids.length:Int) then
  idx p0.kids v202>>=fun v602 =>
  X0 v602>>=fun v603 =>
  ZE (p0,(W (v201+v603)),(W (v202+1)))
 else
 some v201
 partial_fixpoint
def X0 (x:Qc):Option Int :=
 match x with
 | p0 =>
 ZE (p0,(p0.nums.length:Int),0)>>=fun v601 =>
 some v601
 partial_fixpoint
end
def Qaj:(Qc × Int × Int)→(Int)→Prop:=fun x r=>match x with
 | (p0,v201,v202)=>LQ f53 53 [1,1,0,1,0,0] 1 ⟨kp 24 [(1,(.ptr 0 0)),(3,(Qe v201)),(4,(Qe v202))],[(QU p0.kind p0.fn p0.axis p0.name p0.nums p0.kids)]⟩ (P1 (.exit 0) (fun v601 d=>⟨sl d 24 [(3,(Qe v601))],[(QU p0.kind p0.fn p0.axis p0.name p0.nums p0.kids)]⟩) r)
def QbY:Qc→Int→Prop:=fun x r=>match x,r with
 | p0,r0=>∀ H,PC prog env 53 ([(Qc.ex p0)].map .dat) H (Qe r0) H
theorem g_ref08_numbers_L1:(∀ x r,ZE x=some r→Qaj x r)∧(∀ x r,X0 x=some r→QbY x r):=by
 refine ZE.mutual_partial_correctness Qaj QbY ?_ ?_
 ·intro ZE X0 Qat Qdy x r hm;unfold Qaj;obtain ⟨p0,v201,v202⟩:=x;exact lp (Qi (gr 3 (Qae Qc.toD p0.kids (es:=Qc.toDs p0.kids) (Qc.toDs_eq _) (re 1 (ri hm (fun hm=>Qk (Qi (Qn (R_G (Qd 4 (bi hm fun v602 hx hm=>XA 6 Qc.toD p0.kids v202 v602 (es:=Qc.toDs p0.kids) (d:=(Qc.ex v602)) (Qc.toDs_eq _) hx (Qc.toD_eq v602) rfl (Qd 1 (bi hm fun v603 hx hm=>ZL (Qdy _ _ hx []) (re 2 (R_G (re 3 (Qat _ _ hm _ kr)))))))))))) (fun hm=>QE zf))))))
 ·intro ZE Qat p0 r0 hm;unfold QbY;intro H;refine PC_sx (ds:=[(Qc.ex p0)]) (fn:=f53) rfl ?_;exact ge 2 (gr 2 (QH Qf p0.nums (re 1 (Qi (ge 1 (Qn (ru1 hm (Qat _) fun v601 d hm=>ge 2 (Qj zf))))))))
theorem Qat:∀ x r,ZE x=some r→Qaj x r:=g_ref08_numbers_L1.1
theorem Qdy:∀ x r,X0 x=some r→QbY x r:=g_ref08_numbers_L1.2
def Qdn (x:(Qc × Int)):Option Bool :=
 match x with
 | (p0,p1) =>
 Qan (p0,p1)>>=fun v1 =>
 (if v1≥0 then
  Je p0>>=fun v3 =>
  some (decide (v3≤150))
 else
 some false
 )>>=fun (v2:Bool) =>
 if v2=true then
  X0 p0>>=fun v4 =>
  some (decide (v4≤(W (10 * p1))))
 else
 some false
theorem QiB {p0 p1 r0} (hm:Qdn (p0,p1)=some r0):FQ 25 [(Qc.ex p0),(Qf p1)] (Qm r0):=by
 unfold Qdn at hm;exact fp (fn:=f25) rfl (ge 2 (Qi (Qdg (Qd 2 (bi hm fun v1 hx hm=>ZL (Qfd _ _ hx []) (Qd 2 (bi hm fun v2 hs hm=>ZH (j:=9) (fun d=>⟨sl d 21 [(1,(Qe p1)),(2,(.ptr 0 0)),(4,(Qm false)),(13,(Qm v2))],[(QU p0.kind p0.fn p0.axis p0.name p0.nums p0.kids)]⟩) (fun d=>Qd 1 (gsb 14 hm (fun hm=>Qd 1 (bi hm fun v4 hx hm=>ZL (Qdy _ _ hx []) (re 5 ⟨kr,Qj zf⟩))) (fun hm=>re 7 ⟨kr,Qj zf⟩))) (fun hJ=>gs 9 hs (fun hm=>Qd 1 (bi hm fun v3 hx hm=>ZL (Qdf _ _ hx []) (Qd 2 zf))) (fun hm=>Qd 4 zf)))))))))
def Qcy (x:Qc):Option Bool :=
 match x with
 | p0 =>
 (if p0.axis≥0 then
  some (decide (p0.axis≤15))
 else
 some false
 )>>=fun (v1:Bool) =>
 if p0.kind=1 then
  (if p0.fn=0 then
   some (p0.axis == (-1))
  else
  some false
  )>>=fun (v2:Bool) =>
  (if v2=true then
   some (decide (p0.name=ByteArray.empty))
  else
  some false
  )>>=fun (v3:Bool) =>
  if v3=true then
   some ((p0.kids.length:Int) == 0)
  else
  some false
 else
 if p0.kind=2 then
  (if p0.fn=0 then
   some (p0.axis == (-1))
  else
  some false
  )>>=fun (v4:Bool) =>
  (if v4=true then
   YT p0.name>>=fun v6 =>
   some v6
  else
  some false
  )>>=fun (v5:Bool) =>
  (if v5=true then
   some ((p0.nums.length:Int) == 0)
  else
  some false
  )>>=fun (v7:Bool) =>
  if v7=true then
   some ((p0.kids.length:Int) == 0)
  else
  some false
 else
 if p0.kind=3 then
  (if p0.name=ByteArray.empty then
   some ((p0.nums.length:Int) == 0)
  else
  some false
  )>>=fun (v8:Bool) =>
  (if v8=true then
   some ((p0.kids.length:Int) == 1)
  else
  some false
  )>>=fun (v9:Bool) =>
  if v9=true then
   (if p0.fn=3 then
    (if p0.axis=(-1) then
     some true
    else
    some v1
    )>>=fun (v11:Bool) =>
    some v11
   else
   some false
   )>>=fun (v10:Bool) =>
   if v10=true then
    some true
   else
   (if p0.fn=4 then
    some true
   else
   some (p0.fn == 6)
   )>>=fun (v12:Bool) =>
   (if v12=true then
    some (p0.axis == (-1))
   else
   some false
   )>>=fun (v13:Bool) =>
   some v13
  else
  some false
 else
 if p0.kind=4 then
  ((if p0.name≠ByteArray.empty then
   some true
  else
  some (decide ((p0.nums.length:Int) > 0))
  )>>=fun (v15:Bool) =>
  (if v15=true then
   some true
  else
  some ((p0.kids.length:Int) != 2)
  )>>=fun (v16:Bool) =>
  (if v16=true then
   some true
  else
  some (decide (p0.fn < 1))
  )>>=fun (v17:Bool) =>
  if v17=true then
   some true
  else
  some (decide (p0.fn > 6))
  )>>=fun (v14:Bool) =>
  if v14=true then
   some false
  else
  (if p0.axis≠(-1) then
   if v1=false then
    some true
   else
   (if p0.fn≠3 then
    some (p0.fn != 6)
   else
   some false
   )>>=fun (v19:Bool) =>
   some v19
  else
  some false
  )>>=fun (v18:Bool) =>
  if v18=true then
   some false
  else
  (if p0.fn=6 then
   some true
  else
  idx p0.kids 0>>=fun v21 =>
  some (v21.kind == 1)
  )>>=fun (v20:Bool) =>
  if v20=true then
   some true
  else
  idx p0.kids 0>>=fun v22 =>
  some (v22.kind == 2)
 else
 some false
theorem QhW {p0 r0} (hm:Qcy p0=some r0):FQ 85 [(Qc.ex p0)] (Qm r0):=by
 unfold Qcy at hm
 exact fp (fn:=f85) rfl (ge 2 (Qi (bi hm fun v1 hs hm=>QY (fun d=>⟨sl d 170 [(1,(.ptr 0 0)),(3,(Qm v1))],[(QU p0.kind p0.fn p0.axis p0.name p0.nums p0.kids)]⟩) (have hm:=hs;R_G (Qd 4 (gs 7 hm (fun hm=>re 5 zf) (fun hm=>re 5 zf)))) (fun d=>Qi (ge 2 (Qn (ge 2 (riq hm (fun hm=>Qi (Qdg (Qd 4 (bi hm fun v2 hs hm=>ZH (j:=8) (fun d=>⟨sl d 170 [(1,(.ptr 0 0)),(23,(Qm v2))],[(QU p0.kind p0.fn p0.axis p0.name p0.nums p0.kids)]⟩) (fun d=>Qd 1 (bi hm fun v3 hs hm=>ZH (j:=13) (fun d=>⟨sl d 170 [(1,(.ptr 0 0)),(28,(Qm v3))],[(QU p0.kind p0.fn p0.axis p0.name p0.nums p0.kids)]⟩) (fun d=>Qd 1 (gsb 29 hm (fun hm=>Qd 2 (Qae Qc.toD p0.kids (es:=Qc.toDs p0.kids) (Qc.toDs_eq _) (re 3 ⟨kr,Qj zf⟩))) (fun hm=>re 6 ⟨kr,Qj zf⟩))) (fun hJ=>gsb 24 hs (fun hm=>Qd 2 (QG rfl (fun _=>QeN (a:=p0.name) (b:=ByteArray.empty) rfl kr kr) (Qd 1 zf))) (fun hm=>Qd 4 zf)))) (fun hJ=>gsq 19 hs (fun hm=>Qd 4 zf) (fun hm=>Qd 4 zf)))))) (fun hm=>ge 2 (riq hm (fun hm=>Qi (Qdg (Qd 4 (bi hm fun v4 hs hm=>ZH (j:=8) (fun d=>⟨sl d 170 [(1,(.ptr 0 0)),(44,(Qm v4))],[(QU p0.kind p0.fn p0.axis p0.name p0.nums p0.kids)]⟩) (fun d=>Qd 1 (bi hm fun v5 hs hm=>ZH (j:=13) (fun d=>⟨sl d 170 [(1,(.ptr 0 0)),(49,(Qm v5))],[(QU p0.kind p0.fn p0.axis p0.name p0.nums p0.kids)]⟩) (fun d=>Qd 1 (bi hm fun v7 hs hm=>ZH (j:=19) (fun d=>⟨sl d 170 [(1,(.ptr 0 0)),(55,(Qm v7))],[(QU p0.kind p0.fn p0.axis p0.name p0.nums p0.kids)]⟩) (fun d=>Qd 1 (gsb 56 hm (fun hm=>Qd 2 (Qae Qc.toD p0.kids (es:=Qc.toDs p0.kids) (Qc.toDs_eq _) (re 3 ⟨kr,Qj zf⟩))) (fun hm=>re 6 ⟨kr,Qj zf⟩))) (fun hJ=>gsb 50 hs (fun hm=>Qd 2 (QH Qf p0.nums (Qd 2 zf))) (fun hm=>Qd 5 zf)))) (fun hJ=>gsb 45 hs (fun hm=>Qd 2 (bi hm fun v6 hx hm=>cp (QgB hx) (Qd 1 zf))) (fun hm=>Qd 4 zf)))) (fun hJ=>gsq 40 hs (fun hm=>Qd 4 zf) (fun hm=>Qd 4 zf)))))) (fun hm=>ge 2 (riq hm (fun hm=>Qi (Qdg (Qd 2 (QG rfl (fun _=>QeN (a:=p0.name) (b:=ByteArray.empty) rfl kr kr) (Qd 1 (bi hm fun v8 hs hm=>ZH (j:=9) (fun d=>⟨sl d 170 [(1,(.ptr 0 0)),(3,(Qm v1)),(72,(Qm v8))],[(QU p0.kind p0.fn p0.axis p0.name p0.nums p0.kids)]⟩) (fun d=>Qd 1 (bi hm fun v9 hs hm=>ZH (j:=15) (fun d=>⟨sl d 170 [(1,(.ptr 0 0)),(3,(Qm v1)),(78,(Qm v9))],[(QU p0.kind p0.fn p0.axis p0.name p0.nums p0.kids)]⟩) (fun d=>Qd 1 (gsb 79 hm (fun hm=>Qd 4 (bi hm fun v10 hs hm=>ZH (j:=27) (fun d=>⟨sl d 170 [(1,(.ptr 0 0)),(79,(Qm true)),(90,(Qm v10))],[(QU p0.kind p0.fn p0.axis p0.name p0.nums p0.kids)]⟩) (fun d=>Qd 1 (gsb 91 hm (fun hm=>re 16 ⟨kr,Qj zf⟩) (fun hm=>Qd 4 (bi hm fun v12 hs hm=>ZH (j:=36) (fun d=>⟨sl d 170 [(1,(.ptr 0 0)),(79,(Qm true)),(91,(Qm false)),(99,(Qm v12))],[(QU p0.kind p0.fn p0.axis p0.name p0.nums p0.kids)]⟩) (fun d=>Qd 1 (bi hm fun v13 hs hm=>ZH (j:=41) (fun d=>⟨sl d 170 [(79,(Qm true)),(91,(Qm false)),(104,(Qm v13))],[(QU p0.kind p0.fn p0.axis p0.name p0.nums p0.kids)]⟩) (fun d=>re 3 ⟨kr,Qj zf⟩) (fun hJ=>gsb 100 hs (fun hm=>Qd 4 zf) (fun hm=>Qd 4 zf)))) (fun hJ=>gsq 95 hs (fun hm=>Qd 4 zf) (fun hm=>Qd 4 zf)))))) (fun hJ=>gsq 83 hs (fun hm=>Qd 4 (bi hm fun v11 hs hm=>ZH (j:=26) (fun d=>⟨sl d 170 [(1,(.ptr 0 0)),(79,(Qm true)),(83,(Qm true)),(89,(Qm v11))],[(QU p0.kind p0.fn p0.axis p0.name p0.nums p0.kids)]⟩) (fun d=>Qd 1 zf) (fun hJ=>gsq 87 hs (fun hm=>Qd 2 zf) (fun hm=>Qd 2 zf)))) (fun hm=>Qd 7 zf)))) (fun hm=>re 28 ⟨kr,Qj zf⟩))) (fun hJ=>gsb 73 hs (fun hm=>Qd 2 (Qae Qc.toD p0.kids (es:=Qc.toDs p0.kids) (Qc.toDs_eq _) (Qd 2 zf))) (fun hm=>Qd 5 zf)))) (fun hJ=>gs 67 hs (fun hm=>Qd 2 (QH Qf p0.nums (Qd 2 zf))) (fun hm=>Qd 5 zf)))))))) (fun hm=>ge 2 (riq hm (fun hm=>Qi (Qi (bi hm fun v14 hs hm=>QY (fun d=>⟨sl d 170 [(1,(.ptr 0 0)),(3,(Qm v1)),(133,(Qm v14))],[(QU p0.kind p0.fn p0.axis p0.name p0.nums p0.kids)]⟩) (have hm:=hs;Qdg (Qd 2 (QG rfl (fun _=>Qgj (a:=p0.name) (b:=ByteArray.empty) rfl kr kr) (Qd 1 (bi hm fun v15 hs hm=>ZH (j:=9) (fun d=>⟨sl d 170 [(1,(.ptr 0 0)),(3,(Qm v1)),(117,(Qm v15))],[(QU p0.kind p0.fn p0.axis p0.name p0.nums p0.kids)]⟩) (fun d=>Qd 1 (bi hm fun v16 hs hm=>ZH (j:=15) (fun d=>⟨sl d 170 [(1,(.ptr 0 0)),(3,(Qm v1)),(123,(Qm v16))],[(QU p0.kind p0.fn p0.axis p0.name p0.nums p0.kids)]⟩) (fun d=>Qd 1 (bi hm fun v17 hs hm=>ZH (j:=20) (fun d=>⟨sl d 170 [(1,(.ptr 0 0)),(3,(Qm v1)),(128,(Qm v17))],[(QU p0.kind p0.fn p0.axis p0.name p0.nums p0.kids)]⟩) (fun d=>Qd 1 (gsb 129 hm (fun hm=>re 4 ⟨kr,zf⟩) (fun hm=>re 4 ⟨kr,zf⟩))) (fun hJ=>gsb 124 hs (fun hm=>Qd 4 zf) (fun hm=>Qd 4 zf)))) (fun hJ=>gsb 118 hs (fun hm=>Qd 5 zf) (fun hm=>Qd 2 (Qae Qc.toD p0.kids (es:=Qc.toDs p0.kids) (Qc.toDs_eq _) (Qd 2 zf)))))) (fun hJ=>gs 112 hs (fun hm=>Qd 5 zf) (fun hm=>Qd 2 (QH Qf p0.nums (Qd 2 zf))))))))) (fun d=>rib hm (fun hm=>ge 1 (Qj zf)) (fun hm=>Qk (Qi (Qi (bi hm fun v18 hs hm=>QY (fun d=>⟨sl d 170 [(1,(.ptr 0 0)),(150,(Qm v18))],[(QU p0.kind p0.fn p0.axis p0.name p0.nums p0.kids)]⟩) (have hm:=hs;Qdg (Qd 4 (gsx 137 hm (fun hm=>Qd 3 (gsn 140 hm (fun hm=>re 10 ⟨kr,zf⟩) (fun hm=>Qd 4 (bi hm fun v19 hs hm=>ZH (j:=15) (fun d=>⟨sl d 170 [(1,(.ptr 0 0)),(137,(Qm true)),(140,(Qm false)),(148,(Qm v19))],[(QU p0.kind p0.fn p0.axis p0.name p0.nums p0.kids)]⟩) (fun d=>re 2 ⟨kr,zf⟩) (fun hJ=>gsx 144 hs (fun hm=>Qd 4 zf) (fun hm=>Qd 4 zf)))))) (fun hm=>re 13 ⟨kr,zf⟩)))) (fun d=>rib hm (fun hm=>ge 1 (Qj zf)) (fun hm=>Qk (Qi (Qdg (Qd 4 (bi hm fun v20 hs hm=>ZH (j:=11) (fun d=>⟨sl d 170 [(1,(.ptr 0 0)),(161,(Qm v20))],[(QU p0.kind p0.fn p0.axis p0.name p0.nums p0.kids)]⟩) (fun d=>Qd 1 (gsb 162 hm (fun hm=>re 8 ⟨kr,Qj zf⟩) (fun hm=>Qd 2 (bi hm fun v22 hx hm=>XA 6 Qc.toD p0.kids 0 v22 (es:=Qc.toDs p0.kids) (d:=(Qc.ex v22)) (Qc.toDs_eq _) hx (Qc.toD_eq v22) rfl (re 5 ⟨kr,Qj zf⟩))))) (fun hJ=>gsq 154 hs (fun hm=>Qd 7 zf) (fun hm=>Qd 2 (bi hm fun v21 hx hm=>XA 6 Qc.toD p0.kids 0 v21 (es:=Qc.toDs p0.kids) (d:=(Qc.ex v21)) (Qc.toDs_eq _) hx (Qc.toD_eq v21) rfl (Qd 4 zf)))))))))))))))))) (fun hm=>Qk (ge 1 (Qj zf)))))))))))))))))
mutual
def Z4 (x:(Qc × Int)):Option (Unit ⊕ Unit) :=
 match x with
 | (p0,v202) =>
 if v202 < (p0.kids.length:Int) then
  idx p0.kids v202>>=fun v602 =>
  JR v602>>=fun v603 =>
  if v603=false then
   some (Sum.inl ())
  else
  Z4 (p0,(W (v202+1)))
 else
 some (Sum.inr ())
 partial_fixpoint
def JR (x:Qc):Option Bool :=
 match x with
 | p0 =>
 Qcy p0>>=fun v1 =>
 if v1=false then
  some false
 else
 (
 Z4 (p0,0)>>=fun out =>
 match out with
 | .inl _ =>
  some false
 | .inr (_) =>
  some true
 )
 partial_fixpoint
end
def Qbs:(Qc × Int)→(Unit ⊕ Unit)→Prop:=fun x r=>match x with
 | (p0,v202)=>LQ f54 54 [1,1,0,1,0,0] 1 ⟨kp 21 [(1,(.ptr 0 0)),(3,(Qe v202))],[(QU p0.kind p0.fn p0.axis p0.name p0.nums p0.kids)]⟩ (P2 .ret (fun _ d=>⟨sl d 21 [(2,(Qm false))],[(QU p0.kind p0.fn p0.axis p0.name p0.nums p0.kids)]⟩) (.exit 0) (fun _ d=>⟨sl d 21 [],[(QU p0.kind p0.fn p0.axis p0.name p0.nums p0.kids)]⟩) r)
def Qc1:Qc→Bool→Prop:=fun x r=>match x,r with
 | p0,r0=>∀ H,PC prog env 54 ([(Qc.ex p0)].map .dat) H (Qm r0) H
theorem g_ref08_nodes_L1:(∀ x r,Z4 x=some r→Qbs x r)∧(∀ x r,JR x=some r→Qc1 x r):=by
 refine Z4.mutual_partial_correctness Qbs Qc1 ?_ ?_
 ·intro Z4 JR QbG QeG x r hm;unfold Qbs;obtain ⟨p0,v202⟩:=x;exact lp (Qi (gr 3 (Qae Qc.toD p0.kids (es:=Qc.toDs p0.kids) (Qc.toDs_eq _) (re 1 (ri hm (fun hm=>Qk (Qi (Qn (gr 3 (bi hm fun v602 hx hm=>XA 6 Qc.toD p0.kids v202 v602 (es:=Qc.toDs p0.kids) (d:=(Qc.ex v602)) (Qc.toDs_eq _) hx (Qc.toD_eq v602) rfl (Qd 1 (bi hm fun v603 hx hm=>ZL (QeG _ _ hx []) (re 1 (rin hm (fun hm=>ge 1 (Qj zf)) (fun hm=>Qk (R_G (re 3 (QbG _ _ hm _ kr))))))))))))) (fun hm=>QE zf))))))
 ·intro Z4 QbG p0 r0 hm;unfold Qc1;intro H;refine PC_sx (ds:=[(Qc.ex p0)]) (fn:=f54) rfl ?_;exact ge 2 (Qi (gr 1 (bi hm fun v1 hx hm=>cp (QhW hx) (re 1 (rin hm (fun hm=>ge 1 (Qj zf)) (fun hm=>Qk (Qi (ge 1 (Qn (ru2 hm (QbG _) (fun _ d hm=>zf) fun _ d hm=>ge 1 (Qj zf)))))))))))
theorem QbG:∀ x r,Z4 x=some r→Qbs x r:=g_ref08_nodes_L1.1
theorem QeG:∀ x r,JR x=some r→Qc1 x r:=g_ref08_nodes_L1.2
def QbP (x:Qc):Option Bool :=
 match x with
 | p0 =>
 Je p0>>=fun v1 =>
 if v1≤100 then
  JR p0>>=fun v2 =>
  some v2
 else
 some false
theorem QhD {p0 r0} (hm:QbP p0=some r0):FQ 26 [(Qc.ex p0)] (Qm r0):=by
 unfold QbP at hm;exact fp (fn:=f26) rfl (ge 2 (gr 1 (bi hm fun v1 hx hm=>ZL (Qdf _ _ hx []) (Qd 2 (gs 6 hm (fun hm=>Qd 1 (bi hm fun v2 hx hm=>ZL (QeG _ _ hx []) (re 2 (Qj zf)))) (fun hm=>re 4 (Qj zf)))))))
def QbQ (x:(Qc × Int)):Option Bool :=
 match x with
 | (p0,p1) =>
 Qdn (p0,p1)>>=fun v1 =>
 if v1=true then
  QbP p0>>=fun v2 =>
  some v2
 else
 some false
theorem QhE {p0 p1 r0} (hm:QbQ (p0,p1)=some r0):FQ 6 [(Qc.ex p0),(Qf p1)] (Qm r0):=by
 unfold QbQ at hm;exact fp (fn:=f6) rfl (ge 2 (gr 2 (bi hm fun v1 hx hm=>cp (QiB hx) (Qd 1 (gsb 8 hm (fun hm=>Qd 1 (bi hm fun v2 hx hm=>cp (QhD hx) (re 2 (Qj zf)))) (fun hm=>re 4 (Qj zf)))))))
def Qbw (x:Int):Option Bool :=
 match x with
 | p0 =>
 (if p0≥65 then
  some (decide (p0≤90))
 else
 some false
 )>>=fun (v1:Bool) =>
 (if v1=true then
  some true
 else
 if p0≥97 then
  some (decide (p0≤122))
 else
 some false
 )>>=fun (v2:Bool) =>
 if v2=true then
  some true
 else
 some (p0 == 95)
theorem Qgz {p0 r0} (hm:Qbw p0=some r0):FQ 167 [(numD .i32 p0)] (Qm r0):=by
 unfold Qbw at hm;exact fp (fn:=f167) rfl (ge 1 (Qi (Qdg (Qd 3 (bi hm fun v1 hs hm=>ZH (j:=6) (fun d=>⟨sl d 21 [(0,(.dat (numD .i32 p0))),(2,(Qm false)),(8,(Qm v1))],[]⟩) (fun d=>Qd 1 (bi hm fun v2 hs hm=>ZH (j:=14) (fun d=>⟨sl d 21 [(0,(.dat (numD .i32 p0))),(2,(Qm false)),(16,(Qm v2))],[]⟩) (fun d=>Qd 1 (gsb 17 hm (fun hm=>re 4 ⟨kr,Qj zf⟩) (fun hm=>re 4 ⟨kr,Qj zf⟩))) (fun hJ=>gsb 9 hs (fun hm=>Qd 7 zf) (fun hm=>Qd 3 (gs 12 hm (fun hm=>Qd 4 zf) (fun hm=>Qd 4 zf)))))) (fun hJ=>gs 5 hs (fun hm=>Qd 3 zf) (fun hm=>Qd 3 zf)))))))
def Qem (x:Int):Option Bool :=
 match x with
 | p0 =>
 if p0≥48 then
  some (decide (p0≤57))
 else
 some false
theorem Qiv {p0 r0} (hm:Qem p0=some r0):FQ 188 [(numD .i32 p0)] (Qm r0):=by
 unfold Qem at hm;exact fp (fn:=f188) rfl (ge 1 (gr 3 (gs 5 hm (fun hm=>re 4 (Qj zf)) (fun hm=>re 4 (Qj zf)))))
def Qdk (x:Int):Option Bool :=
 match x with
 | p0 =>
 Qbw p0>>=fun v1 =>
 if v1=true then
  some true
 else
 Qem p0>>=fun v2 =>
 some v2
theorem Qiw {p0 r0} (hm:Qdk p0=some r0):FQ 169 [(numD .i32 p0)] (Qm r0):=by
 unfold Qdk at hm;exact fp (fn:=f169) rfl (ge 1 (gr 1 (bi hm fun v1 hx hm=>cp (Qgz hx) (Qd 1 (gsb 5 hm (fun hm=>re 4 (Qj zf)) (fun hm=>Qd 1 (bi hm fun v2 hx hm=>cp (Qiv hx) (re 2 (Qj zf)))))))))
def Zv (x:(ByteArray × Nat)):Option ((Nat × ByteArray) ⊕ Nat) :=
 match x with
 | (p0,v201) =>
 if v201 < (p0).size then
  Qdk ((Utf8.decode p0 v201).1:Int)>>=fun v604 =>
  if v604=false then
   ssub p0 0 (v201:Int)>>=fun v605 =>
   some (Sum.inl ((v201+(Utf8.decode p0 v201).2),v605))
  else
  Zv (p0,(v201+(Utf8.decode p0 v201).2))
 else
 some (Sum.inr v201)
 partial_fixpoint
theorem Qab:∀ x r,Zv x=some r→match x with|(p0,v201)=>LQ f168 168 [1,0,1,0,0] 1 ⟨kp 21 [(0,(.dat (strD p0))),(1,(.dat (.raw (.func (.func 169) #[] #[])))),(8,(.ptr 0 0))],[(.map (iterE p0 v201))]⟩ (P2 .ret (fun (v601,v602) d=>⟨sl d 21 [(4,(.dat (strD v602)))],[(.map (iterE p0 v601))]⟩) (.exit 0) (fun v603 d=>⟨sl d 21 [(0,(.dat (strD p0)))],[(.map (iterE p0 v603))]⟩) r):=by
 refine Zv.partial_correctness _ (fun Zv Qab x r hm=>?_);obtain ⟨p0,v201⟩:=x;exact lp (Qi (R_G (Qja (s:=p0) (pos:=v201) (j:=0) hm (fun hm=>re 1 (Qi (Qb8 kr (Qk (Qn (ge 4 (gr 2 (bi hm fun v604 hx hm=>cp (Qiw hx) (re 1 (rin hm (fun hm=>gr 2 (bi hm fun v605 hx hm=>QG rfl (fun _=>Qi9 (b:=p0) (l:=0) (h:=(v201:Int)) hx kr rfl kr (Or.inl ⟨rfl,rfl⟩) (Or.inr ⟨_,.i64,rfl,kr⟩)) (re 1 (Qj zf)))) (fun hm=>Qk (Qab _ _ hm _ (prune_of2 [(.map (iterE p0 (v201+(Utf8.decode p0 v201).2)))] (fun _=>(pg_cons (purge_it _ _ _ _) pg_nil)) rfl))))))))))))) (fun hm=>re 1 (Qi (XN kr (QE zf)))))))
def JG (x:ByteArray):Option ByteArray :=
 match x with
 | p0 =>
 (
 Zv (p0,0)>>=fun out =>
 match out with
 | .inl (v601,v602) =>
  some v602
 | .inr (v603) =>
  some p0
 )
theorem QfF {p0 r0} (hm:JG p0=some r0):FQ 168 [(strD p0),(.raw (.func (.func 169) #[] #[]))] (.dat (strD r0)):=by
 unfold JG at hm;exact fp (fn:=f168) rfl (ge 1 (Qi (gr 1 (re 1 (Qn (ru2 hm (Qab _) (fun ⟨v601,v602⟩ d hm=>zf) (fun v603 d hm=>ge 2 (Qj zf)) (hst:=(prune_of2 [(.map (iterE p0 0))] (fun _=>(pg_cons (purge_it _ _ _ _) pg_nil)) rfl))))))))
def Qc6 (x:ByteArray):Option (Unit ⊕ Nat) :=
 match x with
 | p0 =>
 if (0:Nat) < (p0).size then
  Qbw ((Utf8.decode p0 (0:Nat)).1:Int)>>=fun v402 =>
  if v402=false then
   some (Sum.inl ())
  else
  some (Sum.inr ((0:Nat)+(Utf8.decode p0 (0:Nat)).2))
 else
 some (Sum.inr 0)
theorem Qhz:∀ p0 r,Qc6 p0=some r→LQ f131 131 [1,0,1,0,0] 2 ⟨kp 22 [(0,(.dat (strD p0))),(2,(.ptr 0 0)),(8,(.ptr 1 0))],[Qgo,(.map (iterE p0 0))]⟩ (P2 .ret (fun _ d=>⟨sl d 22 [(2,(.ptr 0 0)),(3,(Qe 0))],[Qgo,(.map (iterE p0 ((0:Nat)+(Utf8.decode p0 (0:Nat)).2)))]⟩) (.exit 0) (fun v401 d=>⟨sl d 22 [(0,(.dat (strD p0))),(2,(.ptr 0 0))],[Qgo,(.map (iterE p0 v401))]⟩) r):=by
 intro p0 r hm;unfold Qc6 at hm;exact lp (Qi (R_G (Qja (s:=p0) (pos:=(0:Nat)) (j:=1) hm (fun hm=>re 1 (Qi (Qb8 kr (Qk (Qn (ge 2 (Qi (gr 1 (bi hm fun v402 hx hm=>cp (Qgz hx) (re 1 (rin hm (fun hm=>ge 3 (Qj zf)) (fun hm=>Qk (QE zf))))))))))))) (fun hm=>re 1 (Qi (XN kr (QE zf)))))))
def Qe8 (x:ByteArray):Option (Qaf × Int) :=
 match x with
 | p0 =>
 (
 Qc6 p0>>=fun out =>
 match out with
 | .inl _ =>
  some ((⟨0,ByteArray.empty,0⟩:Qaf),0)
 | .inr (v401) =>
  JG p0>>=fun v403 =>
  some ((⟨1,v403,0⟩:Qaf),(v403.size:Int))
 )
theorem QiO {p0 r0 r1} (hm:Qe8 p0=some (r0,r1)):FQ 131 [(strD p0)] (.tup [(.dat (Qaf.toD r0)),(Qe r1)]):=by
 unfold Qe8 at hm;exact fp (fn:=f131) rfl (ge 2 (Qi (gr 1 (re 1 (Qn (ru2 hm (Qhz _) (fun _ d hm=>zf) (fun v401 d hm=>gr 1 (bi hm fun v403 hx hm=>cp (QfF hx) (re 1 (gr 3 (QG rfl (fun _=>QeO (b:=v403) kr rfl kr) (re 2 (Qj zf))))))) (hst:=(prune_of2 [Qgo,(.map (iterE p0 0))] (fun _=>(pg_cons kr (pg_cons (purge_it _ _ _ _) pg_nil))) rfl))))))))
def QdX (x:ByteArray):Option Bool :=
 match x with
 | p0 =>
 Qe8 p0>>=fun (v1,v2) =>
 if v2 > 0 then
  some (v2 == (p0.size:Int))
 else
 some false
theorem QiN {p0 r0} (hm:QdX p0=some r0):FQ 86 [(strD p0)] (Qm r0):=by
 unfold QdX at hm;exact fp (fn:=f86) rfl (ge 1 (gr 1 (bi2 hm fun v1 v2 hx hm=>cp (QiO hx) (re 6 (gr 3 (gs 12 hm (fun hm=>Qd 2 (QG rfl (fun _=>QeO (b:=p0) kr rfl kr) (re 3 (Qj zf)))) (fun hm=>re 6 (Qj zf))))))))
def QcE (x:Int):Option Bool :=
 match x with
 | p0 =>
 some (decide (p0 < 0))
theorem Qhv {p0 r0} (hm:QcE p0=some r0):FQ 163 [(Qf p0)] (Qm r0):=by
 unfold QcE at hm;exact fp (fn:=f163) rfl (ge 1 (ge 3 (Qj zf)))
def QC (x:((List Int) × Int)):Option (Int ⊕ Unit) :=
 match x with
 | (p0,v201) =>
 if v201 < (p0.length:Int) then
  idx p0 v201>>=fun v602 =>
  QcE v602>>=fun v603 =>
  if v603=true then
   some (Sum.inl v201)
  else
  QC (p0,(W (v201+1)))
 else
 some (Sum.inr ())
 partial_fixpoint
theorem ZX:∀ x r,QC x=some r→match x with|(p0,v201)=>LQ f187 187 [1,0,1,0,0] 0 ⟨kp 19 [(0,(La p0)),(1,(.dat (.raw (.func (.func 163) #[] #[])))),(7,(Qe (p0.length:Int))),(8,(Qe v201))],[]⟩ (P2 .ret (fun v601 d=>⟨sl d 19 [(4,(Qe v601))],[]⟩) (.exit 0) (fun _ d=>⟨sl d 19 [],[]⟩) r):=by
 refine QC.partial_correctness _ (fun QC ZX x r hm=>?_);obtain ⟨p0,v201⟩:=x;exact lp (ge 1 (Qi (ri hm (fun hm=>Qk (Qi (Qn (ge 2 (gr 3 (QV 1 Qf hm fun v602 hm=>Qd 1 (bi hm fun v603 hx hm=>cp (Qhv hx) (Yf (rib hm (fun hm=>ge 2 (Qj zf)) (fun hm=>Qk (R_G (re 2 (ZX _ _ hm _ kr))))))))))))) (fun hm=>QE zf))))
def Zy (x:(List Int)):Option Int :=
 match x with
 | p0 =>
 (
 QC (p0,0)>>=fun out =>
 match out with
 | .inl v601 =>
  some v601
 | .inr (_) =>
  some (-1)
 )
theorem Qa8 {p0 r0} (hm:Zy p0=some r0):FQ 187 [(Lb p0),(.raw (.func (.func 163) #[] #[]))] (Qe r0):=by
 unfold Zy at hm;exact fp (fn:=f187) rfl (ge 1 (Qi (gr 1 (QH Qf p0 (re 1 (Qn (ru2 hm (ZX _) (fun v601 d hm=>zf) fun _ d hm=>ge 1 (Qj zf))))))))
def Q2 (x:(List Int)):Option Bool :=
 match x with
 | p0 =>
 Zy p0>>=fun v1 =>
 some (decide (v1≥0))
theorem Qax {p0 r0} (hm:Q2 p0=some r0):FQ 162 [(Lb p0),(.raw (.func (.func 163) #[] #[]))] (Qm r0):=by
 unfold Q2 at hm;exact fp (fn:=f162) rfl (ge 1 (gr 2 (bi hm fun v1 hx hm=>cp (Qa8 hx) (re 2 (Qj zf)))))
def QcF (x:Int):Option Bool :=
 match x with
 | p0 =>
 some (decide (p0 > 65536))
theorem Qhw {p0 r0} (hm:QcF p0=some r0):FQ 164 [(Qf p0)] (Qm r0):=by
 unfold QcF at hm;exact fp (fn:=f164) rfl (ge 1 (ge 3 (Qj zf)))
def QD (x:((List Int) × Int)):Option (Int ⊕ Unit) :=
 match x with
 | (p0,v201) =>
 if v201 < (p0.length:Int) then
  idx p0 v201>>=fun v602 =>
  QcF v602>>=fun v603 =>
  if v603=true then
   some (Sum.inl v201)
  else
  QD (p0,(W (v201+1)))
 else
 some (Sum.inr ())
 partial_fixpoint
theorem ZY:∀ x r,QD x=some r→match x with|(p0,v201)=>LQ f187 187 [1,0,1,0,0] 0 ⟨kp 19 [(0,(La p0)),(1,(.dat (.raw (.func (.func 164) #[] #[])))),(7,(Qe (p0.length:Int))),(8,(Qe v201))],[]⟩ (P2 .ret (fun v601 d=>⟨sl d 19 [(4,(Qe v601))],[]⟩) (.exit 0) (fun _ d=>⟨sl d 19 [],[]⟩) r):=by
 refine QD.partial_correctness _ (fun QD ZY x r hm=>?_);obtain ⟨p0,v201⟩:=x;exact lp (ge 1 (Qi (ri hm (fun hm=>Qk (Qi (Qn (ge 2 (gr 3 (QV 1 Qf hm fun v602 hm=>Qd 1 (bi hm fun v603 hx hm=>cp (Qhw hx) (Yf (rib hm (fun hm=>ge 2 (Qj zf)) (fun hm=>Qk (R_G (re 2 (ZY _ _ hm _ kr))))))))))))) (fun hm=>QE zf))))
def Zz (x:(List Int)):Option Int :=
 match x with
 | p0 =>
 (
 QD (p0,0)>>=fun out =>
 match out with
 | .inl v601 =>
  some v601
 | .inr (_) =>
  some (-1)
 )
theorem Qa9 {p0 r0} (hm:Zz p0=some r0):FQ 187 [(Lb p0),(.raw (.func (.func 164) #[] #[]))] (Qe r0):=by
 unfold Zz at hm;exact fp (fn:=f187) rfl (ge 1 (Qi (gr 1 (QH Qf p0 (re 1 (Qn (ru2 hm (ZY _) (fun v601 d hm=>zf) fun _ d hm=>ge 1 (Qj zf))))))))
def Q3 (x:(List Int)):Option Bool :=
 match x with
 | p0 =>
 Zz p0>>=fun v1 =>
 some (decide (v1≥0))
theorem Qay {p0 r0} (hm:Q3 p0=some r0):FQ 162 [(Lb p0),(.raw (.func (.func 164) #[] #[]))] (Qm r0):=by
 unfold Q3 at hm;exact fp (fn:=f162) rfl (ge 1 (gr 2 (bi hm fun v1 hx hm=>cp (Qa9 hx) (re 2 (Qj zf)))))
def Qar (x:(List Int)):Option Int :=
 match x with
 | p0 =>
 Q2 p0>>=fun v1 =>
 if v1=true then
  some 6
 else
 Q3 p0>>=fun v2 =>
 if v2=true then
  some 7
 else
 some 0
theorem Qfh {p0 r0} (hm:Qar p0=some r0):FQ 126 [(Lb p0)] (Qe r0):=by
 unfold Qar at hm;exact fp (fn:=f126) rfl (ge 1 (Qi (Qn (gr 1 (bi hm fun v1 hx hm=>cp (Qax hx) (re 1 (rib hm (fun hm=>ge 1 (Qj zf)) (fun hm=>gr 1 (bi hm fun v2 hx hm=>cp (Qay hx) (re 1 (rib hm (fun hm=>ge 1 (Qj zf)) (fun hm=>Qk (ge 1 (Qj zf))))))))))))))
def Q8 (x:((List Int) × Int × Int)):Option (Int ⊕ Unit) :=
 match x with
 | (p0,p1,v201) =>
 if v201 < (p0.length:Int) then
  idx p0 v201>>=fun v602 =>
  if p1=v602 then
   some (Sum.inl v201)
  else
  Q8 (p0,p1,(W (v201+1)))
 else
 some (Sum.inr ())
 partial_fixpoint
theorem JA:∀ x r,Q8 x=some r→match x with|(p0,p1,v201)=>LQ f165 165 [1,0,1,0,0] 0 ⟨kp 19 [(0,(La p0)),(1,(Qe p1)),(7,(Qe (p0.length:Int))),(8,(Qe v201))],[]⟩ (P2 .ret (fun v601 d=>⟨sl d 19 [(4,(Qe v601))],[]⟩) (.exit 0) (fun _ d=>⟨sl d 19 [],[]⟩) r):=by
 refine Q8.partial_correctness _ (fun Q8 JA x r hm=>?_);obtain ⟨p0,p1,v201⟩:=x;exact lp (ge 1 (Qi (ri hm (fun hm=>Qk (Qi (Qn (ge 2 (gr 3 (QV 1 Qf hm fun v602 hm=>re 2 (riq hm (fun hm=>ge 2 (Qj zf)) (fun hm=>Qk (R_G (re 2 (JA _ _ hm _ kr))))))))))) (fun hm=>QE zf))))
def X8 (x:((List Int) × Int)):Option Int :=
 match x with
 | (p0,p1) =>
 (
 Q8 (p0,p1,0)>>=fun out =>
 match out with
 | .inl v601 =>
  some v601
 | .inr (_) =>
  some (-1)
 )
theorem Qfj {p0 p1 r0} (hm:X8 (p0,p1)=some r0):FQ 165 [(Lb p0),(Qf p1)] (Qe r0):=by
 unfold X8 at hm;exact fp (fn:=f165) rfl (ge 1 (Qi (gr 1 (QH Qf p0 (re 1 (Qn (ru2 hm (JA _) (fun v601 d hm=>zf) fun _ d hm=>ge 1 (Qj zf))))))))
def YI (x:((List Int) × Int)):Option Bool :=
 match x with
 | (p0,p1) =>
 X8 (p0,p1)>>=fun v1 =>
 some (decide (v1≥0))
theorem Qek {p0 p1 r0} (hm:YI (p0,p1)=some r0):FQ 127 [(Lb p0),(Qf p1)] (Qm r0):=by
 unfold YI at hm;exact fp (fn:=f127) rfl (ge 1 (gr 2 (bi hm fun v1 hx hm=>cp (Qfj hx) (re 2 (Qj zf)))))
def QdZ (x:(Int × Int × Int)):Option (Int × Bool) :=
 match x with
 | (p0,p1,p2) =>
 ((if p0 < 0 then
  some true
 else
 some (decide (p1 < 0))
 )>>=fun (v2:Bool) =>
 (if v2=true then
  some true
 else
 some (decide (p0 > p2))
 )>>=fun (v3:Bool) =>
 (if v3=true then
  some true
 else
 some (decide (p1 > p2))
 )>>=fun (v4:Bool) =>
 if v4=true then
  some true
 else
 if p1 > 0 then
  quoM p2 p1>>=fun v5 =>
  some (decide (p0 > v5))
 else
 some false
 )>>=fun (v1:Bool) =>
 if v1=true then
  some (0,false)
 else
 some ((W (p0 * p1)),true)
theorem QiQ {p0 p1 p2 r0 r1} (hm:QdZ (p0,p1,p2)=some (r0,r1)):FQ 130 [(Qf p0),(Qf p1),(Qf p2)] (.tup [(Qe r0),(Qm r1)]):=by
 unfold QdZ at hm
 exact fp (fn:=f130) rfl (ge 2 (Qi (Qi (bi hm fun v1 hs hm=>QY (fun d=>⟨sl d 38 [(0,(Qe p0)),(1,(Qe p1)),(34,(Qm v1))],[]⟩) (have hm:=hs;Qdg (Qd 3 (bi hm fun v2 hs hm=>ZH (j:=6) (fun d=>⟨sl d 38 [(0,(Qe p0)),(1,(Qe p1)),(2,(Qe p2)),(13,(Qm v2))],[]⟩) (fun d=>Qd 1 (bi hm fun v3 hs hm=>ZH (j:=11) (fun d=>⟨sl d 38 [(0,(Qe p0)),(1,(Qe p1)),(2,(Qe p2)),(18,(Qm v3))],[]⟩) (fun d=>Qd 1 (bi hm fun v4 hs hm=>ZH (j:=16) (fun d=>⟨sl d 38 [(0,(Qe p0)),(1,(Qe p1)),(2,(Qe p2)),(23,(Qm v4))],[]⟩) (fun d=>Qd 1 (gsb 24 hm (fun hm=>re 10 ⟨kr,zf⟩) (fun hm=>Qd 3 (gs 27 hm (fun hm=>Qd 3 (bi hm fun v5 hx hm=>QG rfl (fun _=>Qjq (a:=p2) (b:=p1) hx rfl kr kr) (re 3 ⟨kr,zf⟩))) (fun hm=>re 7 ⟨kr,zf⟩))))) (fun hJ=>gsb 19 hs (fun hm=>Qd 4 zf) (fun hm=>Qd 4 zf)))) (fun hJ=>gsb 14 hs (fun hm=>Qd 4 zf) (fun hm=>Qd 4 zf)))) (fun hJ=>gs 10 hs (fun hm=>Qd 3 zf) (fun hm=>Qd 3 zf))))) (fun d=>rib hm (fun hm=>ge 2 (Qj zf)) (fun hm=>Qk (ge 5 (Qj zf))))))))
def QbE (x:(Int × Int)):Option (Int × Bool) :=
 match x with
 | (p0,p1) =>
 QdZ (p0,p1,65536)>>=fun (v1,v2) =>
 some (v1,v2)
theorem QgO {p0 p1 r0 r1} (hm:QbE (p0,p1)=some (r0,r1)):FQ 129 [(Qf p0),(Qf p1)] (.tup [(Qe r0),(Qm r1)]):=by
 unfold QbE at hm;exact fp (fn:=f129) rfl (ge 2 (gr 2 (bi2 hm fun v1 v2 hx hm=>cp (QiQ hx) (re 4 (Qj zf)))))
def QL (x:((List Int) × Int × Int)):Option (Int ⊕ Int) :=
 match x with
 | (p0,v201,v202) =>
 if v202 < (p0.length:Int) then
  idx p0 v202>>=fun v603 =>
  QbE (v201,v603)>>=fun (v604,v605) =>
  if v605=false then
   some (Sum.inl v604)
  else
  QL (p0,v604,(W (v202+1)))
 else
 some (Sum.inr v201)
 partial_fixpoint
theorem Y8:∀ x r,QL x=some r→match x with|(p0,v201,v202)=>LQ f166 166 [1,1,0,1,0,0] 0 ⟨kp 31 [(2,(.dat (.raw (.func (.func 129) #[] #[])))),(8,(Qe v201)),(13,(La p0)),(14,(Qe (p0.length:Int))),(15,(Qe v202))],[]⟩ (P2 .ret (fun v601 d=>⟨sl d 31 [(6,(Qe v601)),(7,(Qm false))],[]⟩) (.exit 0) (fun v602 d=>⟨sl d 31 [(8,(Qe v602))],[]⟩) r):=by
 refine QL.partial_correctness _ (fun QL Y8 x r hm=>?_);obtain ⟨p0,v201,v202⟩:=x;exact lp (ge 1 (Qi (ri hm (fun hm=>Qk (Qi (Qn (Qi (R_G (QV 1 Qf hm fun v603 hm=>re 2 (gr 3 (bi2 hm fun v604 v605 hx hm=>cp (QgO hx) (re 5 (ge 2 (rin hm (fun hm=>ge 3 (Qj zf)) (fun hm=>Qk (R_G (re 2 (Y8 _ _ hm _ kr))))))))))))))) (fun hm=>QE zf))))
def YD (x:((List Int) × Int)):Option (Int × Bool) :=
 match x with
 | (p0,p1) =>
 (
 QL (p0,p1,0)>>=fun out =>
 match out with
 | .inl v601 =>
  some (v601,false)
 | .inr (v602) =>
  some (v602,true)
 )
theorem QcY {p0 p1 r0 r1} (hm:YD (p0,p1)=some (r0,r1)):FQ 166 [(Lb p0),(Qf p1),(.raw (.func (.func 129) #[] #[]))] (.tup [(Qe r0),(Qm r1)]):=by
 unfold YD at hm;exact fp (fn:=f166) rfl (ge 2 (ge 3 (Qi (gr 1 (QH Qf p0 (re 1 (Qn (ru2 hm (Y8 _) (fun v601 d hm=>zf) fun v602 d hm=>ge 3 (Qj zf)))))))))
def YC (x:((List Int) × Int)):Option (Int × Int) :=
 match x with
 | (p0,p1) =>
 Qar p0>>=fun v1 =>
 if v1≠0 then
  some (0,v1)
 else
 YD (p0,p1)>>=fun (v2,v3) =>
 if v3=false then
  some (0,7)
 else
 some (v2,0)
theorem QcX {p0 p1 r0 r1} (hm:YC (p0,p1)=some (r0,r1)):FQ 128 [(Lb p0),(Qf p1),(.raw (.func (.func 129) #[] #[]))] (.tup [(Qe r0),(Qe r1)]):=by
 unfold YC at hm;exact fp (fn:=f128) rfl (ge 2 (Qi (gr 1 (bi hm fun v1 hx hm=>cp (Qfh hx) (re 1 (ge 2 (rix hm (fun hm=>ge 3 (Qj zf)) (fun hm=>Qk (gr 3 (bi2 hm fun v2 v3 hx hm=>cp (QcY hx) (re 5 (Qi (ge 2 (rin hm (fun hm=>ge 2 (Qj zf)) (fun hm=>Qk (ge 3 (Qj zf)))))))))))))))))
def J8 (x:(List Int)):Option (Int × Int) :=
 match x with
 | p0 =>
 Qar p0>>=fun v1 =>
 (if v1=0 then
  YI (p0,0)>>=fun v3 =>
  some v3
 else
 some false
 )>>=fun (v2:Bool) =>
 if v2=true then
  some (0,0)
 else
 YC (p0,1)>>=fun (v4,v5) =>
 some (v4,v5)
theorem QfP {p0 r0 r1} (hm:J8 p0=some (r0,r1)):FQ 83 [(Lb p0)] (.tup [(Qe r0),(Qe r1)]):=by
 unfold J8 at hm;exact fp (fn:=f83) rfl (ge 2 (Qi (gr 1 (bi hm fun v1 hx hm=>cp (Qfh hx) (re 1 (Qi (bi hm fun v2 hs hm=>QY (fun d=>⟨sl d 17 [(0,(La p0)),(12,(Qm v2))],[]⟩) (have hm:=hs;R_G (Qd 3 (gsq 9 hm (fun hm=>Qd 1 (bi hm fun v3 hx hm=>cp (Qek hx) (re 1 zf))) (fun hm=>re 3 zf)))) (fun d=>rib hm (fun hm=>ge 2 (Qj zf)) (fun hm=>Qk (gr 1 (bi2 hm fun v4 v5 hx hm=>cp (QcX hx) (re 4 (Qj zf)))))))))))))
def Zd (x:(List Int)):Option Int :=
 match x with
 | p0 =>
 J8 p0>>=fun (v1,v2) =>
 (if v2≠6 then
  some (decide ((p0.length:Int) > 16))
 else
 some false
 )>>=fun (v3:Bool) =>
 if v3=true then
  some 7
 else
 some v2
theorem ZF {p0 r0} (hm:Zd p0=some r0):FQ 69 [(Lb p0)] (Qe r0):=by
 unfold Zd at hm;exact fp (fn:=f69) rfl (ge 1 (gr 1 (bi2 hm fun v1 v2 hx hm=>cp (QfP hx) (re 5 (Qi (Qi (bi hm fun v3 hs hm=>QY (fun d=>⟨sl d 18 [(4,(Qe v2)),(16,(Qm v3))],[]⟩) (have hm:=hs;R_G (Qd 3 (gsx 12 hm (fun hm=>Qd 1 (QH Qf p0 (re 2 zf))) (fun hm=>re 4 zf)))) (fun d=>rib hm (fun hm=>ge 1 (Qj zf)) (fun hm=>Qk (ge 2 (Qj zf)))))))))))
def Z8 (x:(List Int)):Option Int :=
 match x with
 | p0 =>
 Zd p0>>=fun v1 =>
 if v1≠0 then
  some 0
 else
 J8 p0>>=fun (v2,v3) =>
 some v2
theorem QaQ {p0 r0} (hm:Z8 p0=some r0):FQ 45 [(Lb p0)] (Qe r0):=by
 unfold Z8 at hm;exact fp (fn:=f45) rfl (ge 1 (Qi (gr 1 (bi hm fun v1 hx hm=>cp (ZF hx) (re 1 (rix hm (fun hm=>ge 1 (Qj zf)) (fun hm=>Qk (gr 1 (bi2 hm fun v2 v3 hx hm=>cp (QfP hx) (re 5 (ge 2 (Qj zf))))))))))))
def Ja (x:Qo):Option Int :=
 match x with
 | p0 =>
 Zd p0.shape>>=fun v1 =>
 if v1≠0 then
  some v1
 else
 Z8 p0.shape>>=fun v2 =>
 if (p0.data.length:Int)≠v2 then
  some 5
 else
 some 0
theorem QfX {p0 r0} (hm:Ja p0=some r0):FQ 87 [(Qo.toD p0)] (Qe r0):=by
 unfold Ja at hm;exact fp (fn:=f87) rfl (ge 2 (Qi (gr 2 (bi hm fun v1 hx hm=>cp (ZF hx) (re 1 (ge 2 (rix hm (fun hm=>ge 2 (Qj zf)) (fun hm=>Qk (Qi (Qi (Yv (Qd 2 (QH Qf p0.data (Qd 2 (bi hm fun v2 hx hm=>cp (QaQ hx) (re 1 ⟨kr,rix hm (fun hm=>ge 1 (Qj zf)) (fun hm=>Qk (ge 1 (Qj zf)))⟩))))))))))))))))
def Qdj (x:Qg):Option Bool :=
 match x with
 | p0 =>
 QdX p0.name>>=fun v1 =>
 if v1=true then
  Ja (⟨p0.value.shape,p0.value.data⟩:Qo)>>=fun v2 =>
  some (v2 == 0)
 else
 some false
theorem Qit {p0 r0} (hm:Qdj p0=some r0):FQ 56 [(Qg.toD p0)] (Qm r0):=by
 unfold Qdj at hm;exact fp (fn:=f56) rfl (ge 2 (gr 2 (bi hm fun v1 hx hm=>cp (QiN hx) (Qd 1 (gsb 6 hm (fun hm=>Qd 2 (bi hm fun v2 hx hm=>cp (QfX hx) (re 3 (Qj zf)))) (fun hm=>re 6 (Qj zf)))))))
def Yk (x:(List Int)):Option (List Int) :=
 match x with
 | p0 =>
 makeM 8 (p0.length:Int) 0>>=fun v1 =>
 QS ((cpM v1 p0).length=v1.length)>>=fun _ =>
 some (cpM v1 p0)
theorem Qd1 {p0 r0} (hm:Yk p0=some r0):FQ 70 [(Lb p0)] (La r0):=by
 unfold Yk at hm;exact fp (fn:=f70) rfl (ge 1 (gr 1 (QH Qf p0 (bi hm fun v1 hx hm=>ZR (v:=.arr 0 0 v1.length v1.length) (fun H=>H++[.box (cellsOf Qf v1)]) rfl kr (by intro K hk; exact QeP 0 Qf (z:=0) (n:=(p0.length:Int)) (bytes:=8) hx (e:=3) kr kr kr kr rfl rfl kr kr hk) (re 1 (gr 2 (ZR (v:=Qe ((min p0.length v1.length:Nat):Int)) (fun H=>H.set 0 (.box (cellsOf Qf (cpM v1 p0)))) rfl kr (fun _=>QiT Qf (d:=v1) (l:=p0) (e:=3) (i:=0) (m:=v1.length) (cap:=v1.length) zY rfl kr kr rfl kr kr kr) (Yf (ge 2 (Qj (gi hm fun hl2 hm=>(by obtain rfl:=Qij hm; exact ⟨trivial,ZT [(.arr 0 0 v1.length v1.length)] kr (po_arr (pc_arr Qf (cpM v1 p0) hl2 zY kr))⟩))))))))))))
def YX (x:(List Int)):Option (List Int) :=
 match x with
 | p0 =>
 makeM 8 (p0.length:Int) 0>>=fun v1 =>
 QS ((cpM v1 p0).length=v1.length)>>=fun _ =>
 some (cpM v1 p0)
theorem Qds {p0 r0} (hm:YX p0=some r0):FQ 132 [(Lb p0)] (La r0):=by
 unfold YX at hm;exact fp (fn:=f132) rfl (ge 1 (gr 1 (QH Qf p0 (bi hm fun v1 hx hm=>ZR (v:=.arr 0 0 v1.length v1.length) (fun H=>H++[.box (cellsOf Qf v1)]) rfl kr (by intro K hk; exact QeP 0 Qf (z:=0) (n:=(p0.length:Int)) (bytes:=8) hx (e:=2) kr kr kr kr rfl rfl kr kr hk) (re 1 (gr 2 (ZR (v:=Qe ((min p0.length v1.length:Nat):Int)) (fun H=>H.set 0 (.box (cellsOf Qf (cpM v1 p0)))) rfl kr (fun _=>QiT Qf (d:=v1) (l:=p0) (e:=2) (i:=0) (m:=v1.length) (cap:=v1.length) zY rfl kr kr rfl kr kr kr) (Yf (ge 2 (Qj (gi hm fun hl2 hm=>(by obtain rfl:=Qij hm; exact ⟨trivial,ZT [(.arr 0 0 v1.length v1.length)] kr (po_arr (pc_arr Qf (cpM v1 p0) hl2 zY kr))⟩))))))))))))
def X4 (x:Qo):Option Qo :=
 match x with
 | p0 =>
 Yk p0.shape>>=fun v1 =>
 YX p0.data>>=fun v2 =>
 some (⟨v1,v2⟩:Qo)
theorem Qgx {p0 r0} (hm:X4 p0=some r0):FQ 88 [(Qo.toD p0)] (.dat (Qo.toD r0)):=by
 unfold X4 at hm;exact fp (fn:=f88) rfl (ge 2 (Qi (Yv (Qd 2 (bi hm fun v1 hx hm=>cp (Qd1 hx) (Qd 2 (bi hm fun v2 hx hm=>cp (Qds hx) (re 2 ⟨kr,Qj zf⟩))))))))
def Qcu (x:Qg):Option Qg :=
 match x with
 | p0 =>
 X4 (⟨p0.value.shape,p0.value.data⟩:Qo)>>=fun v1 =>
 some (⟨p0.name,v1⟩:Qg)
theorem QhS {p0 r0} (hm:Qcu p0=some r0):FQ 57 [(Qg.toD p0)] (.dat (Qg.toD r0)):=by
 unfold Qcu at hm;exact fp (fn:=f57) rfl (ge 2 (Qi (Yv (Qd 4 (bi hm fun v1 hx hm=>cp (Qgx hx) (re 2 ⟨kr,Qj zf⟩))))))
def X6 (x:((List Qg) × ByteArray × (List (ByteArray × Int)) × (List Int) × (List Int))):Option ((Int × Bool)) :=
 match x with
 | (q0,q1,q2,q3,q4) =>
 some (lookS q2 q1)>>=fun ((v1,v2):(Int × Bool)) =>
 some (v1,v2)
theorem Qfa {q0 q1 q2 q3 q4 v5001 v5002} (hm:X6 (q0,q1,q2,q3,q4)=some (v5001,v5002)):PC prog env 55 [(.agg [(Qik q0),(.mapv 0)]),(.dat (strD q1))] [(.map (smE q2)),(.tok 64 q0.length),(Zp q0),(.tok 64 (([]:List Qg).length)),(Qco q1 q3 q4)] (.tup [(Qe v5001),(Qm v5002)]) [(.map (smE q2)),(.tok 64 q0.length),(Zp q0),(.tok 64 (([]:List Qg).length)),(Qco q1 q3 q4),(Zp q0)]:=by
 unfold X6 at hm;exact PC_sxB (fn:=f55) rfl (ge 3 (gr 3 (bi2 hm fun v1 v2 hx hm=>QG (v:=.tup [Qe v1,Qm v2]) rfl (fun _=>Qie (i:=0) (kt:=9) (e:=3) (l:=q2) (s:=q1) hx kr kr kr rfl kr kr kr) (re 5 (ge 4 (Qj zf))))))
def Yl (x:((List Qg) × (List (ByteArray × Int)) × (List Qg) × Int)):Option (((List (ByteArray × Int)) × (List Qg) × ByteArray × (List Int) × (List Int) × (List Qg)) ⊕ ((List (ByteArray × Int)) × (List Qg))) :=
 match x with
 | (q0,v201,v202,v203) =>
 if v203 < (q0.length:Int) then
  idx q0 v203>>=fun v609 =>
  X6 (v202,v609.name,v201,v609.value.shape,v609.value.data)>>=fun (v610,v611) =>
  (if v611=true then
   some true
  else
  Qdj v609>>=fun v613 =>
  some (!v613)
  )>>=fun (v612:Bool) =>
  if v612=true then
   some (Sum.inl (v201,v202,v609.name,v609.value.shape,v609.value.data,v202))
  else
  Qcu v609>>=fun v614 =>
  app 64 v202 ([v614]:List Qg)>>=fun v615 =>
  Yl (q0,(setS v201 v609.name v203),v615,(W (v203+1)))
 else
 some (Sum.inr (v201,v202))
 partial_fixpoint
theorem Qb9:∀ x r,Yl x=some r→match x with|(q0,v201,v202,v203)=>LQ f27 27 [1,1,0,1,0,0] 4 ⟨kp 47 [(4,(.ptr 2 0)),(11,(Xs q0)),(12,(Qe (q0.length:Int))),(13,(Qe v203))],[(.map (smE v201)),(.tok 64 v202.length),(Zp v202),(.tok 64 (([]:List Qg).length))]⟩ (P2 .ret (fun (v601,v602,v603,v604,v605,v606) d=>⟨sl d 47 [(2,(.dat (.raw (.pointer none)))),(3,(Qe 3))],(Qhh v601 v602.length v602 v603 v604 v605 v606)⟩) (.exit 0) (fun (v607,v608) d=>⟨sl d 47 [(4,(.ptr 2 0))],[(.map (smE v607)),(.tok 64 v608.length),(Zp v608),(.tok 64 (([]:List Qg).length))]⟩) r):=by
 refine Yl.partial_correctness _ (fun Yl Qb9 x r hm=>?_);obtain ⟨q0,v201,v202,v203⟩:=x
 exact lp (ge 1 (Qi (ri hm (fun hm=>Qk (Qi (Qn (gr 1 (QV 3 Qg.toD hm fun v609 hm=>re 4 (Qi (gr 3 (bi2 hm fun v610 v611 hx hm=>QM (Qfa hx) (re 5 (Qi (bi hm fun v612 hs hm=>QY (fun d=>⟨sl d 47 [(4,(.ptr 2 0)),(5,(Qe v203)),(6,(.ptr 4 0)),(11,(Xs q0)),(12,(Qe (q0.length:Int))),(13,(Qe v203)),(30,(Qm v612))],[(.map (smE v201)),(.tok 64 v202.length),(Zp v202),(.tok 64 (([]:List Qg).length)),(Qco v609.name v609.value.shape v609.value.data),(Zp v202)]⟩) (have hm:=hs;R_G (Qd 2 (gsb 26 hm (fun hm=>re 4 zf) (fun hm=>Qd 1 (bi hm fun v613 hx hm=>cp (Qit hx) (re 2 zf)))))) (fun d=>rib hm (fun hm=>ge 2 (Qj zf)) (fun hm=>Qk (Yv (Qd 7 (bi hm fun v614 hx hm=>cp (QhS hx) (Qd 1 (bi hm fun v615 hx hm=>Y9 64 3 64 1 Qg.toD v202 ([v614]:List Qg) v615 (xs:=(List.map Qg.toD) v202) (es:=(List.map Qg.toD) ([v614]:List Qg)) (L:=(List.map Qg.toD)) zY rfl rfl Qg.fit hx (Qd 3 (ZR (fun H=>H.set 0 (.map (smE (setS v201 v609.name v203)))) rfl kr (fun _=>Qjk (i:=0) (kt:=9) (e:=3) (l:=v201) (s:=v609.name) (n:=v203) kr kr rfl kr kr kr kr) (Yf ⟨kr,R_G (re 2 (Qb9 _ _ hm _ (prune_of2 [(.map (smE (setS v201 v609.name v203))),(.tok 64 v615.length),(Zp v615),(.tok 64 (([]:List Qg).length))] (fun _=>(pg_cons (purge_sm _ _ _) (pg_cons kr (pg_cons kr (pg_cons kr pg_nil))))) rfl)))⟩))))))))))))))))))))) (fun hm=>QE zf))))
def Qb1 (x:(List Qg)):Option (((List (ByteArray × Int)) × (List Qg) × ByteArray × (List Int) × (List Int) × (List Qg)) ⊕ ((List (ByteArray × Int)) × (List Qg) × (List Qg))) :=
 match x with
 | q0 =>
 (
 Yl (q0,([]:List (ByteArray × Int)),([]:List Qg),0)>>=fun out =>
 match out with
 | .inl (v601,v602,v603,v604,v605,v606) =>
  some (Sum.inl (v601,v602,v603,v604,v605,v606))
 | .inr ((v607,v608)) =>
  some (Sum.inr (v607,v608,v608))
 )
theorem Qfm {q0 r} (hm:Qb1 q0=some r):PC prog env 27 [(Xs q0)] [] (match r with|.inl (v5001,v5002,v5003,v5004,v5005,v5006)=>(.tup [(.dat (.raw (.pointer none))),(Qe 3)])|.inr ((v5007,v5008,v5009))=>(.tup [(.ptr 4 0),(Qe 0)])) (match r with|.inl (v5001,v5002,v5003,v5004,v5005,v5006)=>(Qhh v5001 v5002.length v5002 v5003 v5004 v5005 v5006)|.inr ((v5007,v5008,v5009))=>(Qcn v5007 v5008.length v5008 v5009)):=by
 unfold Qb1 at hm;exact PC_sxB (fn:=f27) rfl (ge 2 (gr 1 (re 3 (Qi (gr 1 (QH Qg.toD q0 (re 1 (Qn (ru2 hm (Qb9 _) (fun ⟨v601,v602,v603,v604,v605,v606⟩ d hm=>zf) (fun ⟨v607,v608⟩ d hm=>ge 5 (Qj zf)) (hst:=(prune_of2 [(.map (smE ([]:List (ByteArray × Int)))),(.tok 64 (([]:List Qg).length)),(.box [(.vec 1 []),(.mapv 0)]),(.tok 64 (([]:List Qg).length))] (fun _=>(pg_cons (purge_sm _ _ _) (pg_cons kr (pg_cons kr (pg_cons kr pg_nil))))) rfl)))))))))))
def Jn (x:(List Qg)):Option (((List (ByteArray × Int)) × (List Qg) × ByteArray × (List Int) × (List Int) × (List Qg)) ⊕ ((List (ByteArray × Int)) × (List Qg) × (List Qg))) :=
 match x with
 | q0 =>
 (
 Qb1 q0>>=fun out =>
 match out with
 | .inl (v1,v2,v3,v4,v5,v6) =>
  some (Sum.inl (v1,v2,v3,v4,v5,v6))
 | .inr ((v7,v8,v9)) =>
  some (Sum.inr (v7,v8,v9))
 )
def QdQ:(List Qg)→(((List (ByteArray × Int)) × (List Qg) × ByteArray × (List Int) × (List Int) × (List Qg)) ⊕ ((List (ByteArray × Int)) × (List Qg) × (List Qg)))→Prop:=fun x r=>match x with
 | q0=>PC prog env 7 [(Xs q0)] [] (match r with|.inl (v5001,v5002,v5003,v5004,v5005,v5006)=>(.dat (.raw (.pointer none)))|.inr ((v5007,v5008,v5009))=>(.ptr 4 0)) (match r with|.inl (v5001,v5002,v5003,v5004,v5005,v5006)=>(Qhh v5001 v5002.length v5002 v5003 v5004 v5005 v5006)|.inr ((v5007,v5008,v5009))=>(Qcn v5007 v5008.length v5008 v5009))
theorem Qd4:∀ x r,Jn x=some r→QdQ x r:=by
 intro q0 r hm;unfold Jn at hm;unfold QdQ;refine PC_sxB (fn:=f7) rfl ?_;exact ge 1 (gr 1 (bs hm (fun ⟨v1,v2,v3,v4,v5,v6⟩ hx hm=>QM (Qfm hx) (re 5 (Qi (ge 2 (Qb8 kr (ge 1 (Qj zf))))))) fun ⟨v7,v8,v9⟩ hx hm=>QM (Qfm hx) (re 5 (Qi (ge 2 (XN kr (Qk (ge 2 (Qj zf)))))))))
def Qcs (x:(List Int)):Option Qo :=
 match x with
 | p0 =>
 YX p0>>=fun v1 =>
 some (⟨([(p0.length:Int)]:List Int),v1⟩:Qo)
theorem Qhm {p0 r0} (hm:Qcs p0=some r0):FQ 89 [(Lb p0)] (.dat (Qo.toD r0)):=by
 unfold Qcs at hm;exact fp (fn:=f89) rfl (ge 1 (gr 1 (QH Qf p0 (Qd 2 (bi hm fun v1 hx hm=>cp (Qds hx) (re 2 (Qj zf)))))))
def Qcr (x:Int):Option Qo :=
 match x with
 | p0 =>
 some (⟨([]:(List Int)),([p0]:List Int)⟩:Qo)
theorem Qhl {p0 r0} (hm:Qcr p0=some r0):FQ 90 [(Qf p0)] (.dat (Qo.toD r0)):=by
 unfold Qcr at hm;exact fp (fn:=f90) rfl (ge 1 (ge 4 (Qj zf)))
def YH (x:(ByteArray × (List Int) × (List Int) × ByteArray × (List Int) × (List Int) × (List (ByteArray × Int)) × (List Qg) × (List Qg) × (List Qp))):Option (Bool) :=
 match x with
 | (q0,q1,q2,q3,q4,q5,q6,q7,q8,q9) =>
 if q3≠ByteArray.empty then
  some (decide (q0=q3))
 else
 some false
theorem Qej {q0 q1 q2 q3 q4 q5 q6 q7 q8 q9 v5001} (hm:YH (q0,q1,q2,q3,q4,q5,q6,q7,q8,q9)=some v5001):PC prog env 134 [(.dat (.agg [(strD q0),(Lb q1),(Lb q2)])),(.iptr [(strD q3),(Lb q4),(Lb q5)])] (QdT q6 q7.length q7 q8 q9.length q9) (Qm v5001) (Qgs q6 q7.length q7 q8 q9.length q9 q0 q1 q2):=by
 unfold YH at hm;exact PC_sxB (fn:=f134) rfl (ge 2 (gr 2 (QG rfl (fun _=>Qgj (a:=q3) (b:=ByteArray.empty) rfl kr kr) (Qd 1 (gs 7 hm (fun hm=>Qd 4 (QG rfl (fun _=>QeN (a:=q0) (b:=q3) rfl kr kr) (re 2 (Qj zf)))) (fun hm=>re 7 (Qj zf)))))))
def Qx (x:((List Qp) × ByteArray × (List Int) × (List Int) × (List (ByteArray × Int)) × (List Qg) × (List Qg) × Int)):Option ((ByteArray × (List Int) × (List Int) × Int) ⊕ Unit) :=
 match x with
 | (q0,q1,q2,q3,q4,q5,q6,v201) =>
 if v201 < (q0.length:Int) then
  idx q0 v201>>=fun v605 =>
  YH (v605.name,v605.value.shape,v605.value.data,q1,q2,q3,q4,q5,q6,q0)>>=fun v606 =>
  if v606=true then
   some (Sum.inl (v605.name,v605.value.shape,v605.value.data,v201))
  else
  Qx (q0,q1,q2,q3,q4,q5,q6,(W (v201+1)))
 else
 some (Sum.inr ())
 partial_fixpoint
theorem Zl:∀ x r,Qx x=some r→match x with|(q0,q1,q2,q3,q4,q5,q6,v201)=>LQ f133 133 [1,0,1,0,0] 9 ⟨kp 19 [(0,(Qir q0)),(1,(.fn 134 [(.iptr [(strD q1),(Lb q2),(Lb q3)])])),(7,(Qe (q0.length:Int))),(8,(Qe v201))],(QdT q4 q5.length q5 q6 q0.length q0)⟩ (P2 .ret (fun (v601,v602,v603,v604) d=>⟨sl d 19 [(4,(Qe v604))],(Qgs q4 q5.length q5 q6 q0.length q0 v601 v602 v603)⟩) (.exit 0) (fun _ d=>⟨sl d 19 [],(QdT q4 q5.length q5 q6 q0.length q0)⟩) r):=by
 refine Qx.partial_correctness _ (fun Qx Zl x r hm=>?_);obtain ⟨q0,q1,q2,q3,q4,q5,q6,v201⟩:=x;exact lp (ge 1 (Qi (ri hm (fun hm=>Qk (Qi (Qn (ge 2 (gr 3 (QV 3 Qp.toD hm fun v605 hm=>Qd 1 (bi hm fun v606 hx hm=>QM (Qej hx) (Yf (rib hm (fun hm=>ge 2 (Qj zf)) (fun hm=>Qk (R_G (re 2 (Zl _ _ hm _ (prune_of2 (QdT q4 q5.length q5 q6 q0.length q0) (fun _=>(pg_cons (purge_sm _ _ _) (pg_cons kr (pg_cons kr (pg_cons kr (pg_cons kr (pg_cons kr (pg_cons kr (pg_cons kr (pg_cons kr pg_nil)))))))))) rfl)))))))))))))) (fun hm=>QE zf))))
def Q6 (x:((List Qp) × ByteArray × (List Int) × (List Int) × (List (ByteArray × Int)) × (List Qg) × (List Qg))):Option ((ByteArray × (List Int) × (List Int) × Int) ⊕ Unit) :=
 match x with
 | (q0,q1,q2,q3,q4,q5,q6) =>
 (
 Qx (q0,q1,q2,q3,q4,q5,q6,0)>>=fun out =>
 match out with
 | .inl (v601,v602,v603,v604) =>
  some (Sum.inl (v601,v602,v603,v604))
 | .inr (_) =>
  some (Sum.inr ())
 )
theorem YJ {q0 q1 q2 q3 q4 q5 q6 r} (hm:Q6 (q0,q1,q2,q3,q4,q5,q6)=some r):PC prog env 133 [(Qir q0),(.fn 134 [(.iptr [(strD q1),(Lb q2),(Lb q3)])])] (QdT q4 q5.length q5 q6 q0.length q0) (match r with|.inl (v5001,v5002,v5003,v5004)=>(Qe v5004)|.inr (_)=>(Qe (-1))) (match r with|.inl (v5001,v5002,v5003,v5004)=>(Qgs q4 q5.length q5 q6 q0.length q0 v5001 v5002 v5003)|.inr (_)=>(QdT q4 q5.length q5 q6 q0.length q0)):=by
 unfold Q6 at hm;exact PC_sxB (fn:=f133) rfl (ge 1 (Qi (gr 1 (QH Qp.toD q0 (re 1 (Qn (ru2 hm (Zl _) (fun ⟨v601,v602,v603,v604⟩ d hm=>zf) (fun _ d hm=>ge 1 (Qj zf)) (hst:=(prune_of2 (QdT q4 q5.length q5 q6 q0.length q0) (fun _=>(pg_cons (purge_sm _ _ _) (pg_cons kr (pg_cons kr (pg_cons kr (pg_cons kr (pg_cons kr (pg_cons kr (pg_cons kr (pg_cons kr pg_nil)))))))))) rfl)))))))))
def Qs (x:List Int):Option (List Int):=app 8 [] x
def cgm_slices_Clone_int_int (l:List Int):Nat:=match l with|[]=>0|_=>1
theorem Qv {x r} (hm:Qs x=some r):PC prog env 82 ([.lst ((List.map Qf) x)].map .dat) [] (.ms 0 (cgm_slices_Clone_int_int r) 0 r.length r.length) [.mt 3 (cgm_slices_Clone_int_int r) (cellsOf Qf r)]:=by
 obtain ⟨hroom,hr⟩:=app_some hm;have hr:r=x:=hr;subst hr;cases r with
 | nil=>exact PC_of (n:=20) (by kernel_rfl)
 | cons a l =>
  exact PC_sxB (fn:=f82) rfl (ge 1 (Qi (gr 1 (QG rfl (fun _=>Qh9 (p:=.dat (Lb (a::l))) (b:=false) rfl kr kr kr) (Yf (XN kr (Qk (gr 2 (ZR (v:=.ms 0 1 0 (a::l).length (a::l).length) (fun H=>H.set 0 (.mt 3 1 (cellsOf Qf (a::l)))) rfl kr (fun _ hk=>QgX Qf (l:=[]) (es:=a::l) (bytes:=8) (e:=3) (tt:=0) (g:=0) (m:=0) hm zY kr kr kr kr rfl rfl kr rfl kr (source_lst zY) hk) (re 1 (Qj zf)))))))))))
def Yg (x:(ByteArray × (List Int) × (List Int) × (List (ByteArray × Int)) × (List Qg) × (List Qg) × (List Qp))):Option (((List Qp) × (List Int) × Int)) :=
 match x with
 | (q0,q1,q2,q3,q4,q5,q6) =>
 (
 Q6 (q6,q0,q1,q2,q3,q4,q5)>>=fun out =>
 match out with
 | .inl (v1,v2,v3,v4) =>
  (if v4 < 0 then
   app 64 q6 ([(⟨q0,(⟨q1,q2⟩:Qo)⟩:Qp)]:List Qp)>>=fun v7 =>
   some (v7,(q6.length:Int))
  else
  some (q6,v4)
  )>>=fun ((v5,v6):((List Qp) × Int)) =>
  Qs q1>>=fun v8 =>
  some (v5,v8,v6)
 | .inr (_) =>
  app 64 q6 ([(⟨q0,(⟨q1,q2⟩:Qo)⟩:Qp)]:List Qp)>>=fun v9 =>
  Qs q1>>=fun v10 =>
  some (v9,v10,(q6.length:Int))
 )
theorem Qck {q0 q1 q2 q3 q4 q5 q6 v5001 v5002 v5003} (hm:Yg (q0,q1,q2,q3,q4,q5,q6)=some (v5001,v5002,v5003)):PCX prog env 91 [(.ptr 7 0),(.dat (.agg [(strD q0),(Lb q1),(Lb q2)]))] (QbM q3 q4.length q4 q5 q6.length q6) (.dat (.agg [(Qf 1),(Lb v5002),(Qf v5003),Eb,(Qf 0),(Qf 0),Eb,(.lst (Qh.toDs []))])) (QbM q3 q4.length q4 q5 v5001.length v5001):=by
 unfold Yg at hm
 exact PCX_sxB (fn:=f91) rfl (ge 2 (gr 5 (bs hm (fun ⟨v1,v2,v3,v4⟩ hx hm=>QM (YJ hx) (re 1 (Qi (ge 2 (bi2 hm fun v5 v6 hs hm=>QY (fun d=>⟨sl d 35 [(3,(.iptr [(strD q0),(Lb q1),(Lb q2)])),(4,(.ptr 8 0)),(5,(Qe v6))],(Qgs q3 q4.length q4 q5 v5.length v5 v1 v2 v3)⟩) (have hm:=hs;ri hm (fun hm=>gr 4 (QH Qp.toD q6 (re 1 (Yv (Qd 7 (bi hm fun v7 hx hm=>Y9 91 3 64 6 Qp.toD q6 ([(⟨q0,(⟨q1,q2⟩:Qo)⟩:Qp)]:List Qp) v7 (xs:=(List.map Qp.toD) q6) (es:=(List.map Qp.toD) ([(⟨q0,(⟨q1,q2⟩:Qo)⟩:Qp)]:List Qp)) (L:=(List.map Qp.toD)) zY rfl rfl Qp.fit hx (re 3 ⟨kr,zf⟩))))))) (fun hm=>Qk zf)) (fun d=>gr 3 (bi hm fun v8 hx hm=>QG (v:=.dat (Lb v8)) rfl (fun _=>Qfu (f:=82) (first:=#[]) (cap:=#[]) (e:=3) (ow':=[]) (ds:=[.lst ((List.map Qf) q1)]) rfl kr kr kr kr (Qv hx) (p1_ms (pc_ms (e:=3) Qf v8 rfl zY kr))) (re 3 (Qj zf))))))))) fun _ hx hm=>QM (YJ hx) (re 1 (Qi (ge 2 (Qb8 kr (gr 4 (QH Qp.toD q6 (re 1 (Yv (Qd 7 (bi hm fun v9 hx hm=>Y9 91 3 64 6 Qp.toD q6 ([(⟨q0,(⟨q1,q2⟩:Qo)⟩:Qp)]:List Qp) v9 (xs:=(List.map Qp.toD) q6) (es:=(List.map Qp.toD) ([(⟨q0,(⟨q1,q2⟩:Qo)⟩:Qp)]:List Qp)) (L:=(List.map Qp.toD)) zY rfl rfl Qp.fit hx (re 3 ⟨kr,gr 3 (bi hm fun v10 hx hm=>QG (v:=.dat (Lb v10)) rfl (fun _=>Qfu (f:=82) (first:=#[]) (cap:=#[]) (e:=3) (ow':=[]) (ds:=[.lst ((List.map Qf) q1)]) rfl kr kr kr kr (Qv hx) (p1_ms (pc_ms (e:=3) Qf v10 rfl zY kr))) (re 3 (Qj zf)))⟩))))))))))))))
def Xd (x:((List Qg) × ByteArray × (List (ByteArray × Int)) × (List Qg))):Option ((Int × Bool)) :=
 match x with
 | (q0,q1,q2,q3) =>
 some (lookS q2 q1)>>=fun ((v1,v2):(Int × Bool)) =>
 some (v1,v2)
theorem Qfb {q0 q1 q2 q3 v5001 v5002} (hm:Xd (q0,q1,q2,q3)=some (v5001,v5002)):PC prog env 55 [(.agg [(Qik q0),(.mapv 0)]),(.dat (strD q1))] [(.map (smE q2)),(.tok 64 q3.length),(Zp q3),(.tok 64 (([]:List Qg).length)),(Zp q0),(.box [Ea,Ea])] (.tup [(Qe v5001),(Qm v5002)]) [(.map (smE q2)),(.tok 64 q3.length),(Zp q3),(.tok 64 (([]:List Qg).length)),(Zp q0),(.box [Ea,Ea]),(Zp q0)]:=by
 unfold Xd at hm;exact PC_sxB (fn:=f55) rfl (ge 3 (gr 3 (bi2 hm fun v1 v2 hx hm=>QG (v:=.tup [Qe v1,Qm v2]) rfl (fun _=>Qie (i:=0) (kt:=9) (e:=3) (l:=q2) (s:=q1) hx kr kr kr rfl kr kr kr) (re 5 (ge 4 (Qj zf))))))
def Xt (x:(ByteArray × (List (ByteArray × Int)) × (List Qg) × (List Qg))):Option (((List Int) × (List Int) × Bool)) :=
 match x with
 | (q0,q1,q2,q3) =>
 Xd (q3,q0,q1,q2)>>=fun (v1,v2) =>
 if v2=false then
  some (([]:List Int),([]:List Int),false)
 else
 idx q3 v1>>=fun v3 =>
 some (v3.value.shape,v3.value.data,true)
theorem Qfr {q0 q1 q2 q3 v5001 v5002 v5003} (hm:Xt (q0,q1,q2,q3)=some (v5001,v5002,v5003)):PCX prog env 135 [(.ptr 4 0),(.dat (strD q0))] (Qcn q1 q2.length q2 q3) (.tup [(QdU v5001 v5002),(Qm v5003)]) (Qcn q1 q2.length q2 q3):=by
 unfold Xt at hm;exact PCX_sxB (fn:=f135) rfl (ge 2 (Qi (ge 2 (XN kr (Qk (gr 5 (bi2 hm fun v1 v2 hx hm=>QM (Qfb hx) (re 5 (Qi (ge 2 (rin hm (fun hm=>ge 3 (Qj zf)) (fun hm=>Qk (gr 6 (QV 3 Qg.toD hm fun v3 hm=>re 4 (Qj zf)))))))))))))))
def Zw (x:(ByteArray × (List (ByteArray × Int)) × (List Qg) × (List Qg))):Option (((List Int) × (List Int) × Bool)) :=
 match x with
 | (q0,q1,q2,q3) =>
 Xt (q0,q1,q2,q3)>>=fun (v1,v2,v3) =>
 if v3=false then
  some (v1,v2,false)
 else
 X4 (⟨v1,v2⟩:Qo)>>=fun v4 =>
 some (v4.shape,v4.data,true)
theorem QdE {q0 q1 q2 q3 v5001 v5002 v5003} (hm:Zw (q0,q1,q2,q3)=some (v5001,v5002,v5003)):PCX prog env 92 [(.ptr 4 0),(.dat (strD q0))] (Qcn q1 q2.length q2 q3) (.tup [(QdU v5001 v5002),(Qm v5003)]) (Qcn q1 q2.length q2 q3):=by
 unfold Zw at hm;exact PCX_sxB (fn:=f92) rfl (ge 2 (gr 2 (bi3 hm fun v1 v2 v3 hx hm=>QcZ (n:=5) (Qfr hx) (re 6 (Qi (ge 2 (rin hm (fun hm=>ge 3 (Qj zf)) (fun hm=>Qk (gr 1 (bi hm fun v4 hx hm=>cp (Qgx hx) (re 2 (Qj zf))))))))) (hi:=und_hi 0) (hq:=und_hq 0))))
def YY (x:(Int × Int × Int × ByteArray × (List Int) × (List Qc) × (List (ByteArray × Int)) × (List Qg) × (List Qg) × (List Qp))):Option (((List Qp) × Int × (List Int) × Int × Int)) :=
 match x with
 | (q0,q1,q2,q3,q4,q5,q6,q7,q8,q9) =>
 if q0=1 then
  Qcs q4>>=fun v1 =>
  (if (q4.length:Int)=1 then
   idx q4 0>>=fun v4 =>
   Qcr v4>>=fun v5 =>
   some (v5.shape,v5.data)
  else
  some (v1.shape,v1.data)
  )>>=fun ((v2,v3):((List Int) × (List Int))) =>
  Ja (⟨v2,v3⟩:Qo)>>=fun v6 =>
  if v6≠0 then
   some (q9,0,([]:List Int),0,v6)
  else
  Yg (ByteArray.empty,v2,v3,q6,q7,q8,q9)>>=fun (v7,v8,v9) =>
  some (v7,1,v8,v9,0)
 else
 Zw (q3,q6,q7,q8)>>=fun (v10,v11,v12) =>
 if v12=false then
  some (q9,0,([]:List Int),0,2)
 else
 Yg (q3,v10,v11,q6,q7,q8,q9)>>=fun (v13,v14,v15) =>
 some (v13,1,v14,v15,0)
theorem Qe1 {q0 q1 q2 q3 q4 q5 q6 q7 q8 q9 v5001 v5002 v5003 v5004 v5005} (hm:YY (q0,q1,q2,q3,q4,q5,q6,q7,q8,q9)=some (v5001,v5002,v5003,v5004,v5005)):PCX prog env 58 [(.ptr 7 0),(QeS q0 q1 q2 q3 q4 q5)] (QbM q6 q7.length q7 q8 q9.length q9) (.tup [(Qjg v5002 v5003 v5004),(Qe v5005)]) (QbM q6 q7.length q7 q8 v5001.length v5001):=by
 unfold YY at hm
 exact PCX_sxB (fn:=f58) rfl (ge 3 (Qi (ge 3 (riq hm (fun hm=>gr 2 (bi hm fun v1 hx hm=>cp (Qhm hx) (re 2 (Qi (gr 2 (QH Qf q4 (re 1 (bi2 hm fun v2 v3 hs hm=>QY (fun d=>⟨sl d 54 [(0,(.ptr 7 0)),(4,(.ptr 8 0)),(6,(.ptr 9 0))],[(.map (smE q6)),(.tok 64 q7.length),(Zp q7),(.tok 64 (([]:List Qg).length)),(Zp q8),Qgv,(.tok 91 q9.length),(QdR q9),Qhg,(YW v2 v3)]⟩) (have hm:=hs;riq hm (fun hm=>R_G (Qd 2 (QV 1 Qf hm fun v4 hm=>Qd 1 (bi hm fun v5 hx hm=>cp (Qhl hx) (re 1 zf))))) (fun hm=>Qk zf)) (fun d=>Qi (gr 1 (bi hm fun v6 hx hm=>cp (QfX hx) (re 1 (ge 2 (rix hm (fun hm=>ge 4 (Qj zf)) (fun hm=>Qk (gr 3 (bi3 hm fun v7 v8 v9 hx hm=>QcZ (n:=8) (Qck hx) (re 2 (Qj zf)) (hi:=und_hi 0) (hq:=und_hq 0)))))))))))))))))) (fun hm=>Qk (Qi (Yv (Qd 6 (bi3 hm fun v10 v11 v12 hx hm=>QiY (n:=5) (QdE hx) (re 6 ⟨kr,Qi (ge 2 (rin hm (fun hm=>ge 3 (Qj zf)) (fun hm=>Qk (gr 5 (bi3 hm fun v13 v14 v15 hx hm=>QcZ (n:=8) (Qck hx) (re 2 (Qj zf)) (hi:=und_hi 0) (hq:=und_hq 0))))))⟩) (hi:=und_hi 0))))))))))
def QaP (x:(Int × (List Int))):Option (Int × Int) :=
 match x with
 | (p0,p1) =>
 if p0=(-1) then
  some ((W ((p1.length:Int) - 1)),0)
 else
 if p0≥(p1.length:Int) then
  some (0,4)
 else
 some (p0,0)
theorem Qf7 {p0 p1 r0 r1} (hm:QaP (p0,p1)=some (r0,r1)):FQ 136 [(Qf p0),(Lb p1)] (.tup [(Qe r0),(Qe r1)]):=by
 unfold QaP at hm;exact fp (fn:=f136) rfl (ge 2 (Qi (Qn (ge 3 (riq hm (fun hm=>gr 1 (QH Qf p1 (re 3 (Qj zf)))) (fun hm=>gr 2 (QH Qf p1 (re 2 (ri hm (fun hm=>ge 2 (Qj zf)) (fun hm=>Qk (ge 3 (Qj zf))))))))))))
def Zx (x:Int):Option (Qr × Int) :=
 match x with
 | p0 =>
 some ((⟨([]:(List Int)),([]:(List Int)),([]:(List Int)),([]:(List Int)),0,0,([]:(List Int))⟩:Qr),p0)
theorem Z9 {p0 r0 r1} (hm:Zx p0=some (r0,r1)):FQ 137 [(Qf p0)] (.tup [(.dat (Qr.toD r0)),(Qe r1)]):=by
 unfold Zx at hm;exact fp (fn:=f137) rfl (ge 2 (ge 4 (Qj zf)))
def Xw (x:(Int × Int)):Option (Int × Int) :=
 match x with
 | (p0,p1) =>
 some (p0,p1)
theorem Qfg {p0 p1 v5001 v5002} (hm:Xw (p0,p1)=some (v5001,v5002)):FQ 139 [(Qf p0),(Qf p1)] (.fn 170 [(.iptr [(Qf v5001)]),(.iptr [(Qf v5002)])]):=by
 unfold Xw at hm;exact fp (fn:=f139) rfl (ge 3 (ge 2 (Qj zf)))
def Qbm (x:(Int × Int × (List Int) × (List Int))):Option (Unit) :=
 match x with
 | (q0,q1,q2,q3) =>
 some ()
theorem QfM {q0 q1 q2 q3} (hm:Qbm (q0,q1,q2,q3)=some ()):PC prog env 170 [(.ptr 5 0),(.iptr [(Qf q0)]),(.iptr [(Qf q1)])] (Qg5 q0 q1 q2 q3 q2.length q3.length) (.tup []) (Qg6 q0 q1 q2 q3 q2.length q3.length):=by
 unfold Qbm at hm;exact PC_sxB (fn:=f170) rfl (Yv (re 10 ⟨kr,zf⟩))
def JL (x:((List Int) × Int × Int)):Option (Int ⊕ ((List Int) × (List Int))) :=
 match x with
 | (q0,q1,q2) =>
 Zd q0>>=fun v1 =>
 if v1≠0 then
  some (Sum.inl v1)
 else
 Qs q0>>=fun v2 =>
 Qs q0>>=fun v3 =>
 Qbm (q1,q2,v2,v3)>>=fun _ =>
 some (Sum.inr (v2,v3))
theorem Qer {q0 q1 q2 r} (hm:JL (q0,q1,q2)=some r):PC prog env 138 [(La q0),(La q0),(.arr 1 0 1 1)] [Qu,(QbO q1 q2)] (match r with|.inl v5001=>(.tup [Qcq,(Qe v5001)])|.inr ((v5002,v5003))=>(.tup [(.agg [Ea,(.ms 3 1 0 v5002.length v5002.length),(.ms 4 1 0 v5003.length v5003.length),Ea,(Qe q1),(Qe q2),Ea]),(Qe 0)])) (match r with|.inl v5001=>[Qu,(QbO q1 q2),Qu]|.inr ((v5002,v5003))=>[Qu,(QbO q1 q2),(Qg1 v5002.length v5003.length q1 q2),(QB v5002),(QB v5003),(Qg1 v5002.length v5003.length q1 q2)]):=by
 unfold JL at hm
 exact PC_sxB (fn:=f138) rfl (ge 2 (Qi (gr 1 (bi hm fun v1 hx hm=>cp (ZF hx) (re 1 (ge 2 (rix hm (fun hm=>ge 4 (Qj zf)) (fun hm=>Qk (gr 1 (bi hm fun v2 hx hm=>go 3 3 Qf (Qv hx) (Qd 1 (bi hm fun v3 hx hm=>go 4 3 Qf (Qv hx) (re 3 (Qi (gr 1 (Qd 1 (re 1 (Qn (Qdu (RL_at (st':=⟨kp 33 [(6,(.ptr 2 0)),(9,(.ptr 5 0)),(23,(.arr 1 0 1 1)),(24,(Qe 1)),(25,(Qe 0))],(Qg5 q1 q2 v2 v3 v2.length v3.length)⟩) (prune_of2 (Qg5 q1 q2 v2 v3 v2.length v3.length) (fun _=>(pg_cons kr (pg_cons kr (pg_cons kr (pg_cons (purge_mt Qf _ _ _ _ _) (pg_cons (purge_mt Qf _ _ _ _ _) (pg_cons kr pg_nil))))))) rfl) (ge 1 (Qi (Qb8 kr (Qk (Qi (Qn (gr 1 (re 2 (R_G (Qd 1 (bi hm fun _ hx hm=>QM (QfM hx) (Yf (R_G (re 2 (RL_at (st':=⟨kp 33 [(6,(.ptr 2 0)),(9,(.ptr 5 0)),(23,(.arr 1 0 1 1)),(24,(Qe 1)),(25,(Qe 1))],(Qg6 q1 q2 v2 v3 v2.length v3.length)⟩) (prune_of2 (Qg6 q1 q2 v2 v3 v2.length v3.length) (fun _=>(pg_cons kr (pg_cons kr (pg_cons kr (pg_cons (purge_mt Qf _ _ _ _ _) (pg_cons (purge_mt Qf _ _ _ _ _) (pg_cons kr pg_nil))))))) rfl) (ge 1 (Qi (XN kr (QE (ge 3 (Qj zf)))))))))))))))))))))))))))))))))))))))))
def Qbk (x:(Int × (List Int))):Option (Qr × Int) :=
 match x with
 | (p0,p1) =>
 QaP (p0,p1)>>=fun (v1,v2) =>
 if v2≠0 then
  Zx v2>>=fun (v3,v4) =>
  some (v3,v4)
 else
 Xw (v1,0)>>=fun (v5,v6) =>
 (
 JL (p1,v5,v6)>>=fun out =>
 match out with
 | .inl v7 =>
  some ((⟨([]:(List Int)),([]:(List Int)),([]:(List Int)),([]:(List Int)),0,0,([]:(List Int))⟩:Qr),v7)
 | .inr ((v8,v9)) =>
  some ((⟨([]:(List Int)),v8,v9,([]:(List Int)),v5,v6,([]:(List Int))⟩:Qr),0)
 )
theorem Qhs {p0 p1 r0 r1} (hm:Qbk (p0,p1)=some (r0,r1)):FQ 93 [(Qf p0),(Lb p1)] (.tup [(.dat (Qr.toD r0)),(Qe r1)]):=by
 unfold Qbk at hm;exact fp (fn:=f93) rfl (ge 2 (gr 2 (bi2 hm fun v1 v2 hx hm=>cp (Qf7 hx) (re 5 (Qi (ge 2 (rix hm (fun hm=>gr 1 (bi2 hm fun v3 v4 hx hm=>cp (Z9 hx) (re 4 (Qj zf)))) (fun hm=>Qk (gr 3 (bi2 hm fun v5 v6 hx hm=>cp (Qfg hx) (Qd 1 (bs hm (fun v7 hx hm=>QM (Qer hx) (re 4 (Qj zf))) fun ⟨v8,v9⟩ hx hm=>QM (Qer hx) (re 4 (Qj (by obtain ⟨rfl,rfl⟩:=QgS hm; exact ⟨trivial,ZT [(.agg [Ea,(.ms 3 1 0 v8.length v8.length),(.ms 4 1 0 v9.length v9.length),Ea,(Qe v5),(Qe v6),Ea]),(Qe 0)] kr (po_tup (ps_cons (p1_agg (pc_cons kr (pc_cons (pc_ms (e:=3) Qf v8 rfl zY kr) (pc_cons (pc_ms (e:=3) Qf v9 rfl zY kr) (pc_cons kr (pc_cons kr (pc_cons kr (pc_cons kr pc_nil)))))))) (ps_cons kr ps_nil)))⟩)))))))))))))))
def QaI (x:(Int × Qr × Qh)):Option Qh :=
 match x with
 | (p0,p1,p2) =>
 if p1.axis=(-1) then
  some p2
 else
 some (⟨p0,p1.shape,0,([]:(List Int)),p1.axis,p1.amount,([]:(List Int)),([(⟨p2.kind,p2.shape,p2.buffer,p2.starts,p2.axis,p2.amount,p2.perm,p2.kids⟩:Qh)]:(List Qh))⟩:Qh)
theorem QfY {p0 p1 p2 r0} (hm:QaI (p0,p1,p2)=some r0):FQ 94 [(Qf p0),(Qr.toD p1),(Qh.ex p2)] (.dat (Qh.ex r0)):=by
 unfold QaI at hm;exact fp (fn:=f94) rfl (ge 3 (Qi (ge 3 (riq hm (fun hm=>ge 2 (Qj zf)) (fun hm=>Qk (ge 11 (Qj zf)))))))
def XV (x:((List Int) × Nat × (List Int) × (List Int) × (List Int))):Option (Unit) :=
 match x with
 | (q0,q1,q2,q3,q4) =>
 some ()
theorem Qe5 {q0 q1 q2 q3 q4} (hm:XV (q0,q1,q2,q3,q4)=some ()):PC prog env 171 [(.ptr 7 0),(.ptr 0 0)] (Qhe q0 q1 q2 q3 q4 q3.length q4.length) (.tup []) (Qhf q0 q1 q2 q3 q4 q3.length q4.length):=by
 unfold XV at hm;exact PC_sxB (fn:=f171) rfl (R_G (re 5 zf))
def QaY (x:((List Int) × Nat × (List Int) × Nat × (List Int))):Option (Int ⊕ ((List Int) × (List Int))) :=
 match x with
 | (q0,q1,q2,q3,q4) =>
 QS (q2.length=q3)>>=fun _ =>
 Zd q2>>=fun v2 =>
 if v2≠0 then
  some (Sum.inl v2)
 else
 Qs q0>>=fun v3 =>
 QS (q2.length=q3)>>=fun _ =>
 Qs q2>>=fun v5 =>
 XV (q4,q1,q2,v3,v5)>>=fun _ =>
 some (Sum.inr (v3,v5))
theorem Qes {q0 q1 q2 q3 q4 r} (hm:QaY (q0,q1,q2,q3,q4)=some r):PC prog env 138 [(La q0),(.ms 2 q1 0 q3 q3),(.arr 3 0 1 1)] [(.box [(La q4)]),Qu,(Qcp q1 q2),QfA] (match r with|.inl v5001=>(.tup [Qcq,(Qe v5001)])|.inr ((v5002,v5003))=>(.tup [(.agg [Ea,(.ms 5 1 0 v5002.length v5002.length),(.ms 6 1 0 v5003.length v5003.length),Ea,(Qe (-1)),(Qe 0),(La q4)]),(Qe 0)])) (match r with|.inl v5001=>[(.box [(La q4)]),Qu,(Qcp q1 q2),QfA,Qu]|.inr ((v5002,v5003))=>[(.box [(La q4)]),Qu,(Qcp q1 q2),QfA,(Qhb v5002.length v5003.length q4),(QB v5002),(QB v5003),(Qhb v5002.length v5003.length q4)]):=by
 unfold QaY at hm
 exact PC_sxB (fn:=f138) rfl (ge 2 (Qi (gr 1 (gi hm fun hl1 hm=>bi hm fun v2 hx hm=>QdH (args:=[(.ms 2 q1 0 q3 q3)]) (ZF hx []) (ps_cons (p1_ms (pc_ms (e:=3) Qf q2 hl1 zY kr)) ps_nil) (re 1 (ge 2 (rix hm (fun hm=>ge 4 (Qj zf)) (fun hm=>Qk (gr 1 (bi hm fun v3 hx hm=>go 5 3 Qf (Qv hx) (Qd 1 (gi hm fun hl4 hm=>bi hm fun v5 hx hm=>gol 6 3 Qf (args:=[(.ms 2 q1 0 q3 q3)]) (Qv hx) (Z2 kr) (ps_cons (p1_ms (pc_ms (e:=3) Qf q2 hl4 zY kr)) ps_nil) (plain_or (cellsOf_plain zY _)) (re 3 (Qi (gr 1 (Qd 1 (re 1 (Qn (Qdu (RL_at (st':=⟨kp 33 [(6,(.ptr 4 0)),(9,(.ptr 7 0)),(23,(.arr 3 0 1 1)),(24,(Qe 1)),(25,(Qe 0))],(Qhe q4 q1 q2 v3 v5 v3.length v5.length)⟩) (prune_of2 (Qhe q4 q1 q2 v3 v5 v3.length v5.length) (fun _=>(pg_cons kr (pg_cons kr (pg_cons (purge_mt Qf _ _ _ _ _) (pg_cons kr (pg_cons kr (pg_cons (purge_mt Qf _ _ _ _ _) (pg_cons (purge_mt Qf _ _ _ _ _) (pg_cons kr pg_nil))))))))) rfl) (ge 1 (Qi (Qb8 kr (Qk (Qi (Qn (gr 1 (re 2 (R_G (Qd 1 (bi hm fun _ hx hm=>QM (Qe5 hx) (Yf (R_G (re 2 (RL_at (st':=⟨kp 33 [(6,(.ptr 4 0)),(9,(.ptr 7 0)),(23,(.arr 3 0 1 1)),(24,(Qe 1)),(25,(Qe 1))],(Qhf q4 q1 q2 v3 v5 v3.length v5.length)⟩) (prune_of2 (Qhf q4 q1 q2 v3 v5 v3.length v5.length) (fun _=>(pg_cons kr (pg_cons kr (pg_cons (purge_mt Qf _ _ _ _ _) (pg_cons kr (pg_cons kr (pg_cons (purge_mt Qf _ _ _ _ _) (pg_cons (purge_mt Qf _ _ _ _ _) (pg_cons kr pg_nil))))))))) rfl) (ge 1 (Qi (XN kr (QE (ge 3 (Qj zf)))))))))))))))))))))))))))))))))))))))))
def Ym (x:(Int × (List Int) × Int × (List Int) × Nat × (List Int) × Nat)):Option ((Nat × (List Int) × Nat)) :=
 match x with
 | (v604,p1,v204,p0,v805,v806,v807) =>
 if (v807:Int)≤v604 then
  QS (v806.length=v807)>>=fun _ =>
  app 8 v806 ([65536]:List Int)>>=fun v1209 =>
  Ym (v604,p1,v204,p0,(gb v805 ([65536]:List Int).isEmpty),v1209,v1209.length)
 else
 some (v805,v806,v807)
 partial_fixpoint
theorem Qcd:∀ x r,Ym x=some r→match x with|(v604,p1,v204,p0,v805,v806,v807)=>LQ f140 140 [1,1,0,1,0,0,1,1,0,0,1,0,0,0] 3 ⟨kp 43 [(1,(La p1)),(2,(.ptr 0 0)),(4,(.ptr 1 0)),(6,(.ms 2 v805 0 v807 v807)),(7,(Qe v204)),(8,(Qe v604)),(9,(La p0)),(10,(Qe (p0.length:Int))),(11,(Qe v204))],(QeU p0 v805 v806)⟩ (P1 (.exit 2) (fun (v1205,v1206,v1207) d=>⟨sl d 43 [(1,(La p1)),(2,(.ptr 0 0)),(4,(.ptr 1 0)),(6,(.ms 2 v1205 0 v1207 v1207)),(7,(Qe v204)),(8,(Qe v604)),(9,(La p0)),(10,(Qe (p0.length:Int))),(11,(Qe v204))],(QeU p0 v1205 v1206)⟩) r):=by
 refine Ym.partial_correctness _ (fun Ym Qcd x r hm=>?_);obtain ⟨v604,p1,v204,p0,v805,v806,v807⟩:=x;exact lp (Qi (gr 1 (Qd 1 (re 2 (ri hm (fun hm=>Qk (Qn (R_G (Qd 2 (gi hm fun hl1208 hm=>bi hm fun v1209 hx hm=>ZR (v:=.ms 2 (gb v805 ([65536]:List Int).isEmpty) 0 v1209.length v1209.length) (fun H=>H.set 2 (.mt 3 (gb v805 ([65536]:List Int).isEmpty) (cellsOf Qf v1209))) rfl kr (fun _ hk=>QgX Qf (l:=v806) (es:=([65536]:List Int)) (bytes:=8) (e:=3) (tt:=2) (g:=v805) (m:=v807) hx zY kr kr kr kr rfl rfl kr hl1208 kr kr hk) (re 1 (Qcd _ _ hm _ (prune_of2 [(.box [(La p0)]),Qu,(.mt 3 (gb v805 ([65536]:List Int).isEmpty) (cellsOf Qf v1209))] (fun _=>(pg_cons kr (pg_cons kr (pg_cons (purge_mt Qf _ _ _ _ _) pg_nil)))) rfl)))))))) (fun hm=>QE zf))))))
def ZW (x:((List Int) × (List Int) × Nat × (List Int) × Nat × Int)):Option ((Nat × (List Int) × Nat)) :=
 match x with
 | (p0,p1,v201,v202,v203,v204) =>
 if v204 < (p0.length:Int) then
  idx p0 v204>>=fun v604 =>
  Ym (v604,p1,v204,p0,v201,v202,v203)>>=fun (v1205,v1206,v1207) =>
  QS (v1206.length=v1207)>>=fun _ =>
  idx v1206 v604>>=fun v1210 =>
  idx v1206 v604>>=fun v1212 =>
  idx p1 v204>>=fun v1213 =>
  QS (v1206.length=v1207)>>=fun _ =>
  idx v1206 v604>>=fun v1214 =>
  setM v1206 v604 (if v1213 < v1212 then v1213 else v1212)>>=fun v1216 =>
  ZW (p0,p1,v1205,v1216,v1207,(W (v204+1)))
 else
 some (v201,v202,v203)
 partial_fixpoint
theorem Qcc:∀ x r,ZW x=some r→match x with|(p0,p1,v201,v202,v203,v204)=>LQ f140 140 [1,1,0,1,0,0] 3 ⟨kp 43 [(1,(La p1)),(2,(.ptr 0 0)),(4,(.ptr 1 0)),(6,(.ms 2 v201 0 v203 v203)),(9,(La p0)),(10,(Qe (p0.length:Int))),(11,(Qe v204))],(QeU p0 v201 v202)⟩ (P1 (.exit 0) (fun (v601,v602,v603) d=>⟨sl d 43 [(1,(La p1)),(2,(.ptr 0 0)),(4,(.ptr 1 0)),(6,(.ms 2 v601 0 v603 v603))],(QeU p0 v601 v602)⟩) r):=by
 refine ZW.partial_correctness _ (fun ZW Qcc x r hm=>?_);obtain ⟨p0,p1,v201,v202,v203,v204⟩:=x
 exact lp (ge 1 (Qi (ri hm (fun hm=>Qk (Qi (Qn (gr 1 (QV 1 Qf hm fun v604 hm=>re 3 (Qi (Qn (ru1 hm (Qcd _) (fun ⟨v1205,v1206,v1207⟩ d hm=>Yv (Qd 4 (gi hm fun hl1211 hm=>bi hm fun v1210 hx hm=>QG rfl (fun _=>ZS (e:=3) (n:=v604) (j:=(v604).toNat) (tt:=2) (g:=v1205) (lo:=0) (len:=v1207) (cap:=v1207) (k:=.i64) kr kr rfl kr kr (idx_nat hx) (jY (idx_lt hx) hl1211)) (bi hm fun v1212 hx hm=>QG rfl (fun _=>Qaz (tt:=2) (g:=v1205) (j:=(0+(v604).toNat)) (e:=3) (cs:=cellsOf Qf v1206) (v:=.dat (Qf v1212)) kr kr rfl kr (Z2 kr) (cells_idx Qf hx)) (Qd 2 (QV 1 Qf hm fun v1213 hm=>Qd 1 (QG rfl (fun _=>QiX (k:=.i64) (m:=v1212) (n:=v1213) rfl kr kr) (gi hm fun hl1215 hm=>bi hm fun v1214 hx hm=>QG rfl (fun _=>ZS (e:=3) (n:=v604) (j:=(v604).toNat) (tt:=2) (g:=v1205) (lo:=0) (len:=v1207) (cap:=v1207) (k:=.i64) kr kr rfl kr kr (idx_nat hx) (jY (idx_lt hx) hl1215)) (bi hm fun v1216 hx hm=>ZR (fun H=>H.set 2 (Qcp v1205 v1216)) rfl kr (fun _=>QeA Qf (l:=v1206) (n:=v604) (y:=(if v1213 < v1212 then v1213 else v1212)) hx zY kr rfl kr kr kr kr) (Yf ⟨kr,R_G (re 2 (Qcc _ _ hm _ (prune_of2 (QeU p0 v1205 v1216) (fun _=>(pg_cons kr (pg_cons kr (pg_cons (purge_mt Qf _ _ _ _ _) pg_nil)))) rfl)))⟩)))))))))) (hst:=(prune_of2 (QeU p0 v201 v202) (fun _=>(pg_cons kr (pg_cons kr (pg_cons (purge_mt Qf _ _ _ _ _) pg_nil)))) rfl)))))))))) (fun hm=>QE zf))))
def JD (x:((List Int) × (List Int))):Option (Qr × Int) :=
 match x with
 | (p0,p1) =>
 ZW (p0,p1,0,([]:List Int),([]:List Int).length,0)>>=fun (v601,v602,v603) =>
 (
 QaY (p1,v601,v602,v603,p0)>>=fun out =>
 match out with
 | .inl v1217 =>
  some ((⟨([]:(List Int)),([]:(List Int)),([]:(List Int)),([]:(List Int)),0,0,([]:(List Int))⟩:Qr),v1217)
 | .inr ((v1218,v1219)) =>
  some ((⟨([]:(List Int)),v1218,v1219,([]:(List Int)),(-1),0,p0⟩:Qr),0)
 )
theorem Qfp {p0 p1 r0 r1} (hm:JD (p0,p1)=some (r0,r1)):FQ 140 [(Lb p0),(Lb p1)] (.tup [(.dat (Qr.toD r0)),(Qe r1)]):=by
 unfold JD at hm;exact fp (fn:=f140) rfl (ge 3 (ge 1 (Qi (gr 1 (QH Qf p0 (re 1 (Qn (ru1 hm (Qcc _) (fun ⟨v601,v602,v603⟩ d hm=>gr 4 (bs hm (fun v1217 hx hm=>QM (Qes hx) (re 4 (Qj zf))) fun ⟨v1218,v1219⟩ hx hm=>QM (Qes hx) (re 4 (Qj (by obtain ⟨rfl,rfl⟩:=QgS hm; exact ⟨trivial,ZT [(.agg [Ea,(.ms 5 1 0 v1218.length v1218.length),(.ms 6 1 0 v1219.length v1219.length),Ea,(Qe (-1)),(Qe 0),(La p0)]),(Qe 0)] kr (po_tup (ps_cons (p1_agg (pc_cons kr (pc_cons (pc_ms (e:=3) Qf v1218 rfl zY kr) (pc_cons (pc_ms (e:=3) Qf v1219 rfl zY kr) (pc_cons kr (pc_cons kr (pc_cons kr (pc_cons kr pc_nil)))))))) (ps_cons kr ps_nil)))⟩))))) (hst:=(prune_of2 [(.box [(La p0)]),Qu,(.mt 3 0 (cellsOf Qf ([]:List Int)))] (fun _=>(pg_cons kr (pg_cons kr (pg_cons (purge_mt Qf _ _ _ _ _) pg_nil)))) rfl))))))))))
def XI (x:((List Int) × (List Int) × Int)):Option ((List Int)) :=
 match x with
 | (p0,v201,v202) =>
 if v202 < (p0.length:Int) then
  app 8 v201 ([(W ((W ((p0.length:Int) - 1)) - v202))]:List Int)>>=fun v602 =>
  XI (p0,v602,(W (v202+1)))
 else
 some v201
 partial_fixpoint
theorem Qee:∀ x r,XI x=some r→match x with|(p0,v201,v202)=>LQ f95 95 [1,1,0,1,0,0] 2 ⟨kp 25 [(0,(La p0)),(2,(.ptr 0 0)),(4,(XB v201)),(7,(Qe (p0.length:Int))),(8,(Qe v202))],[Qu,(.tok 3 v201.length)]⟩ (P1 (.exit 0) (fun v601 d=>⟨sl d 25 [(0,(La p0)),(2,(.ptr 0 0)),(4,(XB v601))],[Qu,(.tok 3 v601.length)]⟩) r):=by
 refine XI.partial_correctness _ (fun XI Qee x r hm=>?_);obtain ⟨p0,v201,v202⟩:=x;exact lp (ge 1 (Qi (ri hm (fun hm=>Qk (Qi (Qn (ge 2 (R_G (Qd 2 (QH Qf p0 (Qd 4 (bi hm fun v602 hx hm=>Y9 3 1 8 1 Qf v201 ([(W ((W ((p0.length:Int) - 1)) - v202))]:List Int) v602 (xs:=(List.map Qf) v201) (es:=(List.map Qf) ([(W ((W ((p0.length:Int) - 1)) - v202))]:List Int)) (L:=(List.map Qf)) zY rfl rfl zY hx (re 1 (R_G (re 2 (Qee _ _ hm _ kr))))))))))))) (fun hm=>QE zf))))
def Qdq (x:(List Int)):Option (Qr × Int) :=
 match x with
 | p0 =>
 XI (p0,([]:List Int),0)>>=fun v601 =>
 JD (v601,p0)>>=fun (v603,v604) =>
 some (v603,v604)
theorem QiG {p0 r0 r1} (hm:Qdq p0=some (r0,r1)):FQ 95 [(Lb p0)] (.tup [(.dat (Qr.toD r0)),(Qe r1)]):=by
 unfold Qdq at hm;exact fp (fn:=f95) rfl (ge 2 (ge 1 (Qi (gr 1 (QH Qf p0 (re 1 (Qn (ru1 hm (Qee _) fun v601 d hm=>gr 2 (bi2 hm fun v603 v604 hx hm=>cp (Qfp hx) (re 4 (Qj zf)))))))))))
def XQ (x:(Qr × Qh)):Option Qh :=
 match x with
 | (p0,p1) =>
 some (⟨5,p0.shape,0,([]:(List Int)),0,0,p0.perm,([(⟨p1.kind,p1.shape,p1.buffer,p1.starts,p1.axis,p1.amount,p1.perm,p1.kids⟩:Qh)]:(List Qh))⟩:Qh)
theorem Qep {p0 p1 r0} (hm:XQ (p0,p1)=some r0):FQ 96 [(Qr.toD p0),(Qh.ex p1)] (.dat (Qh.ex r0)):=by
 unfold XQ at hm;exact fp (fn:=f96) rfl (ge 3 (ge 8 (Qj zf)))
def QaZ (x:((List Int) × (List Int))):Option (Int ⊕ ((List Int) × (List Int))) :=
 match x with
 | (q0,q1) =>
 Zd q1>>=fun v1 =>
 if v1≠0 then
  some (Sum.inl v1)
 else
 Qs q0>>=fun v2 =>
 Qs q1>>=fun v3 =>
 some (Sum.inr (v2,v3))
theorem Qet {q0 q1 r} (hm:QaZ (q0,q1)=some r):PC prog env 138 [(La q0),(La q1),(.dat (.lst []))] [Qu] (match r with|.inl v5001=>(.tup [Qcq,(Qe v5001)])|.inr ((v5002,v5003))=>(.tup [(.agg [Ea,(.ms 2 1 0 v5002.length v5002.length),(.ms 3 1 0 v5003.length v5003.length),Ea,(Qe (-1)),(Qe 0),Ea]),(Qe 0)])) (match r with|.inl v5001=>[Qu,Qu]|.inr ((v5002,v5003))=>[Qu,(Qgu v5002.length v5003.length),(QB v5002),(QB v5003),(Qgu v5002.length v5003.length)]):=by
 unfold QaZ at hm;exact PC_sxB (fn:=f138) rfl (ge 2 (Qi (gr 1 (bi hm fun v1 hx hm=>cp (ZF hx) (re 1 (ge 2 (rix hm (fun hm=>ge 4 (Qj zf)) (fun hm=>Qk (gr 1 (bi hm fun v2 hx hm=>go 2 3 Qf (Qv hx) (Qd 1 (bi hm fun v3 hx hm=>go 3 3 Qf (Qv hx) (re 3 (Qi (gr 1 (Qd 1 (re 1 (Qn (Qdu (RL_at (st':=⟨kp 33 [(6,(.ptr 1 0)),(9,(.ptr 4 0)),(23,(.dat (.lst []))),(24,(Qe 0)),(25,(Qe 0))],[Qu,Qu,(QB v2),(QB v3),(Qgu v2.length v3.length)]⟩) (prune_of2 [Qu,Qu,(QB v2),(QB v3),(Qgu v2.length v3.length)] (fun _=>(pg_cons kr (pg_cons kr (pg_cons (purge_mt Qf _ _ _ _ _) (pg_cons (purge_mt Qf _ _ _ _ _) (pg_cons kr pg_nil)))))) rfl) (ge 1 (Qi (XN kr (QE (ge 3 (Qj zf))))))))))))))))))))))))))
def QcC (x:(List Int)):Option (Qr × Int) :=
 match x with
 | p0 =>
 Z8 p0>>=fun v1 =>
 (
 QaZ (p0,([v1]:List Int))>>=fun out =>
 match out with
 | .inl v2 =>
  some ((⟨([]:(List Int)),([]:(List Int)),([]:(List Int)),([]:(List Int)),0,0,([]:(List Int))⟩:Qr),v2)
 | .inr ((v3,v4)) =>
  some ((⟨([]:(List Int)),v3,v4,([]:(List Int)),(-1),0,([]:(List Int))⟩:Qr),0)
 )
theorem Qh3 {p0 r0 r1} (hm:QcC p0=some (r0,r1)):FQ 97 [(Lb p0)] (.tup [(.dat (Qr.toD r0)),(Qe r1)]):=by
 unfold QcC at hm;exact fp (fn:=f97) rfl (ge 2 (gr 2 (bi hm fun v1 hx hm=>cp (QaQ hx) (Qd 1 (bs hm (fun v2 hx hm=>QM (Qet hx) (re 4 (Qj zf))) fun ⟨v3,v4⟩ hx hm=>QM (Qet hx) (re 4 (Qj (by obtain ⟨rfl,rfl⟩:=QgS hm; exact ⟨trivial,ZT [(.agg [Ea,(.ms 2 1 0 v3.length v3.length),(.ms 3 1 0 v4.length v4.length),Ea,(Qe (-1)),(Qe 0),Ea]),(Qe 0)] kr (po_tup (ps_cons (p1_agg (pc_cons kr (pc_cons (pc_ms (e:=3) Qf v3 rfl zY kr) (pc_cons (pc_ms (e:=3) Qf v4 rfl zY kr) (pc_cons kr (pc_cons kr (pc_cons kr (pc_cons kr pc_nil)))))))) (ps_cons kr ps_nil)))⟩))))))))
def XZ (x:(Qh × (List Int))):Option Qh :=
 match x with
 | (p0,p1) =>
 some (⟨6,p1,0,([]:(List Int)),0,0,([]:(List Int)),([(⟨p0.kind,p0.shape,p0.buffer,p0.starts,p0.axis,p0.amount,p0.perm,p0.kids⟩:Qh)]:(List Qh))⟩:Qh)
theorem Qdv {p0 p1 r0} (hm:XZ (p0,p1)=some r0):FQ 98 [(Qh.ex p0),(Lb p1)] (.dat (Qh.ex r0)):=by
 unfold XZ at hm;exact fp (fn:=f98) rfl (ge 2 (ge 5 (Qj zf)))
def Qct (x:(Qc × Qh)):Option (Qh × Int) :=
 match x with
 | (p0,p1) =>
 if p0.fn=3 then
  Qbk (p0.axis,p1.shape)>>=fun (v1,v2) =>
  QaI (3,v1,p1)>>=fun v3 =>
  some (v3,v2)
 else
 if p0.fn=4 then
  Qdq p1.shape>>=fun (v4,v5) =>
  XQ (v4,p1)>>=fun v6 =>
  some (v6,v5)
 else
 QcC p1.shape>>=fun (v7,v8) =>
 XZ ((⟨p1.kind,p1.shape,p1.buffer,p1.starts,p1.axis,p1.amount,p1.perm,p1.kids⟩:Qh),v7.shape)>>=fun v9 =>
 some (v9,v8)
theorem QhR {p0 p1 r0 r1} (hm:Qct (p0,p1)=some (r0,r1)):FQ 59 [(Qc.ex p0),(Qh.ex p1)] (.tup [(.dat (Qh.ex r0)),(Qe r1)]):=by
 unfold Qct at hm;exact fp (fn:=f59) rfl (ge 4 (Qi (ge 2 (Qn (ge 2 (riq hm (fun hm=>gr 4 (bi2 hm fun v1 v2 hx hm=>cp (Qhs hx) (re 6 (gr 2 (bi hm fun v3 hx hm=>cp (QfY hx) (re 3 (Qj zf))))))) (fun hm=>ge 2 (riq hm (fun hm=>gr 2 (bi2 hm fun v4 v5 hx hm=>cp (QiG hx) (re 6 (gr 2 (bi hm fun v6 hx hm=>cp (Qep hx) (re 3 (Qj zf))))))) (fun hm=>Qk (gr 2 (bi2 hm fun v7 v8 hx hm=>cp (Qh3 hx) (re 6 (gr 3 (bi hm fun v9 hx hm=>cp (Qdv hx) (re 3 (Qj zf))))))))))))))))
def Jm (x:Unit):Option (Unit) :=
 match x with
 | _ =>
 some ()
theorem Qge (hm:Jm ()=some ()):PC prog env 60 [] [] (.mapv 0) [(.map [(.bool true,(.dat (.raw (.func (.func 99) #[] #[])))),(.bool false,(.dat (.raw (.func (.func 100) #[] #[]))))])]:=by
 unfold Jm at hm;exact PC_sxB (fn:=f60) rfl (ge 1 (gr 1 (Qd 1 (Qd 1 (re 2 (Qj zf))))))
def Qci (x:Int):Option Int :=
 match x with
 | p0 =>
 some p0
theorem QgR {p0 v5001} (hm:Qci p0=some v5001):FQ 207 [(Qf p0)] (.fn 213 [(.iptr [(Qf v5001)])]):=by
 unfold Qci at hm;exact fp (fn:=f207) rfl (ge 2 (ge 2 (Qj zf)))
def Xn (x:Int):Option (Unit) :=
 match x with
 | q0 =>
 some ()
theorem QdF {q0} (hm:Xn q0=some ()):PC prog env 213 [(.iptr [(Qf q0)])] [] (La ([q0]:List Int)) []:=by
 unfold Xn at hm;exact PC_sxB (fn:=f213) rfl (ge 1 (ge 3 (Qj zf)))
def Xy (x:((List Int) × Int × Int)):Option (((List Int) × Int)) :=
 match x with
 | (q0,q1,q2) =>
 ((if q1 < 0 then
  some true
 else
 some (decide (q1 > (q0.length:Int)))
 )>>=fun (v2:Bool) =>
 if v2=true then
  some true
 else
 some (decide (q1 > q1))
 )>>=fun (v1:Bool) =>
 if v1=true then
  some (([]:List Int),4)
 else
 sub q0 0 q1>>=fun v3 =>
 Xn q2>>=fun _ =>
 sub q0 q1 (q0.length:Int)>>=fun v4 =>
 Yh ([v3,([q2]:List Int),v4]:List (List Int))>>=fun v5 =>
 some (v5,0)
theorem QeL {q0 q1 q2 v5001 v5002} (hm:Xy (q0,q1,q2)=some (v5001,v5002)):PC prog env 206 [(La q0),(Qe q1),(Qe q1),(.fn 213 [(.iptr [(Qf q2)])])] [] (.tup [(La v5001),(Qe v5002)]) []:=by
 unfold Xy at hm
 exact PC_sxB (fn:=f206) rfl (ge 2 (Qi (Qi (bi hm fun v1 hs hm=>QY (fun d=>⟨sl d 33 [(0,(La q0)),(1,(Qe q1)),(2,(Qe q1)),(3,(.fn 213 [(.iptr [(Qf q2)])])),(22,(Qm v1))],[]⟩) (have hm:=hs;Qdg (Qd 3 (bi hm fun v2 hs hm=>ZH (j:=8) (fun d=>⟨sl d 33 [(0,(La q0)),(1,(Qe q1)),(2,(Qe q1)),(3,(.fn 213 [(.iptr [(Qf q2)])])),(17,(Qm v2))],[]⟩) (fun d=>Qd 1 (gsb 18 hm (fun hm=>re 4 ⟨kr,zf⟩) (fun hm=>re 4 ⟨kr,zf⟩))) (fun hJ=>gs 12 hs (fun hm=>Qd 5 zf) (fun hm=>Qd 2 (QH Qf q0 (Qd 2 zf))))))) (fun d=>rib hm (fun hm=>ge 2 (Qj zf)) (fun hm=>Qk (Qi (Yv (Qd 2 (bi hm fun v3 hx hm=>QhP 1 Qf q0 v3 0 q1 (es:=(List.map Qf) q0) (L:=(List.map Qf)) (a:=natI 0) (b:=natI q1) zY rfl (fun _=>by first|rfl|exact num_of_fit (zY _)) hx rfl (Or.inl rfl) (Qd 1 (bi hm fun _ hx hm=>QM (QdF hx) (Qd 2 (bi hm fun v4 hx hm=>QhP 1 Qf q0 v4 q1 (q0.length:Int) (es:=(List.map Qf) q0) (L:=(List.map Qf)) (a:=natI q1) (b:=some ((List.map Qf) q0).length) zY rfl (fun _=>by first|rfl|exact num_of_fit (zY _)) hx rfl (Or.inr ⟨rfl,rfl⟩) (Qd 1 (bi hm fun v5 hx hm=>ZL (Qac _ _ hx []) (re 2 ⟨kr,Qj zf⟩)))))))))))))))))
def Qbp (x:((List Int) × Int × Int)):Option ((List Int) × Int) :=
 match x with
 | (p0,p1,p2) =>
 Qci p2>>=fun v1 =>
 Xy (p0,p1,v1)>>=fun (v2,v3) =>
 some (v2,v3)
theorem Qhu {p0 p1 p2 r0 r1} (hm:Qbp (p0,p1,p2)=some (r0,r1)):FQ 189 [(Lb p0),(Qf p1),(Qf p2)] (.tup [(La r0),(Qe r1)]):=by
 unfold Qbp at hm;exact fp (fn:=f189) rfl (ge 2 (gr 4 (bi hm fun v1 hx hm=>cp (QgR hx) (bi2 hm fun v2 v3 hx hm=>QM (QeL hx) (re 4 (Qj zf))))))
def Xz (x:((List Int) × Int × Int × Int)):Option (((List Int) × Int)) :=
 match x with
 | (q0,q1,q2,q3) =>
 ((if q1 < 0 then
  some true
 else
 some (decide (q2 > (q0.length:Int)))
 )>>=fun (v2:Bool) =>
 if v2=true then
  some true
 else
 some (decide (q1 > q2))
 )>>=fun (v1:Bool) =>
 if v1=true then
  some (([]:List Int),4)
 else
 sub q0 0 q1>>=fun v3 =>
 Xn q3>>=fun _ =>
 sub q0 q2 (q0.length:Int)>>=fun v4 =>
 Yh ([v3,([q3]:List Int),v4]:List (List Int))>>=fun v5 =>
 some (v5,0)
theorem QeM {q0 q1 q2 q3 v5001 v5002} (hm:Xz (q0,q1,q2,q3)=some (v5001,v5002)):PC prog env 206 [(La q0),(Qe q1),(Qe q2),(.fn 213 [(.iptr [(Qf q3)])])] [] (.tup [(La v5001),(Qe v5002)]) []:=by
 unfold Xz at hm
 exact PC_sxB (fn:=f206) rfl (ge 2 (Qi (Qi (bi hm fun v1 hs hm=>QY (fun d=>⟨sl d 33 [(0,(La q0)),(1,(Qe q1)),(2,(Qe q2)),(3,(.fn 213 [(.iptr [(Qf q3)])])),(22,(Qm v1))],[]⟩) (have hm:=hs;Qdg (Qd 3 (bi hm fun v2 hs hm=>ZH (j:=8) (fun d=>⟨sl d 33 [(0,(La q0)),(1,(Qe q1)),(2,(Qe q2)),(3,(.fn 213 [(.iptr [(Qf q3)])])),(17,(Qm v2))],[]⟩) (fun d=>Qd 1 (gsb 18 hm (fun hm=>re 4 ⟨kr,zf⟩) (fun hm=>re 4 ⟨kr,zf⟩))) (fun hJ=>gs 12 hs (fun hm=>Qd 5 zf) (fun hm=>Qd 2 (QH Qf q0 (Qd 2 zf))))))) (fun d=>rib hm (fun hm=>ge 2 (Qj zf)) (fun hm=>Qk (Qi (Yv (Qd 2 (bi hm fun v3 hx hm=>QhP 1 Qf q0 v3 0 q1 (es:=(List.map Qf) q0) (L:=(List.map Qf)) (a:=natI 0) (b:=natI q1) zY rfl (fun _=>by first|rfl|exact num_of_fit (zY _)) hx rfl (Or.inl rfl) (Qd 1 (bi hm fun _ hx hm=>QM (QdF hx) (Qd 2 (bi hm fun v4 hx hm=>QhP 1 Qf q0 v4 q2 (q0.length:Int) (es:=(List.map Qf) q0) (L:=(List.map Qf)) (a:=natI q2) (b:=some ((List.map Qf) q0).length) zY rfl (fun _=>by first|rfl|exact num_of_fit (zY _)) hx rfl (Or.inr ⟨rfl,rfl⟩) (Qd 1 (bi hm fun v5 hx hm=>ZL (Qac _ _ hx []) (re 2 ⟨kr,Qj zf⟩)))))))))))))))))
def X2 (x:((List Int) × Int × Int)):Option ((List Int) × Int) :=
 match x with
 | (p0,p1,p2) =>
 if p1≥(p0.length:Int) then
  some (([]:(List Int)),4)
 else
 Qci p2>>=fun v1 =>
 Xz (p0,p1,(W (p1+1)),v1)>>=fun (v2,v3) =>
 some (v2,v3)
theorem Qfq {p0 p1 p2 r0 r1} (hm:X2 (p0,p1,p2)=some (r0,r1)):FQ 190 [(Lb p0),(Qf p1),(Qf p2)] (.tup [(La r0),(Qe r1)]):=by
 unfold X2 at hm;exact fp (fn:=f190) rfl (ge 2 (Qi (gr 2 (QH Qf p0 (re 1 (ri hm (fun hm=>ge 2 (Qj zf)) (fun hm=>Qk (gr 5 (bi hm fun v1 hx hm=>cp (QgR hx) (bi2 hm fun v2 v3 hx hm=>QM (QeM hx) (re 4 (Qj zf))))))))))))
def Yn (x:((List Int) × (List Int) × Int × Int)):Option ((List Int) × Int) :=
 match x with
 | (p0,p1,p2,p3) =>
 if (p0.length:Int)=p2 then
  Qs p0>>=fun v1 =>
  some (v1,0)
 else
 if (p0.length:Int)=(W (p2 - 1)) then
  Qbp (p0,p3,1)>>=fun (v2,v3) =>
  some (v2,v3)
 else
 if (p0.length:Int)=0 then
  X2 (p1,p3,1)>>=fun (v4,v5) =>
  some (v4,v5)
 else
 some (([]:(List Int)),4)
theorem QfN {p0 p1 p2 p3 r0 r1} (hm:Yn (p0,p1,p2,p3)=some (r0,r1)):FQ 172 [(Lb p0),(Lb p1),(Qf p2),(Qf p3)] (.tup [(La r0),(Qe r1)]):=by
 unfold Yn at hm;exact fp (fn:=f172) rfl (ge 2 (Qi (gr 1 (QH Qf p0 (Yf (Qn (ge 3 (riq hm (fun hm=>gr 1 (bi hm fun v1 hx hm=>go 0 3 Qf (Qv hx) (re 2 (Qj (by obtain ⟨rfl,rfl⟩:=QgS hm; exact ⟨trivial,ZT [(.ms 0 1 0 v1.length v1.length),(Qe 0)] kr (po_tup (ps_cons (p1_ms (pc_ms (e:=3) Qf v1 rfl zY kr)) (ps_cons kr ps_nil)))⟩))))) (fun hm=>ge 4 (riq hm (fun hm=>gr 2 (bi2 hm fun v2 v3 hx hm=>cp (Qhu hx) (re 4 (Qj zf)))) (fun hm=>ge 2 (riq hm (fun hm=>gr 2 (bi2 hm fun v4 v5 hx hm=>cp (Qfq hx) (re 4 (Qj zf)))) (fun hm=>Qk (ge 2 (Qj zf)))))))))))))))
def QbC (x:Unit):Option (List Int) :=
 match x with
 | _ =>
 some ([]:(List Int))
theorem QgM {r0} (hm:QbC ()=some r0):FQ 208 [] (La r0):=by
 unfold QbC at hm;exact fp (fn:=f208) rfl (ge 1 (ge 1 (Qj zf)))
def Xx (x:((List Int) × Int × Int)):Option (((List Int) × Int)) :=
 match x with
 | (q0,q1,q2) =>
 ((if q1 < 0 then
  some true
 else
 some (decide (q2 > (q0.length:Int)))
 )>>=fun (v2:Bool) =>
 if v2=true then
  some true
 else
 some (decide (q1 > q2))
 )>>=fun (v1:Bool) =>
 if v1=true then
  some (([]:List Int),4)
 else
 sub q0 0 q1>>=fun v3 =>
 QbC ()>>=fun v4 =>
 sub q0 q2 (q0.length:Int)>>=fun v5 =>
 Yh ([v3,v4,v5]:List (List Int))>>=fun v6 =>
 some (v6,0)
theorem QeK {q0 q1 q2 v5001 v5002} (hm:Xx (q0,q1,q2)=some (v5001,v5002)):PC prog env 206 [(La q0),(Qe q1),(Qe q2),(.dat (.raw (.func (.func 208) #[] #[])))] [] (.tup [(La v5001),(Qe v5002)]) []:=by
 unfold Xx at hm
 exact PC_sxB (fn:=f206) rfl (ge 2 (Qi (Qi (bi hm fun v1 hs hm=>QY (fun d=>⟨sl d 33 [(0,(La q0)),(1,(Qe q1)),(2,(Qe q2)),(3,(.dat (.raw (.func (.func 208) #[] #[])))),(22,(Qm v1))],[]⟩) (have hm:=hs;Qdg (Qd 3 (bi hm fun v2 hs hm=>ZH (j:=8) (fun d=>⟨sl d 33 [(0,(La q0)),(1,(Qe q1)),(2,(Qe q2)),(3,(.dat (.raw (.func (.func 208) #[] #[])))),(17,(Qm v2))],[]⟩) (fun d=>Qd 1 (gsb 18 hm (fun hm=>re 4 ⟨kr,zf⟩) (fun hm=>re 4 ⟨kr,zf⟩))) (fun hJ=>gs 12 hs (fun hm=>Qd 5 zf) (fun hm=>Qd 2 (QH Qf q0 (Qd 2 zf))))))) (fun d=>rib hm (fun hm=>ge 2 (Qj zf)) (fun hm=>Qk (Qi (Yv (Qd 2 (bi hm fun v3 hx hm=>QhP 1 Qf q0 v3 0 q1 (es:=(List.map Qf) q0) (L:=(List.map Qf)) (a:=natI 0) (b:=natI q1) zY rfl (fun _=>by first|rfl|exact num_of_fit (zY _)) hx rfl (Or.inl rfl) (Qd 1 (bi hm fun v4 hx hm=>cp (QgM hx) (Qd 2 (bi hm fun v5 hx hm=>QhP 1 Qf q0 v5 q2 (q0.length:Int) (es:=(List.map Qf) q0) (L:=(List.map Qf)) (a:=natI q2) (b:=some ((List.map Qf) q0).length) zY rfl (fun _=>by first|rfl|exact num_of_fit (zY _)) hx rfl (Or.inr ⟨rfl,rfl⟩) (Qd 1 (bi hm fun v6 hx hm=>ZL (Qac _ _ hx []) (re 2 ⟨kr,Qj zf⟩)))))))))))))))))
def XJ (x:((List Int) × Int)):Option ((List Int) × Int) :=
 match x with
 | (p0,p1) =>
 if p1≥(p0.length:Int) then
  some (([]:(List Int)),4)
 else
 Xx (p0,p1,(W (p1+1)))>>=fun (v1,v2) =>
 some (v1,v2)
theorem QfO {p0 p1 r0 r1} (hm:XJ (p0,p1)=some (r0,r1)):FQ 191 [(Lb p0),(Qf p1)] (.tup [(La r0),(Qe r1)]):=by
 unfold XJ at hm;exact fp (fn:=f191) rfl (ge 2 (Qi (gr 2 (QH Qf p0 (re 1 (ri hm (fun hm=>ge 2 (Qj zf)) (fun hm=>Qk (gr 4 (bi2 hm fun v1 v2 hx hm=>QM (QeK hx) (re 4 (Qj zf)))))))))))
def Q5 (x:((List Int) × (List Int) × Int)):Option (Unit ⊕ Unit) :=
 match x with
 | (p0,p1,v201) =>
 if v201 < (p0.length:Int) then
  idx p0 v201>>=fun v601 =>
  idx p1 v201>>=fun v602 =>
  if v601≠v602 then
   some (Sum.inl ())
  else
  Q5 (p0,p1,(W (v201+1)))
 else
 some (Sum.inr ())
 partial_fixpoint
theorem Jy:∀ x r,Q5 x=some r→match x with|(p0,p1,v201)=>LQ f193 193 [1,1,0,1,0,0] 0 ⟨kp 26 [(0,(La p0)),(1,(La p1)),(12,(Qe (p0.length:Int))),(13,(Qe v201))],[]⟩ (P2 .ret (fun _ d=>⟨sl d 26 [(4,(Qm false))],[]⟩) (.exit 0) (fun _ d=>⟨sl d 26 [],[]⟩) r):=by
 refine Q5.partial_correctness _ (fun Q5 Jy x r hm=>?_);obtain ⟨p0,p1,v201⟩:=x;exact lp (ge 1 (Qi (ri hm (fun hm=>Qk (Qi (Qn (ge 2 (Qi (Yv (Qd 2 (QV 1 Qf hm fun v601 hm=>Qd 3 (QV 1 Qf hm fun v602 hm=>re 2 ⟨kr,rix hm (fun hm=>ge 1 (Qj zf)) (fun hm=>Qk (R_G (re 2 (Jy _ _ hm _ kr))))⟩))))))))) (fun hm=>QE zf))))
def YE (x:((List Int) × (List Int))):Option Bool :=
 match x with
 | (p0,p1) =>
 if (p0.length:Int)≠(p1.length:Int) then
  some false
 else
 (
 Q5 (p0,p1,0)>>=fun out =>
 match out with
 | .inl _ =>
  some false
 | .inr (_) =>
  some true
 )
theorem Qfi {p0 p1 r0} (hm:YE (p0,p1)=some r0):FQ 193 [(Lb p0),(Lb p1)] (Qm r0):=by
 unfold YE at hm;exact fp (fn:=f193) rfl (ge 1 (Qi (gr 1 (QH Qf p0 (Qd 1 (QH Qf p1 (re 1 (rix hm (fun hm=>ge 1 (Qj zf)) (fun hm=>Qk (Qi (gr 1 (QH Qf p0 (re 1 (Qn (ru2 hm (Jy _) (fun _ d hm=>zf) fun _ d hm=>ge 1 (Qj zf))))))))))))))))
def Jf (x:((List Int) × (List Int))):Option Bool :=
 match x with
 | (p0,p1) =>
 YE (p0,p1)>>=fun v1 =>
 some v1
theorem Qf8 {p0 p1 r0} (hm:Jf (p0,p1)=some r0):FQ 175 [(Lb p0),(Lb p1)] (Qm r0):=by
 unfold Jf at hm;exact fp (fn:=f175) rfl (ge 1 (gr 2 (bi hm fun v1 hx hm=>cp (Qfi hx) (re 1 (Qj zf)))))
def QcD (x:(Int × Int)):Option (Int × Bool) :=
 match x with
 | (p0,p1) =>
 some ((W (p0+p1)),(decide ((W (p0+p1))≤65536)))
theorem Qh4 {p0 p1 r0 r1} (hm:QcD (p0,p1)=some (r0,r1)):FQ 209 [(Qf p0),(Qf p1)] (.tup [(Qe r0),(Qm r1)]):=by
 unfold QcD at hm;exact fp (fn:=f209) rfl (ge 2 (ge 9 (Qj zf)))
def QR (x:((List Int) × Int × Int)):Option (Int ⊕ Int) :=
 match x with
 | (p0,v201,v202) =>
 if v202 < (p0.length:Int) then
  idx p0 v202>>=fun v603 =>
  QcD (v201,v603)>>=fun (v604,v605) =>
  if v605=false then
   some (Sum.inl v604)
  else
  QR (p0,v604,(W (v202+1)))
 else
 some (Sum.inr v201)
 partial_fixpoint
theorem XL:∀ x r,QR x=some r→match x with|(p0,v201,v202)=>LQ f166 166 [1,1,0,1,0,0] 0 ⟨kp 31 [(2,(.dat (.raw (.func (.func 209) #[] #[])))),(8,(Qe v201)),(13,(La p0)),(14,(Qe (p0.length:Int))),(15,(Qe v202))],[]⟩ (P2 .ret (fun v601 d=>⟨sl d 31 [(6,(Qe v601)),(7,(Qm false))],[]⟩) (.exit 0) (fun v602 d=>⟨sl d 31 [(8,(Qe v602))],[]⟩) r):=by
 refine QR.partial_correctness _ (fun QR XL x r hm=>?_);obtain ⟨p0,v201,v202⟩:=x;exact lp (ge 1 (Qi (ri hm (fun hm=>Qk (Qi (Qn (Qi (R_G (QV 1 Qf hm fun v603 hm=>re 2 (gr 3 (bi2 hm fun v604 v605 hx hm=>cp (Qh4 hx) (re 5 (ge 2 (rin hm (fun hm=>ge 3 (Qj zf)) (fun hm=>Qk (R_G (re 2 (XL _ _ hm _ kr))))))))))))))) (fun hm=>QE zf))))
def Xl (x:((List Int) × Int)):Option (Int × Bool) :=
 match x with
 | (p0,p1) =>
 (
 QR (p0,p1,0)>>=fun out =>
 match out with
 | .inl v601 =>
  some (v601,false)
 | .inr (v602) =>
  some (v602,true)
 )
theorem Qeg {p0 p1 r0 r1} (hm:Xl (p0,p1)=some (r0,r1)):FQ 166 [(Lb p0),(Qf p1),(.raw (.func (.func 209) #[] #[]))] (.tup [(Qe r0),(Qm r1)]):=by
 unfold Xl at hm;exact fp (fn:=f166) rfl (ge 2 (ge 3 (Qi (gr 1 (QH Qf p0 (re 1 (Qn (ru2 hm (XL _) (fun v601 d hm=>zf) fun v602 d hm=>ge 3 (Qj zf)))))))))
def Xk (x:((List Int) × Int)):Option (Int × Int) :=
 match x with
 | (p0,p1) =>
 Qar p0>>=fun v1 =>
 if v1≠0 then
  some (0,v1)
 else
 Xl (p0,p1)>>=fun (v2,v3) =>
 if v3=false then
  some (0,7)
 else
 some (v2,0)
theorem Qef {p0 p1 r0 r1} (hm:Xk (p0,p1)=some (r0,r1)):FQ 128 [(Lb p0),(Qf p1),(.raw (.func (.func 209) #[] #[]))] (.tup [(Qe r0),(Qe r1)]):=by
 unfold Xk at hm;exact fp (fn:=f128) rfl (ge 2 (Qi (gr 1 (bi hm fun v1 hx hm=>cp (Qfh hx) (re 1 (ge 2 (rix hm (fun hm=>ge 3 (Qj zf)) (fun hm=>Qk (gr 3 (bi2 hm fun v2 v3 hx hm=>cp (Qeg hx) (re 5 (Qi (ge 2 (rin hm (fun hm=>ge 2 (Qj zf)) (fun hm=>Qk (ge 3 (Qj zf)))))))))))))))))
def Qd0 (x:(List Int)):Option (Int × Int) :=
 match x with
 | p0 =>
 Xk (p0,0)>>=fun (v1,v2) =>
 some (v1,v2)
theorem QiR {p0 r0 r1} (hm:Qd0 p0=some (r0,r1)):FQ 192 [(Lb p0)] (.tup [(Qe r0),(Qe r1)]):=by
 unfold Qd0 at hm;exact fp (fn:=f192) rfl (ge 2 (gr 1 (bi2 hm fun v1 v2 hx hm=>cp (Qef hx) (re 4 (Qj zf)))))
def Qda (x:((List Int) × (List Int) × Int)):Option ((List Int) × Int) :=
 match x with
 | (p0,p1,p2) =>
 XJ (p0,p2)>>=fun (v1,v2) =>
 XJ (p1,p2)>>=fun (v3,v4) =>
 Jf (v1,v3)>>=fun v5 =>
 if v5=false then
  some (([]:(List Int)),5)
 else
 idx p0 p2>>=fun v6 =>
 idx p1 p2>>=fun v7 =>
 Qd0 ([v6,v7]:List Int)>>=fun (v8,v9) =>
 if v9≠0 then
  some (([]:(List Int)),v9)
 else
 X2 (p0,p2,v8)>>=fun (v10,v11) =>
 some (v10,v11)
theorem QhM {p0 p1 p2 r0 r1} (hm:Qda (p0,p1,p2)=some (r0,r1)):FQ 173 [(Lb p0),(Lb p1),(Qf p2)] (.tup [(La r0),(Qe r1)]):=by
 unfold Qda at hm;exact fp (fn:=f173) rfl (ge 2 (gr 2 (bi2 hm fun v1 v2 hx hm=>cp (QfO hx) (re 5 (gr 2 (bi2 hm fun v3 v4 hx hm=>cp (QfO hx) (re 5 (Qi (gr 2 (bi hm fun v5 hx hm=>cp (Qf8 hx) (re 1 (rin hm (fun hm=>ge 2 (Qj zf)) (fun hm=>Qk (Qi (Yv (Qd 2 (QV 1 Qf hm fun v6 hm=>Qd 3 (QV 1 Qf hm fun v7 hm=>Qd 2 (bi2 hm fun v8 v9 hx hm=>cp (QiR hx) (re 5 ⟨kr,Qi (ge 2 (rix hm (fun hm=>ge 3 (Qj zf)) (fun hm=>Qk (gr 3 (bi2 hm fun v10 v11 hx hm=>cp (Qfq hx) (re 4 (Qj zf)))))))⟩))))))))))))))))))))
def JK (x:(Int × Int × (List Int) × (List Int) × (List Int))):Option (Unit) :=
 match x with
 | (q0,q1,q2,q3,q4) =>
 some ()
theorem QfK {q0 q1 q2 q3 q4} (hm:JK (q0,q1,q2,q3,q4)=some ()):PC prog env 170 [(.ptr 6 0),(.iptr [(Qf q0)]),(.iptr [(Qf q1)])] (Qg8 q2 q0 q1 q3 q4 q3.length q4.length) (.tup []) (Qgq q2 q0 q1 q3 q4 q3.length q4.length):=by
 unfold JK at hm;exact PC_sxB (fn:=f170) rfl (Yv (re 10 ⟨kr,zf⟩))
def XS (x:((List Int) × Int × Int × (List Int) × (List Int))):Option (Unit) :=
 match x with
 | (q0,q1,q2,q3,q4) =>
 some ()
theorem Qe4 {q0 q1 q2 q3 q4} (hm:XS (q0,q1,q2,q3,q4)=some ()):PC prog env 174 [(.ptr 6 0),(.ptr 1 0)] (Qgq q0 q1 q2 q3 q4 q3.length q4.length) (.tup []) (Qg4 q0 q1 q2 q3 q4 q3.length q4.length):=by
 unfold XS at hm;exact PC_sxB (fn:=f174) rfl (R_G (re 5 zf))
def Qa0 (x:((List Int) × (List Int) × (List Int) × Int × Int)):Option (Int ⊕ ((List Int) × (List Int))) :=
 match x with
 | (q0,q1,q2,q3,q4) =>
 Zd q1>>=fun v1 =>
 if v1≠0 then
  some (Sum.inl v1)
 else
 Qs q0>>=fun v2 =>
 Qs q1>>=fun v3 =>
 JK (q3,q4,q2,v2,v3)>>=fun _ =>
 XS (q2,q3,q4,v2,v3)>>=fun _ =>
 some (Sum.inr (v2,v3))
theorem Qev {q0 q1 q2 q3 q4 r} (hm:Qa0 (q0,q1,q2,q3,q4)=some r):PC prog env 138 [(La q0),(La q1),(.arr 2 0 2 2)] [Qu,(.box [(La q2)]),(QeZ q3 q4)] (match r with|.inl v5001=>(.tup [Qcq,(Qe v5001)])|.inr ((v5002,v5003))=>(.tup [(.agg [(La q2),(.ms 4 1 0 v5002.length v5002.length),(.ms 5 1 0 v5003.length v5003.length),Ea,(Qe q3),(Qe q4),Ea]),(Qe 0)])) (match r with|.inl v5001=>[Qu,(.box [(La q2)]),(QeZ q3 q4),Qu]|.inr ((v5002,v5003))=>[Qu,(.box [(La q2)]),(QeZ q3 q4),(Qg0 q2 v5002.length v5003.length q3 q4),(QB v5002),(QB v5003),(Qg0 q2 v5002.length v5003.length q3 q4)]):=by
 unfold Qa0 at hm
 exact PC_sxB (fn:=f138) rfl (ge 2 (Qi (gr 1 (bi hm fun v1 hx hm=>cp (ZF hx) (re 1 (ge 2 (rix hm (fun hm=>ge 4 (Qj zf)) (fun hm=>Qk (gr 1 (bi hm fun v2 hx hm=>go 4 3 Qf (Qv hx) (Qd 1 (bi hm fun v3 hx hm=>go 5 3 Qf (Qv hx) (re 3 (Qi (gr 1 (Qd 1 (re 1 (Qn (Qdu (RL_at (st':=⟨kp 33 [(6,(.ptr 3 0)),(9,(.ptr 6 0)),(23,(.arr 2 0 2 2)),(24,(Qe 2)),(25,(Qe 0))],(Qg8 q2 q3 q4 v2 v3 v2.length v3.length)⟩) (prune_of2 (Qg8 q2 q3 q4 v2 v3 v2.length v3.length) (fun _=>(pg_cons kr (pg_cons kr (pg_cons kr (pg_cons kr (pg_cons (purge_mt Qf _ _ _ _ _) (pg_cons (purge_mt Qf _ _ _ _ _) (pg_cons kr pg_nil)))))))) rfl) (ge 1 (Qi (Qb8 kr (Qk (Qi (Qn (gr 1 (re 2 (R_G (Qd 1 (bi hm fun _ hx hm=>QM (QfK hx) (Yf (R_G (re 2 (RL_at (st':=⟨kp 33 [(6,(.ptr 3 0)),(9,(.ptr 6 0)),(23,(.arr 2 0 2 2)),(24,(Qe 2)),(25,(Qe 1))],(Qgq q2 q3 q4 v2 v3 v2.length v3.length)⟩) (prune_of2 (Qgq q2 q3 q4 v2 v3 v2.length v3.length) (fun _=>(pg_cons kr (pg_cons kr (pg_cons kr (pg_cons kr (pg_cons (purge_mt Qf _ _ _ _ _) (pg_cons (purge_mt Qf _ _ _ _ _) (pg_cons kr pg_nil)))))))) rfl) (ge 1 (Qi (Qb8 kr (Qk (Qi (Qn (gr 1 (re 2 (R_G (Qd 1 (bi hm fun _ hx hm=>QM (Qe4 hx) (Yf (R_G (re 2 (RL_at (st':=⟨kp 33 [(6,(.ptr 3 0)),(9,(.ptr 6 0)),(23,(.arr 2 0 2 2)),(24,(Qe 2)),(25,(Qe 2))],(Qg4 q2 q3 q4 v2 v3 v2.length v3.length)⟩) (prune_of2 (Qg4 q2 q3 q4 v2 v3 v2.length v3.length) (fun _=>(pg_cons kr (pg_cons kr (pg_cons kr (pg_cons kr (pg_cons (purge_mt Qf _ _ _ _ _) (pg_cons (purge_mt Qf _ _ _ _ _) (pg_cons kr pg_nil)))))))) rfl) (ge 1 (Qi (XN kr (QE (ge 3 (Qj zf))))))))))))))))))))))))))))))))))))))))))))))))))))))))
def Xr (x:(Int × (List Int) × (List Int))):Option (Qr × Int) :=
 match x with
 | (p0,p1,p2) =>
 (if p0=(-1) then
  some (W ((max (max (p1.length:Int) (p2.length:Int)) 1) - 1))
 else
 some p0
 )>>=fun (v1:Int) =>
 if v1≥(max (max (p1.length:Int) (p2.length:Int)) 1) then
  Zx 4>>=fun (v2,v3) =>
  some (v2,v3)
 else
 Yn (p1,p2,(max (max (p1.length:Int) (p2.length:Int)) 1),v1)>>=fun (v4,v5) =>
 Yn (p2,p1,(max (max (p1.length:Int) (p2.length:Int)) 1),v1)>>=fun (v6,v7) =>
 (if v5≠0 then
  some true
 else
 some (v7 != 0)
 )>>=fun (v8:Bool) =>
 if v8=true then
  Zx 4>>=fun (v9,v10) =>
  some (v9,v10)
 else
 Qda (v4,v6,v1)>>=fun (v11,v12) =>
 if v12≠0 then
  Zx v12>>=fun (v13,v14) =>
  some (v13,v14)
 else
 Xw (v1,0)>>=fun (v15,v16) =>
 (
 Qa0 (v6,v11,v4,v15,v16)>>=fun out =>
 match out with
 | .inl v17 =>
  some ((⟨([]:(List Int)),([]:(List Int)),([]:(List Int)),([]:(List Int)),0,0,([]:(List Int))⟩:Qr),v17)
 | .inr ((v18,v19)) =>
  some ((⟨v4,v18,v19,([]:(List Int)),v15,v16,([]:(List Int))⟩:Qr),0)
 )
theorem QgT {p0 p1 p2 r0 r1} (hm:Xr (p0,p1,p2)=some (r0,r1)):FQ 141 [(Qf p0),(Lb p1),(Lb p2)] (.tup [(.dat (Qr.toD r0)),(Qe r1)]):=by
 unfold Xr at hm
 exact fp (fn:=f141) rfl (ge 2 (gr 1 (QH Qf p1 (Qd 1 (QH Qf p2 (QG rfl (fun _=>Qi7 (k:=.i64) (m:=(p1.length:Int)) (n:=(p2.length:Int)) (q:=1) rfl kr kr kr) (re 1 (Qi (ge 2 (bi hm fun v1 hs hm=>QY (fun d=>⟨sl d 76 [(0,(Qe v1)),(1,(La p1)),(2,(La p2)),(6,(.ptr 0 0)),(8,(Qe (max (max (p1.length:Int) (p2.length:Int)) 1)))],[Qu]⟩) (have hm:=hs;riq hm (fun hm=>R_G (re 3 zf)) (fun hm=>Qk zf)) (fun d=>Qi (ge 3 (ri hm (fun hm=>Qi (R_G (bi2 hm fun v2 v3 hx hm=>cp (Z9 hx) (re 4 (Qj zf))))) (fun hm=>Qk (gr 4 (bi2 hm fun v4 v5 hx hm=>cp (QfN hx) (re 6 (gr 4 (bi2 hm fun v6 v7 hx hm=>cp (QfN hx) (re 5 (Qi (Qi (bi hm fun v8 hs hm=>QY (fun d=>⟨sl d 76 [(0,(Qe v1)),(6,(.ptr 0 0)),(9,(.ptr 1 0)),(11,(La v6)),(50,(Qm v8))],[Qu,(.box [(La v4)])]⟩) (have hm:=hs;R_G (Qd 3 (gsx 47 hm (fun hm=>re 3 zf) (fun hm=>re 3 zf)))) (fun d=>rib hm (fun hm=>Qi (R_G (bi2 hm fun v9 v10 hx hm=>cp (Z9 hx) (re 4 (Qj zf))))) (fun hm=>Qk (gr 3 (bi2 hm fun v11 v12 hx hm=>cp (QhM hx) (re 5 (Qi (ge 2 (rix hm (fun hm=>gr 1 (bi2 hm fun v13 v14 hx hm=>cp (Z9 hx) (re 4 (Qj zf)))) (fun hm=>Qk (gr 3 (bi2 hm fun v15 v16 hx hm=>cp (Qfg hx) (Qd 2 (bs hm (fun v17 hx hm=>QM (Qev hx) (re 4 (Qj zf))) fun ⟨v18,v19⟩ hx hm=>QM (Qev hx) (re 4 (Qj (by obtain ⟨rfl,rfl⟩:=QgS hm; exact ⟨trivial,ZT [(.agg [(La v4),(.ms 4 1 0 v18.length v18.length),(.ms 5 1 0 v19.length v19.length),Ea,(Qe v15),(Qe v16),Ea]),(Qe 0)] kr (po_tup (ps_cons (p1_agg (pc_cons kr (pc_cons (pc_ms (e:=3) Qf v18 rfl zY kr) (pc_cons (pc_ms (e:=3) Qf v19 rfl zY kr) (pc_cons kr (pc_cons kr (pc_cons kr (pc_cons kr pc_nil)))))))) (ps_cons kr ps_nil)))⟩)))))))))))))))))))))))))))))))))))))))
def Qbe (x:(Qh × (List Int))):Option Qh :=
 match x with
 | (p0,p1) =>
 Jf (p0.shape,p1)>>=fun v1 =>
 if v1=true then
  some p0
 else
 XZ (p0,p1)>>=fun v2 =>
 some v2
theorem QfC {p0 p1 r0} (hm:Qbe (p0,p1)=some r0):FQ 142 [(Qh.ex p0),(Lb p1)] (.dat (Qh.ex r0)):=by
 unfold Qbe at hm;exact fp (fn:=f142) rfl (ge 2 (Qi (gr 3 (bi hm fun v1 hx hm=>cp (Qf8 hx) (Yf (rib hm (fun hm=>ge 2 (Qj zf)) (fun hm=>Qk (gr 2 (bi hm fun v2 hx hm=>cp (Qdv hx) (re 1 (Qj zf)))))))))))
def Yp (x:List Int):Option (List Int):=app 8 [] x
def cgm_slices_Clone_int64_int64 (l:List Int):Nat:=match l with|[]=>0|_=>1
theorem Qbq {x r} (hm:Yp x=some r):PC prog env 176 ([.lst ((List.map Qf) x)].map .dat) [] (.ms 0 (cgm_slices_Clone_int64_int64 r) 0 r.length r.length) [.mt 2 (cgm_slices_Clone_int64_int64 r) (cellsOf Qf r)]:=by
 obtain ⟨hroom,hr⟩:=app_some hm;have hr:r=x:=hr;subst hr;cases r with
 | nil=>exact PC_of (n:=20) (by kernel_rfl)
 | cons a l =>
  exact PC_sxB (fn:=f176) rfl (ge 1 (Qi (gr 1 (QG rfl (fun _=>Qh9 (p:=.dat (Lb (a::l))) (b:=false) rfl kr kr kr) (Yf (XN kr (Qk (gr 2 (ZR (v:=.ms 0 1 0 (a::l).length (a::l).length) (fun H=>H.set 0 (.mt 2 1 (cellsOf Qf (a::l)))) rfl kr (fun _ hk=>QgX Qf (l:=[]) (es:=a::l) (bytes:=8) (e:=2) (tt:=0) (g:=0) (m:=0) hm zY kr kr kr kr rfl rfl kr rfl kr (source_lst zY) hk) (re 1 (Qj zf)))))))))))
def XX (x:(Int × Int × Int × ByteArray × (List Int) × (List Qc) × (List (ByteArray × Int)) × (List Qg) × (List Qg))):Option (((List Int) × Bool × Int)) :=
 match x with
 | (q0,q1,q2,q3,q4,q5,q6,q7,q8) =>
 if q0=1 then
  Yp q4>>=fun v1 =>
  some (v1,((q4.length:Int) == 1),0)
 else
 Zw (q3,q6,q7,q8)>>=fun (v2,v3,v4) =>
 if v4=false then
  some (([]:List Int),false,2)
 else
 if (v2.length:Int) > 1 then
  some (([]:List Int),false,4)
 else
 some (v3,((v2.length:Int) == 0),0)
theorem QgJ {q0 q1 q2 q3 q4 q5 q6 q7 q8 v5001 v5002 v5003} (hm:XX (q0,q1,q2,q3,q4,q5,q6,q7,q8)=some (v5001,v5002,v5003)):PCX prog env 143 [(.ptr 4 0),(QeS q0 q1 q2 q3 q4 q5)] (Qcn q6 q7.length q7 q8) (.tup [(.dat (.agg [(Lb v5001),(Qfw v5002)])),(Qe v5003)]) (Qcn q6 q7.length q7 q8):=by
 unfold XX at hm;exact PCX_sxB (fn:=f143) rfl (ge 3 (Qi (ge 3 (riq hm (fun hm=>Qi (Yv (Qd 2 (bi hm fun v1 hx hm=>QG (v:=.dat (Lb v1)) rfl (fun _=>Qfu (f:=176) (first:=#[]) (cap:=#[]) (e:=2) (ow':=[]) (ds:=[.lst ((List.map Qf) q4)]) rfl kr kr kr kr (Qbq hx) (p1_ms (pc_ms (e:=2) Qf v1 rfl zY kr))) (Qd 2 (QH Qf q4 (re 4 ⟨kr,Qj zf⟩))))))) (fun hm=>Qk (gr 3 (bi3 hm fun v2 v3 v4 hx hm=>QcZ (n:=5) (QdE hx) (re 6 (Qi (Qn (ge 3 (rin hm (fun hm=>ge 3 (Qj zf)) (fun hm=>gr 2 (QH Qf v2 (re 2 (ri hm (fun hm=>ge 3 (Qj zf)) (fun hm=>Qk (gr 4 (QH Qf v2 (re 4 (Qj zf)))))))))))))) (hi:=und_hi 0) (hq:=und_hq 0))))))))
def XW (x:Int × Int):Option (List Int):=match x with
 | (a,n)=>if (a=1∨a=-1)∧0≤n∧n≤16 then some (List.replicate n.toNat a) else none
def Qcf:Int × Int→List Int→Prop:=fun x r=>match x with
 | (a,n)=>PC prog env 210 [(La ([a]:List Int)),(Qe n)] [] (.arr 0 0 r.length r.length) [(.box (cellsOf Qf r))]
theorem Qe7:∀ x r,XW x=some r→Qcf x r:=by
 intro x r hm;obtain ⟨a,n⟩:=x;unfold XW at hm;simp only at hm;split at hm
 ·rename_i hc;cases hm;obtain ⟨ha,h0,h1⟩:=hc;obtain ⟨k,rfl⟩:=jZ h0;have hk:k≤16:=by omega
  unfold Qcf;skip;rcases ha with rfl|rfl
  ·match k,hk with
   | 0,_=>refine PC_of (n:=60) ?_; kernel_rfl
   | 1,_=>refine PC_of (n:=60) ?_; kernel_rfl
   | 2,_=>refine PC_of (n:=60) ?_; kernel_rfl
   | 3,_=>refine PC_of (n:=60) ?_; kernel_rfl
   | 4,_=>refine PC_of (n:=60) ?_; kernel_rfl
   | 5,_=>refine PC_of (n:=60) ?_; kernel_rfl
   | 6,_=>refine PC_of (n:=60) ?_; kernel_rfl
   | 7,_=>refine PC_of (n:=60) ?_; kernel_rfl
   | 8,_=>refine PC_of (n:=60) ?_; kernel_rfl
   | 9,_=>refine PC_of (n:=60) ?_; kernel_rfl
   | 10,_=>refine PC_of (n:=60) ?_; kernel_rfl
   | 11,_=>refine PC_of (n:=60) ?_; kernel_rfl
   | 12,_=>refine PC_of (n:=60) ?_; kernel_rfl
   | 13,_=>refine PC_of (n:=60) ?_; kernel_rfl
   | 14,_=>refine PC_of (n:=60) ?_; kernel_rfl
   | 15,_=>refine PC_of (n:=60) ?_; kernel_rfl
   | 16,_=>refine PC_of (n:=60) ?_; kernel_rfl
  ·match k,hk with
   | 0,_=>refine PC_of (n:=60) ?_; kernel_rfl
   | 1,_=>refine PC_of (n:=60) ?_; kernel_rfl
   | 2,_=>refine PC_of (n:=60) ?_; kernel_rfl
   | 3,_=>refine PC_of (n:=60) ?_; kernel_rfl
   | 4,_=>refine PC_of (n:=60) ?_; kernel_rfl
   | 5,_=>refine PC_of (n:=60) ?_; kernel_rfl
   | 6,_=>refine PC_of (n:=60) ?_; kernel_rfl
   | 7,_=>refine PC_of (n:=60) ?_; kernel_rfl
   | 8,_=>refine PC_of (n:=60) ?_; kernel_rfl
   | 9,_=>refine PC_of (n:=60) ?_; kernel_rfl
   | 10,_=>refine PC_of (n:=60) ?_; kernel_rfl
   | 11,_=>refine PC_of (n:=60) ?_; kernel_rfl
   | 12,_=>refine PC_of (n:=60) ?_; kernel_rfl
   | 13,_=>refine PC_of (n:=60) ?_; kernel_rfl
   | 14,_=>refine PC_of (n:=60) ?_; kernel_rfl
   | 15,_=>refine PC_of (n:=60) ?_; kernel_rfl
   | 16,_=>refine PC_of (n:=60) ?_; kernel_rfl
 ·cases hm
def Qeo (x:Int):Option (List Int) :=
 match x with
 | p0 =>
 XW (1,p0)>>=fun v1 =>
 some v1
theorem QiI {p0 r0} (hm:Qeo p0=some r0):FQ 194 [(Qf p0)] (La r0):=by
 unfold Qeo at hm;exact fp (fn:=f194) rfl (ge 1 (gr 2 (bi hm fun v1 hx hm=>QM (Qe7 _ _ hx) (re 1 (Qj (by obtain rfl:=Qij hm; exact ⟨trivial,ZT [(.arr 0 0 v1.length v1.length)] kr (po_arr (pc_arr Qf v1 rfl zY kr))⟩))))))
def Qbo (x:((List Int) × Int)):Option ((List Int) × Int) :=
 match x with
 | (p0,p1) =>
 if (p0.length:Int) > 0 then
  some (p0,0)
 else
 if p1 > 16 then
  some (([]:(List Int)),7)
 else
 Qeo p1>>=fun v1 =>
 some (v1,0)
theorem QgQ {p0 p1 r0 r1} (hm:Qbo (p0,p1)=some (r0,r1)):FQ 177 [(Lb p0),(Qf p1)] (.tup [(La r0),(Qe r1)]):=by
 unfold Qbo at hm;exact fp (fn:=f177) rfl (ge 2 (Qi (Qn (gr 1 (QH Qf p0 (re 2 (ri hm (fun hm=>ge 3 (Qj zf)) (fun hm=>ge 3 (ri hm (fun hm=>ge 2 (Qj zf)) (fun hm=>Qk (gr 1 (bi hm fun v1 hx hm=>cp (QiI hx) (re 2 (Qj zf))))))))))))))
def Jk (x:Int):Option (Int × Int) :=
 match x with
 | p0 =>
 (if p0 > 65536 then
  some true
 else
 some (decide (p0 < (-65536)))
 )>>=fun (v1:Bool) =>
 if v1=true then
  some (0,7)
 else
 some ((if p0 < (W (0 - p0)) then (W (0 - p0)) else p0),0)
theorem Qe6 {p0 r0 r1} (hm:Jk p0=some (r0,r1)):FQ 178 [(Qf p0)] (.tup [(Qe r0),(Qe r1)]):=by
 unfold Jk at hm;exact fp (fn:=f178) rfl (ge 2 (Qi (Qi (bi hm fun v1 hs hm=>QY (fun d=>⟨sl d 14 [(0,(Qe p0)),(9,(Qm v1))],[]⟩) (have hm:=hs;R_G (Qd 3 (gs 6 hm (fun hm=>re 3 zf) (fun hm=>re 3 zf)))) (fun d=>rib hm (fun hm=>ge 2 (Qj zf)) (fun hm=>Qk (gr 3 (QG rfl (fun _=>QgZ (k:=.i64) (m:=p0) (n:=(W (0 - p0))) rfl kr kr) (re 2 (Qj zf))))))))))
def JY (x:((List Int) × (List Int) × Bool × Nat)):Option (Unit) :=
 match x with
 | (q0,q1,q2,q3) =>
 some ()
theorem QfU {q0 q1 q2 q3} (hm:JY (q0,q1,q2,q3)=some ()):PC prog env 179 [(Qdi q0)] [(QT q1 q2),Qu,(.tok 3 q3),(.tok 3 q0.length)] (.fn 195 [(.ptr 4 0)]) [(QT q1 q2),Qu,(.tok 3 q3),(.tok 3 q0.length),(QeY q0)]:=by
 unfold JY at hm;exact PC_sxB (fn:=f179) rfl (ge 2 (ge 2 (Qj zf)))
def Jv (x:((List Int) × Bool × (List Int) × (List Int) × (List Int) × Nat)):Option (Unit) :=
 match x with
 | (q0,q1,q2,q3,q4,q5) =>
 some ()
theorem Qfs {q0 q1 q2 q3 q4 q5} (hm:Jv (q0,q1,q2,q3,q4,q5)=some ()):PC prog env 195 [(.ptr 9 0),(.ptr 4 0)] (Qg3 q0 q1 q5 q2.length q2 q3 q4 q3.length q4.length) (.tup []) (Qhd q0 q1 q5 q2.length q2 q3 q4 q3.length q4.length):=by
 unfold Jv at hm;exact PC_sxB (fn:=f195) rfl (R_G (re 5 zf))
def Qa1 (x:((List Int) × (List Int) × (List Int) × Bool × (List Int))):Option (Int ⊕ ((List Int) × (List Int))) :=
 match x with
 | (q0,q1,q2,q3,q4) =>
 Zd q1>>=fun v1 =>
 if v1≠0 then
  some (Sum.inl v1)
 else
 Qs q0>>=fun v2 =>
 Qs q1>>=fun v3 =>
 Jv (q2,q3,q4,v2,v3,q1.length)>>=fun _ =>
 some (Sum.inr (v2,v3))
theorem Qew {q0 q1 q2 q3 q4 r} (hm:Qa1 (q0,q1,q2,q3,q4)=some r):PC prog env 138 [(La q0),(Qhj q1),(.arr 5 0 1 1)] [(QT q2 q3),Qu,(.tok 3 q1.length),(.tok 3 q4.length),(QeY q4),QbL] (match r with|.inl v5001=>(.tup [Qcq,(Qe v5001)])|.inr ((v5002,v5003))=>(.tup [(.agg [Ea,(.ms 7 1 0 v5002.length v5002.length),(.ms 8 1 0 v5003.length v5003.length),(Qdi q4),(Qe (-1)),(Qe 0),Ea]),(Qe 0)])) (match r with|.inl v5001=>[(QT q2 q3),Qu,(.tok 3 q1.length),(.tok 3 q4.length),(QeY q4),QbL,Qu]|.inr ((v5002,v5003))=>[(QT q2 q3),Qu,(.tok 3 q1.length),(.tok 3 q4.length),(QeY q4),QbL,(Qg7 v5002.length v5003.length q4),(QB v5002),(QB v5003),(Qg7 v5002.length v5003.length q4)]):=by
 unfold Qa1 at hm
 exact PC_sxB (fn:=f138) rfl (ge 2 (Qi (gr 1 (bi hm fun v1 hx hm=>cp (ZF hx) (re 1 (ge 2 (rix hm (fun hm=>ge 4 (Qj zf)) (fun hm=>Qk (gr 1 (bi hm fun v2 hx hm=>go 7 3 Qf (Qv hx) (Qd 1 (bi hm fun v3 hx hm=>go 8 3 Qf (Qv hx) (re 3 (Qi (gr 1 (Qd 1 (re 1 (Qn (Qdu (RL_at (st':=⟨kp 33 [(6,(.ptr 6 0)),(9,(.ptr 9 0)),(23,(.arr 5 0 1 1)),(24,(Qe 1)),(25,(Qe 0))],(Qg3 q2 q3 q1.length q4.length q4 v2 v3 v2.length v3.length)⟩) (prune_of2 (Qg3 q2 q3 q1.length q4.length q4 v2 v3 v2.length v3.length) (fun _=>(pg_cons kr (pg_cons kr (pg_cons kr (pg_cons kr (pg_cons kr (pg_cons kr (pg_cons kr (pg_cons (purge_mt Qf _ _ _ _ _) (pg_cons (purge_mt Qf _ _ _ _ _) (pg_cons kr pg_nil))))))))))) rfl) (ge 1 (Qi (Qb8 kr (Qk (Qi (Qn (gr 1 (re 2 (R_G (Qd 1 (bi hm fun _ hx hm=>QM (Qfs hx) (Yf (R_G (re 2 (RL_at (st':=⟨kp 33 [(6,(.ptr 6 0)),(9,(.ptr 9 0)),(23,(.arr 5 0 1 1)),(24,(Qe 1)),(25,(Qe 1))],(Qhd q2 q3 q1.length q4.length q4 v2 v3 v2.length v3.length)⟩) (prune_of2 (Qhd q2 q3 q1.length q4.length q4 v2 v3 v2.length v3.length) (fun _=>(pg_cons kr (pg_cons kr (pg_cons kr (pg_cons kr (pg_cons kr (pg_cons kr (pg_cons kr (pg_cons (purge_mt Qf _ _ _ _ _) (pg_cons (purge_mt Qf _ _ _ _ _) (pg_cons kr pg_nil))))))))))) rfl) (ge 1 (Qi (XN kr (QE (ge 3 (Qj zf)))))))))))))))))))))))))))))))))))))))))
def YP (x:(QP × (List Int) × (List Int) × (List Int) × Int)):Option (((List Int) × (List Int) × (List Int) × (List Int) × Int × Int × (List Int) × Int × Nat × Nat) ⊕ ((List Int) × (List Int))) :=
 match x with
 | (p0,v1,v207,v208,v209) =>
 if v209 < (p0.values.length:Int) then
  idx p0.values v209>>=fun v619 =>
  Jk v619>>=fun (v620,v621) =>
  if v621≠0 then
   Zx v621>>=fun (v622,v623) =>
   some (Sum.inl (v622.left,v622.right,v622.shape,v622.starts,v622.axis,v622.amount,v622.perm,v623,v207.length,v208.length))
  else
  app 8 v207 ([v620]:List Int)>>=fun v624 =>
  if v619 < 0 then
   idx v1 v209>>=fun v625 =>
   app 8 v208 ([(W (v625 - v620))]:List Int)>>=fun v626 =>
   YP (p0,v1,v624,v626,(W (v209+1)))
  else
  app 8 v208 ([0]:List Int)>>=fun v627 =>
  YP (p0,v1,v624,v627,(W (v209+1)))
 else
 some (Sum.inr (v207,v208))
 partial_fixpoint
theorem QcL:∀ x r,YP x=some r→match x with|(p0,v1,v207,v208,v209)=>LQ f144 144 [1,1,1,1,1,0,1,0,0] 4 ⟨kp 83 [(4,(.ptr 1 0)),(6,(La v1)),(8,(Qhj v207)),(9,(Qdi v208)),(38,(La p0.values)),(39,(Qe (p0.values.length:Int))),(40,(Qe v209))],[(QT p0.values p0.scalar),Qu,(.tok 3 v207.length),(.tok 3 v208.length)]⟩ (P2 .ret (fun (v607,v608,v609,v610,v611,v612,v613,v614,v615,v616) d=>⟨sl d 83 [(4,(.ptr 1 0)),(5,(Qe v614))],[(QT p0.values p0.scalar),(QaC v607 v608 v609 v610 v611 v612 v613),(.tok 3 v615),(.tok 3 v616)]⟩) (.exit 0) (fun (v617,v618) d=>⟨sl d 83 [(4,(.ptr 1 0)),(6,(La v1)),(8,(Qhj v617)),(9,(Qdi v618))],[(QT p0.values p0.scalar),Qu,(.tok 3 v617.length),(.tok 3 v618.length)]⟩) r):=by
 refine YP.partial_correctness _ (fun YP QcL x r hm=>?_);obtain ⟨p0,v1,v207,v208,v209⟩:=x
 exact lp (ge 1 (Qi (ri hm (fun hm=>Qk (Qi (Qn (gr 1 (QV 1 Qf hm fun v619 hm=>re 3 (gr 1 (bi2 hm fun v620 v621 hx hm=>cp (Qe6 hx) (re 5 (Qi (ge 2 (rix hm (fun hm=>gr 1 (bi2 hm fun v622 v623 hx hm=>cp (Z9 hx) (re 4 (Qj zf)))) (fun hm=>Qk (gr 3 (bi hm fun v624 hx hm=>Y9 3 1 8 2 Qf v207 ([v620]:List Int) v624 (xs:=(List.map Qf) v207) (es:=(List.map Qf) ([v620]:List Int)) (L:=(List.map Qf)) zY rfl rfl zY hx (re 1 (ge 2 (ri hm (fun hm=>R_G (Qd 3 (QV 1 Qf hm fun v625 hm=>Qd 4 (bi hm fun v626 hx hm=>Y9 3 1 8 3 Qf v208 ([(W (v625 - v620))]:List Int) v626 (xs:=(List.map Qf) v208) (es:=(List.map Qf) ([(W (v625 - v620))]:List Int)) (L:=(List.map Qf)) zY rfl rfl zY hx (re 1 (R_G (re 2 (QcL _ _ hm _ kr)))))))) (fun hm=>R_G (Qd 2 (bi hm fun v627 hx hm=>Y9 3 1 8 3 Qf v208 ([0]:List Int) v627 (xs:=(List.map Qf) v208) (es:=(List.map Qf) ([0]:List Int)) (L:=(List.map Qf)) zY rfl rfl zY hx (re 1 (R_G (re 2 (QcL _ _ hm _ kr)))))))))))))))))))))))) (fun hm=>QE zf))))
def Qdr (x:(QP × (List Int))):Option (Qr × Int) :=
 match x with
 | (p0,p1) =>
 Qbo (p1,(p0.values.length:Int))>>=fun (v1,v2) =>
 if v2≠0 then
  Zx v2>>=fun (v3,v4) =>
  some (v3,v4)
 else
 if (p0.values.length:Int)≠(v1.length:Int) then
  Zx 5>>=fun (v5,v6) =>
  some (v5,v6)
 else
 (
 YP (p0,v1,([]:List Int),([]:List Int),0)>>=fun out =>
 match out with
 | .inl (v607,v608,v609,v610,v611,v612,v613,v614,v615,v616) =>
  some ((⟨v607,v608,v609,v610,v611,v612,v613⟩:Qr),v614)
 | .inr ((v617,v618)) =>
  JY (v618,p0.values,p0.scalar,v617.length)>>=fun _ =>
  (
  Qa1 (v1,v617,p0.values,p0.scalar,v618)>>=fun out =>
  match out with
  | .inl v628 =>
   some ((⟨([]:(List Int)),([]:(List Int)),([]:(List Int)),([]:(List Int)),0,0,([]:(List Int))⟩:Qr),v628)
  | .inr ((v629,v630)) =>
   some ((⟨([]:(List Int)),v629,v630,v618,(-1),0,([]:(List Int))⟩:Qr),0)
  )
 )
theorem QiH {p0 p1 r0 r1} (hm:Qdr (p0,p1)=some (r0,r1)):FQ 144 [(QP.toD p0),(Lb p1)] (.tup [(.dat (Qr.toD r0)),(Qe r1)]):=by
 unfold Qdr at hm
 exact fp (fn:=f144) rfl (ge 3 (gr 3 (QH Qf p0.values (bi2 hm fun v1 v2 hx hm=>cp (QgQ hx) (re 5 (Qi (ge 2 (rix hm (fun hm=>gr 1 (bi2 hm fun v3 v4 hx hm=>cp (Z9 hx) (re 4 (Qj zf)))) (fun hm=>Qk (Qi (gr 2 (QH Qf p0.values (Qd 1 (QH Qf v1 (re 1 (rix hm (fun hm=>Qi (R_G (bi2 hm fun v5 v6 hx hm=>cp (Z9 hx) (re 4 (Qj zf))))) (fun hm=>Qk (ge 2 (Qi (gr 2 (QH Qf p0.values (re 1 (Qn (ru2 hm (QcL _) (fun ⟨v607,v608,v609,v610,v611,v612,v613,v614,v615,v616⟩ d hm=>zf) fun ⟨v617,v618⟩ d hm=>gr 3 (bi hm fun _ hx hm=>QM (QfU hx) (Qd 1 (bs hm (fun v628 hx hm=>QM (Qew hx) (re 4 (Qj zf))) fun ⟨v629,v630⟩ hx hm=>QM (Qew hx) (re 4 (Qj (by obtain ⟨rfl,rfl⟩:=QgS hm; exact ⟨trivial,ZT [(.agg [Ea,(.ms 7 1 0 v629.length v629.length),(.ms 8 1 0 v630.length v630.length),(Qdi v618),(Qe (-1)),(Qe 0),Ea]),(Qe 0)] kr (po_tup (ps_cons (p1_agg (pc_cons kr (pc_cons (pc_ms (e:=3) Qf v629 rfl zY kr) (pc_cons (pc_ms (e:=3) Qf v630 rfl zY kr) (pc_cons kr (pc_cons kr (pc_cons kr (pc_cons kr pc_nil)))))))) (ps_cons kr ps_nil)))⟩))))))))))))))))))))))))))))))
def QaJ (x:(Qr × Qh)):Option Qh :=
 match x with
 | (p0,p1) =>
 Qbe (p1,p0.right)>>=fun v1 =>
 some (⟨2,p0.shape,0,p0.starts,0,0,([]:(List Int)),([(⟨v1.kind,v1.shape,v1.buffer,v1.starts,v1.axis,v1.amount,v1.perm,v1.kids⟩:Qh)]:(List Qh))⟩:Qh)
theorem QfZ {p0 p1 r0} (hm:QaJ (p0,p1)=some r0):FQ 145 [(Qr.toD p0),(Qh.ex p1)] (.dat (Qh.ex r0)):=by
 unfold QaJ at hm;exact fp (fn:=f145) rfl (ge 3 (Qi (Yv (Qd 7 (bi hm fun v1 hx hm=>cp (QfC hx) (re 3 ⟨kr,Qj zf⟩))))))
def Qbn (x:(Int × Int)):Option (Int × Int) :=
 match x with
 | (p0,p1) =>
 Jk p1>>=fun (v1,v2) =>
 (if v2≠0 then
  some true
 else
 some (decide (v1 > p0))
 )>>=fun (v3:Bool) =>
 (if v3=true then
  some p0
 else
 some v1
 )>>=fun (v4:Int) =>
 if p1 < 0 then
  some ((W (p0 - v4)),0)
 else
 some ((W (p0 - v4)),v4)
theorem Qht {p0 p1 r0 r1} (hm:Qbn (p0,p1)=some (r0,r1)):FQ 180 [(Qf p0),(Qf p1)] (.tup [(Qe r0),(Qe r1)]):=by
 unfold Qbn at hm;exact fp (fn:=f180) rfl (ge 2 (gr 1 (bi2 hm fun v1 v2 hx hm=>cp (Qe6 hx) (re 5 (Qi (Qi (bi hm fun v3 hs hm=>QY (fun d=>⟨sl d 30 [(0,(Qe p0)),(1,(Qe p1)),(6,(Qe v1)),(19,(Qm v3))],[]⟩) (have hm:=hs;R_G (Qd 3 (gsx 15 hm (fun hm=>re 4 zf) (fun hm=>re 4 zf)))) (fun d=>bi hm fun v4 hs hm=>QY (fun d=>⟨sl d 30 [(0,(Qe p0)),(1,(Qe p1)),(6,(Qe v4))],[]⟩) (have hm:=hs;rib hm (fun hm=>R_G (re 2 zf)) (fun hm=>Qk zf)) (fun d=>Qi (ge 2 (ri hm (fun hm=>ge 5 (Qj zf)) (fun hm=>Qk (ge 6 (Qj zf))))))))))))))
def JZ (x:(Nat × (List Int) × Bool × (List Int) × (List Int))):Option (Unit) :=
 match x with
 | (q0,q1,q2,q3,q4) =>
 some ()
theorem QfV {q0 q1 q2 q3 q4} (hm:JZ (q0,q1,q2,q3,q4)=some ()):PC prog env 179 [(.arr 3 0 q0 q0)] (Qfy q1 q2 q3 q4) (.fn 195 [(.ptr 4 0)]) [(QT q1 q2),Qu,(QB q3),(.box (cellsOf Qf q4)),(.box [(.arr 3 0 q0 q0)])]:=by
 unfold JZ at hm;exact PC_sxB (fn:=f179) rfl (ge 2 (ge 2 (Qj zf)))
def Jw (x:((List Int) × Bool × (List Int) × (List Int) × Nat × (List Int) × (List Int))):Option (Unit) :=
 match x with
 | (q0,q1,q2,q3,q4,q5,q6) =>
 some ()
theorem Qft {q0 q1 q2 q3 q4 q5 q6} (hm:Jw (q0,q1,q2,q3,q4,q5,q6)=some ()):PC prog env 195 [(.ptr 9 0),(.ptr 4 0)] (Qha q0 q1 q2 q3 q4 q5 q6 q5.length q6.length) (.tup []) (Qhi q0 q1 q2 q3 q4 q5 q6 q5.length q6.length):=by
 unfold Jw at hm;exact PC_sxB (fn:=f195) rfl (R_G (re 5 zf))
def Qa3 (x:((List Int) × Nat × (List Int) × Bool × (List Int) × (List Int) × Nat)):Option (Int ⊕ ((List Int) × (List Int))) :=
 match x with
 | (q0,q1,q2,q3,q4,q5,q6) =>
 QS (q4.length=q1)>>=fun _ =>
 Zd q4>>=fun v2 =>
 if v2≠0 then
  some (Sum.inl v2)
 else
 Qs q0>>=fun v3 =>
 QS (q4.length=q1)>>=fun _ =>
 Qs q4>>=fun v5 =>
 Jw (q2,q3,q4,q5,q6,v3,v5)>>=fun _ =>
 some (Sum.inr (v3,v5))
theorem Qez {q0 q1 q2 q3 q4 q5 q6 r} (hm:Qa3 (q0,q1,q2,q3,q4,q5,q6)=some r):PC prog env 138 [(La q0),(.ms 2 1 0 q1 q1),(.arr 5 0 1 1)] [(QT q2 q3),Qu,(QB q4),(.box (cellsOf Qf q5)),(.box [(.arr 3 0 q6 q6)]),QbL] (match r with|.inl v5001=>(.tup [Qcq,(Qe v5001)])|.inr ((v5002,v5003))=>(.tup [(.agg [Ea,(.ms 7 1 0 v5002.length v5002.length),(.ms 8 1 0 v5003.length v5003.length),(.arr 3 0 q6 q6),(Qe (-1)),(Qe 0),Ea]),(Qe 0)])) (match r with|.inl v5001=>[(QT q2 q3),Qu,(QB q4),(.box (cellsOf Qf q5)),(.box [(.arr 3 0 q6 q6)]),QbL,Qu]|.inr ((v5002,v5003))=>[(QT q2 q3),Qu,(QB q4),(.box (cellsOf Qf q5)),(.box [(.arr 3 0 q6 q6)]),QbL,(Qhc v5002.length v5003.length q6),(QB v5002),(QB v5003),(Qhc v5002.length v5003.length q6)]):=by
 unfold Qa3 at hm
 exact PC_sxB (fn:=f138) rfl (ge 2 (Qi (gr 1 (gi hm fun hl1 hm=>bi hm fun v2 hx hm=>QdH (args:=[(.ms 2 1 0 q1 q1)]) (ZF hx []) (ps_cons (p1_ms (pc_ms (e:=3) Qf q4 hl1 zY kr)) ps_nil) (re 1 (ge 2 (rix hm (fun hm=>ge 4 (Qj zf)) (fun hm=>Qk (gr 1 (bi hm fun v3 hx hm=>go 7 3 Qf (Qv hx) (Qd 1 (gi hm fun hl4 hm=>bi hm fun v5 hx hm=>gol 8 3 Qf (args:=[(.ms 2 1 0 q1 q1)]) (Qv hx) (Z2 kr) (ps_cons (p1_ms (pc_ms (e:=3) Qf q4 hl4 zY kr)) ps_nil) (plain_or (cellsOf_plain zY _)) (re 3 (Qi (gr 1 (Qd 1 (re 1 (Qn (Qdu (RL_at (st':=⟨kp 33 [(6,(.ptr 6 0)),(9,(.ptr 9 0)),(23,(.arr 5 0 1 1)),(24,(Qe 1)),(25,(Qe 0))],(Qha q2 q3 q4 q5 q6 v3 v5 v3.length v5.length)⟩) (prune_of2 (Qha q2 q3 q4 q5 q6 v3 v5 v3.length v5.length) (fun _=>(pg_cons kr (pg_cons kr (pg_cons (purge_mt Qf _ _ _ _ _) (pg_cons (purge_box Qf _ _ _) (pg_cons kr (pg_cons kr (pg_cons kr (pg_cons (purge_mt Qf _ _ _ _ _) (pg_cons (purge_mt Qf _ _ _ _ _) (pg_cons kr pg_nil))))))))))) rfl) (ge 1 (Qi (Qb8 kr (Qk (Qi (Qn (gr 1 (re 2 (R_G (Qd 1 (bi hm fun _ hx hm=>QM (Qft hx) (Yf (R_G (re 2 (RL_at (st':=⟨kp 33 [(6,(.ptr 6 0)),(9,(.ptr 9 0)),(23,(.arr 5 0 1 1)),(24,(Qe 1)),(25,(Qe 1))],(Qhi q2 q3 q4 q5 q6 v3 v5 v3.length v5.length)⟩) (prune_of2 (Qhi q2 q3 q4 q5 q6 v3 v5 v3.length v5.length) (fun _=>(pg_cons kr (pg_cons kr (pg_cons (purge_mt Qf _ _ _ _ _) (pg_cons (purge_box Qf _ _ _) (pg_cons kr (pg_cons kr (pg_cons kr (pg_cons (purge_mt Qf _ _ _ _ _) (pg_cons (purge_mt Qf _ _ _ _ _) (pg_cons kr pg_nil))))))))))) rfl) (ge 1 (Qi (XN kr (QE (ge 3 (Qj zf)))))))))))))))))))))))))))))))))))))))))
def Xj (x:(QP × (List Int) × (List Int) × (List Int) × (List Int) × (List Int) × Int)):Option (((List Int) × (List Int))) :=
 match x with
 | (p0,v1,v7,v8,v209,v210,v211) =>
 if v211 < (p0.values.length:Int) then
  idx p0.values v211>>=fun v611 =>
  idx v1 v211>>=fun v612 =>
  Qbn (v612,v611)>>=fun (v613,v614) =>
  QS (v209.length=v7.length)>>=fun _ =>
  idx v209 v211>>=fun v615 =>
  setM v209 v211 v613>>=fun v617 =>
  QS (v210.length=v8.length)>>=fun _ =>
  idx v210 v211>>=fun v618 =>
  setM v210 v211 v614>>=fun v620 =>
  Xj (p0,v1,v7,v8,v617,v620,(W (v211+1)))
 else
 some (v209,v210)
 partial_fixpoint
theorem Qed:∀ x r,Xj x=some r→match x with|(p0,v1,v7,v8,v209,v210,v211)=>LQ f146 146 [1,1,1,1,1,0,1,0,0] 4 ⟨kp 72 [(4,(.ptr 1 0)),(6,(La v1)),(8,(.ms 2 1 0 v7.length v7.length)),(9,(.arr 3 0 v8.length v8.length)),(41,(La p0.values)),(42,(Qe (p0.values.length:Int))),(43,(Qe v211))],(Qfy p0.values p0.scalar v209 v210)⟩ (P1 (.exit 0) (fun (v609,v610) d=>⟨sl d 72 [(4,(.ptr 1 0)),(6,(La v1)),(8,(.ms 2 1 0 v7.length v7.length)),(9,(.arr 3 0 v8.length v8.length))],(Qfy p0.values p0.scalar v609 v610)⟩) r):=by
 refine Xj.partial_correctness _ (fun Xj Qed x r hm=>?_);obtain ⟨p0,v1,v7,v8,v209,v210,v211⟩:=x
 exact lp (ge 1 (Qi (ri hm (fun hm=>Qk (Qi (Qn (gr 1 (QV 1 Qf hm fun v611 hm=>re 3 (R_G (Qd 6 (QV 1 Qf hm fun v612 hm=>Qd 2 (bi2 hm fun v613 v614 hx hm=>cp (Qht hx) (Qd 3 (gi hm fun hl616 hm=>bi hm fun v615 hx hm=>QG rfl (fun _=>ZS (e:=3) (n:=v211) (j:=(v211).toNat) (tt:=2) (g:=1) (lo:=0) (len:=v7.length) (cap:=v7.length) (k:=.i64) kr kr rfl kr kr (idx_nat hx) (jY (idx_lt hx) hl616)) (bi hm fun v617 hx hm=>ZR (fun H=>H.set 2 (QB v617)) rfl kr (fun _=>QeA Qf (l:=v209) (n:=v211) (y:=v613) hx zY kr rfl kr kr kr kr) (gi hm fun hl619 hm=>bi hm fun v618 hx hm=>QG rfl (fun _=>QgV (e:=3) (l:=v210) (n:=v211) (i:=3) (cap:=v8.length) (m:=v8.length) hx hl619 kr kr rfl kr kr) (bi hm fun v620 hx hm=>ZR (fun H=>H.set 3 (.box (cellsOf Qf v620))) rfl kr (fun _=>QgW Qf (l:=v210) (n:=v211) (y:=v614) hx zY kr rfl kr kr kr kr) (Yf (R_G (re 2 (Qed _ _ hm _ (prune_of2 (Qfy p0.values p0.scalar v617 v620) (fun _=>(pg_cons kr (pg_cons kr (pg_cons (purge_mt Qf _ _ _ _ _) (pg_cons (purge_box Qf _ _ _) pg_nil))))) rfl))))))))))))))))))) (fun hm=>QE zf))))
def Qch (x:(QP × (List Int))):Option (Qr × Int) :=
 match x with
 | (p0,p1) =>
 Qbo (p1,(p0.values.length:Int))>>=fun (v1,v2) =>
 if v2≠0 then
  Zx v2>>=fun (v3,v4) =>
  some (v3,v4)
 else
 if (p0.values.length:Int) > (v1.length:Int) then
  Zx 5>>=fun (v5,v6) =>
  some (v5,v6)
 else
 Qs v1>>=fun v7 =>
 makeM 8 (v1.length:Int) 0>>=fun v8 =>
 Xj (p0,v1,v7,v8,v7,v8,0)>>=fun (v609,v610) =>
 JZ (v8.length,p0.values,p0.scalar,v609,v610)>>=fun _ =>
 (
 Qa3 (v1,v7.length,p0.values,p0.scalar,v609,v610,v8.length)>>=fun out =>
 match out with
 | .inl v621 =>
  some ((⟨([]:(List Int)),([]:(List Int)),([]:(List Int)),([]:(List Int)),0,0,([]:(List Int))⟩:Qr),v621)
 | .inr ((v622,v623)) =>
  QS (v610.length=v8.length)>>=fun _ =>
  some ((⟨([]:(List Int)),v622,v623,v610,(-1),0,([]:(List Int))⟩:Qr),0)
 )
theorem QiF {p0 p1 r0 r1} (hm:Qch (p0,p1)=some (r0,r1)):FQ 146 [(QP.toD p0),(Lb p1)] (.tup [(.dat (Qr.toD r0)),(Qe r1)]):=by
 unfold Qch at hm
 exact fp (fn:=f146) rfl (ge 3 (gr 3 (QH Qf p0.values (bi2 hm fun v1 v2 hx hm=>cp (QgQ hx) (re 5 (Qi (ge 2 (rix hm (fun hm=>gr 1 (bi2 hm fun v3 v4 hx hm=>cp (Z9 hx) (re 4 (Qj zf)))) (fun hm=>Qk (Qi (gr 2 (QH Qf p0.values (Qd 1 (QH Qf v1 (re 1 (ri hm (fun hm=>Qi (R_G (bi2 hm fun v5 v6 hx hm=>cp (Z9 hx) (re 4 (Qj zf))))) (fun hm=>Qk (Qi (Yv (Qd 1 (bi hm fun v7 hx hm=>go 2 3 Qf (Qv hx) (Qd 1 (QH Qf v1 (bi hm fun v8 hx hm=>ZR (v:=.arr 3 0 v8.length v8.length) (fun H=>H++[.box (cellsOf Qf v8)]) rfl kr (by intro K hk; exact QeP 3 Qf (z:=0) (n:=(v1.length:Int)) (bytes:=8) hx (e:=3) kr kr kr kr rfl rfl kr kr hk) (re 2 ⟨kr,Qi (gr 2 (QH Qf p0.values (re 1 (Qn (ru1 hm (Qed _) (fun ⟨v609,v610⟩ d hm=>gr 3 (bi hm fun _ hx hm=>QM (QfV hx) (Qd 1 (bs hm (fun v621 hx hm=>QM (Qez hx) (re 4 (Qj zf))) fun ⟨v622,v623⟩ hx hm=>QM (Qez hx) (re 4 (Qj (gi hm fun hl624 hm=>(by obtain ⟨rfl,rfl⟩:=QgS hm; exact ⟨trivial,ZT [(.agg [Ea,(.ms 7 1 0 v622.length v622.length),(.ms 8 1 0 v623.length v623.length),(.arr 3 0 v8.length v8.length),(Qe (-1)),(Qe 0),Ea]),(Qe 0)] kr (po_tup (ps_cons (p1_agg (pc_cons kr (pc_cons (pc_ms (e:=3) Qf v622 rfl zY kr) (pc_cons (pc_ms (e:=3) Qf v623 rfl zY kr) (pc_cons (pc_arr Qf v610 hl624 zY kr) (pc_cons kr (pc_cons kr (pc_cons kr pc_nil)))))))) (ps_cons kr ps_nil)))⟩)))))))) (hst:=(prune_of2 (Qfy p0.values p0.scalar v7 v8) (fun _=>(pg_cons kr (pg_cons kr (pg_cons (purge_mt Qf _ _ _ _ _) (pg_cons (purge_box Qf _ _ _) pg_nil))))) rfl)))))))⟩)))))))))))))))))))))))))
def J9 (x:(QP × Int)):Option ((List Int) × Int) :=
 match x with
 | (p0,p1) =>
 if (p0.values.length:Int)≠p1 then
  some (([]:(List Int)),5)
 else
 Yp p0.values>>=fun v1 =>
 some (v1,0)
theorem QfQ {p0 p1 r0 r1} (hm:J9 (p0,p1)=some (r0,r1)):FQ 196 [(QP.toD p0),(Qf p1)] (.tup [(La r0),(Qe r1)]):=by
 unfold J9 at hm;exact fp (fn:=f196) rfl (ge 3 (Qi (gr 2 (QH Qf p0.values (re 2 (rix hm (fun hm=>ge 2 (Qj zf)) (fun hm=>Qk (gr 2 (bi hm fun v1 hx hm=>go 1 2 Qf (Qbq hx) (re 2 (Qj (by obtain ⟨rfl,rfl⟩:=QgS hm; exact ⟨trivial,ZT [(.ms 1 1 0 v1.length v1.length),(Qe 0)] kr (po_tup (ps_cons (p1_ms (pc_ms (e:=2) Qf v1 rfl zY kr)) (ps_cons kr ps_nil)))⟩))))))))))))
def Qe9 (x:QP):Option (Int × Int) :=
 match x with
 | p0 =>
 J9 (p0,1)>>=fun (v1,v2) =>
 if v2≠0 then
  some (0,v2)
 else
 idx v1 0>>=fun v3 =>
 some (v3,0)
theorem QiS {p0 r0 r1} (hm:Qe9 p0=some (r0,r1)):FQ 181 [(QP.toD p0)] (.tup [(Qe r0),(Qe r1)]):=by
 unfold Qe9 at hm;exact fp (fn:=f181) rfl (ge 3 (gr 1 (bi2 hm fun v1 v2 hx hm=>cp (QfQ hx) (re 5 (Qi (ge 2 (rix hm (fun hm=>ge 3 (Qj zf)) (fun hm=>Qk (gr 1 (QV 1 Qf hm fun v3 hm=>re 3 (Qj zf)))))))))))
def XU (x:((List Int) × (List Int) × Bool)):Option (Int ⊕ ((List Int) × (List Int))) :=
 match x with
 | (q0,q1,q2) =>
 Zd q0>>=fun v1 =>
 if v1≠0 then
  some (Sum.inl v1)
 else
 Qs q0>>=fun v2 =>
 Qs q0>>=fun v3 =>
 some (Sum.inr (v2,v3))
theorem Qey {q0 q1 q2 r} (hm:XU (q0,q1,q2)=some r):PC prog env 138 [(La q0),(La q0),(.dat (.lst []))] [(QT q1 q2),Qu] (match r with|.inl v5001=>(.tup [Qcq,(Qe v5001)])|.inr ((v5002,v5003))=>(.tup [(.agg [Ea,(.ms 3 1 0 v5002.length v5002.length),(.ms 4 1 0 v5003.length v5003.length),Ea,(Qe (-1)),(Qe 0),Ea]),(Qe 0)])) (match r with|.inl v5001=>[(QT q1 q2),Qu,Qu]|.inr ((v5002,v5003))=>[(QT q1 q2),Qu,(QeX v5002.length v5003.length),(QB v5002),(QB v5003),(QeX v5002.length v5003.length)]):=by
 unfold XU at hm;exact PC_sxB (fn:=f138) rfl (ge 2 (Qi (gr 1 (bi hm fun v1 hx hm=>cp (ZF hx) (re 1 (ge 2 (rix hm (fun hm=>ge 4 (Qj zf)) (fun hm=>Qk (gr 1 (bi hm fun v2 hx hm=>go 3 3 Qf (Qv hx) (Qd 1 (bi hm fun v3 hx hm=>go 4 3 Qf (Qv hx) (re 3 (Qi (gr 1 (Qd 1 (re 1 (Qn (Qdu (RL_at (st':=⟨kp 33 [(6,(.ptr 2 0)),(9,(.ptr 5 0)),(23,(.dat (.lst []))),(24,(Qe 0)),(25,(Qe 0))],(Qgn q1 q2 v2 v3 v2.length v3.length)⟩) (prune_of2 (Qgn q1 q2 v2 v3 v2.length v3.length) (fun _=>(pg_cons kr (pg_cons kr (pg_cons kr (pg_cons (purge_mt Qf _ _ _ _ _) (pg_cons (purge_mt Qf _ _ _ _ _) (pg_cons kr pg_nil))))))) rfl) (ge 1 (Qi (XN kr (QE (ge 3 (Qj zf))))))))))))))))))))))))))
def Jr (x:(Int × Int)):Option Int :=
 match x with
 | (p0,p1) =>
 if p1≤0 then
  some 0
 else
 remM p0 p1>>=fun v1 =>
 if v1 < 0 then
  some (W (v1+p1))
 else
 some v1
theorem Qgh {p0 p1 r0} (hm:Jr (p0,p1)=some r0):FQ 182 [(Qf p0),(Qf p1)] (Qe r0):=by
 unfold Jr at hm;exact fp (fn:=f182) rfl (ge 1 (Qi (ge 2 (ri hm (fun hm=>ge 1 (Qj zf)) (fun hm=>Qk (gr 2 (bi hm fun v1 hx hm=>QG rfl (fun _=>QhN (a:=p0) (b:=p1) hx rfl kr kr) (re 1 (Qi (ge 2 (ri hm (fun hm=>R_G (re 4 (ge 2 (Qj zf)))) (fun hm=>Qk (ge 2 (Qj zf))))))))))))))
def Qbl (x:(Int × Int × (List Int) × Bool × (List Int) × (List Int))):Option (Unit) :=
 match x with
 | (q0,q1,q2,q3,q4,q5) =>
 some ()
theorem QfL {q0 q1 q2 q3 q4 q5} (hm:Qbl (q0,q1,q2,q3,q4,q5)=some ()):PC prog env 170 [(.ptr 6 0),(.iptr [(Qf q0)]),(.iptr [(Qf q1)])] (Qg2 q2 q3 q0 q1 q4 q5 q4.length q5.length) (.tup []) (Qg9 q2 q3 q0 q1 q4 q5 q4.length q5.length):=by
 unfold Qbl at hm;exact PC_sxB (fn:=f170) rfl (Yv (re 10 ⟨kr,zf⟩))
def XT (x:((List Int) × (List Int) × Bool × Int × Int)):Option (Int ⊕ ((List Int) × (List Int))) :=
 match x with
 | (q0,q1,q2,q3,q4) =>
 Zd q0>>=fun v1 =>
 if v1≠0 then
  some (Sum.inl v1)
 else
 Qs q0>>=fun v2 =>
 Qs q0>>=fun v3 =>
 Qbl (q3,q4,q1,q2,v2,v3)>>=fun _ =>
 some (Sum.inr (v2,v3))
theorem Qeu {q0 q1 q2 q3 q4 r} (hm:XT (q0,q1,q2,q3,q4)=some r):PC prog env 138 [(La q0),(La q0),(.arr 2 0 1 1)] [(QT q1 q2),Qu,(QbO q3 q4)] (match r with|.inl v5001=>(.tup [Qcq,(Qe v5001)])|.inr ((v5002,v5003))=>(.tup [(.agg [Ea,(.ms 4 1 0 v5002.length v5002.length),(.ms 5 1 0 v5003.length v5003.length),Ea,(Qe q3),(Qe q4),Ea]),(Qe 0)])) (match r with|.inl v5001=>[(QT q1 q2),Qu,(QbO q3 q4),Qu]|.inr ((v5002,v5003))=>[(QT q1 q2),Qu,(QbO q3 q4),(Qgl v5002.length v5003.length q3 q4),(QB v5002),(QB v5003),(Qgl v5002.length v5003.length q3 q4)]):=by
 unfold XT at hm
 exact PC_sxB (fn:=f138) rfl (ge 2 (Qi (gr 1 (bi hm fun v1 hx hm=>cp (ZF hx) (re 1 (ge 2 (rix hm (fun hm=>ge 4 (Qj zf)) (fun hm=>Qk (gr 1 (bi hm fun v2 hx hm=>go 4 3 Qf (Qv hx) (Qd 1 (bi hm fun v3 hx hm=>go 5 3 Qf (Qv hx) (re 3 (Qi (gr 1 (Qd 1 (re 1 (Qn (Qdu (RL_at (st':=⟨kp 33 [(6,(.ptr 3 0)),(9,(.ptr 6 0)),(23,(.arr 2 0 1 1)),(24,(Qe 1)),(25,(Qe 0))],(Qg2 q1 q2 q3 q4 v2 v3 v2.length v3.length)⟩) (prune_of2 (Qg2 q1 q2 q3 q4 v2 v3 v2.length v3.length) (fun _=>(pg_cons kr (pg_cons kr (pg_cons kr (pg_cons kr (pg_cons (purge_mt Qf _ _ _ _ _) (pg_cons (purge_mt Qf _ _ _ _ _) (pg_cons kr pg_nil)))))))) rfl) (ge 1 (Qi (Qb8 kr (Qk (Qi (Qn (gr 1 (re 2 (R_G (Qd 1 (bi hm fun _ hx hm=>QM (QfL hx) (Yf (R_G (re 2 (RL_at (st':=⟨kp 33 [(6,(.ptr 3 0)),(9,(.ptr 6 0)),(23,(.arr 2 0 1 1)),(24,(Qe 1)),(25,(Qe 1))],(Qg9 q1 q2 q3 q4 v2 v3 v2.length v3.length)⟩) (prune_of2 (Qg9 q1 q2 q3 q4 v2 v3 v2.length v3.length) (fun _=>(pg_cons kr (pg_cons kr (pg_cons kr (pg_cons kr (pg_cons (purge_mt Qf _ _ _ _ _) (pg_cons (purge_mt Qf _ _ _ _ _) (pg_cons kr pg_nil)))))))) rfl) (ge 1 (Qi (XN kr (QE (ge 3 (Qj zf)))))))))))))))))))))))))))))))))))))))))
end Go.Proofs.Tryz
