/-
 Models of functions, their walks, and plain laws.
-/
import Derived.Test.YtdecaohlejlglaaGreatPmSx
import Derived.Test.YtdecaohlejlglaaGreatProg
import Derived.Test.YtdecaohlejlglaaGreatPmStr
import Derived.Test.YtdecaohlejlglaaGreatPmMs
import Derived.KernelRfl
namespace Go.Proofs.Tryz
open Go Go.Pm
set_option linter.unusedVariables false
set_option linter.unusedSimpArgs false
set_option maxRecDepth 2000
def Sm (n:Nat):Prop:=n≤9223372036854775807
theorem Sm_of {n m:Nat} (h:n≤m) (hm:m≤9223372036854775807:=by decide):Sm n:=Nat.le_trans h hm
theorem idx_ok {α:Type} {l:List α} {j:Nat} (h:j < l.length):idx l (j:Int)=some l[j]:=by simp [idx,h]
theorem app_ok {α:Type} {b:Nat} {l es:List α} (h:(l.length+es.length) * b≤room):app b l es=some (l++es):=if_pos h
theorem W_ok {n:Int} (h1:-9223372036854775808≤n) (h2:n < 9223372036854775808):W n=n:=by
 simp only [W,IntKind.wrap,IntKind.bits,IntKind.signed]; simp; split <;> omega
theorem W_succ {j:Nat} (h:j < 9223372036854775807):W ((j:Int)+1)=((j+1:Nat):Int):=by rw [W_ok (by omega) (by omega)]; omega
section
variable {α:Type} {p s:List α} {x:α}
theorem ZE:((p.length:Int) < ((p++x::s).length:Int)):=by simp; omega
theorem ZZ:¬ ((p.length:Int) < ((p++([]:List α)).length:Int)):=by simp
theorem Q2:idx (p++x::s) (p.length:Int)=some x:=by simp [idx]
theorem QE:p++x::s=(p++[x])++s:=by simp
theorem mid_W (hs:Sm (p++x::s).length):W ((p.length:Int)+1)=((p++[x]).length:Int):=by
 unfold Sm at hs
 rw [W_ok (by omega) (by simp at hs; omega)]; simp
end
theorem Qj {α β:Type} (a:α) (f:α→Option β):(some a>>=f)=f a:=rfl
set_option maxHeartbeats 2000000
def hintOf:FuncId→Hint
 | 3=>{ own:=[((0,0),[(9000,3)]),((3,1),[(12000,0)])],keep:=[] }
 | 6=>{ own:=[((0,0),[(9000,3)]),((1,1),[(1,59)]),((2,2),[(12000,0)]),((5,5),[(5000,3)])],keep:=[] }
 | 8=>{ own:=[((1,0),[(0,9)])],keep:=[(4,[3,4,5])] }
 | 9=>{ own:=[((1,1),[(0,55)]),((1,2),[(0,55)])],keep:=[(3,[4,11,12,13])],late:=[(8,3),(8,12)] }
 | 12=>{ own:=[((1,0),[(0,28)]),((5,4),[(7000,3)])],keep:=[(3,[3,7,8,9])] }
 | 15=>{ own:=[((0,0),[(9000,3)]),((2,2),[(12000,0)]),((3,9),[(12000,0)]),((8,0),[(0,3)]),((8,8),[(12000,0)])],keep:=[] }
 | 17=>{ own:=[((1,0),[(0,25)])],keep:=[(3,[1,3,4])] }
 | 18=>{ own:=[],keep:=[(2,[0,1,5])] }
 | 22=>{ own:=[((3,0),[(0,109)])],keep:=[(5,[0,4,5]),(26,[0,4,5,12,13,14])] }
 | 25=>{ own:=[],keep:=[(4,[1,2,15,16,17])] }
 | 28=>{ own:=[((2,0),[(1000,3)]),((3,0),[(1000,3)])],keep:=[] }
 | 29=>{ own:=[],keep:=[(3,[1,2,5])] }
 | 30=>{ own:=[],keep:=[(3,[1,3,4])] }
 | 31=>{ own:=[],keep:=[(3,[1,3,4])] }
 | 32=>{ own:=[],keep:=[(4,[1,3])] }
 | 33=>{ own:=[((0,0),[(9000,3)]),((8,3),[(12000,0)]),((9,6),[(13000,0)]),((12,5),[(12000,0)])],keep:=[] }
 | 34=>{ own:=[((0,0),[(9000,3)]),((0,1),[(9000,3)])],keep:=[] }
 | 38=>{ own:=[],keep:=[(19,[0,6,8,10,11,12])] }
 | 44=>{ own:=[],keep:=[(1,[0,1])] }
 | 46=>{ own:=[],keep:=[(5,[0,1,6,7])] }
 | 48=>{ own:=[],keep:=[(2,[0,2,4,5,6])] }
 | 50=>{ own:=[],keep:=[(4,[0,1,12,13])] }
 | 51=>{ own:=[],keep:=[(4,[1,2,15,16,17])] }
 | 52=>{ own:=[],keep:=[(4,[0,1,12,13])] }
 | 56=>{ own:=[((0,0),[(9000,3)]),((5,3),[(7000,3)])],keep:=[] }
 | 57=>{ own:=[((1,2),[(12000,0)])],keep:=[] }
 | 58=>{ own:=[((4,4),[(0,163)])],keep:=[] }
 | 60=>{ own:=[((1,0),[(0,3)])],keep:=[(3,[0,2,4,7,8])] }
 | 64=>{ own:=[((0,0),[(9000,3)]),((0,1),[(9000,3)]),((1,5),[(12000,0)])],keep:=[] }
 | 65=>{ own:=[((0,0),[(9000,3)]),((0,1),[(9000,3)]),((1,8),[(13000,0)])],keep:=[] }
 | 66=>{ own:=[],keep:=[(2,[0,1,4,6])] }
 | 67=>{ own:=[((8,0),[(0,131)])],keep:=[(3,[0,3,4,6,7])] }
 | 69=>{ own:=[((3,4),[(2,3),(3,3)]),((3,5),[(2,3),(3,3)])],keep:=[(7,[0,4,6,7])] }
 | 70=>{ own:=[((3,4),[(2,3),(3,3)]),((3,5),[(2,3),(3,3)])],keep:=[(7,[0,4,6,7])] }
 | 73=>{ own:=[((1,0),[(0,3)])],keep:=[(3,[0,2,3,4])] }
 | 78=>{ own:=[((1,0),[(0,3)])],keep:=[(3,[0,1,2,7,8])] }
 | 80=>{ own:=[],keep:=[(2,[0,3])] }
 | 81=>{ own:=[],keep:=[(4,[0,1,5])] }
 | 82=>{ own:=[],keep:=[(2,[0,2,8])] }
 | 88=>{ own:=[((10,5),[(0,2)])],keep:=[(9,[0,1,4,7])] }
 | 92=>{ own:=[],keep:=[(2,[0,1,7,8])] }
 | 97=>{ own:=[((4,1),[(0,3)]),((4,3),[(0,3)])],keep:=[(6,[6,9,23,24,25])] }
 | 99=>{ own:=[((1,0),[(1000,3)]),((9,3),[(0,163)])],keep:=[(3,[1,2,4,6,9,10,11]),(5,[1,2,4,6,7,8,9,10,11])] }
 | 100=>{ own:=[((13,5),[(0,163)])],keep:=[] }
 | 102=>{ own:=[((0,0),[(9000,3)]),((2,2),[(7000,2)]),((3,3),[(12000,0)])],keep:=[] }
 | 103=>{ own:=[((6,0),[(0,3)]),((6,1),[(0,3)]),((18,4),[(0,163)])],keep:=[(8,[4,6,8,9,38,39,40])] }
 | 105=>{ own:=[((6,1),[(0,3)]),((12,4),[(0,163)])],keep:=[(8,[4,6,8,9,41,42,43])] }
 | 106=>{ own:=[((9,10),[(0,163)])],keep:=[] }
 | 109=>{ own:=[((3,0),[(0,3)])],keep:=[(5,[1,5,6])] }
 | 111=>{ own:=[((1,2),[(2,3)]),((1,3),[(2,3)])],keep:=[(3,[0,1,4,5,6]),(7,[0,1,4,5,6,7,8])] }
 | 112=>{ own:=[((3,0),[(0,3)])],keep:=[(6,[1,2,6,7,8]),(13,[1,6,7,9]),(17,[1,6,7,9,10,11])] }
 | 113=>{ own:=[((6,0),[(0,3)])],keep:=[(2,[1,4]),(8,[1,5,6])] }
 | 115=>{ own:=[((1,0),[(0,3)])],keep:=[(3,[0,1,5,6])] }
 | 116=>{ own:=[],keep:=[(3,[0,4,5]),(9,[0,4,6]),(17,[0,7,8])] }
 | 118=>{ own:=[],keep:=[(2,[0,1,8])] }
 | 121=>{ own:=[],keep:=[(3,[0,5,6])] }
 | 122=>{ own:=[],keep:=[(3,[1,3,4])] }
 | 125=>{ own:=[((3,1),[(0,3)])],keep:=[] }
 | 128=>{ own:=[((2,0),[(1000,2)]),((3,0),[(1000,2)])],keep:=[] }
 | 149=>{ own:=[((3,2),[(0,2)])],keep:=[] }
 | 150=>{ own:=[((1,2),[(0,3)])],keep:=[(3,[1,6,14,15,16])] }
 | 152=>{ own:=[],keep:=[(5,[0,3,4])] }
 | 159=>{ own:=[],keep:=[(2,[0,1,7,8])] }
 | 160=>{ own:=[],keep:=[(3,[2,8,13,14,15])] }
 | 165=>{ own:=[],keep:=[(8,[7,8])] }
 | 166=>{ own:=[],keep:=[(2,[0,1,7,8])] }
 | 167=>{ own:=[],keep:=[(2,[0,1,7,8])] }
 | 168=>{ own:=[((9,1),[(2000,3)])],keep:=[(3,[0,3,9,10,11]),(11,[6,25,26,27])] }
 | _=>{}
def env:Env where
 summ:=fun _=>none
 hint:=hintOf
 pure:=fun f=>f != 6 && f != 9 && f != 15 && f != 19 && f != 28 && f != 33 && f != 35 && f != 56 && f != 57 && f != 64 && f != 65 && f != 92 && f != 93 && f != 94 && f != 97 && f != 102 && f != 123 && f != 124 && f != 127 && f != 128 && f != 131 && f != 148 && f != 150 && f != 151 && f != 161 && f != 165 && f != 169 && f != 171
 split:=fun f=>f == 28 || f == 128

theorem ag28:aggT prog 28=some false:=by kernel_rfl
theorem by3:bytesOf prog 3=some 8:=by kernel_rfl
theorem el28:elemOfSlice prog 28=some 3:=by kernel_rfl
theorem el61:elemOfSlice prog 61=some 28:=by kernel_rfl
theorem sz28:szOf prog 28=some 1:=by kernel_rfl
theorem sz3:szOf prog 3=some 1:=by kernel_rfl
theorem un28:prog.underlying 28=some (TypeDesc.slice 3):=by kernel_rfl
theorem un3:prog.underlying 3=some (TypeDesc.int IntKind.i64):=by kernel_rfl
theorem un61:prog.underlying 61=some (TypeDesc.slice 28):=by kernel_rfl
theorem ze3:zeroOf prog 3=some (Dat.raw (Value.int IntKind.i64 (0))):=by kernel_rfl
theorem zn3:(zeroOf prog 3).map Dat.num=some 1:=by kernel_rfl
theorem wrap_i64 {n:Int} (h1:-9223372036854775808≤n) (h2:n < 9223372036854775808):IntKind.i64.wrap n=n:=by
 simp only [IntKind.wrap,IntKind.bits,IntKind.signed]; simp; split <;> omega
theorem wrap_succ {j:Nat} (h:j < 9223372036854775807):IntKind.i64.wrap ((j:Int)+1)=((j+1:Nat):Int):=by rw [wrap_i64 (by omega) (by omega)]; omega

def intsD (l:List Int):Dat:=.lst (l.map Qa)
theorem take_next {α:Type} {l:List α} {j:Nat} (h:j < l.length):l.take (j+1)=l.take j++[l[j]]:=List.take_succ_eq_append_getElem h
def zg (n:Nat):Nat:=if n=0 then 0 else 1
theorem c_Grow (n:Nat) (hn:n≤1000000):PC prog env 171 [.ms 0 0 0 0 0,.dat (Qa (n:Int))] [.mt 3 0 []] (.ms 0 (zg n) 0 0 n) [.mt 3 (zg n) (cellsOf Qa (List.replicate n 0))]:=by
 refine PC_body (fn:=f171) (by kernel_rfl) rfl rfl (by kernel_rfl) rfl ?_
 refine QgV (st':=⟨[.ms 0 0 0 0 0,.dat (Qa (n:Int)),.tup [],.tup [],.tup [],.tup [],.tup [],.tup [],.tup [],.tup [],.tup [],.tup [],.tup [],.tup [],.tup [],.tup [],.tup [],.tup [],.tup [],.tup [],.tup [],.tup [],.tup [],.tup [],.tup [],.tup [],.tup []],[.mt 3 0 []]⟩) rfl ?_
 repeat (first|refine Qd ?_|refine Qw ?_|refine Qo ?_)
 refine Z3 ?_
 (refine OpsE_do rfl ?_; refine X7 rfl rfl ?_; refine OpsE_eq (st':=_) (by first|dsimp only [n0,n1,n2,n3,n4,n5,n6,n7,n8,n9,m0,m1,m2,m3,m4,m5,m6,m7,m8,m9,o0,o1,o2,o3,o4,↓reduceIte]|rfl) ?_)
 refine OpsE_nil ?_
 have h0:¬ ((n:Int) < 0):=by omega
 repeat (first|refine Qd ?_|refine Qw ?_|refine Qo ?_)
 refine Z3 ?_
 iterate 2 ((refine OpsE_do rfl ?_; first|refine Jq rfl ?_|refine Qc6 rfl rfl rfl rfl ?_); refine OpsE_eq (st':=_) (by first|(simp only [n0,n1,n2,n3,n4,n5,n6,n7,n8,n9,m0,m1,m2,m3,m4,m5,m6,m7,m8,m9,o0,o1,o2,o3,o4,↓reduceIte,decide_eq_false h0] <;> rfl)|rfl) ?_)
 refine OpsE_nil ?_
 repeat (first|refine Qd ?_|refine Qw ?_|refine Qo ?_)
 refine Js rfl ?_
 have w1:IntKind.i64.wrap ((n:Int) - IntKind.i64.wrap (0 - ((0:Nat):Int)))=(n:Int):=by rw [wrap_i64 (n:=0 - ((0:Nat):Int)) (by omega) (by omega),wrap_i64 (by omega) (by omega)]; omega
 repeat (first|refine Qd ?_|refine Qw ?_|refine Qo ?_)
 refine Z3 ?_
 iterate 2 ((refine OpsE_do rfl ?_; refine Jq rfl ?_); refine OpsE_eq (st':=_) (by first|dsimp only [n0,n1,n2,n3,n4,n5,n6,n7,n8,n9,m0,m1,m2,m3,m4,m5,m6,m7,m8,m9,o0,o1,o2,o3,o4,↓reduceIte]|rfl) ?_)
 (refine OpsE_do rfl ?_; refine QgO un28 rfl rfl (ZS rfl) ?_; refine OpsE_eq (st':=_) (by first|dsimp only [n0,n1,n2,n3,n4,n5,n6,n7,n8,n9,m0,m1,m2,m3,m4,m5,m6,m7,m8,m9,o0,o1,o2,o3,o4,↓reduceIte]|rfl) ?_)
 iterate 5 ((refine OpsE_do rfl ?_; first|refine Jq rfl ?_|refine Qf0 un28 rfl rfl ?_|refine Qc6 rfl rfl rfl rfl ?_|refine X7 rfl rfl ?_); refine OpsE_eq (st':=_) (by first|dsimp only [n0,n1,n2,n3,n4,n5,n6,n7,n8,n9,m0,m1,m2,m3,m4,m5,m6,m7,m8,m9,o0,o1,o2,o3,o4,↓reduceIte]|rfl) ?_)
 refine OpsE_nil ?_
 rw [w1]
 by_cases hz:n=0
 ·subst hz
  repeat (first|refine Qd ?_|refine Qw ?_|refine Qo ?_)
  refine Z3 ?_
  iterate 2 ((refine OpsE_do rfl ?_; first|refine Jq rfl ?_|refine Qc6 rfl rfl rfl rfl ?_); refine OpsE_eq (st':=_) (by first|dsimp only [n0,n1,n2,n3,n4,n5,n6,n7,n8,n9,m0,m1,m2,m3,m4,m5,m6,m7,m8,m9,o0,o1,o2,o3,o4,↓reduceIte]|rfl) ?_)
  refine OpsE_nil ?_
  repeat (first|refine Qd ?_|refine Qw ?_|refine Qo ?_)
  refine Js rfl ?_
  repeat (first|refine Qd ?_|refine Qw ?_|refine Qo ?_)
  refine Z3 ?_
  iterate 2 ((refine OpsE_do rfl ?_; first|refine Jq rfl ?_|refine X7 rfl rfl ?_); refine OpsE_eq (st':=_) (by first|dsimp only [n0,n1,n2,n3,n4,n5,n6,n7,n8,n9,m0,m1,m2,m3,m4,m5,m6,m7,m8,m9,o0,o1,o2,o3,o4,↓reduceIte]|rfl) ?_)
  refine OpsE_nil ?_
  repeat (first|refine Qd ?_|refine Qw ?_|refine Qo ?_)
  refine Qr ?_
  exact ⟨trivial,_,rfl,rfl,rfl⟩
 ·have hp:((n:Int)) > 0:=by omega
  repeat (first|refine Qd ?_|refine Qw ?_|refine Qo ?_)
  refine Z3 ?_
  iterate 2 ((refine OpsE_do rfl ?_; first|refine Jq rfl ?_|refine Qc6 rfl rfl rfl rfl ?_); refine OpsE_eq (st':=_) (by first|(simp only [n0,n1,n2,n3,n4,n5,n6,n7,n8,n9,m0,m1,m2,m3,m4,m5,m6,m7,m8,m9,o0,o1,o2,o3,o4,↓reduceIte,decide_eq_true hp] <;> rfl)|rfl) ?_)
  refine OpsE_nil ?_
  repeat (first|refine Qd ?_|refine Qw ?_|refine Qo ?_)
  refine QaZ rfl ?_
  repeat (first|refine Qd ?_|refine Qw ?_|refine Qo ?_)
  refine Z3 ?_
  iterate 2 ((refine OpsE_do rfl ?_; refine Jq rfl ?_); refine OpsE_eq (st':=_) (by first|dsimp only [n0,n1,n2,n3,n4,n5,n6,n7,n8,n9,m0,m1,m2,m3,m4,m5,m6,m7,m8,m9,o0,o1,o2,o3,o4,↓reduceIte]|rfl) ?_)
  (refine OpsE_do rfl ?_; refine QgO un28 rfl rfl (ZS rfl) ?_; refine OpsE_eq (st':=_) (by first|dsimp only [n0,n1,n2,n3,n4,n5,n6,n7,n8,n9,m0,m1,m2,m3,m4,m5,m6,m7,m8,m9,o0,o1,o2,o3,o4,↓reduceIte]|rfl) ?_)
  (refine OpsE_do rfl ?_; refine QfO el28 sz3 rfl rfl (cutMs_of (l:=0) (h:=0) rfl rfl (Nat.le_refl _) (Nat.zero_le _) (Or.inl rfl)) ?_; refine OpsE_eq (st':=_) (by first|dsimp only [n0,n1,n2,n3,n4,n5,n6,n7,n8,n9,m0,m1,m2,m3,m4,m5,m6,m7,m8,m9,o0,o1,o2,o3,o4,↓reduceIte]|rfl) ?_)
  (refine OpsE_do rfl ?_; refine Jq rfl ?_; refine OpsE_eq (st':=_) (by first|dsimp only [n0,n1,n2,n3,n4,n5,n6,n7,n8,n9,m0,m1,m2,m3,m4,m5,m6,m7,m8,m9,o0,o1,o2,o3,o4,↓reduceIte]|rfl) ?_)
  (refine OpsE_do rfl ?_; refine QfC (n:=n) el28 un3 sz3 by3 ze3 rfl (by decide) rfl rfl rfl (ZS rfl) (by omega) (by simp [room]; omega) ?_; refine OpsE_eq (st':=_) (by first|dsimp only [n0,n1,n2,n3,n4,n5,n6,n7,n8,n9,m0,m1,m2,m3,m4,m5,m6,m7,m8,m9,o0,o1,o2,o3,o4,↓reduceIte]|rfl) ?_)
  iterate 2 ((refine OpsE_do rfl ?_; first|refine Jq rfl ?_|refine Qf0 un28 rfl rfl ?_); refine OpsE_eq (st':=_) (by first|dsimp only [n0,n1,n2,n3,n4,n5,n6,n7,n8,n9,m0,m1,m2,m3,m4,m5,m6,m7,m8,m9,o0,o1,o2,o3,o4,↓reduceIte]|rfl) ?_)
  (refine OpsE_do rfl ?_; refine QfO el28 sz3 rfl rfl (cutMs_of (l:=0) (h:=0) rfl rfl (Nat.le_refl _) (Nat.zero_le _) (Or.inl rfl)) ?_; refine OpsE_eq (st':=_) (by first|dsimp only [n0,n1,n2,n3,n4,n5,n6,n7,n8,n9,m0,m1,m2,m3,m4,m5,m6,m7,m8,m9,o0,o1,o2,o3,o4,↓reduceIte]|rfl) ?_)
  (refine OpsE_do rfl ?_; refine X7 rfl rfl ?_; refine OpsE_eq (st':=_) (by first|dsimp only [n0,n1,n2,n3,n4,n5,n6,n7,n8,n9,m0,m1,m2,m3,m4,m5,m6,m7,m8,m9,o0,o1,o2,o3,o4,↓reduceIte]|rfl) ?_)
  refine OpsE_nil ?_
  repeat (first|refine Qd ?_|refine Qw ?_|refine Qo ?_)
  refine Z3 ?_
  iterate 2 ((refine OpsE_do rfl ?_; first|refine Jq rfl ?_|refine X7 rfl rfl ?_); refine OpsE_eq (st':=_) (by first|dsimp only [n0,n1,n2,n3,n4,n5,n6,n7,n8,n9,m0,m1,m2,m3,m4,m5,m6,m7,m8,m9,o0,o1,o2,o3,o4,↓reduceIte]|rfl) ?_)
  refine OpsE_nil ?_
  repeat (first|refine Qd ?_|refine Qw ?_|refine Qo ?_)
  refine Qr ?_
  refine ⟨trivial,_,rfl,?_,?_⟩
  ·simp [zg,hz,tupOf]
  ·simp [zg,hz,cellsOf,Qa]
def intssD (ls:List (List Int)):Dat:=.lst (ls.map intsD)
theorem flat_next {ls:List (List Int)} {j:Nat} (h:j < ls.length):(ls.take (j+1)).flatten=(ls.take j).flatten++ls[j]:=by
 rw [take_next h,List.flatten_append]; simp
theorem flat_le {ls:List (List Int)} (j:Nat):(ls.take j).flatten.length≤ls.flatten.length:=by
 have:ls.flatten=(ls.take j).flatten++(ls.drop j).flatten:=by rw [← List.flatten_append,List.take_append_drop]
 rw [this,List.length_append]; omega

theorem c_Concat (ls:List (List Int)) (H:List Blk) (hls:ls.length≤1000) (hfl:ls.flatten.length≤1000000):PC prog env 168 [.dat (intssD ls)] H (.dat (intsD ls.flatten)) H:=by
 refine PC_pure (fn:=f168) (by kernel_rfl) rfl rfl (by kernel_rfl) rfl rfl ?_ (by simp [PV.lends])
 refine QgV (st':=⟨[.dat (intssD ls),.tup [],.tup [],.tup [],.tup [],.tup [],.tup [],.tup [],.tup [],.tup [],.tup [],.tup [],.tup [],.tup [],.tup [],.tup [],.tup [],.tup [],.tup [],.tup [],.tup [],.tup [],.tup [],.tup [],.tup [],.tup [],.tup [],.tup [],.tup [],.tup [],.tup [],.tup [],.tup [],.tup [],.tup [],.tup []],[]⟩) rfl ?_
 repeat (first|refine Qd ?_|refine Qw ?_|refine Qo ?_)
 refine Z3 ?_
 (refine OpsE_do rfl ?_; refine X7 rfl rfl ?_; refine OpsE_eq (st':=_) (by first|dsimp only [n0,n1,n2,n3,n4,n5,n6,n7,n8,n9,m0,m1,m2,m3,m4,m5,m6,m7,m8,m9,o0,o1,o2,o3,o4,↓reduceIte]|rfl) ?_)
 refine OpsE_nil ?_
 repeat (first|refine Qd ?_|refine Qw ?_|refine Qo ?_)
 refine Z3 ?_
 (refine OpsE_do rfl ?_; refine X7 rfl rfl ?_; refine OpsE_eq (st':=_) (by first|dsimp only [n0,n1,n2,n3,n4,n5,n6,n7,n8,n9,m0,m1,m2,m3,m4,m5,m6,m7,m8,m9,o0,o1,o2,o3,o4,↓reduceIte]|rfl) ?_)
 refine OpsE_nil ?_
 repeat (first|refine Qd ?_|refine Qw ?_|refine Qo ?_)
 refine Z3 ?_
 iterate 3 ((refine OpsE_do rfl ?_; first|refine Jq rfl ?_|refine Qf0 un61 rfl rfl ?_); refine OpsE_eq (st':=_) (by first|dsimp only [n0,n1,n2,n3,n4,n5,n6,n7,n8,n9,m0,m1,m2,m3,m4,m5,m6,m7,m8,m9,o0,o1,o2,o3,o4,↓reduceIte]|rfl) ?_)
 refine OpsE_nil ?_
 repeat (first|refine Qd ?_|refine Qw ?_|refine Qo ?_)
 refine Ze ?_
 refine RL_ind (fun (j:Nat)=>⟨[.dat (intssD ls),.undef,.undef,Qc ((ls.take j).flatten.length:Int),.undef,.undef,.undef,.undef,.undef,.dat (intssD ls),Qc (ls.length:Int),Qc (j:Int),.undef,.undef,.undef,.undef,.undef,.undef,.undef,.undef,.undef,.undef,.undef,.undef,.undef,.undef,.undef,.undef,.undef,.undef,.undef,.undef,.undef,.undef,.undef,.undef],[]⟩)
  (fun j=>j≤ls.length) (fun j=>ls.length - j) (fun j hj=>?_) _ 0 _ (Nat.lt_succ_self _) (Nat.zero_le _) (by simp only [intssD,List.length_map]; rfl)
 repeat (first|refine Qd ?_|refine Qw ?_|refine Qo ?_)
 refine Z3 ?_
 (refine OpsE_do rfl ?_; (first|refine Qc6 rfl rfl rfl rfl ?_|refine E_bin rfl rfl rfl rfl ?_); refine OpsE_eq (st':=_) (by first|dsimp only [n0,n1,n2,n3,n4,n5,n6,n7,n8,n9,m0,m1,m2,m3,m4,m5,m6,m7,m8,m9,o0,o1,o2,o3,o4,↓reduceIte]|rfl) ?_)
 refine OpsE_nil ?_
 repeat (first|refine Qd ?_|refine Qw ?_|refine Qo ?_)
 refine QgT rfl (fun h=>?_) (fun h=>?_)
 ·have hj':j < ls.length:=by simpa using h
  have hf:=flat_le (ls:=ls) (j+1)
  rw [flat_next hj',List.length_append] at hf
  repeat (first|refine Qd ?_|refine Qw ?_|refine Qo ?_)
  refine Z3 ?_
  (refine OpsE_do rfl ?_; (first|refine Qgm el61 sz28 rfl rfl rfl rfl (map_get _ (by first|assumption|omega)) rfl ?_|refine QfZ el61 sz28 rfl rfl rfl rfl (map_get _ (by first|assumption|omega)) ?_|refine Qew el61 sz28 rfl rfl rfl rfl (map_get _ (by first|assumption|omega)) ?_); refine OpsE_eq (st':=_) (by first|dsimp only [n0,n1,n2,n3,n4,n5,n6,n7,n8,n9,m0,m1,m2,m3,m4,m5,m6,m7,m8,m9,o0,o1,o2,o3,o4,↓reduceIte]|rfl) ?_)
  iterate 2 ((refine OpsE_do rfl ?_; first|refine Qgn (ds:=[_]) ag28 sz28 rfl rfl rfl rfl ?_|refine Qgo (ds:=[_]) ag28 sz28 rfl rfl rfl rfl rfl ?_|refine X7 rfl rfl ?_); refine OpsE_eq (st':=_) (by first|dsimp only [n0,n1,n2,n3,n4,n5,n6,n7,n8,n9,m0,m1,m2,m3,m4,m5,m6,m7,m8,m9,o0,o1,o2,o3,o4,↓reduceIte]|rfl) ?_)
  refine OpsE_nil ?_
  have w1:IntKind.i64.wrap (((ls.take j).flatten.length:Int)+((ls[j].map Qa).length:Int))=((ls.take (j+1)).flatten.length:Int):=by
   rw [flat_next hj',List.length_append,List.length_map,wrap_i64 (by omega) (by omega)]; omega
  have h0:¬ (((ls.take (j+1)).flatten.length:Int) < 0):=by omega
  repeat (first|refine Qd ?_|refine Qw ?_|refine Qo ?_)
  refine Z3 ?_
  iterate 5 ((refine OpsE_do rfl ?_; first|refine Jq rfl ?_|refine Qf0 un28 rfl rfl ?_|refine Qc6 rfl rfl rfl rfl ?_|refine X7 rfl rfl ?_); refine OpsE_eq (st':=_) (by first|(simp only [n0,n1,n2,n3,n4,n5,n6,n7,n8,n9,m0,m1,m2,m3,m4,m5,m6,m7,m8,m9,o0,o1,o2,o3,o4,↓reduceIte,w1] <;> rfl)|rfl) ?_)
  refine OpsE_nil ?_
  repeat (first|refine Qd ?_|refine Qw ?_|refine Qo ?_)
  refine Z3 ?_
  iterate 2 ((refine OpsE_do rfl ?_; first|refine Jq rfl ?_|refine Qc6 rfl rfl rfl rfl ?_); refine OpsE_eq (st':=_) (by first|(simp only [n0,n1,n2,n3,n4,n5,n6,n7,n8,n9,m0,m1,m2,m3,m4,m5,m6,m7,m8,m9,o0,o1,o2,o3,o4,↓reduceIte,decide_eq_false h0] <;> rfl)|rfl) ?_)
  refine OpsE_nil ?_
  repeat (first|refine Qd ?_|refine Qw ?_|refine Qo ?_)
  refine Js rfl ?_
  repeat (first|refine Qd ?_|refine Qw ?_|refine Qo ?_)
  refine Z3 ?_
  iterate 2 ((refine OpsE_do rfl ?_; first|refine Qc6 rfl rfl rfl rfl ?_|refine Jq rfl ?_); refine OpsE_eq (st':=_) (by first|dsimp only [n0,n1,n2,n3,n4,n5,n6,n7,n8,n9,m0,m1,m2,m3,m4,m5,m6,m7,m8,m9,o0,o1,o2,o3,o4,↓reduceIte]|rfl) ?_)
  refine OpsE_nil ?_
  refine ⟨j+1,?_,by omega,hj'⟩
  rw [wrap_succ (by omega)]
  rfl
 ·have hj':j=ls.length:=by simp at h; omega
  subst hj'
  rw [List.take_length]
  repeat (first|refine Qd ?_|refine Qw ?_|refine Qo ?_)
  refine Q8 ?_
  repeat (first|refine Qd ?_|refine Qw ?_|refine Qo ?_)
  refine Z3 ?_
  (refine OpsE_do rfl ?_; refine Jq rfl ?_; refine OpsE_eq (st':=_) (by first|dsimp only [n0,n1,n2,n3,n4,n5,n6,n7,n8,n9,m0,m1,m2,m3,m4,m5,m6,m7,m8,m9,o0,o1,o2,o3,o4,↓reduceIte]|rfl) ?_)
  (refine OpsE_do rfl ?_; refine Qgu rfl rfl rfl rfl (c_Grow ls.flatten.length hfl) ?_; refine OpsE_eq (st':=_) (by first|dsimp only [n0,n1,n2,n3,n4,n5,n6,n7,n8,n9,m0,m1,m2,m3,m4,m5,m6,m7,m8,m9,o0,o1,o2,o3,o4,↓reduceIte]|rfl) ?_)
  (refine OpsE_do rfl ?_; refine X7 rfl rfl ?_; refine OpsE_eq (st':=_) (by first|dsimp only [n0,n1,n2,n3,n4,n5,n6,n7,n8,n9,m0,m1,m2,m3,m4,m5,m6,m7,m8,m9,o0,o1,o2,o3,o4,↓reduceIte]|rfl) ?_)
  refine OpsE_nil ?_
  repeat (first|refine Qd ?_|refine Qw ?_|refine Qo ?_)
  refine Z3 ?_
  iterate 3 ((refine OpsE_do rfl ?_; first|refine Jq rfl ?_|refine Qf0 un61 rfl rfl ?_); refine OpsE_eq (st':=_) (by first|dsimp only [n0,n1,n2,n3,n4,n5,n6,n7,n8,n9,m0,m1,m2,m3,m4,m5,m6,m7,m8,m9,o0,o1,o2,o3,o4,↓reduceIte]|rfl) ?_)
  refine OpsE_nil ?_
  repeat (first|refine Qd ?_|refine Qw ?_|refine Qo ?_)
  refine Ze ?_
  refine RL_h0 (h1:=1) rfl ?_
  refine RL_ind (fun (j:Nat)=>⟨[.undef,.undef,.undef,.undef,.undef,.undef,.ms 0 (zg ls.flatten.length) 0 (ls.take j).flatten.length ls.flatten.length,.undef,.undef,.undef,.undef,.undef,.undef,.undef,.undef,.undef,.undef,.undef,.undef,.undef,.undef,.undef,.undef,.undef,.undef,.dat (intssD ls),Qc (ls.length:Int),Qc (j:Int),.undef,.undef,.undef,.undef,.undef,.undef,.undef,.undef],[.mt 3 (zg ls.flatten.length) (cellsOf Qa ((ls.take j).flatten++List.replicate (ls.flatten.length - (ls.take j).flatten.length) 0))]⟩)
   (fun j=>j≤ls.length) (fun j=>ls.length - j) (fun j hj=>?_) _ 0 _ (Nat.lt_succ_self _) (Nat.zero_le _) ?_
  ·repeat (first|refine Qd ?_|refine Qw ?_|refine Qo ?_)
   refine Z3 ?_
   (refine OpsE_do rfl ?_; (first|refine Qc6 rfl rfl rfl rfl ?_|refine E_bin rfl rfl rfl rfl ?_); refine OpsE_eq (st':=_) (by first|dsimp only [n0,n1,n2,n3,n4,n5,n6,n7,n8,n9,m0,m1,m2,m3,m4,m5,m6,m7,m8,m9,o0,o1,o2,o3,o4,↓reduceIte]|rfl) ?_)
   refine OpsE_nil ?_
   repeat (first|refine Qd ?_|refine Qw ?_|refine Qo ?_)
   refine QgT rfl (fun h=>?_) (fun h=>?_)
   ·have hj':j < ls.length:=by simpa using h
    have hf:=flat_le (ls:=ls) (j+1)
    rw [flat_next hj',List.length_append] at hf
    repeat (first|refine Qd ?_|refine Qw ?_|refine Qo ?_)
    refine Z3 ?_
    (refine OpsE_do rfl ?_; (first|refine Qgm el61 sz28 rfl rfl rfl rfl (map_get _ (by first|assumption|omega)) rfl ?_|refine QfZ el61 sz28 rfl rfl rfl rfl (map_get _ (by first|assumption|omega)) ?_|refine Qew el61 sz28 rfl rfl rfl rfl (map_get _ (by first|assumption|omega)) ?_); refine OpsE_eq (st':=_) (by first|dsimp only [n0,n1,n2,n3,n4,n5,n6,n7,n8,n9,m0,m1,m2,m3,m4,m5,m6,m7,m8,m9,o0,o1,o2,o3,o4,↓reduceIte]|rfl) ?_)
    iterate 2 ((refine OpsE_do rfl ?_; first|refine Qgn (ds:=[_]) ag28 sz28 rfl rfl rfl rfl ?_|refine Qgo (ds:=[_]) ag28 sz28 rfl rfl rfl rfl rfl ?_|refine X7 rfl rfl ?_); refine OpsE_eq (st':=_) (by first|dsimp only [n0,n1,n2,n3,n4,n5,n6,n7,n8,n9,m0,m1,m2,m3,m4,m5,m6,m7,m8,m9,o0,o1,o2,o3,o4,↓reduceIte]|rfl) ?_)
    refine OpsE_nil ?_
    have ha:appendMs [.mt 3 (zg ls.flatten.length) (cellsOf Qa ((ls.take j).flatten++List.replicate (ls.flatten.length - (ls.take j).flatten.length) 0))] 3 8 0 (zg ls.flatten.length) 0 (ls.take j).flatten.length ls.flatten.length (cellsOf Qa ls[j]) =
      some (.ms 0 (zg ls.flatten.length) 0 (ls.take (j+1)).flatten.length ls.flatten.length,[.mt 3 (zg ls.flatten.length) (cellsOf Qa ((ls.take (j+1)).flatten++List.replicate (ls.flatten.length - (ls.take (j+1)).flatten.length) 0))]):=by
     rw [flat_next hj']
     generalize (ls.take j).flatten=A at hf ⊢
     generalize ls[j]=B at hf ⊢
     generalize ls.flatten.length=m at hf ⊢
     cases B with
     | nil=>simp only [List.append_nil]; exact appendMs_nil
     | cons x B =>
      rw [ms_append_in (H:=[.mt 3 (zg m) (cellsOf Qa (A++List.replicate (m - A.length) 0))]) (t:=0) (len:=A.length) (es:=x::B) (f:=Qa) (l:=A++List.replicate (m - A.length) 0) (fun _=>rfl) (ZS rfl) (Nat.succ_pos _) (by simp only [List.length_append,List.length_replicate]; omega)]
      have e1:(A++List.replicate (m - A.length) (0:Int)).take A.length=A:=List.take_left' rfl
      have e2:(A++List.replicate (m - A.length) (0:Int)).drop (A.length+(x::B).length)=List.replicate (m - (A++x::B).length) 0:=by
       rw [List.drop_append,List.drop_of_length_le (by omega),List.nil_append,List.drop_replicate,List.length_append]
       congr 1; omega
      rw [e1,e2,Nat.max_eq_left (by omega),List.length_append]
      rfl
    repeat (first|refine Qd ?_|refine Qw ?_|refine Qo ?_)
    refine Z3 ?_
    iterate 2 ((refine OpsE_do rfl ?_; refine Jq rfl ?_); refine OpsE_eq (st':=_) (by first|dsimp only [n0,n1,n2,n3,n4,n5,n6,n7,n8,n9,m0,m1,m2,m3,m4,m5,m6,m7,m8,m9,o0,o1,o2,o3,o4,↓reduceIte]|rfl) ?_)
    (refine OpsE_do rfl ?_; refine Qev el28 sz3 by3 zn3 (by decide) rfl rfl (source_lst (f:=Qa) (fun _=>rfl)) ha ?_; refine OpsE_eq (st':=_) (by first|dsimp only [n0,n1,n2,n3,n4,n5,n6,n7,n8,n9,m0,m1,m2,m3,m4,m5,m6,m7,m8,m9,o0,o1,o2,o3,o4,↓reduceIte]|rfl) ?_)
    (refine OpsE_do rfl ?_; refine X7 rfl rfl ?_; refine OpsE_eq (st':=_) (by first|dsimp only [n0,n1,n2,n3,n4,n5,n6,n7,n8,n9,m0,m1,m2,m3,m4,m5,m6,m7,m8,m9,o0,o1,o2,o3,o4,↓reduceIte]|rfl) ?_)
    refine OpsE_nil ?_
    repeat (first|refine Qd ?_|refine Qw ?_|refine Qo ?_)
    refine Z3 ?_
    iterate 2 ((refine OpsE_do rfl ?_; first|refine Qc6 rfl rfl rfl rfl ?_|refine Jq rfl ?_); refine OpsE_eq (st':=_) (by first|dsimp only [n0,n1,n2,n3,n4,n5,n6,n7,n8,n9,m0,m1,m2,m3,m4,m5,m6,m7,m8,m9,o0,o1,o2,o3,o4,↓reduceIte]|rfl) ?_)
    refine OpsE_nil ?_
    refine ⟨j+1,?_,by omega,hj'⟩
    rw [wrap_succ (by omega)]
    refine (prune_some rfl).trans ?_
    dsimp only [m6,m7,o0,o1]
    rw [purge_mt]
    rfl
   ·have hj':j=ls.length:=by simp at h; omega
    subst hj'
    rw [List.take_length,Nat.sub_self,List.replicate_zero,List.append_nil]
    repeat (first|refine Qd ?_|refine Qw ?_|refine Qo ?_)
    refine Q8 ?_
    repeat (first|refine Qd ?_|refine Qw ?_|refine Qo ?_)
    refine Z3 ?_
    iterate 2 ((refine OpsE_do rfl ?_; first|refine Jq rfl ?_|refine X7 rfl rfl ?_); refine OpsE_eq (st':=_) (by first|dsimp only [n0,n1,n2,n3,n4,n5,n6,n7,n8,n9,m0,m1,m2,m3,m4,m5,m6,m7,m8,m9,o0,o1,o2,o3,o4,↓reduceIte]|rfl) ?_)
    refine OpsE_nil ?_
    repeat (first|refine Qd ?_|refine Qw ?_|refine Qo ?_)
    refine Qr ?_
    refine ⟨trivial,_,rfl,?_⟩
    have r1:=pure_ms (H:=[.mt 3 (zg ls.flatten.length) (cellsOf Qa ls.flatten)]) (g:=zg ls.flatten.length) (t:=0) (cap:=ls.flatten.length) (f:=Qa) (fun _=>rfl) (ZS rfl) (Nat.le_refl _)
    rw [List.take_length] at r1
    show (pureC [.mt 3 (zg ls.flatten.length) (cellsOf Qa ls.flatten)] (.ms 0 (zg ls.flatten.length) 0 ls.flatten.length ls.flatten.length)).map PV.dat=_
    rw [r1]
    rfl
  ·refine (prune_some rfl).trans ?_
   dsimp only [m6,m7,o0,o1]
   rw [purge_mt]
   simp only [intssD,List.length_map]
   rfl

def Ya (x:List (List Int)):Option (List Int):=if x.length≤1000∧x.flatten.length≤1000000 then some x.flatten else none
def QcS:List (List Int)→List Int→Prop:=fun x r=>∀ H,PC prog env 168 ([.lst ((List.map (fun l=>Dat.lst ((List.map Qa) l))) x)].map .dat) H (.dat (.lst ((List.map Qa) r))) H
theorem Jm:∀ x r,Ya x=some r→QcS x r:=by
 intro x r hm
 unfold Ya at hm
 split at hm
 ·rename_i h
  cases hm
  intro H
  exact c_Concat x H h.1 h.2
 ·cases hm
structure Qf where
 kind:Int
 fn:Int
 axis:Int
 name:ByteArray
 nums:(List Int)
 kids:(List Qf)
mutual
def Qf.toD:Qf→Dat
 | ⟨kind,fn,axis,name,nums,kids⟩=>.agg [(Qa kind),(Qa fn),(Qa axis),(strD name),(.lst ((List.map Qa) nums)),(.lst (Qf.toDs kids))]
def Qf.toDs:List Qf→List Dat
 | []=>[]
 | k::ks=>Qf.toD k::Qf.toDs ks
end
theorem Qf.toDs_eq:∀ l:List Qf,Qf.toDs l=l.map Qf.toD
 | []=>rfl
 | k::ks=>by rw [Qf.toDs,Qf.toDs_eq ks]; rfl
def Qf.ex (x:Qf):Dat:=.agg [(Qa x.kind),(Qa x.fn),(Qa x.axis),(strD x.name),(.lst ((List.map Qa) x.nums)),(.lst (Qf.toDs x.kids))]
theorem Qf.toD_eq (x:Qf):x.toD=x.ex:=by cases x; rfl
theorem Qf.fit (x:Qf):Dat.fits 6 x.toD=true:=by cases x; rfl
structure QM where
 shape:(List Int)
 data:(List Int)
def QM.toD (x:QM):Dat:=.agg [(.lst ((List.map Qa) x.shape)),(.lst ((List.map Qa) x.data))]
theorem QM.fit (x:QM):Dat.fits 2 x.toD=true:=rfl
structure Ql where
 name:ByteArray
 value:QM
def Ql.toD (x:Ql):Dat:=.agg [(strD x.name),(.lst ((List.map Qa) x.value.shape)),(.lst ((List.map Qa) x.value.data))]
theorem Ql.fit (x:Ql):Dat.fits 3 x.toD=true:=rfl
structure Qi where
 kind:Int
 shape:(List Int)
 buffer:Int
 starts:(List Int)
 axis:Int
 amount:Int
 perm:(List Int)
 kids:(List Qi)
mutual
def Qi.toD:Qi→Dat
 | ⟨kind,shape,buffer,starts,axis,amount,perm,kids⟩=>.agg [(Qa kind),(.lst ((List.map Qa) shape)),(Qa buffer),(.lst ((List.map Qa) starts)),(Qa axis),(Qa amount),(.lst ((List.map Qa) perm)),(.lst (Qi.toDs kids))]
def Qi.toDs:List Qi→List Dat
 | []=>[]
 | k::ks=>Qi.toD k::Qi.toDs ks
end
theorem Qi.toDs_eq:∀ l:List Qi,Qi.toDs l=l.map Qi.toD
 | []=>rfl
 | k::ks=>by rw [Qi.toDs,Qi.toDs_eq ks]; rfl
def Qi.ex (x:Qi):Dat:=.agg [(Qa x.kind),(.lst ((List.map Qa) x.shape)),(Qa x.buffer),(.lst ((List.map Qa) x.starts)),(Qa x.axis),(Qa x.amount),(.lst ((List.map Qa) x.perm)),(.lst (Qi.toDs x.kids))]
theorem Qi.toD_eq (x:Qi):x.toD=x.ex:=by cases x; rfl
theorem Qi.fit (x:Qi):Dat.fits 8 x.toD=true:=by cases x; rfl
structure Qn where
 left:(List Int)
 right:(List Int)
 shape:(List Int)
 starts:(List Int)
 axis:Int
 amount:Int
 perm:(List Int)
def Qn.toD (x:Qn):Dat:=.agg [(.lst ((List.map Qa) x.left)),(.lst ((List.map Qa) x.right)),(.lst ((List.map Qa) x.shape)),(.lst ((List.map Qa) x.starts)),(Qa x.axis),(Qa x.amount),(.lst ((List.map Qa) x.perm))]
theorem Qn.fit (x:Qn):Dat.fits 7 x.toD=true:=rfl
structure QF where
 values:(List Int)
 scalar:Bool
def QF.toD (x:QF):Dat:=.agg [(.lst ((List.map Qa) x.values)),(QaH x.scalar)]
theorem QF.fit (x:QF):Dat.fits 2 x.toD=true:=rfl
structure QD where
 name:ByteArray
 value:QM
def QD.toD (x:QD):Dat:=.agg [(strD x.name),(.lst ((List.map Qa) x.value.shape)),(.lst ((List.map Qa) x.value.data))]
theorem QD.fit (x:QD):Dat.fits 3 x.toD=true:=rfl
structure Qh where
 kind:Int
 shape:(List Int)
 buffer:Int
 starts:(List Int)
 axis:Int
 amount:Int
 perm:(List Int)
 kids:(List Qh)
mutual
def Qh.toD:Qh→Dat
 | ⟨kind,shape,buffer,starts,axis,amount,perm,kids⟩=>.agg [(Qa kind),(.lst ((List.map Qa) shape)),(Qa buffer),(.lst ((List.map Qa) starts)),(Qa axis),(Qa amount),(.lst ((List.map Qa) perm)),(.lst (Qh.toDs kids))]
def Qh.toDs:List Qh→List Dat
 | []=>[]
 | k::ks=>Qh.toD k::Qh.toDs ks
end
theorem Qh.toDs_eq:∀ l:List Qh,Qh.toDs l=l.map Qh.toD
 | []=>rfl
 | k::ks=>by rw [Qh.toDs,Qh.toDs_eq ks]; rfl
def Qh.ex (x:Qh):Dat:=.agg [(Qa x.kind),(.lst ((List.map Qa) x.shape)),(Qa x.buffer),(.lst ((List.map Qa) x.starts)),(Qa x.axis),(Qa x.amount),(.lst ((List.map Qa) x.perm)),(.lst (Qh.toDs x.kids))]
theorem Qh.toD_eq (x:Qh):x.toD=x.ex:=by cases x; rfl
theorem Qh.fit (x:Qh):Dat.fits 8 x.toD=true:=by cases x; rfl
structure Qq where
 name:ByteArray
 value:QM
def Qq.toD (x:Qq):Dat:=.agg [(strD x.name),(.lst ((List.map Qa) x.value.shape)),(.lst ((List.map Qa) x.value.data))]
theorem Qq.fit (x:Qq):Dat.fits 3 x.toD=true:=rfl
structure Yf where
 core:Qh
 sources:(List Qq)
def Yf.toD (x:Yf):Dat:=.agg [(Qa x.core.kind),(.lst ((List.map Qa) x.core.shape)),(Qa x.core.buffer),(.lst ((List.map Qa) x.core.starts)),(Qa x.core.axis),(Qa x.core.amount),(.lst ((List.map Qa) x.core.perm)),(.lst (Qh.toDs x.core.kids)),(.lst ((List.map Qq.toD) x.sources))]
theorem Yf.fit (x:Yf):Dat.fits 9 x.toD=true:=rfl
structure QR where
 values:(List Int)
 scalar:Bool
def QR.toD (x:QR):Dat:=.agg [(.lst ((List.map Qa) x.values)),(QaH x.scalar)]
theorem QR.fit (x:QR):Dat.fits 2 x.toD=true:=rfl
structure Qt where
 left:(List Int)
 right:(List Int)
 shape:(List Int)
 starts:(List Int)
 axis:Int
 amount:Int
 perm:(List Int)
def Qt.toD (x:Qt):Dat:=.agg [(.lst ((List.map Qa) x.left)),(.lst ((List.map Qa) x.right)),(.lst ((List.map Qa) x.shape)),(.lst ((List.map Qa) x.starts)),(Qa x.axis),(Qa x.amount),(.lst ((List.map Qa) x.perm))]
theorem Qt.fit (x:Qt):Dat.fits 7 x.toD=true:=rfl
def Qbv (x:Unit):Option Bool:=some true
def QfD:Unit→Bool→Prop:=fun x r=>∀ H,PC prog env 4 ([].map .dat) H (Qs r) H
theorem Qeq:∀ x r,Qbv x=some r→QfD x r:=by
 intro x r hm
 cases hm
 intro H
 exact PC_of (n:=200) (by kernel_rfl)
mutual
def Yg (x:(Qf × Int × Int)):Option (Int) :=
 match x with
 | (p0,v201,v202) =>
 (if v202 < (p0.kids.length:Int) then
  some (decide (v201≥0))
 else
 some false
 )>>=fun (v602:Bool) =>
 if v602=true then
  idx p0.kids v202>>=fun v603 =>
  Jt (v603,v201)>>=fun (v604:Int) =>
  Yg (p0,v604,(W (v202+1)))
 else
 some v201
 partial_fixpoint
def Jt (x:(Qf × Int)):Option Int :=
 match x with
 | (p0,p1) =>
 Yg (p0,(W (p1 - 1)),0)>>=fun (v601:Int) =>
 some v601
 partial_fixpoint
end
def QaR:(Qf × Int × Int)→Int→Prop:=fun x r=>match x with
 | (p0,v201,v202)=>∀ st,prune 1 ((Qy (QN [1,1,0,1,0,0] (QP f29))).bind (env.hint 29).keepAt) st=⟨kp 27 [(1,(Qc v201)),(2,(.ptr 0 0)),(5,(Qc v202))],[(.box [(Qc p0.kind),(Qc p0.fn),(Qc p0.axis),(.dat (strD p0.name)),(.dat (.lst ((List.map Qa) p0.nums))),(.dat (.lst (Qf.toDs p0.kids)))])]⟩ →
  RL prog env (env.hint 29) true (QN [1,1,0,1,0,0] (QP f29)) 1 st (fun e s=>match r with|v601=>e=.exit 0∧∃ d,s=⟨sl d 27 [(1,(Qc v601))],[(.box [(Qc p0.kind),(Qc p0.fn),(Qc p0.axis),(.dat (strD p0.name)),(.dat (.lst ((List.map Qa) p0.nums))),(.dat (.lst (Qf.toDs p0.kids)))])]⟩)
def QbU:(Qf × Int)→Int→Prop:=fun x r=>match x,r with
 | (p0,p1),r0=>∀ H,PC prog env 29 ([(Qf.ex p0),(Qa p1)].map .dat) H (Qc r0) H
theorem g_ref08_left_L1:(∀ x r,Yg x=some r→QaR x r)∧(∀ x r,Jt x=some r→QbU x r):=by
 refine Yg.mutual_partial_correctness QaR QbU ?_ ?_
 ·intro Yg Jt QaU Qc1 x r hm
  unfold QaR
  obtain ⟨p0,v201,v202⟩:=x
  intro st hst
  refine RL_at hst ?_
  clear hst
  refine Qd (Qd ?_)
  obtain ⟨v602,hs,hm⟩:=Qg hm
  refine Zy (fun d=>⟨sl d 27 [(1,(Qc v201)),(2,(.ptr 0 0)),(5,(Qc v202)),(16,(Qs v602))],[(.box [(Qc p0.kind),(Qc p0.fn),(Qc p0.axis),(.dat (strD p0.name)),(.dat (.lst ((List.map Qa) p0.nums))),(.dat (.lst (Qf.toDs p0.kids)))])]⟩) ?_ (fun d=>?_)
  ·replace hm:=hs
   clear hs
   refine R_G (Qb 3 ?_)
   refine QO Qf.toD p0.kids (es:=Qf.toDs p0.kids) (Qf.toDs_eq _) ?_
   refine Qb 2 ?_
   refine QA 13 hm (rfl) (fun hm=>?_) (fun hm=>?_)
   ·refine Qb 3 (Qe ?_)
    obtain rfl:=Qu hm
    exact Qm
   refine Qb 3 (Qe ?_)
   obtain rfl:=Qu hm
   exact Qm
  clear hs
  refine Qx hm (QH _) (fun hm=>?_) (fun hm=>?_)
  ·refine Qo (Qd (Qw (R_G (Qb 3 ?_))))
   obtain ⟨v603,hx,hm⟩:=Qg hm
   refine QbA 6 Qf.toD p0.kids v202 v603 (es:=Qf.toDs p0.kids) (d:=(Qf.ex v603)) (Qf.toDs_eq _) hx (Qf.toD_eq v603) rfl ?_
   refine Qb 2 ?_
   obtain ⟨v604,hx,hm⟩:=Qg hm
   have hq:=Qc1 _ _ hx []
   refine Qp hq ?_
   refine Qb 1 (Qe (R_G (Qb 3 (Qe ?_))))
   exact QaU _ _ hm _ (by kernel_rfl)
  refine Q8 ?_
  obtain rfl:=Qu hm
  exact ⟨rfl,Qm⟩
 ·intro Yg QaU x r0 hm
  unfold QbU
  obtain ⟨p0,p1⟩:=x
  intro H
  refine PC_sx (ds:=[(Qf.ex p0),(Qa p1)]) (fn:=f29) rfl ?_
  refine Qd (R_G (Qb 2 (Qe (Qd (R_G (Qb 3 (Qe (Qd (Qd (R_G (Qb 1 ?_)))))))))))
  refine Qe (Qw ?_)
  obtain ⟨v601,hs,hm⟩:=Qg hm
  refine Ze ?_
  refine RL_use (QaU _ _ hs) (by kernel_rfl) ?_
  clear hs
  intro e s hp
  obtain ⟨rfl,d,rfl⟩:=hp
  refine Qd (R_G (Qb 2 (Qe (Qr ?_))))
  obtain rfl:=Qu hm
  exact ⟨trivial,Qk⟩
theorem QaU:∀ x r,Yg x=some r→QaR x r:=g_ref08_left_L1.1
theorem Qc1:∀ x r,Jt x=some r→QbU x r:=g_ref08_left_L1.2
mutual
def ZU (x:(Qf × Int × Int)):Option (Int) :=
 match x with
 | (p0,v201,v202) =>
 if v202 < (p0.kids.length:Int) then
  idx p0.kids v202>>=fun v602 =>
  Xi v602>>=fun (v603:Int) =>
  ZU (p0,(if v201 < v603 then v603 else v201),(W (v202+1)))
 else
 some v201
 partial_fixpoint
def Xi (x:Qf):Option Int :=
 match x with
 | p0 =>
 ZU (p0,0,0)>>=fun (v601:Int) =>
 some (W (v601+1))
 partial_fixpoint
end
def Qam:(Qf × Int × Int)→Int→Prop:=fun x r=>match x with
 | (p0,v201,v202)=>∀ st,prune 1 ((Qy (QN [1,1,0,1,0,0] (QP f30))).bind (env.hint 30).keepAt) st=⟨kp 22 [(1,(.ptr 0 0)),(3,(Qc v201)),(4,(Qc v202))],[(.box [(Qc p0.kind),(Qc p0.fn),(Qc p0.axis),(.dat (strD p0.name)),(.dat (.lst ((List.map Qa) p0.nums))),(.dat (.lst (Qf.toDs p0.kids)))])]⟩ →
  RL prog env (env.hint 30) true (QN [1,1,0,1,0,0] (QP f30)) 1 st (fun e s=>match r with|v601=>e=.exit 0∧∃ d,s=⟨sl d 22 [(3,(Qc v601))],[(.box [(Qc p0.kind),(Qc p0.fn),(Qc p0.axis),(.dat (strD p0.name)),(.dat (.lst ((List.map Qa) p0.nums))),(.dat (.lst (Qf.toDs p0.kids)))])]⟩)
def Qbs:Qf→Int→Prop:=fun x r=>match x,r with
 | p0,r0=>∀ H,PC prog env 30 ([(Qf.ex p0)].map .dat) H (Qc r0) H
theorem g_ref08_Depth_L1:(∀ x r,ZU x=some r→Qam x r)∧(∀ x r,Xi x=some r→Qbs x r):=by
 refine ZU.mutual_partial_correctness Qam Qbs ?_ ?_
 ·intro ZU Xi QaB Qby x r hm
  unfold Qam
  obtain ⟨p0,v201,v202⟩:=x
  intro st hst
  refine RL_at hst ?_
  clear hst
  refine Qd (Qd (R_G (Qb 3 ?_)))
  refine QO Qf.toD p0.kids (es:=Qf.toDs p0.kids) (Qf.toDs_eq _) ?_
  refine Qb 1 (Qe ?_)
  refine Qx hm (rfl) (fun hm=>?_) (fun hm=>?_)
  ·refine Qo (Qd (Qw (R_G (Qb 4 ?_))))
   obtain ⟨v602,hx,hm⟩:=Qg hm
   refine QbA 6 Qf.toD p0.kids v202 v602 (es:=Qf.toDs p0.kids) (d:=(Qf.ex v602)) (Qf.toDs_eq _) hx (Qf.toD_eq v602) rfl ?_
   refine Qb 1 ?_
   obtain ⟨v603,hx,hm⟩:=Qg hm
   have hq:=Qby _ _ hx []
   refine Qp hq ?_
   refine ZD rfl (fun _=>Qf2 (k:=.i64) (m:=v201) (n:=v603) rfl (by kernel_rfl) (by kernel_rfl)) ?_
   refine Qb 1 (Qe (R_G (Qb 3 (Qe ?_))))
   exact QaB _ _ hm _ (by kernel_rfl)
  refine Q8 ?_
  obtain rfl:=Qu hm
  exact ⟨rfl,Qm⟩
 ·intro ZU QaB p0 r0 hm
  unfold Qbs
  intro H
  refine PC_sx (ds:=[(Qf.ex p0)]) (fn:=f30) rfl ?_
  refine Qd (R_G (Qb 2 (Qe (Qd (R_G (Qb 1 (Qe (Qd (Qd (R_G (Qb 1 ?_)))))))))))
  refine Qe (Qw ?_)
  obtain ⟨v601,hs,hm⟩:=Qg hm
  refine Ze ?_
  refine RL_use (QaB _ _ hs) (by kernel_rfl) ?_
  clear hs
  intro e s hp
  obtain ⟨rfl,d,rfl⟩:=hp
  refine Qd (R_G (Qb 3 (Qe (Qr ?_))))
  obtain rfl:=Qu hm
  exact ⟨trivial,Qk⟩
theorem QaB:∀ x r,ZU x=some r→Qam x r:=g_ref08_Depth_L1.1
theorem Qby:∀ x r,Xi x=some r→Qbs x r:=g_ref08_Depth_L1.2
mutual
def ZB (x:(Qf × Int × Int)):Option (Int) :=
 match x with
 | (p0,v201,v202) =>
 if v202 < (p0.kids.length:Int) then
  idx p0.kids v202>>=fun v602 =>
  Y5 v602>>=fun (v603:Int) =>
  ZB (p0,(W (v201+v603)),(W (v202+1)))
 else
 some v201
 partial_fixpoint
def Y5 (x:Qf):Option Int :=
 match x with
 | p0 =>
 ZB (p0,(p0.nums.length:Int),0)>>=fun (v601:Int) =>
 some v601
 partial_fixpoint
end
def Jr:(Qf × Int × Int)→Int→Prop:=fun x r=>match x with
 | (p0,v201,v202)=>∀ st,prune 1 ((Qy (QN [1,1,0,1,0,0] (QP f31))).bind (env.hint 31).keepAt) st=⟨kp 24 [(1,(.ptr 0 0)),(3,(Qc v201)),(4,(Qc v202))],[(.box [(Qc p0.kind),(Qc p0.fn),(Qc p0.axis),(.dat (strD p0.name)),(.dat (.lst ((List.map Qa) p0.nums))),(.dat (.lst (Qf.toDs p0.kids)))])]⟩ →
  RL prog env (env.hint 31) true (QN [1,1,0,1,0,0] (QP f31)) 1 st (fun e s=>match r with|v601=>e=.exit 0∧∃ d,s=⟨sl d 24 [(3,(Qc v601))],[(.box [(Qc p0.kind),(Qc p0.fn),(Qc p0.axis),(.dat (strD p0.name)),(.dat (.lst ((List.map Qa) p0.nums))),(.dat (.lst (Qf.toDs p0.kids)))])]⟩)
def QaS:Qf→Int→Prop:=fun x r=>match x,r with
 | p0,r0=>∀ H,PC prog env 31 ([(Qf.ex p0)].map .dat) H (Qc r0) H
theorem g_ref08_numbers_L1:(∀ x r,ZB x=some r→Jr x r)∧(∀ x r,Y5 x=some r→QaS x r):=by
 refine ZB.mutual_partial_correctness Jr QaS ?_ ?_
 ·intro ZB Y5 Jy QbI x r hm
  unfold Jr
  obtain ⟨p0,v201,v202⟩:=x
  intro st hst
  refine RL_at hst ?_
  clear hst
  refine Qd (Qd (R_G (Qb 3 ?_)))
  refine QO Qf.toD p0.kids (es:=Qf.toDs p0.kids) (Qf.toDs_eq _) ?_
  refine Qb 1 (Qe ?_)
  refine Qx hm (rfl) (fun hm=>?_) (fun hm=>?_)
  ·refine Qo (Qd (Qw (R_G (Qb 4 ?_))))
   obtain ⟨v602,hx,hm⟩:=Qg hm
   refine QbA 6 Qf.toD p0.kids v202 v602 (es:=Qf.toDs p0.kids) (d:=(Qf.ex v602)) (Qf.toDs_eq _) hx (Qf.toD_eq v602) rfl ?_
   refine Qb 1 ?_
   obtain ⟨v603,hx,hm⟩:=Qg hm
   have hq:=QbI _ _ hx []
   refine Qp hq ?_
   refine Qb 2 (Qe (R_G (Qb 3 (Qe ?_))))
   exact Jy _ _ hm _ (by kernel_rfl)
  refine Q8 ?_
  obtain rfl:=Qu hm
  exact ⟨rfl,Qm⟩
 ·intro ZB Jy p0 r0 hm
  unfold QaS
  intro H
  refine PC_sx (ds:=[(Qf.ex p0)]) (fn:=f31) rfl ?_
  refine Qd (R_G (Qb 2 (Qe (Qd (R_G (Qb 2 ?_))))))
  refine QO Qa p0.nums (es:=(List.map Qa) p0.nums) rfl ?_
  refine Qb 1 (Qe (Qd (Qd (R_G (Qb 1 (Qe (Qw ?_)))))))
  obtain ⟨v601,hs,hm⟩:=Qg hm
  refine Ze ?_
  refine RL_use (Jy _ _ hs) (by kernel_rfl) ?_
  clear hs
  intro e s hp
  obtain ⟨rfl,d,rfl⟩:=hp
  refine Qd (R_G (Qb 2 (Qe (Qr ?_))))
  obtain rfl:=Qu hm
  exact ⟨trivial,Qk⟩
theorem Jy:∀ x r,ZB x=some r→Jr x r:=g_ref08_numbers_L1.1
theorem QbI:∀ x r,Y5 x=some r→QaS x r:=g_ref08_numbers_L1.2
def QbD (x:(Qf × Int)):Option Bool :=
 match x with
 | (p0,p1) =>
 Jt (p0,p1)>>=fun (v1:Int) =>
 (if v1≥0 then
  Xi p0>>=fun (v3:Int) =>
  some (decide (v3≤150))
 else
 some false
 )>>=fun (v2:Bool) =>
 if v2=true then
  Y5 p0>>=fun (v4:Int) =>
  some (decide (v4≤(W (10 * p1))))
 else
 some false
def Qe7:(Qf × Int)→Bool→Prop:=fun x r=>match x,r with
 | (p0,p1),r0=>∀ H,PC prog env 13 ([(Qf.ex p0),(Qa p1)].map .dat) H (Qs r0) H
theorem Qf8:∀ x r,QbD x=some r→Qe7 x r:=by
 intro x r0 hm
 unfold QbD at hm
 unfold Qe7
 obtain ⟨p0,p1⟩:=x
 intro H
 refine PC_sx (ds:=[(Qf.ex p0),(Qa p1)]) (fn:=f13) rfl ?_
 refine Qd (R_G (Qb 2 (Qe (Qd ?_))))
 refine QdZ ?_
 refine Qb 2 ?_
 obtain ⟨v1,hx,hm⟩:=Qg hm
 have hq:=Qc1 _ _ hx []
 refine Qp hq ?_
 refine Qb 2 ?_
 obtain ⟨v2,hs,hm⟩:=Qg hm
 refine XX (j:=9) (fun d=>⟨sl d 21 [(1,(Qc p1)),(2,(.ptr 0 0)),(4,(Qs false)),(13,(Qs v2))],[(.box [(Qc p0.kind),(Qc p0.fn),(Qc p0.axis),(.dat (strD p0.name)),(.dat (.lst ((List.map Qa) p0.nums))),(.dat (.lst (Qf.toDs p0.kids)))])]⟩) (fun d=>?_) (fun hJ=>?_)
 ·clear hs
  refine Qb 1 ?_
  refine QA 14 hm (QH _) (fun hm=>?_) (fun hm=>?_)
  ·refine Qb 1 ?_
   obtain ⟨v4,hx,hm⟩:=Qg hm
   have hq:=QbI _ _ hx []
   refine Qp hq ?_
   refine Qb 5 ?_
   refine Qe ⟨by kernel_rfl,?_⟩
   refine Qr ?_
   obtain rfl:=Qu hm
   exact ⟨trivial,Qk⟩
  refine Qb 7 ?_
  refine Qe ⟨by kernel_rfl,?_⟩
  refine Qr ?_
  obtain rfl:=Qu hm
  exact ⟨trivial,Qk⟩
 clear hm
 refine QA 9 hs (rfl) (fun hm=>?_) (fun hm=>?_)
 ·refine Qb 1 ?_
  obtain ⟨v3,hx,hm⟩:=Qg hm
  have hq:=Qby _ _ hx []
  refine Qp hq ?_
  refine Qb 2 ?_
  obtain rfl:=Qu hm
  exact hJ _ _
 refine Qb 4 ?_
 obtain rfl:=Qu hm
 exact hJ _ _
def Jg (x:Int):Option Bool :=
 match x with
 | p0 =>
 (if p0≥65 then
  some (decide (p0≤90))
 else
 some false
 )>>=fun (v1:Bool) =>
 (if v1=true then
  some true
 else
 if p0≥97 then
  some (decide (p0≤122))
 else
 some false
 )>>=fun (v2:Bool) =>
 if v2=true then
  some true
 else
 some (p0 == 95)
def Qdw:Int→Bool→Prop:=fun x r=>match x,r with
 | p0,r0=>∀ H,PC prog env 43 ([(numD .u8 p0)].map .dat) H (Qs r0) H
theorem QdP:∀ x r,Jg x=some r→Qdw x r:=by
 intro p0 r0 hm
 unfold Jg at hm
 unfold Qdw
 intro H
 refine PC_sx (ds:=[(numD .u8 p0)]) (fn:=f43) rfl ?_
 refine Qd (R_G (Qb 1 (Qe (Qd ?_))))
 refine QdZ ?_
 refine Qb 3 ?_
 obtain ⟨v1,hs,hm⟩:=Qg hm
 refine XX (j:=6) (fun d=>⟨sl d 21 [(0,(.dat (numD .u8 p0))),(2,(Qs false)),(8,(Qs v1))],[]⟩) (fun d=>?_) (fun hJ=>?_)
 ·clear hs
  refine Qb 1 ?_
  obtain ⟨v2,hs,hm⟩:=Qg hm
  refine XX (j:=14) (fun d=>⟨sl d 21 [(0,(.dat (numD .u8 p0))),(2,(Qs false)),(16,(Qs v2))],[]⟩) (fun d=>?_) (fun hJ=>?_)
  ·clear hs
   refine Qb 1 ?_
   refine QA 17 hm (QH _) (fun hm=>?_) (fun hm=>?_)
   ·refine Qb 4 ?_
    refine Qe ⟨by kernel_rfl,?_⟩
    refine Qr ?_
    obtain rfl:=Qu hm
    exact ⟨trivial,Qk⟩
   refine Qb 4 ?_
   refine Qe ⟨by kernel_rfl,?_⟩
   refine Qr ?_
   obtain rfl:=Qu hm
   exact ⟨trivial,Qk⟩
  clear hm
  refine QA 9 hs (QH _) (fun hm=>?_) (fun hm=>?_)
  ·refine Qb 7 ?_
   obtain rfl:=Qu hm
   exact hJ _ _
  refine Qb 3 ?_
  refine QA 12 hm (rfl) (fun hm=>?_) (fun hm=>?_)
  ·refine Qb 4 ?_
   obtain rfl:=Qu hm
   exact hJ _ _
  refine Qb 4 ?_
  obtain rfl:=Qu hm
  exact hJ _ _
 clear hm
 refine QA 5 hs (rfl) (fun hm=>?_) (fun hm=>?_)
 ·refine Qb 3 ?_
  obtain rfl:=Qu hm
  exact hJ _ _
 refine Qb 3 ?_
 obtain rfl:=Qu hm
 exact hJ _ _
def QaN (x:Int):Option Bool :=
 match x with
 | p0 =>
 if p0≥48 then
  some (decide (p0≤57))
 else
 some false
def Qea:Int→Bool→Prop:=fun x r=>match x,r with
 | p0,r0=>∀ H,PC prog env 87 ([(numD .u8 p0)].map .dat) H (Qs r0) H
theorem QfI:∀ x r,QaN x=some r→Qea x r:=by
 intro p0 r0 hm
 unfold QaN at hm
 unfold Qea
 intro H
 refine PC_sx (ds:=[(numD .u8 p0)]) (fn:=f87) rfl ?_
 refine Qd (R_G (Qb 1 (Qe (Qd (R_G (Qb 3 ?_))))))
 refine QA 5 hm (rfl) (fun hm=>?_) (fun hm=>?_)
 ·refine Qb 4 (Qe (Qr ?_))
  obtain rfl:=Qu hm
  exact ⟨trivial,Qk⟩
 refine Qb 4 (Qe (Qr ?_))
 obtain rfl:=Qu hm
 exact ⟨trivial,Qk⟩
def YT (x:(ByteArray × Int)):Option (Int) :=
 match x with
 | (p0,v201) =>
 (if v201 < (p0.size:Int) then
  sidx p0 v201>>=fun v603 =>
  Jg v603>>=fun (v604:Bool) =>
  if v604=true then
   some true
  else
  sidx p0 v201>>=fun v605 =>
  QaN v605>>=fun (v606:Bool) =>
  some v606
 else
 some false
 )>>=fun (v602:Bool) =>
 if v602=true then
  YT (p0,(W (v201+1)))
 else
 some v201
 partial_fixpoint
def Qdv:(ByteArray × Int)→Int→Prop:=fun x r=>match x with
 | (p0,v201)=>∀ st,prune 0 ((Qy (QN [1,0,0,0] (QP f44))).bind (env.hint 44).keepAt) st=⟨kp 24 [(0,(.dat (strD p0))),(1,(Qc v201))],[]⟩ →
  RL prog env (env.hint 44) true (QN [1,0,0,0] (QP f44)) 0 st (fun e s=>match r with|v601=>e=.exit 0∧∃ d,s=⟨sl d 24 [(1,(Qc v601))],[]⟩)
theorem Qca:∀ x r,YT x=some r→Qdv x r:=by
 refine YT.partial_correctness _ (fun YT Qca x r hm=>?_)
 unfold Qdv
 obtain ⟨p0,v201⟩:=x
 intro st hst
 refine RL_at hst ?_
 clear hst
 refine Qd (Qd ?_)
 obtain ⟨v602,hs,hm⟩:=Qg hm
 refine Zy (fun d=>⟨sl d 24 [(0,(.dat (strD p0))),(1,(Qc v201)),(20,(Qs v602))],[]⟩) ?_ (fun d=>?_)
 ·replace hm:=hs
  clear hs
  refine R_G (Qb 2 ?_)
  refine ZD rfl (fun _=>Qfm (b:=p0) (by kernel_rfl) rfl (by kernel_rfl)) ?_
  refine Qb 2 ?_
  refine QA 9 hm (rfl) (fun hm=>?_) (fun hm=>?_)
  ·refine Qb 2 ?_
   obtain ⟨v603,hx,hm⟩:=Qg hm
   refine ZD rfl (fun _=>Qfl (b:=p0) (n:=v201) (v:=v603) (k:=.i64) hx (by kernel_rfl) rfl (by kernel_rfl) (by kernel_rfl)) ?_
   obtain ⟨v604,hx,hm⟩:=Qg hm
   have hq:=QdP _ _ hx []
   refine Qp hq ?_
   refine Qb 1 ?_
   refine QA 14 hm (QH _) (fun hm=>?_) (fun hm=>?_)
   ·refine Qb 6 (Qe ?_)
    obtain rfl:=Qu hm
    exact Qm
   refine Qb 2 ?_
   obtain ⟨v605,hx,hm⟩:=Qg hm
   refine ZD rfl (fun _=>Qfl (b:=p0) (n:=v201) (v:=v605) (k:=.i64) hx (by kernel_rfl) rfl (by kernel_rfl) (by kernel_rfl)) ?_
   obtain ⟨v606,hx,hm⟩:=Qg hm
   have hq:=QfI _ _ hx []
   refine Qp hq ?_
   refine Qb 2 (Qe ?_)
   obtain rfl:=Qu hm
   exact Qm
  refine Qb 11 (Qe ?_)
  obtain rfl:=Qu hm
  exact Qm
 clear hs
 refine Qx hm (QH _) (fun hm=>?_) (fun hm=>?_)
 ·refine Qo (Qw (R_G (Qb 3 (Qe ?_))))
  exact Qca _ _ hm _ (by kernel_rfl)
 refine Q8 ?_
 obtain rfl:=Qu hm
 exact ⟨rfl,Qm⟩
def Qcp (x:(ByteArray × Int)):Option Int :=
 match x with
 | (p0,p1) =>
 YT (p0,p1)>>=fun (v601:Int) =>
 some v601
def Qe6:(ByteArray × Int)→Int→Prop:=fun x r=>match x,r with
 | (p0,p1),r0=>∀ H,PC prog env 44 ([(strD p0),(Qa p1)].map .dat) H (Qc r0) H
theorem Qf7:∀ x r,Qcp x=some r→Qe6 x r:=by
 intro x r0 hm
 unfold Qcp at hm
 unfold Qe6
 obtain ⟨p0,p1⟩:=x
 intro H
 refine PC_sx (ds:=[(strD p0),(Qa p1)]) (fn:=f44) rfl ?_
 refine Qd (R_G (Qb 1 (Qe (Qd (Qw ?_)))))
 obtain ⟨v601,hs,hm⟩:=Qg hm
 refine Ze ?_
 refine RL_use (Qca _ _ hs) (by kernel_rfl) ?_
 clear hs
 intro e s hp
 obtain ⟨rfl,d,rfl⟩:=hp
 refine Qd (R_G (Qb 2 (Qe (Qr ?_))))
 obtain rfl:=Qu hm
 exact ⟨trivial,Qk⟩
def Qap (x:ByteArray):Option Bool :=
 match x with
 | p0 =>
 (if (p0.size:Int) > 0 then
  sidx p0 0>>=fun v2 =>
  Jg v2>>=fun (v3:Bool) =>
  some v3
 else
 some false
 )>>=fun (v1:Bool) =>
 if v1=true then
  Qcp (p0,0)>>=fun (v4:Int) =>
  some (v4 == (p0.size:Int))
 else
 some false
def QeB:ByteArray→Bool→Prop:=fun x r=>match x,r with
 | p0,r0=>∀ H,PC prog env 91 ([(strD p0)].map .dat) H (Qs r0) H
theorem QfR:∀ x r,Qap x=some r→QeB x r:=by
 intro p0 r0 hm
 unfold Qap at hm
 unfold QeB
 intro H
 refine PC_sx (ds:=[(strD p0)]) (fn:=f91) rfl ?_
 refine Qd (R_G (Qb 1 (Qe (Qd ?_))))
 refine QdZ ?_
 refine Qb 1 ?_
 refine ZD rfl (fun _=>Qfm (b:=p0) (by kernel_rfl) rfl (by kernel_rfl)) ?_
 refine Qb 2 ?_
 obtain ⟨v1,hs,hm⟩:=Qg hm
 refine XX (j:=8) (fun d=>⟨sl d 18 [(0,(.dat (strD p0))),(2,(Qs false)),(10,(Qs v1))],[]⟩) (fun d=>?_) (fun hJ=>?_)
 ·clear hs
  refine Qb 1 ?_
  refine QA 11 hm (QH _) (fun hm=>?_) (fun hm=>?_)
  ·refine Qb 1 ?_
   obtain ⟨v4,hx,hm⟩:=Qg hm
   have hq:=Qf7 _ _ hx []
   refine Qp hq ?_
   refine Qb 1 ?_
   refine ZD rfl (fun _=>Qfm (b:=p0) (by kernel_rfl) rfl (by kernel_rfl)) ?_
   refine Qb 3 ?_
   refine Qe ⟨by kernel_rfl,?_⟩
   refine Qr ?_
   obtain rfl:=Qu hm
   exact ⟨trivial,Qk⟩
  refine Qb 7 ?_
  refine Qe ⟨by kernel_rfl,?_⟩
  refine Qr ?_
  obtain rfl:=Qu hm
  exact ⟨trivial,Qk⟩
 clear hm
 refine QA 6 hs (rfl) (fun hm=>?_) (fun hm=>?_)
 ·refine Qb 1 ?_
  obtain ⟨v2,hx,hm⟩:=Qg hm
  refine ZD rfl (fun _=>Qfl (b:=p0) (n:=0) (v:=v2) (k:=.i64) hx (by kernel_rfl) rfl (by kernel_rfl) (by kernel_rfl)) ?_
  obtain ⟨v3,hx,hm⟩:=Qg hm
  have hq:=QdP _ _ hx []
  refine Qp hq ?_
  refine Qb 1 ?_
  obtain rfl:=Qu hm
  exact hJ _ _
 refine Qb 4 ?_
 obtain rfl:=Qu hm
 exact hJ _ _
def Qbg (x:Qf):Option Bool :=
 match x with
 | p0 =>
 (if p0.axis≥0 then
  some (decide (p0.axis≤15))
 else
 some false
 )>>=fun (v1:Bool) =>
 if p0.kind=1 then
  (if p0.fn=0 then
   some (p0.axis == (-1))
  else
  some false
  )>>=fun (v2:Bool) =>
  (if v2=true then
   some (decide (p0.name=ByteArray.empty))
  else
  some false
  )>>=fun (v3:Bool) =>
  if v3=true then
   some ((p0.kids.length:Int) == 0)
  else
  some false
 else
 if p0.kind=2 then
  (if p0.fn=0 then
   some (p0.axis == (-1))
  else
  some false
  )>>=fun (v4:Bool) =>
  (if v4=true then
   Qap p0.name>>=fun (v6:Bool) =>
   some v6
  else
  some false
  )>>=fun (v5:Bool) =>
  (if v5=true then
   some ((p0.nums.length:Int) == 0)
  else
  some false
  )>>=fun (v7:Bool) =>
  if v7=true then
   some ((p0.kids.length:Int) == 0)
  else
  some false
 else
 if p0.kind=3 then
  (if p0.name=ByteArray.empty then
   some ((p0.nums.length:Int) == 0)
  else
  some false
  )>>=fun (v8:Bool) =>
  (if v8=true then
   some ((p0.kids.length:Int) == 1)
  else
  some false
  )>>=fun (v9:Bool) =>
  if v9=true then
   (if p0.fn=3 then
    (if p0.axis=(-1) then
     some true
    else
    some v1
    )>>=fun (v11:Bool) =>
    some v11
   else
   some false
   )>>=fun (v10:Bool) =>
   if v10=true then
    some true
   else
   (if p0.fn=4 then
    some true
   else
   some (p0.fn == 6)
   )>>=fun (v12:Bool) =>
   (if v12=true then
    some (p0.axis == (-1))
   else
   some false
   )>>=fun (v13:Bool) =>
   some v13
  else
  some false
 else
 if p0.kind=4 then
  ((if p0.name≠ByteArray.empty then
   some true
  else
  some (decide ((p0.nums.length:Int) > 0))
  )>>=fun (v15:Bool) =>
  (if v15=true then
   some true
  else
  some ((p0.kids.length:Int) != 2)
  )>>=fun (v16:Bool) =>
  (if v16=true then
   some true
  else
  some (decide (p0.fn < 1))
  )>>=fun (v17:Bool) =>
  if v17=true then
   some true
  else
  some (decide (p0.fn > 6))
  )>>=fun (v14:Bool) =>
  if v14=true then
   some false
  else
  (if p0.axis≠(-1) then
   if v1=false then
    some true
   else
   (if p0.fn≠3 then
    some (p0.fn != 6)
   else
   some false
   )>>=fun (v19:Bool) =>
   some v19
  else
  some false
  )>>=fun (v18:Bool) =>
  if v18=true then
   some false
  else
  (if p0.fn=6 then
   some true
  else
  idx p0.kids 0>>=fun v21 =>
  some (v21.kind == 1)
  )>>=fun (v20:Bool) =>
  if v20=true then
   some true
  else
  idx p0.kids 0>>=fun v22 =>
  some (v22.kind == 2)
 else
 some false
def QeC:Qf→Bool→Prop:=fun x r=>match x,r with
 | p0,r0=>∀ H,PC prog env 53 ([(Qf.ex p0)].map .dat) H (Qs r0) H
theorem QfS:∀ x r,Qbg x=some r→QeC x r:=by
 intro p0 r0 hm
 unfold Qbg at hm
 unfold QeC
 intro H
 refine PC_sx (ds:=[(Qf.ex p0)]) (fn:=f53) rfl ?_
 refine Qd (R_G (Qb 2 (Qe (Qd ?_))))
 obtain ⟨v1,hs,hm⟩:=Qg hm
 refine Zy (fun d=>⟨sl d 170 [(1,(.ptr 0 0)),(3,(Qs v1))],[(.box [(Qc p0.kind),(Qc p0.fn),(Qc p0.axis),(.dat (strD p0.name)),(.dat (.lst ((List.map Qa) p0.nums))),(.dat (.lst (Qf.toDs p0.kids)))])]⟩) ?_ (fun d=>?_)
 ·replace hm:=hs
  clear hs
  refine R_G (Qb 4 ?_)
  refine QA 7 hm (rfl) (fun hm=>?_) (fun hm=>?_)
  ·refine Qb 5 (Qe ?_)
   obtain rfl:=Qu hm
   exact Qm
  refine Qb 5 (Qe ?_)
  obtain rfl:=Qu hm
  exact Qm
 clear hs
 refine Qd (Qd (R_G (Qb 2 (Qe (Qw (Qd (R_G (Qb 2 (Qe ?_)))))))))
 refine Qx hm (Q1 _ _) (fun hm=>?_) (fun hm=>?_)
 ·refine Qd ?_
  refine QdZ ?_
  refine Qb 4 ?_
  obtain ⟨v2,hs,hm⟩:=Qg hm
  refine XX (j:=8) (fun d=>⟨sl d 170 [(1,(.ptr 0 0)),(23,(Qs v2))],[(.box [(Qc p0.kind),(Qc p0.fn),(Qc p0.axis),(.dat (strD p0.name)),(.dat (.lst ((List.map Qa) p0.nums))),(.dat (.lst (Qf.toDs p0.kids)))])]⟩) (fun d=>?_) (fun hJ=>?_)
  ·clear hs
   refine Qb 1 ?_
   obtain ⟨v3,hs,hm⟩:=Qg hm
   refine XX (j:=13) (fun d=>⟨sl d 170 [(1,(.ptr 0 0)),(28,(Qs v3))],[(.box [(Qc p0.kind),(Qc p0.fn),(Qc p0.axis),(.dat (strD p0.name)),(.dat (.lst ((List.map Qa) p0.nums))),(.dat (.lst (Qf.toDs p0.kids)))])]⟩) (fun d=>?_) (fun hJ=>?_)
   ·clear hs
    refine Qb 1 ?_
    refine QA 29 hm (QH _) (fun hm=>?_) (fun hm=>?_)
    ·refine Qb 2 ?_
     refine QO Qf.toD p0.kids (es:=Qf.toDs p0.kids) (Qf.toDs_eq _) ?_
     refine Qb 3 ?_
     refine Qe ⟨by kernel_rfl,?_⟩
     refine Qr ?_
     obtain rfl:=Qu hm
     exact ⟨trivial,Qk⟩
    refine Qb 6 ?_
    refine Qe ⟨by kernel_rfl,?_⟩
    refine Qr ?_
    obtain rfl:=Qu hm
    exact ⟨trivial,Qk⟩
   clear hm
   refine QA 24 hs (QH _) (fun hm=>?_) (fun hm=>?_)
   ·refine Qb 2 ?_
    refine ZD rfl (fun _=>QcH (a:=p0.name) (b:=ByteArray.empty) rfl (by kernel_rfl) (by kernel_rfl)) ?_
    refine Qb 1 ?_
    obtain rfl:=Qu hm
    exact hJ _ _
   refine Qb 4 ?_
   obtain rfl:=Qu hm
   exact hJ _ _
  clear hm
  refine QA 19 hs (Q1 _ _) (fun hm=>?_) (fun hm=>?_)
  ·refine Qb 4 ?_
   obtain rfl:=Qu hm
   exact hJ _ _
  refine Qb 4 ?_
  obtain rfl:=Qu hm
  exact hJ _ _
 refine Qd (R_G (Qb 2 (Qe ?_)))
 refine Qx hm (Q1 _ _) (fun hm=>?_) (fun hm=>?_)
 ·refine Qd ?_
  refine QdZ ?_
  refine Qb 4 ?_
  obtain ⟨v4,hs,hm⟩:=Qg hm
  refine XX (j:=8) (fun d=>⟨sl d 170 [(1,(.ptr 0 0)),(44,(Qs v4))],[(.box [(Qc p0.kind),(Qc p0.fn),(Qc p0.axis),(.dat (strD p0.name)),(.dat (.lst ((List.map Qa) p0.nums))),(.dat (.lst (Qf.toDs p0.kids)))])]⟩) (fun d=>?_) (fun hJ=>?_)
  ·clear hs
   refine Qb 1 ?_
   obtain ⟨v5,hs,hm⟩:=Qg hm
   refine XX (j:=13) (fun d=>⟨sl d 170 [(1,(.ptr 0 0)),(49,(Qs v5))],[(.box [(Qc p0.kind),(Qc p0.fn),(Qc p0.axis),(.dat (strD p0.name)),(.dat (.lst ((List.map Qa) p0.nums))),(.dat (.lst (Qf.toDs p0.kids)))])]⟩) (fun d=>?_) (fun hJ=>?_)
   ·clear hs
    refine Qb 1 ?_
    obtain ⟨v7,hs,hm⟩:=Qg hm
    refine XX (j:=19) (fun d=>⟨sl d 170 [(1,(.ptr 0 0)),(55,(Qs v7))],[(.box [(Qc p0.kind),(Qc p0.fn),(Qc p0.axis),(.dat (strD p0.name)),(.dat (.lst ((List.map Qa) p0.nums))),(.dat (.lst (Qf.toDs p0.kids)))])]⟩) (fun d=>?_) (fun hJ=>?_)
    ·clear hs
     refine Qb 1 ?_
     refine QA 56 hm (QH _) (fun hm=>?_) (fun hm=>?_)
     ·refine Qb 2 ?_
      refine QO Qf.toD p0.kids (es:=Qf.toDs p0.kids) (Qf.toDs_eq _) ?_
      refine Qb 3 ?_
      refine Qe ⟨by kernel_rfl,?_⟩
      refine Qr ?_
      obtain rfl:=Qu hm
      exact ⟨trivial,Qk⟩
     refine Qb 6 ?_
     refine Qe ⟨by kernel_rfl,?_⟩
     refine Qr ?_
     obtain rfl:=Qu hm
     exact ⟨trivial,Qk⟩
    clear hm
    refine QA 50 hs (QH _) (fun hm=>?_) (fun hm=>?_)
    ·refine Qb 2 ?_
     refine QO Qa p0.nums (es:=(List.map Qa) p0.nums) rfl ?_
     refine Qb 2 ?_
     obtain rfl:=Qu hm
     exact hJ _ _
    refine Qb 5 ?_
    obtain rfl:=Qu hm
    exact hJ _ _
   clear hm
   refine QA 45 hs (QH _) (fun hm=>?_) (fun hm=>?_)
   ·refine Qb 2 ?_
    obtain ⟨v6,hx,hm⟩:=Qg hm
    have hq:=QfR _ _ hx []
    refine Qp hq ?_
    refine Qb 1 ?_
    obtain rfl:=Qu hm
    exact hJ _ _
   refine Qb 4 ?_
   obtain rfl:=Qu hm
   exact hJ _ _
  clear hm
  refine QA 40 hs (Q1 _ _) (fun hm=>?_) (fun hm=>?_)
  ·refine Qb 4 ?_
   obtain rfl:=Qu hm
   exact hJ _ _
  refine Qb 4 ?_
  obtain rfl:=Qu hm
  exact hJ _ _
 refine Qd (R_G (Qb 2 (Qe ?_)))
 refine Qx hm (Q1 _ _) (fun hm=>?_) (fun hm=>?_)
 ·refine Qd ?_
  refine QdZ ?_
  refine Qb 2 ?_
  refine ZD rfl (fun _=>QcH (a:=p0.name) (b:=ByteArray.empty) rfl (by kernel_rfl) (by kernel_rfl)) ?_
  refine Qb 1 ?_
  obtain ⟨v8,hs,hm⟩:=Qg hm
  refine XX (j:=9) (fun d=>⟨sl d 170 [(1,(.ptr 0 0)),(3,(Qs v1)),(72,(Qs v8))],[(.box [(Qc p0.kind),(Qc p0.fn),(Qc p0.axis),(.dat (strD p0.name)),(.dat (.lst ((List.map Qa) p0.nums))),(.dat (.lst (Qf.toDs p0.kids)))])]⟩) (fun d=>?_) (fun hJ=>?_)
  ·clear hs
   refine Qb 1 ?_
   obtain ⟨v9,hs,hm⟩:=Qg hm
   refine XX (j:=15) (fun d=>⟨sl d 170 [(1,(.ptr 0 0)),(3,(Qs v1)),(78,(Qs v9))],[(.box [(Qc p0.kind),(Qc p0.fn),(Qc p0.axis),(.dat (strD p0.name)),(.dat (.lst ((List.map Qa) p0.nums))),(.dat (.lst (Qf.toDs p0.kids)))])]⟩) (fun d=>?_) (fun hJ=>?_)
   ·clear hs
    refine Qb 1 ?_
    refine QA 79 hm (QH _) (fun hm=>?_) (fun hm=>?_)
    ·refine Qb 4 ?_
     obtain ⟨v10,hs,hm⟩:=Qg hm
     refine XX (j:=27) (fun d=>⟨sl d 170 [(1,(.ptr 0 0)),(79,(Qs true)),(90,(Qs v10))],[(.box [(Qc p0.kind),(Qc p0.fn),(Qc p0.axis),(.dat (strD p0.name)),(.dat (.lst ((List.map Qa) p0.nums))),(.dat (.lst (Qf.toDs p0.kids)))])]⟩) (fun d=>?_) (fun hJ=>?_)
     ·clear hs
      refine Qb 1 ?_
      refine QA 91 hm (QH _) (fun hm=>?_) (fun hm=>?_)
      ·refine Qb 16 ?_
       refine Qe ⟨by kernel_rfl,?_⟩
       refine Qr ?_
       obtain rfl:=Qu hm
       exact ⟨trivial,Qk⟩
      refine Qb 4 ?_
      obtain ⟨v12,hs,hm⟩:=Qg hm
      refine XX (j:=36) (fun d=>⟨sl d 170 [(1,(.ptr 0 0)),(79,(Qs true)),(91,(Qs false)),(99,(Qs v12))],[(.box [(Qc p0.kind),(Qc p0.fn),(Qc p0.axis),(.dat (strD p0.name)),(.dat (.lst ((List.map Qa) p0.nums))),(.dat (.lst (Qf.toDs p0.kids)))])]⟩) (fun d=>?_) (fun hJ=>?_)
      ·clear hs
       refine Qb 1 ?_
       obtain ⟨v13,hs,hm⟩:=Qg hm
       refine XX (j:=41) (fun d=>⟨sl d 170 [(79,(Qs true)),(91,(Qs false)),(104,(Qs v13))],[(.box [(Qc p0.kind),(Qc p0.fn),(Qc p0.axis),(.dat (strD p0.name)),(.dat (.lst ((List.map Qa) p0.nums))),(.dat (.lst (Qf.toDs p0.kids)))])]⟩) (fun d=>?_) (fun hJ=>?_)
       ·clear hs
        refine Qb 3 ?_
        refine Qe ⟨by kernel_rfl,?_⟩
        refine Qr ?_
        obtain rfl:=Qu hm
        exact ⟨trivial,Qk⟩
       clear hm
       refine QA 100 hs (QH _) (fun hm=>?_) (fun hm=>?_)
       ·refine Qb 4 ?_
        obtain rfl:=Qu hm
        exact hJ _ _
       refine Qb 4 ?_
       obtain rfl:=Qu hm
       exact hJ _ _
      clear hm
      refine QA 95 hs (Q1 _ _) (fun hm=>?_) (fun hm=>?_)
      ·refine Qb 4 ?_
       obtain rfl:=Qu hm
       exact hJ _ _
      refine Qb 4 ?_
      obtain rfl:=Qu hm
      exact hJ _ _
     clear hm
     refine QA 83 hs (Q1 _ _) (fun hm=>?_) (fun hm=>?_)
     ·refine Qb 4 ?_
      obtain ⟨v11,hs,hm⟩:=Qg hm
      refine XX (j:=26) (fun d=>⟨sl d 170 [(1,(.ptr 0 0)),(79,(Qs true)),(83,(Qs true)),(89,(Qs v11))],[(.box [(Qc p0.kind),(Qc p0.fn),(Qc p0.axis),(.dat (strD p0.name)),(.dat (.lst ((List.map Qa) p0.nums))),(.dat (.lst (Qf.toDs p0.kids)))])]⟩) (fun d=>?_) (fun hJ=>?_)
      ·clear hs
       refine Qb 1 ?_
       obtain rfl:=Qu hm
       exact hJ _ _
      clear hm
      refine QA 87 hs (Q1 _ _) (fun hm=>?_) (fun hm=>?_)
      ·refine Qb 2 ?_
       obtain rfl:=Qu hm
       exact hJ _ _
      refine Qb 2 ?_
      obtain rfl:=Qu hm
      exact hJ _ _
     refine Qb 7 ?_
     obtain rfl:=Qu hm
     exact hJ _ _
    refine Qb 28 ?_
    refine Qe ⟨by kernel_rfl,?_⟩
    refine Qr ?_
    obtain rfl:=Qu hm
    exact ⟨trivial,Qk⟩
   clear hm
   refine QA 73 hs (QH _) (fun hm=>?_) (fun hm=>?_)
   ·refine Qb 2 ?_
    refine QO Qf.toD p0.kids (es:=Qf.toDs p0.kids) (Qf.toDs_eq _) ?_
    refine Qb 2 ?_
    obtain rfl:=Qu hm
    exact hJ _ _
   refine Qb 5 ?_
   obtain rfl:=Qu hm
   exact hJ _ _
  clear hm
  refine QA 67 hs (rfl) (fun hm=>?_) (fun hm=>?_)
  ·refine Qb 2 ?_
   refine QO Qa p0.nums (es:=(List.map Qa) p0.nums) rfl ?_
   refine Qb 2 ?_
   obtain rfl:=Qu hm
   exact hJ _ _
  refine Qb 5 ?_
  obtain rfl:=Qu hm
  exact hJ _ _
 refine Qd (R_G (Qb 2 (Qe ?_)))
 refine Qx hm (Q1 _ _) (fun hm=>?_) (fun hm=>?_)
 ·refine Qd (Qd ?_)
  obtain ⟨v14,hs,hm⟩:=Qg hm
  refine Zy (fun d=>⟨sl d 170 [(1,(.ptr 0 0)),(3,(Qs v1)),(133,(Qs v14))],[(.box [(Qc p0.kind),(Qc p0.fn),(Qc p0.axis),(.dat (strD p0.name)),(.dat (.lst ((List.map Qa) p0.nums))),(.dat (.lst (Qf.toDs p0.kids)))])]⟩) ?_ (fun d=>?_)
  ·replace hm:=hs
   clear hs
   refine QdZ ?_
   refine Qb 2 ?_
   refine ZD rfl (fun _=>Qfn (a:=p0.name) (b:=ByteArray.empty) rfl (by kernel_rfl) (by kernel_rfl)) ?_
   refine Qb 1 ?_
   obtain ⟨v15,hs,hm⟩:=Qg hm
   refine XX (j:=9) (fun d=>⟨sl d 170 [(1,(.ptr 0 0)),(3,(Qs v1)),(117,(Qs v15))],[(.box [(Qc p0.kind),(Qc p0.fn),(Qc p0.axis),(.dat (strD p0.name)),(.dat (.lst ((List.map Qa) p0.nums))),(.dat (.lst (Qf.toDs p0.kids)))])]⟩) (fun d=>?_) (fun hJ=>?_)
   ·clear hs
    refine Qb 1 ?_
    obtain ⟨v16,hs,hm⟩:=Qg hm
    refine XX (j:=15) (fun d=>⟨sl d 170 [(1,(.ptr 0 0)),(3,(Qs v1)),(123,(Qs v16))],[(.box [(Qc p0.kind),(Qc p0.fn),(Qc p0.axis),(.dat (strD p0.name)),(.dat (.lst ((List.map Qa) p0.nums))),(.dat (.lst (Qf.toDs p0.kids)))])]⟩) (fun d=>?_) (fun hJ=>?_)
    ·clear hs
     refine Qb 1 ?_
     obtain ⟨v17,hs,hm⟩:=Qg hm
     refine XX (j:=20) (fun d=>⟨sl d 170 [(1,(.ptr 0 0)),(3,(Qs v1)),(128,(Qs v17))],[(.box [(Qc p0.kind),(Qc p0.fn),(Qc p0.axis),(.dat (strD p0.name)),(.dat (.lst ((List.map Qa) p0.nums))),(.dat (.lst (Qf.toDs p0.kids)))])]⟩) (fun d=>?_) (fun hJ=>?_)
     ·clear hs
      refine Qb 1 ?_
      refine QA 129 hm (QH _) (fun hm=>?_) (fun hm=>?_)
      ·refine Qb 4 ?_
       refine Qe ⟨by kernel_rfl,?_⟩
       obtain rfl:=Qu hm
       exact Qm
      refine Qb 4 ?_
      refine Qe ⟨by kernel_rfl,?_⟩
      obtain rfl:=Qu hm
      exact Qm
     clear hm
     refine QA 124 hs (QH _) (fun hm=>?_) (fun hm=>?_)
     ·refine Qb 4 ?_
      obtain rfl:=Qu hm
      exact hJ _ _
     refine Qb 4 ?_
     obtain rfl:=Qu hm
     exact hJ _ _
    clear hm
    refine QA 118 hs (QH _) (fun hm=>?_) (fun hm=>?_)
    ·refine Qb 5 ?_
     obtain rfl:=Qu hm
     exact hJ _ _
    refine Qb 2 ?_
    refine QO Qf.toD p0.kids (es:=Qf.toDs p0.kids) (Qf.toDs_eq _) ?_
    refine Qb 2 ?_
    obtain rfl:=Qu hm
    exact hJ _ _
   clear hm
   refine QA 112 hs (rfl) (fun hm=>?_) (fun hm=>?_)
   ·refine Qb 5 ?_
    obtain rfl:=Qu hm
    exact hJ _ _
   refine Qb 2 ?_
   refine QO Qa p0.nums (es:=(List.map Qa) p0.nums) rfl ?_
   refine Qb 2 ?_
   obtain rfl:=Qu hm
   exact hJ _ _
  clear hs
  refine Qx hm (QH _) (fun hm=>?_) (fun hm=>?_)
  ·refine Qd (R_G (Qb 1 (Qe (Qr ?_))))
   obtain rfl:=Qu hm
   exact ⟨trivial,Qk⟩
  refine Qo (Qd (Qd ?_))
  obtain ⟨v18,hs,hm⟩:=Qg hm
  refine Zy (fun d=>⟨sl d 170 [(1,(.ptr 0 0)),(150,(Qs v18))],[(.box [(Qc p0.kind),(Qc p0.fn),(Qc p0.axis),(.dat (strD p0.name)),(.dat (.lst ((List.map Qa) p0.nums))),(.dat (.lst (Qf.toDs p0.kids)))])]⟩) ?_ (fun d=>?_)
  ·replace hm:=hs
   clear hs
   refine QdZ ?_
   refine Qb 4 ?_
   refine QA 137 hm (ne_dec _ _) (fun hm=>?_) (fun hm=>?_)
   ·refine Qb 3 ?_
    refine QA 140 hm (QaT _) (fun hm=>?_) (fun hm=>?_)
    ·refine Qb 10 ?_
     refine Qe ⟨by kernel_rfl,?_⟩
     obtain rfl:=Qu hm
     exact Qm
    refine Qb 4 ?_
    obtain ⟨v19,hs,hm⟩:=Qg hm
    refine XX (j:=15) (fun d=>⟨sl d 170 [(1,(.ptr 0 0)),(137,(Qs true)),(140,(Qs false)),(148,(Qs v19))],[(.box [(Qc p0.kind),(Qc p0.fn),(Qc p0.axis),(.dat (strD p0.name)),(.dat (.lst ((List.map Qa) p0.nums))),(.dat (.lst (Qf.toDs p0.kids)))])]⟩) (fun d=>?_) (fun hJ=>?_)
    ·clear hs
     refine Qb 2 ?_
     refine Qe ⟨by kernel_rfl,?_⟩
     obtain rfl:=Qu hm
     exact Qm
    clear hm
    refine QA 144 hs (ne_dec _ _) (fun hm=>?_) (fun hm=>?_)
    ·refine Qb 4 ?_
     obtain rfl:=Qu hm
     exact hJ _ _
    refine Qb 4 ?_
    obtain rfl:=Qu hm
    exact hJ _ _
   refine Qb 13 ?_
   refine Qe ⟨by kernel_rfl,?_⟩
   obtain rfl:=Qu hm
   exact Qm
  clear hs
  refine Qx hm (QH _) (fun hm=>?_) (fun hm=>?_)
  ·refine Qd (R_G (Qb 1 (Qe (Qr ?_))))
   obtain rfl:=Qu hm
   exact ⟨trivial,Qk⟩
  refine Qo (Qd ?_)
  refine QdZ ?_
  refine Qb 4 ?_
  obtain ⟨v20,hs,hm⟩:=Qg hm
  refine XX (j:=11) (fun d=>⟨sl d 170 [(1,(.ptr 0 0)),(161,(Qs v20))],[(.box [(Qc p0.kind),(Qc p0.fn),(Qc p0.axis),(.dat (strD p0.name)),(.dat (.lst ((List.map Qa) p0.nums))),(.dat (.lst (Qf.toDs p0.kids)))])]⟩) (fun d=>?_) (fun hJ=>?_)
  ·clear hs
   refine Qb 1 ?_
   refine QA 162 hm (QH _) (fun hm=>?_) (fun hm=>?_)
   ·refine Qb 8 ?_
    refine Qe ⟨by kernel_rfl,?_⟩
    refine Qr ?_
    obtain rfl:=Qu hm
    exact ⟨trivial,Qk⟩
   refine Qb 2 ?_
   obtain ⟨v22,hx,hm⟩:=Qg hm
   refine QbA 6 Qf.toD p0.kids 0 v22 (es:=Qf.toDs p0.kids) (d:=(Qf.ex v22)) (Qf.toDs_eq _) hx (Qf.toD_eq v22) rfl ?_
   refine Qb 5 ?_
   refine Qe ⟨by kernel_rfl,?_⟩
   refine Qr ?_
   obtain rfl:=Qu hm
   exact ⟨trivial,Qk⟩
  clear hm
  refine QA 154 hs (Q1 _ _) (fun hm=>?_) (fun hm=>?_)
  ·refine Qb 7 ?_
   obtain rfl:=Qu hm
   exact hJ _ _
  refine Qb 2 ?_
  obtain ⟨v21,hx,hm⟩:=Qg hm
  refine QbA 6 Qf.toD p0.kids 0 v21 (es:=Qf.toDs p0.kids) (d:=(Qf.ex v21)) (Qf.toDs_eq _) hx (Qf.toD_eq v21) rfl ?_
  refine Qb 4 ?_
  obtain rfl:=Qu hm
  exact hJ _ _
 refine Qo (Qd (R_G (Qb 1 (Qe (Qr ?_)))))
 obtain rfl:=Qu hm
 exact ⟨trivial,Qk⟩
mutual
def ZW (x:(Qf × Int)):Option (Unit ⊕ Unit) :=
 match x with
 | (p0,v202) =>
 if v202 < (p0.kids.length:Int) then
  idx p0.kids v202>>=fun v602 =>
  XW v602>>=fun (v603:Bool) =>
  if v603=false then
   some (Sum.inl ())
  else
  ZW (p0,(W (v202+1)))
 else
 some (Sum.inr ())
 partial_fixpoint
def XW (x:Qf):Option Bool :=
 match x with
 | p0 =>
 Qbg (⟨p0.kind,p0.fn,p0.axis,p0.name,p0.nums,p0.kids⟩:Qf)>>=fun (v1:Bool) =>
 if v1=false then
  some false
 else
 (
 ZW (p0,0)>>=fun (out:Unit ⊕ Unit) =>
 match out with
 | .inl _ =>
  some false
 | .inr (_) =>
  some true
 )
 partial_fixpoint
end
def Qao:(Qf × Int)→(Unit ⊕ Unit)→Prop:=fun x r=>match x with
 | (p0,v202)=>∀ st,prune 1 ((Qy (QN [1,1,0,1,0,0] (QP f32))).bind (env.hint 32).keepAt) st=⟨kp 21 [(1,(.ptr 0 0)),(3,(Qc v202))],[(.box [(Qc p0.kind),(Qc p0.fn),(Qc p0.axis),(.dat (strD p0.name)),(.dat (.lst ((List.map Qa) p0.nums))),(.dat (.lst (Qf.toDs p0.kids)))])]⟩ →
  RL prog env (env.hint 32) true (QN [1,1,0,1,0,0] (QP f32)) 1 st (fun e s=>match r with|.inl _=>e=.ret∧∃ d,s=⟨sl d 21 [(2,(Qs false))],[(.box [(Qc p0.kind),(Qc p0.fn),(Qc p0.axis),(.dat (strD p0.name)),(.dat (.lst ((List.map Qa) p0.nums))),(.dat (.lst (Qf.toDs p0.kids)))])]⟩|.inr (_)=>e=.exit 0∧∃ d,s=⟨sl d 21 [],[(.box [(Qc p0.kind),(Qc p0.fn),(Qc p0.axis),(.dat (strD p0.name)),(.dat (.lst ((List.map Qa) p0.nums))),(.dat (.lst (Qf.toDs p0.kids)))])]⟩)
def Qbu:Qf→Bool→Prop:=fun x r=>match x,r with
 | p0,r0=>∀ H,PC prog env 32 ([(Qf.ex p0)].map .dat) H (Qs r0) H
theorem g_ref08_nodes_L1:(∀ x r,ZW x=some r→Qao x r)∧(∀ x r,XW x=some r→Qbu x r):=by
 refine ZW.mutual_partial_correctness Qao Qbu ?_ ?_
 ·intro ZW XW Jl QcD x r hm
  unfold Qao
  obtain ⟨p0,v202⟩:=x
  intro st hst
  refine RL_at hst ?_
  clear hst
  refine Qd (Qd (R_G (Qb 3 ?_)))
  refine QO Qf.toD p0.kids (es:=Qf.toDs p0.kids) (Qf.toDs_eq _) ?_
  refine Qb 1 (Qe ?_)
  refine Qx hm (rfl) (fun hm=>?_) (fun hm=>?_)
  ·refine Qo (Qd (Qw (Qd (R_G (Qb 3 ?_)))))
   obtain ⟨v602,hx,hm⟩:=Qg hm
   refine QbA 6 Qf.toD p0.kids v202 v602 (es:=Qf.toDs p0.kids) (d:=(Qf.ex v602)) (Qf.toDs_eq _) hx (Qf.toD_eq v602) rfl ?_
   refine Qb 1 ?_
   obtain ⟨v603,hx,hm⟩:=Qg hm
   have hq:=QcD _ _ hx []
   refine Qp hq ?_
   refine Qb 1 (Qe ?_)
   refine Qx hm (QaT _) (fun hm=>?_) (fun hm=>?_)
   ·refine Qd (R_G (Qb 1 (Qe (Qr ?_))))
    obtain rfl:=Qu hm
    exact ⟨rfl,Qm⟩
   refine Qo (R_G (Qb 3 (Qe ?_)))
   exact Jl _ _ hm _ (by kernel_rfl)
  refine Q8 ?_
  obtain rfl:=Qu hm
  exact ⟨rfl,Qm⟩
 ·intro ZW Jl p0 r0 hm
  unfold Qbu
  intro H
  refine PC_sx (ds:=[(Qf.ex p0)]) (fn:=f32) rfl ?_
  refine Qd (R_G (Qb 2 (Qe (Qd (Qd (R_G (Qb 1 ?_)))))))
  obtain ⟨v1,hx,hm⟩:=Qg hm
  have hq:=QfS _ _ hx []
  refine Qp hq ?_
  refine Qb 1 (Qe ?_)
  refine Qx hm (QaT _) (fun hm=>?_) (fun hm=>?_)
  ·refine Qd (R_G (Qb 1 (Qe (Qr ?_))))
   obtain rfl:=Qu hm
   exact ⟨trivial,Qk⟩
  refine Qo (Qd (Qd (R_G (Qb 1 (Qe (Qw ?_))))))
  obtain ⟨out,hs,hm⟩:=Qg hm
  refine Ze ?_
  rcases out with _|_
  ·refine RL_use (Jl _ _ hs) (by kernel_rfl) ?_
   clear hs
   intro e s hp
   obtain ⟨rfl,d,rfl⟩:=hp
   obtain rfl:=Qu hm
   exact ⟨trivial,Qk⟩
  ·refine RL_use (Jl _ _ hs) (by kernel_rfl) ?_
   clear hs
   intro e s hp
   obtain ⟨rfl,d,rfl⟩:=hp
   refine Qd (R_G (Qb 1 (Qe (Qr ?_))))
   obtain rfl:=Qu hm
   exact ⟨trivial,Qk⟩
theorem Jl:∀ x r,ZW x=some r→Qao x r:=g_ref08_nodes_L1.1
theorem QcD:∀ x r,XW x=some r→Qbu x r:=g_ref08_nodes_L1.2
def QaO (x:Qf):Option Bool :=
 match x with
 | p0 =>
 Xi p0>>=fun (v1:Int) =>
 if v1≤100 then
  XW (⟨p0.kind,p0.fn,p0.axis,p0.name,p0.nums,p0.kids⟩:Qf)>>=fun (v2:Bool) =>
  some v2
 else
 some false
def Qed:Qf→Bool→Prop:=fun x r=>match x,r with
 | p0,r0=>∀ H,PC prog env 14 ([(Qf.ex p0)].map .dat) H (Qs r0) H
theorem QfK:∀ x r,QaO x=some r→Qed x r:=by
 intro p0 r0 hm
 unfold QaO at hm
 unfold Qed
 intro H
 refine PC_sx (ds:=[(Qf.ex p0)]) (fn:=f14) rfl ?_
 refine Qd (R_G (Qb 2 (Qe (Qd (R_G (Qb 1 ?_))))))
 obtain ⟨v1,hx,hm⟩:=Qg hm
 have hq:=Qby _ _ hx []
 refine Qp hq ?_
 refine Qb 2 ?_
 refine QA 6 hm (rfl) (fun hm=>?_) (fun hm=>?_)
 ·refine Qb 1 ?_
  obtain ⟨v2,hx,hm⟩:=Qg hm
  have hq:=QcD _ _ hx []
  refine Qp hq ?_
  refine Qb 2 (Qe (Qr ?_))
  obtain rfl:=Qu hm
  exact ⟨trivial,Qk⟩
 refine Qb 4 (Qe (Qr ?_))
 obtain rfl:=Qu hm
 exact ⟨trivial,Qk⟩
def QaP (x:(Qf × Int)):Option Bool :=
 match x with
 | (p0,p1) =>
 QbD (p0,p1)>>=fun (v1:Bool) =>
 if v1=true then
  QaO (⟨p0.kind,p0.fn,p0.axis,p0.name,p0.nums,p0.kids⟩:Qf)>>=fun (v2:Bool) =>
  some v2
 else
 some false
def Qee:(Qf × Int)→Bool→Prop:=fun x r=>match x,r with
 | (p0,p1),r0=>∀ H,PC prog env 5 ([(Qf.ex p0),(Qa p1)].map .dat) H (Qs r0) H
theorem QfL:∀ x r,QaP x=some r→Qee x r:=by
 intro x r0 hm
 unfold QaP at hm
 unfold Qee
 obtain ⟨p0,p1⟩:=x
 intro H
 refine PC_sx (ds:=[(Qf.ex p0),(Qa p1)]) (fn:=f5) rfl ?_
 refine Qd (R_G (Qb 2 (Qe (Qd (R_G (Qb 2 ?_))))))
 obtain ⟨v1,hx,hm⟩:=Qg hm
 have hq:=Qf8 _ _ hx []
 refine Qp hq ?_
 refine Qb 1 ?_
 refine QA 8 hm (QH _) (fun hm=>?_) (fun hm=>?_)
 ·refine Qb 1 ?_
  obtain ⟨v2,hx,hm⟩:=Qg hm
  have hq:=QfK _ _ hx []
  refine Qp hq ?_
  refine Qb 2 (Qe (Qr ?_))
  obtain rfl:=Qu hm
  exact ⟨trivial,Qk⟩
 refine Qb 4 (Qe (Qr ?_))
 obtain rfl:=Qu hm
 exact ⟨trivial,Qk⟩
def YS (x:(List Int)):Option (List Int) :=
 match x with
 | p0 =>
 makeM 8 (p0.length:Int) 0>>=fun v1 =>
 Xb ((cpM v1 p0).length=v1.length)>>=fun (_:Unit) =>
 some (cpM v1 p0)
def QbB:(List Int)→(List Int)→Prop:=fun x r=>match x,r with
 | p0,r0=>∀ H,PC prog env 86 ([(.lst ((List.map Qa) p0))].map .dat) H (.dat (.lst ((List.map Qa) r0))) H
theorem QdN:∀ x r,YS x=some r→QbB x r:=by
 intro p0 r0 hm
 unfold YS at hm
 unfold QbB
 intro H
 refine PC_sx (ds:=[(.lst ((List.map Qa) p0))]) (fn:=f86) rfl ?_
 refine Qd (R_G (Qb 1 (Qe (Qd (R_G (Qb 1 ?_))))))
 refine QO Qa p0 (es:=(List.map Qa) p0) rfl ?_
 obtain ⟨v1,hx,hm⟩:=Qg hm
 refine Yb (v:=.arr 0 0 v1.length v1.length) (fun H=>H++[.box (cellsOf Qa v1)]) rfl (by kernel_rfl) ?_ ?_
 ·intro K hk
  exact Qf3 0 Qa (z:=0) (n:=(p0.length:Int)) (bytes:=8) hx (e:=2) (by kernel_rfl) (by kernel_rfl) (by kernel_rfl) (by kernel_rfl) rfl rfl (by kernel_rfl) (by kernel_rfl) hk
 refine Qb 1 (Qe (Qd (R_G (Qb 2 ?_))))
 refine Yb (v:=Qc ((min p0.length v1.length:Nat):Int)) (fun H=>H.set 0 (.box (cellsOf Qa (cpM v1 p0)))) rfl (by kernel_rfl) (fun _=>QgI Qa (d:=v1) (l:=p0) (e:=2) (i:=0) (m:=v1.length) (cap:=v1.length) (fun _=>rfl) rfl (by kernel_rfl) (by kernel_rfl) rfl (by kernel_rfl) (by kernel_rfl) (by kernel_rfl)) ?_
 refine Qe (Qd (R_G (Qb 2 (Qe (Qr ?_)))))
 obtain ⟨_,hl2,hm⟩:=Qg hm
 replace hl2:=Xm hl2
 obtain rfl:=Qu hm
 exact ⟨trivial,Xl [(.arr 0 0 v1.length v1.length)] (by kernel_rfl) (po_arr (pc_arr Qa (cpM v1 p0) hl2 (fun _=>rfl) (by kernel_rfl)))⟩
def Qbe (x:(List Int)):Option QM :=
 match x with
 | p0 =>
 YS p0>>=fun (v1:(List Int)) =>
 some (⟨([(p0.length:Int)]:List Int),v1⟩:QM)
def Qds:(List Int)→QM→Prop:=fun x r=>match x,r with
 | p0,r0=>∀ H,PC prog env 54 ([(.lst ((List.map Qa) p0))].map .dat) H (.dat (QM.toD r0)) H
theorem Qfu:∀ x r,Qbe x=some r→Qds x r:=by
 intro p0 r0 hm
 unfold Qbe at hm
 unfold Qds
 intro H
 refine PC_sx (ds:=[(.lst ((List.map Qa) p0))]) (fn:=f54) rfl ?_
 refine Qd (R_G (Qb 1 (Qe (Qd (R_G (Qb 1 ?_))))))
 refine QO Qa p0 (es:=(List.map Qa) p0) rfl ?_
 refine Qb 2 ?_
 obtain ⟨v1,hx,hm⟩:=Qg hm
 have hq:=QdN _ _ hx []
 refine Qp hq ?_
 refine Qb 2 (Qe (Qr ?_))
 obtain rfl:=Qu hm
 exact ⟨trivial,Qk⟩
def Qbd (x:Int):Option QM :=
 match x with
 | p0 =>
 some (⟨([]:(List Int)),([p0]:List Int)⟩:QM)
def Qdr:Int→QM→Prop:=fun x r=>match x,r with
 | p0,r0=>∀ H,PC prog env 55 ([(Qa p0)].map .dat) H (.dat (QM.toD r0)) H
theorem Qft:∀ x r,Qbd x=some r→Qdr x r:=by
 intro p0 r0 hm
 unfold Qbd at hm
 unfold Qdr
 intro H
 refine PC_sx (ds:=[(Qa p0)]) (fn:=f55) rfl ?_
 refine Qd (R_G (Qb 1 (Qe (Qd (R_G (Qb 4 (Qe (Qr ?_))))))))
 obtain rfl:=Qu hm
 exact ⟨trivial,Qk⟩
def Qbj (x:Int):Option Bool :=
 match x with
 | p0 =>
 some (decide (p0 < 0))
def QdK:Int→Bool→Prop:=fun x r=>match x,r with
 | p0,r0=>∀ H,PC prog env 157 ([(Qa p0)].map .dat) H (Qs r0) H
theorem QfA:∀ x r,Qbj x=some r→QdK x r:=by
 intro p0 r0 hm
 unfold Qbj at hm
 unfold QdK
 intro H
 refine PC_sx (ds:=[(Qa p0)]) (fn:=f157) rfl ?_
 refine Qd (R_G (Qb 1 (Qe (Qd (R_G (Qb 3 (Qe (Qr ?_))))))))
 obtain rfl:=Qu hm
 exact ⟨trivial,Qk⟩
def QJ (x:((List Int) × Int)):Option (Int ⊕ Unit) :=
 match x with
 | (p0,v201) =>
 if v201 < (p0.length:Int) then
  idx p0 v201>>=fun v602 =>
  Qbj v602>>=fun (v603:Bool) =>
  if v603=true then
   some (Sum.inl v201)
  else
  QJ (p0,(W (v201+1)))
 else
 some (Sum.inr ())
 partial_fixpoint
def Yz:((List Int) × Int)→(Int ⊕ Unit)→Prop:=fun x r=>match x with
 | (p0,v201)=>∀ st,prune 0 ((Qy (QN [1,0,1,0,0] (QP f167))).bind (env.hint 167).keepAt) st=⟨kp 19 [(0,(.dat (.lst ((List.map Qa) p0)))),(1,(.dat (.raw (.func (.func 157) #[] #[])))),(7,(Qc (p0.length:Int))),(8,(Qc v201))],[]⟩ →
  RL prog env (env.hint 167) true (QN [1,0,1,0,0] (QP f167)) 0 st (fun e s=>match r with|.inl v601=>e=.ret∧∃ d,s=⟨sl d 19 [(4,(Qc v601))],[]⟩|.inr (_)=>e=.exit 0∧∃ d,s=⟨sl d 19 [],[]⟩)
theorem Zn:∀ x r,QJ x=some r→Yz x r:=by
 refine QJ.partial_correctness _ (fun QJ Zn x r hm=>?_)
 unfold Yz
 obtain ⟨p0,v201⟩:=x
 intro st hst
 refine RL_at hst ?_
 clear hst
 refine Qd (R_G (Qb 1 (Qe (Qd ?_))))
 refine Qx hm (rfl) (fun hm=>?_) (fun hm=>?_)
 ·refine Qo (Qd (Qw (Qd (R_G (Qb 2 (Qe (Qd (R_G (Qb 3 ?_)))))))))
  refine Q3 1 Qa hm rfl (fun _=>rfl) (fun v602 hm=>?_)
  refine Qb 1 ?_
  obtain ⟨v603,hx,hm⟩:=Qg hm
  have hq:=QfA _ _ hx []
  refine Qp hq ?_
  refine Qe ?_
  refine Qx hm (QH _) (fun hm=>?_) (fun hm=>?_)
  ·refine Qd (R_G (Qb 2 (Qe (Qr ?_))))
   obtain rfl:=Qu hm
   exact ⟨rfl,Qm⟩
  refine Qo (R_G (Qb 2 (Qe ?_)))
  exact Zn _ _ hm _ (by kernel_rfl)
 refine Q8 ?_
 obtain rfl:=Qu hm
 exact ⟨rfl,Qm⟩
def Zu (x:(List Int)):Option Int :=
 match x with
 | p0 =>
 (
 QJ (p0,0)>>=fun (out:Int ⊕ Unit) =>
 match out with
 | .inl v601 =>
  some v601
 | .inr (_) =>
  some (-1)
 )
def YL:(List Int)→Int→Prop:=fun x r=>match x,r with
 | p0,r0=>∀ H,PC prog env 167 ([(.lst ((List.map Qa) p0)),(.raw (.func (.func 157) #[] #[]))].map .dat) H (Qc r0) H
theorem J4:∀ x r,Zu x=some r→YL x r:=by
 intro p0 r0 hm
 unfold Zu at hm
 unfold YL
 intro H
 refine PC_sx (ds:=[(.lst ((List.map Qa) p0)),(.raw (.func (.func 157) #[] #[]))]) (fn:=f167) rfl ?_
 refine Qd (R_G (Qb 1 (Qe (Qd (Qd (R_G (Qb 1 ?_)))))))
 refine QO Qa p0 (es:=(List.map Qa) p0) rfl ?_
 refine Qb 1 (Qe (Qw ?_))
 obtain ⟨out,hs,hm⟩:=Qg hm
 refine Ze ?_
 rcases out with v601|_
 ·refine RL_use (Zn _ _ hs) (by kernel_rfl) ?_
  clear hs
  intro e s hp
  obtain ⟨rfl,d,rfl⟩:=hp
  obtain rfl:=Qu hm
  exact ⟨trivial,Qk⟩
 ·refine RL_use (Zn _ _ hs) (by kernel_rfl) ?_
  clear hs
  intro e s hp
  obtain ⟨rfl,d,rfl⟩:=hp
  refine Qd (R_G (Qb 1 (Qe (Qr ?_))))
  obtain rfl:=Qu hm
  exact ⟨trivial,Qk⟩
def Q6 (x:(List Int)):Option Bool :=
 match x with
 | p0 =>
 Zu p0>>=fun (v1:Int) =>
 some (decide (v1≥0))
def Yx:(List Int)→Bool→Prop:=fun x r=>match x,r with
 | p0,r0=>∀ H,PC prog env 156 ([(.lst ((List.map Qa) p0)),(.raw (.func (.func 157) #[] #[]))].map .dat) H (Qs r0) H
theorem Jz:∀ x r,Q6 x=some r→Yx x r:=by
 intro p0 r0 hm
 unfold Q6 at hm
 unfold Yx
 intro H
 refine PC_sx (ds:=[(.lst ((List.map Qa) p0)),(.raw (.func (.func 157) #[] #[]))]) (fn:=f156) rfl ?_
 refine Qd (R_G (Qb 1 (Qe (Qd (R_G (Qb 2 ?_))))))
 obtain ⟨v1,hx,hm⟩:=Qg hm
 have hq:=J4 _ _ hx []
 refine Qp hq ?_
 refine Qb 2 (Qe (Qr ?_))
 obtain rfl:=Qu hm
 exact ⟨trivial,Qk⟩
def Qbk (x:Int):Option Bool :=
 match x with
 | p0 =>
 some (decide (p0 > 65536))
def QdL:Int→Bool→Prop:=fun x r=>match x,r with
 | p0,r0=>∀ H,PC prog env 158 ([(Qa p0)].map .dat) H (Qs r0) H
theorem QfB:∀ x r,Qbk x=some r→QdL x r:=by
 intro p0 r0 hm
 unfold Qbk at hm
 unfold QdL
 intro H
 refine PC_sx (ds:=[(Qa p0)]) (fn:=f158) rfl ?_
 refine Qd (R_G (Qb 1 (Qe (Qd (R_G (Qb 3 (Qe (Qr ?_))))))))
 obtain rfl:=Qu hm
 exact ⟨trivial,Qk⟩
def QK (x:((List Int) × Int)):Option (Int ⊕ Unit) :=
 match x with
 | (p0,v201) =>
 if v201 < (p0.length:Int) then
  idx p0 v201>>=fun v602 =>
  Qbk v602>>=fun (v603:Bool) =>
  if v603=true then
   some (Sum.inl v201)
  else
  QK (p0,(W (v201+1)))
 else
 some (Sum.inr ())
 partial_fixpoint
def YA:((List Int) × Int)→(Int ⊕ Unit)→Prop:=fun x r=>match x with
 | (p0,v201)=>∀ st,prune 0 ((Qy (QN [1,0,1,0,0] (QP f167))).bind (env.hint 167).keepAt) st=⟨kp 19 [(0,(.dat (.lst ((List.map Qa) p0)))),(1,(.dat (.raw (.func (.func 158) #[] #[])))),(7,(Qc (p0.length:Int))),(8,(Qc v201))],[]⟩ →
  RL prog env (env.hint 167) true (QN [1,0,1,0,0] (QP f167)) 0 st (fun e s=>match r with|.inl v601=>e=.ret∧∃ d,s=⟨sl d 19 [(4,(Qc v601))],[]⟩|.inr (_)=>e=.exit 0∧∃ d,s=⟨sl d 19 [],[]⟩)
theorem Zo:∀ x r,QK x=some r→YA x r:=by
 refine QK.partial_correctness _ (fun QK Zo x r hm=>?_)
 unfold YA
 obtain ⟨p0,v201⟩:=x
 intro st hst
 refine RL_at hst ?_
 clear hst
 refine Qd (R_G (Qb 1 (Qe (Qd ?_))))
 refine Qx hm (rfl) (fun hm=>?_) (fun hm=>?_)
 ·refine Qo (Qd (Qw (Qd (R_G (Qb 2 (Qe (Qd (R_G (Qb 3 ?_)))))))))
  refine Q3 1 Qa hm rfl (fun _=>rfl) (fun v602 hm=>?_)
  refine Qb 1 ?_
  obtain ⟨v603,hx,hm⟩:=Qg hm
  have hq:=QfB _ _ hx []
  refine Qp hq ?_
  refine Qe ?_
  refine Qx hm (QH _) (fun hm=>?_) (fun hm=>?_)
  ·refine Qd (R_G (Qb 2 (Qe (Qr ?_))))
   obtain rfl:=Qu hm
   exact ⟨rfl,Qm⟩
  refine Qo (R_G (Qb 2 (Qe ?_)))
  exact Zo _ _ hm _ (by kernel_rfl)
 refine Q8 ?_
 obtain rfl:=Qu hm
 exact ⟨rfl,Qm⟩
def Zv (x:(List Int)):Option Int :=
 match x with
 | p0 =>
 (
 QK (p0,0)>>=fun (out:Int ⊕ Unit) =>
 match out with
 | .inl v601 =>
  some v601
 | .inr (_) =>
  some (-1)
 )
def YM:(List Int)→Int→Prop:=fun x r=>match x,r with
 | p0,r0=>∀ H,PC prog env 167 ([(.lst ((List.map Qa) p0)),(.raw (.func (.func 158) #[] #[]))].map .dat) H (Qc r0) H
theorem J5:∀ x r,Zv x=some r→YM x r:=by
 intro p0 r0 hm
 unfold Zv at hm
 unfold YM
 intro H
 refine PC_sx (ds:=[(.lst ((List.map Qa) p0)),(.raw (.func (.func 158) #[] #[]))]) (fn:=f167) rfl ?_
 refine Qd (R_G (Qb 1 (Qe (Qd (Qd (R_G (Qb 1 ?_)))))))
 refine QO Qa p0 (es:=(List.map Qa) p0) rfl ?_
 refine Qb 1 (Qe (Qw ?_))
 obtain ⟨out,hs,hm⟩:=Qg hm
 refine Ze ?_
 rcases out with v601|_
 ·refine RL_use (Zo _ _ hs) (by kernel_rfl) ?_
  clear hs
  intro e s hp
  obtain ⟨rfl,d,rfl⟩:=hp
  obtain rfl:=Qu hm
  exact ⟨trivial,Qk⟩
 ·refine RL_use (Zo _ _ hs) (by kernel_rfl) ?_
  clear hs
  intro e s hp
  obtain ⟨rfl,d,rfl⟩:=hp
  refine Qd (R_G (Qb 1 (Qe (Qr ?_))))
  obtain rfl:=Qu hm
  exact ⟨trivial,Qk⟩
def Q7 (x:(List Int)):Option Bool :=
 match x with
 | p0 =>
 Zv p0>>=fun (v1:Int) =>
 some (decide (v1≥0))
def Yy:(List Int)→Bool→Prop:=fun x r=>match x,r with
 | p0,r0=>∀ H,PC prog env 156 ([(.lst ((List.map Qa) p0)),(.raw (.func (.func 158) #[] #[]))].map .dat) H (Qs r0) H
theorem JA:∀ x r,Q7 x=some r→Yy x r:=by
 intro p0 r0 hm
 unfold Q7 at hm
 unfold Yy
 intro H
 refine PC_sx (ds:=[(.lst ((List.map Qa) p0)),(.raw (.func (.func 158) #[] #[]))]) (fn:=f156) rfl ?_
 refine Qd (R_G (Qb 1 (Qe (Qd (R_G (Qb 2 ?_))))))
 obtain ⟨v1,hx,hm⟩:=Qg hm
 have hq:=J5 _ _ hx []
 refine Qp hq ?_
 refine Qb 2 (Qe (Qr ?_))
 obtain rfl:=Qu hm
 exact ⟨trivial,Qk⟩
def Jv (x:(List Int)):Option Int :=
 match x with
 | p0 =>
 Q6 p0>>=fun (v1:Bool) =>
 if v1=true then
  some 6
 else
 Q7 p0>>=fun (v2:Bool) =>
 if v2=true then
  some 7
 else
 some 0
def QeP:(List Int)→Int→Prop:=fun x r=>match x,r with
 | p0,r0=>∀ H,PC prog env 138 ([(.lst ((List.map Qa) p0))].map .dat) H (Qc r0) H
theorem Qc3:∀ x r,Jv x=some r→QeP x r:=by
 intro p0 r0 hm
 unfold Jv at hm
 unfold QeP
 intro H
 refine PC_sx (ds:=[(.lst ((List.map Qa) p0))]) (fn:=f138) rfl ?_
 refine Qd (R_G (Qb 1 (Qe (Qd (Qw (Qd (R_G (Qb 1 ?_))))))))
 obtain ⟨v1,hx,hm⟩:=Qg hm
 have hq:=Jz _ _ hx []
 refine Qp hq ?_
 refine Qb 1 (Qe ?_)
 refine Qx hm (QH _) (fun hm=>?_) (fun hm=>?_)
 ·refine Qd (R_G (Qb 1 (Qe (Qr ?_))))
  obtain rfl:=Qu hm
  exact ⟨trivial,Qk⟩
 refine Qd (R_G (Qb 1 ?_))
 obtain ⟨v2,hx,hm⟩:=Qg hm
 have hq:=JA _ _ hx []
 refine Qp hq ?_
 refine Qb 1 (Qe ?_)
 refine Qx hm (QH _) (fun hm=>?_) (fun hm=>?_)
 ·refine Qd (R_G (Qb 1 (Qe (Qr ?_))))
  obtain rfl:=Qu hm
  exact ⟨trivial,Qk⟩
 refine Qo (Qd (R_G (Qb 1 (Qe (Qr ?_)))))
 obtain rfl:=Qu hm
 exact ⟨trivial,Qk⟩
def Zd (x:((List Int) × Int × Int)):Option (Int ⊕ Unit) :=
 match x with
 | (p0,p1,v201) =>
 if v201 < (p0.length:Int) then
  idx p0 v201>>=fun v602 =>
  if p1=v602 then
   some (Sum.inl v201)
  else
  Zd (p0,p1,(W (v201+1)))
 else
 some (Sum.inr ())
 partial_fixpoint
def QaG:((List Int) × Int × Int)→(Int ⊕ Unit)→Prop:=fun x r=>match x with
 | (p0,p1,v201)=>∀ st,prune 0 ((Qy (QN [1,0,1,0,0] (QP f159))).bind (env.hint 159).keepAt) st=⟨kp 19 [(0,(.dat (.lst ((List.map Qa) p0)))),(1,(Qc p1)),(7,(Qc (p0.length:Int))),(8,(Qc v201))],[]⟩ →
  RL prog env (env.hint 159) true (QN [1,0,1,0,0] (QP f159)) 0 st (fun e s=>match r with|.inl v601=>e=.ret∧∃ d,s=⟨sl d 19 [(4,(Qc v601))],[]⟩|.inr (_)=>e=.exit 0∧∃ d,s=⟨sl d 19 [],[]⟩)
theorem YK:∀ x r,Zd x=some r→QaG x r:=by
 refine Zd.partial_correctness _ (fun Zd YK x r hm=>?_)
 unfold QaG
 obtain ⟨p0,p1,v201⟩:=x
 intro st hst
 refine RL_at hst ?_
 clear hst
 refine Qd (R_G (Qb 1 (Qe (Qd ?_))))
 refine Qx hm (rfl) (fun hm=>?_) (fun hm=>?_)
 ·refine Qo (Qd (Qw (Qd (R_G (Qb 2 (Qe (Qd (R_G (Qb 3 ?_)))))))))
  refine Q3 1 Qa hm rfl (fun _=>rfl) (fun v602 hm=>?_)
  refine Qb 2 (Qe ?_)
  refine Qx hm (Q1 _ _) (fun hm=>?_) (fun hm=>?_)
  ·refine Qd (R_G (Qb 2 (Qe (Qr ?_))))
   obtain rfl:=Qu hm
   exact ⟨rfl,Qm⟩
  refine Qo (R_G (Qb 2 (Qe ?_)))
  exact YK _ _ hm _ (by kernel_rfl)
 refine Q8 ?_
 obtain rfl:=Qu hm
 exact ⟨rfl,Qm⟩
def Xc (x:((List Int) × Int)):Option Int :=
 match x with
 | (p0,p1) =>
 (
 Zd (p0,p1,0)>>=fun (out:Int ⊕ Unit) =>
 match out with
 | .inl v601 =>
  some v601
 | .inr (_) =>
  some (-1)
 )
def Qbb:((List Int) × Int)→Int→Prop:=fun x r=>match x,r with
 | (p0,p1),r0=>∀ H,PC prog env 159 ([(.lst ((List.map Qa) p0)),(Qa p1)].map .dat) H (Qc r0) H
theorem Qc5:∀ x r,Xc x=some r→Qbb x r:=by
 intro x r0 hm
 unfold Xc at hm
 unfold Qbb
 obtain ⟨p0,p1⟩:=x
 intro H
 refine PC_sx (ds:=[(.lst ((List.map Qa) p0)),(Qa p1)]) (fn:=f159) rfl ?_
 refine Qd (R_G (Qb 1 (Qe (Qd (Qd (R_G (Qb 1 ?_)))))))
 refine QO Qa p0 (es:=(List.map Qa) p0) rfl ?_
 refine Qb 1 (Qe (Qw ?_))
 obtain ⟨out,hs,hm⟩:=Qg hm
 refine Ze ?_
 rcases out with v601|_
 ·refine RL_use (YK _ _ hs) (by kernel_rfl) ?_
  clear hs
  intro e s hp
  obtain ⟨rfl,d,rfl⟩:=hp
  obtain rfl:=Qu hm
  exact ⟨trivial,Qk⟩
 ·refine RL_use (YK _ _ hs) (by kernel_rfl) ?_
  clear hs
  intro e s hp
  obtain ⟨rfl,d,rfl⟩:=hp
  refine Qd (R_G (Qb 1 (Qe (Qr ?_))))
  obtain rfl:=Qu hm
  exact ⟨trivial,Qk⟩
def Yo (x:((List Int) × Int)):Option Bool :=
 match x with
 | (p0,p1) =>
 Xc (p0,p1)>>=fun (v1:Int) =>
 some (decide (v1≥0))
def QaE:((List Int) × Int)→Bool→Prop:=fun x r=>match x,r with
 | (p0,p1),r0=>∀ H,PC prog env 139 ([(.lst ((List.map Qa) p0)),(Qa p1)].map .dat) H (Qs r0) H
theorem Qch:∀ x r,Yo x=some r→QaE x r:=by
 intro x r0 hm
 unfold Yo at hm
 unfold QaE
 obtain ⟨p0,p1⟩:=x
 intro H
 refine PC_sx (ds:=[(.lst ((List.map Qa) p0)),(Qa p1)]) (fn:=f139) rfl ?_
 refine Qd (R_G (Qb 1 (Qe (Qd (R_G (Qb 2 ?_))))))
 obtain ⟨v1,hx,hm⟩:=Qg hm
 have hq:=Qc5 _ _ hx []
 refine Qp hq ?_
 refine Qb 2 (Qe (Qr ?_))
 obtain rfl:=Qu hm
 exact ⟨trivial,Qk⟩
def Qb7 (x:(Int × Int × Int)):Option (Int × Bool) :=
 match x with
 | (p0,p1,p2) =>
 ((if p0 < 0 then
  some true
 else
 some (decide (p1 < 0))
 )>>=fun (v2:Bool) =>
 (if v2=true then
  some true
 else
 some (decide (p0 > p2))
 )>>=fun (v3:Bool) =>
 (if v3=true then
  some true
 else
 some (decide (p1 > p2))
 )>>=fun (v4:Bool) =>
 if v4=true then
  some true
 else
 if p1 > 0 then
  quoM p2 p1>>=fun v5 =>
  some (decide (p0 > v5))
 else
 some false
 )>>=fun (v1:Bool) =>
 if v1=true then
  some (0,false)
 else
 some ((W (p0 * p1)),true)
def Qfq:(Int × Int × Int)→(Int × Bool)→Prop:=fun x r=>match x,r with
 | (p0,p1,p2),(r0,r1)=>∀ H,PC prog env 142 ([(Qa p0),(Qa p1),(Qa p2)].map .dat) H (.tup [(Qc r0),(Qs r1)]) H
theorem Qgj:∀ x r,Qb7 x=some r→Qfq x r:=by
 intro x r hm
 unfold Qb7 at hm
 unfold Qfq
 obtain ⟨p0,p1,p2⟩:=x
 obtain ⟨r0,r1⟩:=r
 intro H
 refine PC_sx (ds:=[(Qa p0),(Qa p1),(Qa p2)]) (fn:=f142) rfl ?_
 refine Qd (R_G (Qb 2 (Qe (Qd (Qd ?_)))))
 obtain ⟨v1,hs,hm⟩:=Qg hm
 refine Zy (fun d=>⟨sl d 38 [(0,(Qc p0)),(1,(Qc p1)),(34,(Qs v1))],[]⟩) ?_ (fun d=>?_)
 ·replace hm:=hs
  clear hs
  refine QdZ ?_
  refine Qb 3 ?_
  obtain ⟨v2,hs,hm⟩:=Qg hm
  refine XX (j:=6) (fun d=>⟨sl d 38 [(0,(Qc p0)),(1,(Qc p1)),(2,(Qc p2)),(13,(Qs v2))],[]⟩) (fun d=>?_) (fun hJ=>?_)
  ·clear hs
   refine Qb 1 ?_
   obtain ⟨v3,hs,hm⟩:=Qg hm
   refine XX (j:=11) (fun d=>⟨sl d 38 [(0,(Qc p0)),(1,(Qc p1)),(2,(Qc p2)),(18,(Qs v3))],[]⟩) (fun d=>?_) (fun hJ=>?_)
   ·clear hs
    refine Qb 1 ?_
    obtain ⟨v4,hs,hm⟩:=Qg hm
    refine XX (j:=16) (fun d=>⟨sl d 38 [(0,(Qc p0)),(1,(Qc p1)),(2,(Qc p2)),(23,(Qs v4))],[]⟩) (fun d=>?_) (fun hJ=>?_)
    ·clear hs
     refine Qb 1 ?_
     refine QA 24 hm (QH _) (fun hm=>?_) (fun hm=>?_)
     ·refine Qb 10 ?_
      refine Qe ⟨by kernel_rfl,?_⟩
      obtain rfl:=Qu hm
      exact Qm
     refine Qb 3 ?_
     refine QA 27 hm (rfl) (fun hm=>?_) (fun hm=>?_)
     ·refine Qb 3 ?_
      obtain ⟨v5,hx,hm⟩:=Qg hm
      refine ZD rfl (fun _=>QgU (a:=p2) (b:=p1) hx rfl (by kernel_rfl) (by kernel_rfl)) ?_
      refine Qb 3 ?_
      refine Qe ⟨by kernel_rfl,?_⟩
      obtain rfl:=Qu hm
      exact Qm
     refine Qb 7 ?_
     refine Qe ⟨by kernel_rfl,?_⟩
     obtain rfl:=Qu hm
     exact Qm
    clear hm
    refine QA 19 hs (QH _) (fun hm=>?_) (fun hm=>?_)
    ·refine Qb 4 ?_
     obtain rfl:=Qu hm
     exact hJ _ _
    refine Qb 4 ?_
    obtain rfl:=Qu hm
    exact hJ _ _
   clear hm
   refine QA 14 hs (QH _) (fun hm=>?_) (fun hm=>?_)
   ·refine Qb 4 ?_
    obtain rfl:=Qu hm
    exact hJ _ _
   refine Qb 4 ?_
   obtain rfl:=Qu hm
   exact hJ _ _
  clear hm
  refine QA 10 hs (rfl) (fun hm=>?_) (fun hm=>?_)
  ·refine Qb 3 ?_
   obtain rfl:=Qu hm
   exact hJ _ _
  refine Qb 3 ?_
  obtain rfl:=Qu hm
  exact hJ _ _
 clear hs
 refine Qx hm (QH _) (fun hm=>?_) (fun hm=>?_)
 ·refine Qd (R_G (Qb 2 (Qe (Qr ?_))))
  obtain ⟨rfl,rfl⟩:=QU hm
  exact ⟨trivial,Qk⟩
 refine Qo (Qd (R_G (Qb 5 (Qe (Qr ?_)))))
 obtain ⟨rfl,rfl⟩:=QU hm
 exact ⟨trivial,Qk⟩
def Qay (x:(Int × Int)):Option (Int × Bool) :=
 match x with
 | (p0,p1) =>
 Qb7 (p0,p1,65536)>>=fun ((v1,v2):(Int × Bool)) =>
 some (v1,v2)
def QcR:(Int × Int)→(Int × Bool)→Prop:=fun x r=>match x,r with
 | (p0,p1),(r0,r1)=>∀ H,PC prog env 141 ([(Qa p0),(Qa p1)].map .dat) H (.tup [(Qc r0),(Qs r1)]) H
theorem Qe4:∀ x r,Qay x=some r→QcR x r:=by
 intro x r hm
 unfold Qay at hm
 unfold QcR
 obtain ⟨p0,p1⟩:=x
 obtain ⟨r0,r1⟩:=r
 intro H
 refine PC_sx (ds:=[(Qa p0),(Qa p1)]) (fn:=f141) rfl ?_
 refine Qd (R_G (Qb 2 (Qe (Qd (R_G (Qb 2 ?_))))))
 obtain ⟨⟨v1,v2⟩,hx,hm⟩:=Qg hm
 have hq:=Qgj _ _ hx []
 refine Qp hq ?_
 refine Qb 4 (Qe (Qr ?_))
 obtain ⟨rfl,rfl⟩:=QU hm
 exact ⟨trivial,Qk⟩
def QV (x:((List Int) × Int × Int)):Option (Int ⊕ Int) :=
 match x with
 | (p0,v201,v202) =>
 if v202 < (p0.length:Int) then
  idx p0 v202>>=fun v603 =>
  Qay (v201,v603)>>=fun ((v604,v605):(Int × Bool)) =>
  if v605=false then
   some (Sum.inl v604)
  else
  QV (p0,v604,(W (v202+1)))
 else
 some (Sum.inr v201)
 partial_fixpoint
def XD:((List Int) × Int × Int)→(Int ⊕ Int)→Prop:=fun x r=>match x with
 | (p0,v201,v202)=>∀ st,prune 0 ((Qy (QN [1,1,0,1,0,0] (QP f160))).bind (env.hint 160).keepAt) st=⟨kp 31 [(2,(.dat (.raw (.func (.func 141) #[] #[])))),(8,(Qc v201)),(13,(.dat (.lst ((List.map Qa) p0)))),(14,(Qc (p0.length:Int))),(15,(Qc v202))],[]⟩ →
  RL prog env (env.hint 160) true (QN [1,1,0,1,0,0] (QP f160)) 0 st (fun e s=>match r with|.inl v601=>e=.ret∧∃ d,s=⟨sl d 31 [(6,(Qc v601)),(7,(Qs false))],[]⟩|.inr (v602)=>e=.exit 0∧∃ d,s=⟨sl d 31 [(8,(Qc v602))],[]⟩)
theorem ZT:∀ x r,QV x=some r→XD x r:=by
 refine QV.partial_correctness _ (fun QV ZT x r hm=>?_)
 unfold XD
 obtain ⟨p0,v201,v202⟩:=x
 intro st hst
 refine RL_at hst ?_
 clear hst
 refine Qd (R_G (Qb 1 (Qe (Qd ?_))))
 refine Qx hm (rfl) (fun hm=>?_) (fun hm=>?_)
 ·refine Qo (Qd (Qw (Qd (R_G ?_))))
  refine Q3 1 Qa hm rfl (fun _=>rfl) (fun v603 hm=>?_)
  refine Qb 2 (Qe (Qd (R_G (Qb 3 ?_))))
  obtain ⟨⟨v604,v605⟩,hx,hm⟩:=Qg hm
  have hq:=Qe4 _ _ hx []
  refine Qp hq ?_
  refine Qb 5 (Qe (Qd (R_G (Qb 2 (Qe ?_)))))
  refine Qx hm (QaT _) (fun hm=>?_) (fun hm=>?_)
  ·refine Qd (R_G (Qb 3 (Qe (Qr ?_))))
   obtain rfl:=Qu hm
   exact ⟨rfl,Qm⟩
  refine Qo (R_G (Qb 2 (Qe ?_)))
  exact ZT _ _ hm _ (by kernel_rfl)
 refine Q8 ?_
 obtain rfl:=Qu hm
 exact ⟨rfl,Qm⟩
def Yk (x:((List Int) × Int)):Option (Int × Bool) :=
 match x with
 | (p0,p1) =>
 (
 QV (p0,p1,0)>>=fun (out:Int ⊕ Int) =>
 match out with
 | .inl v601 =>
  some (v601,false)
 | .inr (v602) =>
  some (v602,true)
 )
def Je:((List Int) × Int)→(Int × Bool)→Prop:=fun x r=>match x,r with
 | (p0,p1),(r0,r1)=>∀ H,PC prog env 160 ([(.lst ((List.map Qa) p0)),(Qa p1),(.raw (.func (.func 141) #[] #[]))].map .dat) H (.tup [(Qc r0),(Qs r1)]) H
theorem Qbq:∀ x r,Yk x=some r→Je x r:=by
 intro x r hm
 unfold Yk at hm
 unfold Je
 obtain ⟨p0,p1⟩:=x
 obtain ⟨r0,r1⟩:=r
 intro H
 refine PC_sx (ds:=[(.lst ((List.map Qa) p0)),(Qa p1),(.raw (.func (.func 141) #[] #[]))]) (fn:=f160) rfl ?_
 refine Qd (R_G (Qb 2 (Qe (Qd (R_G (Qb 3 (Qe (Qd (Qd (R_G (Qb 1 ?_)))))))))))
 refine QO Qa p0 (es:=(List.map Qa) p0) rfl ?_
 refine Qb 1 (Qe (Qw ?_))
 obtain ⟨out,hs,hm⟩:=Qg hm
 refine Ze ?_
 rcases out with v601|v602
 ·refine RL_use (ZT _ _ hs) (by kernel_rfl) ?_
  clear hs
  intro e s hp
  obtain ⟨rfl,d,rfl⟩:=hp
  obtain ⟨rfl,rfl⟩:=QU hm
  exact ⟨trivial,Qk⟩
 ·refine RL_use (ZT _ _ hs) (by kernel_rfl) ?_
  clear hs
  intro e s hp
  obtain ⟨rfl,d,rfl⟩:=hp
  refine Qd (R_G (Qb 3 (Qe (Qr ?_))))
  obtain ⟨rfl,rfl⟩:=QU hm
  exact ⟨trivial,Qk⟩
def Yj (x:((List Int) × Int)):Option (Int × Int) :=
 match x with
 | (p0,p1) =>
 Jv p0>>=fun (v1:Int) =>
 if v1≠0 then
  some (0,v1)
 else
 Yk (p0,p1)>>=fun ((v2,v3):(Int × Bool)) =>
 if v3=false then
  some (0,7)
 else
 some (v2,0)
def Jd:((List Int) × Int)→(Int × Int)→Prop:=fun x r=>match x,r with
 | (p0,p1),(r0,r1)=>∀ H,PC prog env 140 ([(.lst ((List.map Qa) p0)),(Qa p1),(.raw (.func (.func 141) #[] #[]))].map .dat) H (.tup [(Qc r0),(Qc r1)]) H
theorem Qbp:∀ x r,Yj x=some r→Jd x r:=by
 intro x r hm
 unfold Yj at hm
 unfold Jd
 obtain ⟨p0,p1⟩:=x
 obtain ⟨r0,r1⟩:=r
 intro H
 refine PC_sx (ds:=[(.lst ((List.map Qa) p0)),(Qa p1),(.raw (.func (.func 141) #[] #[]))]) (fn:=f140) rfl ?_
 refine Qd (R_G (Qb 2 (Qe (Qd (Qd (R_G (Qb 1 ?_)))))))
 obtain ⟨v1,hx,hm⟩:=Qg hm
 have hq:=Qc3 _ _ hx []
 refine Qp hq ?_
 refine Qb 1 (Qe (Qd (R_G (Qb 2 (Qe ?_)))))
 refine Qx hm (ne_dec _ _) (fun hm=>?_) (fun hm=>?_)
 ·refine Qd (R_G (Qb 3 (Qe (Qr ?_))))
  obtain ⟨rfl,rfl⟩:=QU hm
  exact ⟨trivial,Qk⟩
 refine Qo (Qd (R_G (Qb 3 ?_)))
 obtain ⟨⟨v2,v3⟩,hx,hm⟩:=Qg hm
 have hq:=Qbq _ _ hx []
 refine Qp hq ?_
 refine Qb 5 (Qe (Qd (Qd (R_G (Qb 2 (Qe ?_))))))
 refine Qx hm (QaT _) (fun hm=>?_) (fun hm=>?_)
 ·refine Qd (R_G (Qb 2 (Qe (Qr ?_))))
  obtain ⟨rfl,rfl⟩:=QU hm
  exact ⟨trivial,Qk⟩
 refine Qo (Qd (R_G (Qb 3 (Qe (Qr ?_)))))
 obtain ⟨rfl,rfl⟩:=QU hm
 exact ⟨trivial,Qk⟩
def Jj (x:(List Int)):Option (Int × Int) :=
 match x with
 | p0 =>
 Jv p0>>=fun (v1:Int) =>
 (if v1=0 then
  Yo (p0,0)>>=fun (v3:Bool) =>
  some v3
 else
 some false
 )>>=fun (v2:Bool) =>
 if v2=true then
  some (0,0)
 else
 Yj (p0,1)>>=fun ((v4,v5):(Int × Int)) =>
 some (v4,v5)
def QdJ:(List Int)→(Int × Int)→Prop:=fun x r=>match x,r with
 | p0,(r0,r1)=>∀ H,PC prog env 120 ([(.lst ((List.map Qa) p0))].map .dat) H (.tup [(Qc r0),(Qc r1)]) H
theorem QdX:∀ x r,Jj x=some r→QdJ x r:=by
 intro p0 r hm
 unfold Jj at hm
 unfold QdJ
 obtain ⟨r0,r1⟩:=r
 intro H
 refine PC_sx (ds:=[(.lst ((List.map Qa) p0))]) (fn:=f120) rfl ?_
 refine Qd (R_G (Qb 2 (Qe (Qd (Qd (R_G (Qb 1 ?_)))))))
 obtain ⟨v1,hx,hm⟩:=Qg hm
 have hq:=Qc3 _ _ hx []
 refine Qp hq ?_
 refine Qb 1 (Qe (Qd ?_))
 obtain ⟨v2,hs,hm⟩:=Qg hm
 refine Zy (fun d=>⟨sl d 17 [(0,(.dat (.lst ((List.map Qa) p0)))),(12,(Qs v2))],[]⟩) ?_ (fun d=>?_)
 ·replace hm:=hs
  clear hs
  refine R_G (Qb 3 ?_)
  refine QA 9 hm (Q1 _ _) (fun hm=>?_) (fun hm=>?_)
  ·refine Qb 1 ?_
   obtain ⟨v3,hx,hm⟩:=Qg hm
   have hq:=Qch _ _ hx []
   refine Qp hq ?_
   refine Qb 1 (Qe ?_)
   obtain rfl:=Qu hm
   exact Qm
  refine Qb 3 (Qe ?_)
  obtain rfl:=Qu hm
  exact Qm
 clear hs
 refine Qx hm (QH _) (fun hm=>?_) (fun hm=>?_)
 ·refine Qd (R_G (Qb 2 (Qe (Qr ?_))))
  obtain ⟨rfl,rfl⟩:=QU hm
  exact ⟨trivial,Qk⟩
 refine Qo (Qd (R_G (Qb 1 ?_)))
 obtain ⟨⟨v4,v5⟩,hx,hm⟩:=Qg hm
 have hq:=Qbp _ _ hx []
 refine Qp hq ?_
 refine Qb 4 (Qe (Qr ?_))
 obtain ⟨rfl,rfl⟩:=QU hm
 exact ⟨trivial,Qk⟩
def Zp (x:(List Int)):Option Int :=
 match x with
 | p0 =>
 Jj p0>>=fun ((v1,v2):(Int × Int)) =>
 (if v2≠6 then
  some (decide ((p0.length:Int) > 16))
 else
 some false
 )>>=fun (v3:Bool) =>
 if v3=true then
  some 7
 else
 some v2
def Qel:(List Int)→Int→Prop:=fun x r=>match x,r with
 | p0,r0=>∀ H,PC prog env 83 ([(.lst ((List.map Qa) p0))].map .dat) H (Qc r0) H
theorem ZY:∀ x r,Zp x=some r→Qel x r:=by
 intro p0 r0 hm
 unfold Zp at hm
 unfold Qel
 intro H
 refine PC_sx (ds:=[(.lst ((List.map Qa) p0))]) (fn:=f83) rfl ?_
 refine Qd (R_G (Qb 1 (Qe (Qd (R_G (Qb 1 ?_))))))
 obtain ⟨⟨v1,v2⟩,hx,hm⟩:=Qg hm
 have hq:=QdX _ _ hx []
 refine Qp hq ?_
 refine Qb 5 (Qe (Qd (Qd ?_)))
 obtain ⟨v3,hs,hm⟩:=Qg hm
 refine Zy (fun d=>⟨sl d 18 [(4,(Qc v2)),(16,(Qs v3))],[]⟩) ?_ (fun d=>?_)
 ·replace hm:=hs
  clear hs
  refine R_G (Qb 3 ?_)
  refine QA 12 hm (ne_dec _ _) (fun hm=>?_) (fun hm=>?_)
  ·refine Qb 1 ?_
   refine QO Qa p0 (es:=(List.map Qa) p0) rfl ?_
   refine Qb 2 (Qe ?_)
   obtain rfl:=Qu hm
   exact Qm
  refine Qb 4 (Qe ?_)
  obtain rfl:=Qu hm
  exact Qm
 clear hs
 refine Qx hm (QH _) (fun hm=>?_) (fun hm=>?_)
 ·refine Qd (R_G (Qb 1 (Qe (Qr ?_))))
  obtain rfl:=Qu hm
  exact ⟨trivial,Qk⟩
 refine Qo (Qd (R_G (Qb 2 (Qe (Qr ?_)))))
 obtain rfl:=Qu hm
 exact ⟨trivial,Qk⟩
def JG (x:(List Int)):Option Int :=
 match x with
 | p0 =>
 Zp p0>>=fun (v1:Int) =>
 if v1≠0 then
  some 0
 else
 Jj p0>>=fun ((v2,v3):(Int × Int)) =>
 some v2
def Qek:(List Int)→Int→Prop:=fun x r=>match x,r with
 | p0,r0=>∀ H,PC prog env 84 ([(.lst ((List.map Qa) p0))].map .dat) H (Qc r0) H
theorem Qet:∀ x r,JG x=some r→Qek x r:=by
 intro p0 r0 hm
 unfold JG at hm
 unfold Qek
 intro H
 refine PC_sx (ds:=[(.lst ((List.map Qa) p0))]) (fn:=f84) rfl ?_
 refine Qd (R_G (Qb 1 (Qe (Qd (Qd (R_G (Qb 1 ?_)))))))
 obtain ⟨v1,hx,hm⟩:=Qg hm
 have hq:=ZY _ _ hx []
 refine Qp hq ?_
 refine Qb 1 (Qe ?_)
 refine Qx hm (ne_dec _ _) (fun hm=>?_) (fun hm=>?_)
 ·refine Qd (R_G (Qb 1 (Qe (Qr ?_))))
  obtain rfl:=Qu hm
  exact ⟨trivial,Qk⟩
 refine Qo (Qd (R_G (Qb 1 ?_)))
 obtain ⟨⟨v2,v3⟩,hx,hm⟩:=Qg hm
 have hq:=QdX _ _ hx []
 refine Qp hq ?_
 refine Qb 5 (Qe (Qd (R_G (Qb 2 (Qe (Qr ?_))))))
 obtain rfl:=Qu hm
 exact ⟨trivial,Qk⟩
def JB (x:QM):Option Int :=
 match x with
 | p0 =>
 Zp p0.shape>>=fun (v1:Int) =>
 if v1≠0 then
  some v1
 else
 JG p0.shape>>=fun (v2:Int) =>
 if (p0.data.length:Int)≠v2 then
  some 5
 else
 some 0
def Qd4:QM→Int→Prop:=fun x r=>match x,r with
 | p0,r0=>∀ H,PC prog env 41 ([(QM.toD p0)].map .dat) H (Qc r0) H
theorem QfF:∀ x r,JB x=some r→Qd4 x r:=by
 intro p0 r0 hm
 unfold JB at hm
 unfold Qd4
 intro H
 refine PC_sx (ds:=[(QM.toD p0)]) (fn:=f41) rfl ?_
 refine Qd (R_G (Qb 2 (Qe (Qd (Qd (R_G (Qb 2 ?_)))))))
 obtain ⟨v1,hx,hm⟩:=Qg hm
 have hq:=ZY _ _ hx []
 refine Qp hq ?_
 refine Qb 1 (Qe (Qd (R_G (Qb 2 (Qe ?_)))))
 refine Qx hm (ne_dec _ _) (fun hm=>?_) (fun hm=>?_)
 ·refine Qd (R_G (Qb 2 (Qe (Qr ?_))))
  obtain rfl:=Qu hm
  exact ⟨trivial,Qk⟩
 refine Qo (Qd (Qd ?_))
 refine QaK ?_
 refine Qb 2 ?_
 refine QO Qa p0.data (es:=(List.map Qa) p0.data) rfl ?_
 refine Qb 2 ?_
 obtain ⟨v2,hx,hm⟩:=Qg hm
 have hq:=Qet _ _ hx []
 refine Qp hq ?_
 refine Qb 1 ?_
 refine Qe ⟨by kernel_rfl,?_⟩
 refine Qx hm (ne_dec _ _) (fun hm=>?_) (fun hm=>?_)
 ·refine Qd (R_G (Qb 1 (Qe (Qr ?_))))
  obtain rfl:=Qu hm
  exact ⟨trivial,Qk⟩
 refine Qo (Qd (R_G (Qb 1 (Qe (Qr ?_)))))
 obtain rfl:=Qu hm
 exact ⟨trivial,Qk⟩
def Yn (x:(ByteArray × (List Int) × (List Int) × ByteArray × (List Int) × (List Int) × (List Ql))):Option (Bool) :=
 match x with
 | (q0,q1,q2,q3,q4,q5,q6) =>
 if q3≠ByteArray.empty then
  some (decide (q0=q3))
 else
 some false
def XE:(ByteArray × (List Int) × (List Int) × ByteArray × (List Int) × (List Int) × (List Ql))→Bool→Prop:=fun x r=>match x with
 | (q0,q1,q2,q3,q4,q5,q6)=>PC prog env 93 [(.dat (.agg [(strD q0),(.lst ((List.map Qa) q1)),(.lst ((List.map Qa) q2))])),(.iptr [(strD q3),(.lst ((List.map Qa) q4)),(.lst ((List.map Qa) q5))])] [(.box [(Qc 0),(.dat (.lst ((List.map Qa) []))),(Qc 0),(.dat (.lst ((List.map Qa) []))),(Qc 0),(Qc 0),(.dat (.lst ((List.map Qa) []))),(.dat (.lst (Qi.toDs []))),(.dat (.lst ((List.map Ql.toD) [])))]),(.tok 59 q6.length),(.box [(.dat (.raw (.pointer none))),(.vec 1 ((List.map Ql.toD) q6))]),(.box [(Qc 0),(.dat (.lst ((List.map Qa) []))),(Qc 0),(.dat (.lst ((List.map Qa) []))),(Qc 0),(Qc 0),(.dat (.lst ((List.map Qa) []))),(.dat (.lst (Qi.toDs [])))])] (match r with|v5001=>(Qs v5001)) (match r with|v5001=>[(.box [(Qc 0),(.dat (.lst ((List.map Qa) []))),(Qc 0),(.dat (.lst ((List.map Qa) []))),(Qc 0),(Qc 0),(.dat (.lst ((List.map Qa) []))),(.dat (.lst (Qi.toDs []))),(.dat (.lst ((List.map Ql.toD) [])))]),(.tok 59 q6.length),(.box [(.dat (.raw (.pointer none))),(.vec 1 ((List.map Ql.toD) q6))]),(.box [(Qc 0),(.dat (.lst ((List.map Qa) []))),(Qc 0),(.dat (.lst ((List.map Qa) []))),(Qc 0),(Qc 0),(.dat (.lst ((List.map Qa) []))),(.dat (.lst (Qi.toDs [])))]),(.box [(.dat (strD q0)),(.dat (.lst ((List.map Qa) q1))),(.dat (.lst ((List.map Qa) q2)))])])
theorem Qcg:∀ x r,Yn x=some r→XE x r:=by
 intro x r hm
 unfold Yn at hm
 unfold XE
 obtain ⟨q0,q1,q2,q3,q4,q5,q6⟩:=x
 refine PC_sxB (fn:=f93) rfl ?_
 refine Qd (R_G (Qb 2 (Qe (Qd (R_G (Qb 2 ?_))))))
 refine ZD rfl (fun _=>Qfn (a:=q3) (b:=ByteArray.empty) rfl (by kernel_rfl) (by kernel_rfl)) ?_
 refine Qb 1 ?_
 refine QA 7 hm (rfl) (fun hm=>?_) (fun hm=>?_)
 ·refine Qb 4 ?_
  refine ZD rfl (fun _=>QcH (a:=q0) (b:=q3) rfl (by kernel_rfl) (by kernel_rfl)) ?_
  refine Qb 2 (Qe (Qr ?_))
  obtain rfl:=Qu hm
  exact ⟨trivial,QY (by kernel_rfl) (by kernel_rfl)⟩
 refine Qb 7 (Qe (Qr ?_))
 obtain rfl:=Qu hm
 exact ⟨trivial,QY (by kernel_rfl) (by kernel_rfl)⟩
def QI (x:((List Ql) × ByteArray × (List Int) × (List Int) × Int)):Option ((ByteArray × (List Int) × (List Int) × Int) ⊕ Unit) :=
 match x with
 | (q0,q1,q2,q3,v201) =>
 if v201 < (q0.length:Int) then
  idx q0 v201>>=fun v605 =>
  Yn (v605.name,v605.value.shape,v605.value.data,q1,q2,q3,q0)>>=fun (v606:Bool) =>
  if v606=true then
   some (Sum.inl (v605.name,v605.value.shape,v605.value.data,v201))
  else
  QI (q0,q1,q2,q3,(W (v201+1)))
 else
 some (Sum.inr ())
 partial_fixpoint
def Z7:((List Ql) × ByteArray × (List Int) × (List Int) × Int)→((ByteArray × (List Int) × (List Int) × Int) ⊕ Unit)→Prop:=fun x r=>match x with
 | (q0,q1,q2,q3,v201)=>∀ st,prune 4 ((Qy (QN [1,0,1,0,0] (QP f92))).bind (env.hint 92).keepAt) st=⟨kp 19 [(0,(.vec 1 ((List.map Ql.toD) q0))),(1,(.fn 93 [(.iptr [(strD q1),(.lst ((List.map Qa) q2)),(.lst ((List.map Qa) q3))])])),(7,(Qc (q0.length:Int))),(8,(Qc v201))],[(.box [(Qc 0),(.dat (.lst ((List.map Qa) []))),(Qc 0),(.dat (.lst ((List.map Qa) []))),(Qc 0),(Qc 0),(.dat (.lst ((List.map Qa) []))),(.dat (.lst (Qi.toDs []))),(.dat (.lst ((List.map Ql.toD) [])))]),(.tok 59 q0.length),(.box [(.dat (.raw (.pointer none))),(.vec 1 ((List.map Ql.toD) q0))]),(.box [(Qc 0),(.dat (.lst ((List.map Qa) []))),(Qc 0),(.dat (.lst ((List.map Qa) []))),(Qc 0),(Qc 0),(.dat (.lst ((List.map Qa) []))),(.dat (.lst (Qi.toDs [])))])]⟩ →
  RL prog env (env.hint 92) true (QN [1,0,1,0,0] (QP f92)) 4 st (fun e s=>match r with|.inl (v601,v602,v603,v604)=>e=.ret∧∃ d,s=⟨sl d 19 [(4,(Qc v604))],[(.box [(Qc 0),(.dat (.lst ((List.map Qa) []))),(Qc 0),(.dat (.lst ((List.map Qa) []))),(Qc 0),(Qc 0),(.dat (.lst ((List.map Qa) []))),(.dat (.lst (Qi.toDs []))),(.dat (.lst ((List.map Ql.toD) [])))]),(.tok 59 q0.length),(.box [(.dat (.raw (.pointer none))),(.vec 1 ((List.map Ql.toD) q0))]),(.box [(Qc 0),(.dat (.lst ((List.map Qa) []))),(Qc 0),(.dat (.lst ((List.map Qa) []))),(Qc 0),(Qc 0),(.dat (.lst ((List.map Qa) []))),(.dat (.lst (Qi.toDs [])))]),(.box [(.dat (strD v601)),(.dat (.lst ((List.map Qa) v602))),(.dat (.lst ((List.map Qa) v603)))])]⟩|.inr (_)=>e=.exit 0∧∃ d,s=⟨sl d 19 [],[(.box [(Qc 0),(.dat (.lst ((List.map Qa) []))),(Qc 0),(.dat (.lst ((List.map Qa) []))),(Qc 0),(Qc 0),(.dat (.lst ((List.map Qa) []))),(.dat (.lst (Qi.toDs []))),(.dat (.lst ((List.map Ql.toD) [])))]),(.tok 59 q0.length),(.box [(.dat (.raw (.pointer none))),(.vec 1 ((List.map Ql.toD) q0))]),(.box [(Qc 0),(.dat (.lst ((List.map Qa) []))),(Qc 0),(.dat (.lst ((List.map Qa) []))),(Qc 0),(Qc 0),(.dat (.lst ((List.map Qa) []))),(.dat (.lst (Qi.toDs [])))])]⟩)
theorem Q4:∀ x r,QI x=some r→Z7 x r:=by
 refine QI.partial_correctness _ (fun QI Q4 x r hm=>?_)
 unfold Z7
 obtain ⟨q0,q1,q2,q3,v201⟩:=x
 intro st hst
 refine RL_at hst ?_
 clear hst
 refine Qd (R_G (Qb 1 (Qe (Qd ?_))))
 refine Qx hm (rfl) (fun hm=>?_) (fun hm=>?_)
 ·refine Qo (Qd (Qw (Qd (R_G (Qb 2 (Qe (Qd (R_G (Qb 3 ?_)))))))))
  refine Q3 3 Ql.toD hm rfl (fun _=>rfl) (fun v605 hm=>?_)
  refine Qb 1 ?_
  obtain ⟨v606,hx,hm⟩:=Qg hm
  have hq:=Qcg _ _ hx
  dsimp only [XE] at hq
  refine Zh hq ?_
  refine Qe ?_
  refine Qx hm (QH _) (fun hm=>?_) (fun hm=>?_)
  ·refine Qd (R_G (Qb 2 (Qe (Qr ?_))))
   obtain rfl:=Qu hm
   exact ⟨rfl,Qm⟩
  refine Qo (R_G (Qb 2 (Qe ?_)))
  exact Q4 _ _ hm _ (by kernel_rfl)
 refine Q8 ?_
 obtain rfl:=Qu hm
 exact ⟨rfl,Qm⟩
def Zb (x:((List Ql) × ByteArray × (List Int) × (List Int))):Option ((ByteArray × (List Int) × (List Int) × Int) ⊕ Unit) :=
 match x with
 | (q0,q1,q2,q3) =>
 (
 QI (q0,q1,q2,q3,0)>>=fun (out:(ByteArray × (List Int) × (List Int) × Int) ⊕ Unit) =>
 match out with
 | .inl (v601,v602,v603,v604) =>
  some (Sum.inl (v601,v602,v603,v604))
 | .inr (_) =>
  some (Sum.inr ())
 )
def Q9:((List Ql) × ByteArray × (List Int) × (List Int))→((ByteArray × (List Int) × (List Int) × Int) ⊕ Unit)→Prop:=fun x r=>match x with
 | (q0,q1,q2,q3)=>PC prog env 92 [(.vec 1 ((List.map Ql.toD) q0)),(.fn 93 [(.iptr [(strD q1),(.lst ((List.map Qa) q2)),(.lst ((List.map Qa) q3))])])] [(.box [(Qc 0),(.dat (.lst ((List.map Qa) []))),(Qc 0),(.dat (.lst ((List.map Qa) []))),(Qc 0),(Qc 0),(.dat (.lst ((List.map Qa) []))),(.dat (.lst (Qi.toDs []))),(.dat (.lst ((List.map Ql.toD) [])))]),(.tok 59 q0.length),(.box [(.dat (.raw (.pointer none))),(.vec 1 ((List.map Ql.toD) q0))]),(.box [(Qc 0),(.dat (.lst ((List.map Qa) []))),(Qc 0),(.dat (.lst ((List.map Qa) []))),(Qc 0),(Qc 0),(.dat (.lst ((List.map Qa) []))),(.dat (.lst (Qi.toDs [])))])] (match r with|.inl (v5001,v5002,v5003,v5004)=>(Qc v5004)|.inr (_)=>(Qc (-1))) (match r with|.inl (v5001,v5002,v5003,v5004)=>[(.box [(Qc 0),(.dat (.lst ((List.map Qa) []))),(Qc 0),(.dat (.lst ((List.map Qa) []))),(Qc 0),(Qc 0),(.dat (.lst ((List.map Qa) []))),(.dat (.lst (Qi.toDs []))),(.dat (.lst ((List.map Ql.toD) [])))]),(.tok 59 q0.length),(.box [(.dat (.raw (.pointer none))),(.vec 1 ((List.map Ql.toD) q0))]),(.box [(Qc 0),(.dat (.lst ((List.map Qa) []))),(Qc 0),(.dat (.lst ((List.map Qa) []))),(Qc 0),(Qc 0),(.dat (.lst ((List.map Qa) []))),(.dat (.lst (Qi.toDs [])))]),(.box [(.dat (strD v5001)),(.dat (.lst ((List.map Qa) v5002))),(.dat (.lst ((List.map Qa) v5003)))])]|.inr (_)=>[(.box [(Qc 0),(.dat (.lst ((List.map Qa) []))),(Qc 0),(.dat (.lst ((List.map Qa) []))),(Qc 0),(Qc 0),(.dat (.lst ((List.map Qa) []))),(.dat (.lst (Qi.toDs []))),(.dat (.lst ((List.map Ql.toD) [])))]),(.tok 59 q0.length),(.box [(.dat (.raw (.pointer none))),(.vec 1 ((List.map Ql.toD) q0))]),(.box [(Qc 0),(.dat (.lst ((List.map Qa) []))),(Qc 0),(.dat (.lst ((List.map Qa) []))),(Qc 0),(Qc 0),(.dat (.lst ((List.map Qa) []))),(.dat (.lst (Qi.toDs [])))])])
theorem Yp:∀ x r,Zb x=some r→Q9 x r:=by
 intro x r hm
 unfold Zb at hm
 unfold Q9
 obtain ⟨q0,q1,q2,q3⟩:=x
 refine PC_sxB (fn:=f92) rfl ?_
 refine Qd (R_G (Qb 1 (Qe (Qd (Qd (R_G (Qb 1 ?_)))))))
 refine QO Ql.toD q0 (es:=(List.map Ql.toD) q0) rfl ?_
 refine Qb 1 (Qe (Qw ?_))
 obtain ⟨out,hs,hm⟩:=Qg hm
 refine Ze ?_
 rcases out with ⟨v601,v602,v603,v604⟩|_
 ·refine RL_use (Q4 _ _ hs) (by kernel_rfl) ?_
  clear hs
  intro e s hp
  obtain ⟨rfl,d,rfl⟩:=hp
  obtain rfl:=Qu hm
  exact ⟨trivial,QY (by kernel_rfl) (by kernel_rfl)⟩
 ·refine RL_use (Q4 _ _ hs) (by kernel_rfl) ?_
  clear hs
  intro e s hp
  obtain ⟨rfl,d,rfl⟩:=hp
  refine Qd (R_G (Qb 1 (Qe (Qr ?_))))
  obtain rfl:=Qu hm
  exact ⟨trivial,QY (by kernel_rfl) (by kernel_rfl)⟩
def Qz (x:List Int):Option (List Int):=app 8 [] x
def cgm_slices_Clone_int_int (l:List Int):Nat:=match l with|[]=>0|_=>1
def QB:List Int→List Int→Prop:=fun x r=>PC prog env 28 [.dat (.lst ((List.map Qa) x))] [] (.ms 0 (cgm_slices_Clone_int_int r) 0 r.length r.length) [.mt 3 (cgm_slices_Clone_int_int r) (cellsOf Qa r)]
theorem QG:∀ x r,Qz x=some r→QB x r:=by
 intro x r hm
 obtain ⟨hroom,hr⟩:=app_some hm
 have hr:r=x:=hr
 subst hr
 unfold QB
 cases r with
 | nil=>exact PC_of (n:=20) (by kernel_rfl)
 | cons a l =>
  refine PC_sxB (fn:=f28) rfl ?_
  refine Qd (R_G (Qb 1 (Qe (Qd (Qd (R_G (Qb 1 ?_)))))))
  refine ZD rfl (fun _=>Qf1 (p:=.dat (.lst ((List.map Qa) (a::l)))) (b:=false) rfl (by kernel_rfl) (by kernel_rfl) (by kernel_rfl)) ?_
  refine Qe ?_
  refine Js (by kernel_rfl) ?_
  refine Qo (Qd (R_G (Qb 2 ?_)))
  refine Yb (v:=.ms 0 1 0 (a::l).length (a::l).length) (fun H=>H.set 0 (.mt 3 1 (cellsOf Qa (a::l)))) rfl (by kernel_rfl) (fun _ hk=>Qge Qa (l:=[]) (es:=a::l) (bytes:=8) (e:=3) (tt:=0) (g:=0) (m:=0) hm (fun _=>rfl) (by kernel_rfl) (by kernel_rfl) (by kernel_rfl) (by kernel_rfl) rfl rfl (by kernel_rfl) rfl (by kernel_rfl) (source_lst (fun _=>rfl)) hk) ?_
  refine Qb 1 (Qe (Qr ?_))
  exact ⟨trivial,QY (by kernel_rfl) (by kernel_rfl)⟩
def Z9 (x:(ByteArray × (List Int) × (List Int) × (List Ql))):Option (((List Ql) × (List Int) × Int)) :=
 match x with
 | (q0,q1,q2,q3) =>
 (
 Zb (q3,q0,q1,q2)>>=fun (out:(ByteArray × (List Int) × (List Int) × Int) ⊕ Unit) =>
 match out with
 | .inl (v1,v2,v3,v4) =>
  (if v4 < 0 then
   app 64 q3 ([(⟨q0,(⟨q1,q2⟩:QM)⟩:Ql)]:List Ql)>>=fun v7 =>
   some (v7,(q3.length:Int))
  else
  some (q3,v4)
  )>>=fun ((v5,v6):((List Ql) × Int)) =>
  Qz q1>>=fun v8 =>
  some (v5,v8,v6)
 | .inr (_) =>
  app 64 q3 ([(⟨q0,(⟨q1,q2⟩:QM)⟩:Ql)]:List Ql)>>=fun v9 =>
  Qz q1>>=fun v10 =>
  some (v9,v10,(q3.length:Int))
 )
def Ja:(ByteArray × (List Int) × (List Int) × (List Ql))→((List Ql) × (List Int) × Int)→Prop:=fun x r=>match x with
 | (q0,q1,q2,q3)=>PCX prog env 56 [(.ptr 2 0),(.dat (.agg [(strD q0),(.lst ((List.map Qa) q1)),(.lst ((List.map Qa) q2))]))] [(.box [(Qc 0),(.dat (.lst ((List.map Qa) []))),(Qc 0),(.dat (.lst ((List.map Qa) []))),(Qc 0),(Qc 0),(.dat (.lst ((List.map Qa) []))),(.dat (.lst (Qi.toDs []))),(.dat (.lst ((List.map Ql.toD) [])))]),(.tok 59 q3.length),(.box [(.dat (.raw (.pointer none))),(.vec 1 ((List.map Ql.toD) q3))])] (match r with|(v5001,v5002,v5003)=>(.dat (.agg [(Qa 1),(.lst ((List.map Qa) v5002)),(Qa v5003),(.lst ((List.map Qa) [])),(Qa 0),(Qa 0),(.lst ((List.map Qa) [])),(.lst (Qi.toDs []))]))) (match r with|(v5001,v5002,v5003)=>[(.box [(Qc 0),(.dat (.lst ((List.map Qa) []))),(Qc 0),(.dat (.lst ((List.map Qa) []))),(Qc 0),(Qc 0),(.dat (.lst ((List.map Qa) []))),(.dat (.lst (Qi.toDs []))),(.dat (.lst ((List.map Ql.toD) [])))]),(.tok 59 v5001.length),(.box [(.dat (.raw (.pointer none))),(.vec 1 ((List.map Ql.toD) v5001))])])
theorem QcU:∀ x r,Z9 x=some r→Ja x r:=by
 intro x r hm
 unfold Z9 at hm
 unfold Ja
 obtain ⟨q0,q1,q2,q3⟩:=x
 refine PCX_sxB (fn:=f56) rfl ?_
 refine Qd (R_G (Qb 2 (Qe (Qd (R_G (Qb 5 ?_))))))
 obtain ⟨out,hx,hm⟩:=Qg hm
 rcases out with ⟨v1,v2,v3,v4⟩|_
 ·have hq:=Yp _ _ hx
  dsimp only [Q9] at hq
  refine Zh hq ?_
  refine Qb 1 (Qe (Qd (Qd (R_G (Qb 2 (Qe ?_))))))
  obtain ⟨⟨v5,v6⟩,hs,hm⟩:=Qg hm
  refine Zy (fun d=>⟨sl d 35 [(3,(.iptr [(strD q0),(.lst ((List.map Qa) q1)),(.lst ((List.map Qa) q2))])),(4,(.ptr 3 0)),(5,(Qc v6))],[(.box [(Qc 0),(.dat (.lst ((List.map Qa) []))),(Qc 0),(.dat (.lst ((List.map Qa) []))),(Qc 0),(Qc 0),(.dat (.lst ((List.map Qa) []))),(.dat (.lst (Qi.toDs []))),(.dat (.lst ((List.map Ql.toD) [])))]),(.tok 59 v5.length),(.box [(.dat (.raw (.pointer none))),(.vec 1 ((List.map Ql.toD) v5))]),(.box [(Qc 0),(.dat (.lst ((List.map Qa) []))),(Qc 0),(.dat (.lst ((List.map Qa) []))),(Qc 0),(Qc 0),(.dat (.lst ((List.map Qa) []))),(.dat (.lst (Qi.toDs [])))]),(.box [(.dat (strD v1)),(.dat (.lst ((List.map Qa) v2))),(.dat (.lst ((List.map Qa) v3)))])]⟩) ?_ (fun d=>?_)
  ·replace hm:=hs
   clear hs
   refine Qx hm (rfl) (fun hm=>?_) (fun hm=>?_)
   ·refine Qd (R_G (Qb 4 ?_))
    refine QO Ql.toD q3 (es:=(List.map Ql.toD) q3) rfl ?_
    refine Qb 1 (Qe ?_)
    refine QaK ?_
    refine Qb 7 ?_
    obtain ⟨v7,hx,hm⟩:=Qg hm
    refine X8 59 3 64 1 Ql.toD q3 ([(⟨q0,(⟨q1,q2⟩:QM)⟩:Ql)]:List Ql) v7 (xs:=(List.map Ql.toD) q3) (es:=(List.map Ql.toD) ([(⟨q0,(⟨q1,q2⟩:QM)⟩:Ql)]:List Ql)) (L:=(List.map Ql.toD)) (fun _=>rfl) rfl rfl Ql.fit hx ?_
    refine Qb 3 ?_
    refine Qe ⟨by kernel_rfl,?_⟩
    obtain ⟨rfl,rfl⟩:=QU hm
    exact Qm
   refine Qo ?_
   obtain ⟨rfl,rfl⟩:=QU hm
   exact Qm
  clear hs
  refine Qd (R_G (Qb 3 ?_))
  obtain ⟨v8,hx,hm⟩:=Qg hm
  have hq:=QG _ _ hx
  dsimp only [QB] at hq
  refine ZD (v:=.dat (.lst ((List.map Qa) v8))) rfl (fun _=>Qdq (f:=28) (first:=#[]) (cap:=#[]) (e:=3) (ow':=[]) (ds:=[.lst ((List.map Qa) q1)]) rfl (by kernel_rfl) (by kernel_rfl) (by kernel_rfl) (by kernel_rfl) hq (p1_ms (pc_ms (e:=3) Qa v8 rfl (fun _=>rfl) (by kernel_rfl)))) ?_
  refine Qb 3 (Qe (Qr ?_))
  obtain rfl:=Qu hm
  exact ⟨trivial,fin_bodyX 3 (by kernel_rfl) (by kernel_rfl)⟩
 ·have hq:=Yp _ _ hx
  dsimp only [Q9] at hq
  refine Zh hq ?_
  refine Qb 1 (Qe (Qd (Qd (R_G (Qb 2 (Qe ?_))))))
  refine QaZ (by kernel_rfl) ?_
  refine Qd (R_G (Qb 4 ?_))
  refine QO Ql.toD q3 (es:=(List.map Ql.toD) q3) rfl ?_
  refine Qb 1 (Qe ?_)
  refine QaK ?_
  refine Qb 7 ?_
  obtain ⟨v9,hx,hm⟩:=Qg hm
  refine X8 59 3 64 1 Ql.toD q3 ([(⟨q0,(⟨q1,q2⟩:QM)⟩:Ql)]:List Ql) v9 (xs:=(List.map Ql.toD) q3) (es:=(List.map Ql.toD) ([(⟨q0,(⟨q1,q2⟩:QM)⟩:Ql)]:List Ql)) (L:=(List.map Ql.toD)) (fun _=>rfl) rfl rfl Ql.fit hx ?_
  refine Qb 3 ?_
  refine Qe ⟨by kernel_rfl,?_⟩
  refine Qd (R_G (Qb 3 ?_))
  obtain ⟨v10,hx,hm⟩:=Qg hm
  have hq:=QG _ _ hx
  dsimp only [QB] at hq
  refine ZD (v:=.dat (.lst ((List.map Qa) v10))) rfl (fun _=>Qdq (f:=28) (first:=#[]) (cap:=#[]) (e:=3) (ow':=[]) (ds:=[.lst ((List.map Qa) q1)]) rfl (by kernel_rfl) (by kernel_rfl) (by kernel_rfl) (by kernel_rfl) hq (p1_ms (pc_ms (e:=3) Qa v10 rfl (fun _=>rfl) (by kernel_rfl)))) ?_
  refine Qb 3 (Qe (Qr ?_))
  obtain rfl:=Qu hm
  exact ⟨trivial,fin_bodyX 3 (by kernel_rfl) (by kernel_rfl)⟩
def JK (x:ByteArray):Option (Unit) :=
 match x with
 | q0 =>
 some ()
def JH:ByteArray→Unit→Prop:=fun x r=>match x with
 | q0=>PCX prog env 94 [(.dat (.raw (.pointer none))),(.dat (strD q0))] [] (match r with|_=>(.tup [(.dat (.agg [(.lst ((List.map Qa) [])),(.lst ((List.map Qa) []))])),(Qs false)])) (match r with|_=>[])
theorem Qdn:∀ x r,JK x=some r→JH x r:=by
 intro q0 r hm
 unfold JK at hm
 unfold JH
 refine PCX_sxB (fn:=f94) rfl ?_
 refine Qd (R_G (Qb 2 (Qe (Qd (Qd (R_G (Qb 2 (Qe ?_))))))))
 refine QaZ (by kernel_rfl) ?_
 refine Qd (R_G (Qb 3 (Qe (Qr ?_))))
 obtain rfl:=Qu hm
 exact ⟨trivial,fin_bodyX 0 (by kernel_rfl) (by kernel_rfl)⟩
def X0 (x:ByteArray):Option (Unit) :=
 match x with
 | q0 =>
 JK q0>>=fun (_:Unit) =>
 some ()
def XY:ByteArray→Unit→Prop:=fun x r=>match x with
 | q0=>PCX prog env 57 [(.dat (.raw (.pointer none))),(.dat (strD q0))] [] (match r with|_=>(.tup [(.dat (.agg [(.lst ((List.map Qa) [])),(.lst ((List.map Qa) []))])),(Qs false)])) (match r with|_=>[])
theorem QbS:∀ x r,X0 x=some r→XY x r:=by
 intro q0 r hm
 unfold X0 at hm
 unfold XY
 refine PCX_sxB (fn:=f57) rfl ?_
 refine Qd (R_G (Qb 2 (Qe (Qd (R_G (Qb 2 ?_))))))
 obtain ⟨_,hx,hm⟩:=Qg hm
 have hq:=Qdn _ _ hx
 dsimp only [JH] at hq
 refine Qbr (n:=0) hq ?_
 refine Qb 6 (Qe (Qd (Qd (R_G (Qb 2 (Qe ?_))))))
 refine QaZ (by kernel_rfl) ?_
 refine Qd (R_G (Qb 3 (Qe (Qr ?_))))
 obtain rfl:=Qu hm
 exact ⟨trivial,fin_bodyX 0 (by kernel_rfl) (by kernel_rfl)⟩
def ZJ (x:(Int × Int × Int × ByteArray × (List Int) × (List Qf) × (List Ql))):Option (((List Ql) × Int × (List Int) × Int × Int)) :=
 match x with
 | (q0,q1,q2,q3,q4,q5,q6) =>
 if q0=1 then
  Qbe q4>>=fun (v1:QM) =>
  (if (q4.length:Int)=1 then
   idx q4 0>>=fun v4 =>
   Qbd v4>>=fun (v5:QM) =>
   some (v5.shape,v5.data)
  else
  some (v1.shape,v1.data)
  )>>=fun ((v2,v3):((List Int) × (List Int))) =>
  JB (⟨v2,v3⟩:QM)>>=fun (v6:Int) =>
  if v6≠0 then
   some (q6,0,([]:List Int),0,v6)
  else
  Z9 (ByteArray.empty,v2,v3,q6)>>=fun ((v7,v8,v9):((List Ql) × (List Int) × Int)) =>
  some (v7,1,v8,v9,0)
 else
 X0 q3>>=fun (_:Unit) =>
 some (q6,0,([]:List Int),0,2)
def X9:(Int × Int × Int × ByteArray × (List Int) × (List Qf) × (List Ql))→((List Ql) × Int × (List Int) × Int × Int)→Prop:=fun x r=>match x with
 | (q0,q1,q2,q3,q4,q5,q6)=>PCX prog env 33 [(.ptr 2 0),(.dat (.agg [(Qa q0),(Qa q1),(Qa q2),(strD q3),(.lst ((List.map Qa) q4)),(.lst (Qf.toDs q5))]))] [(.box [(Qc 0),(.dat (.lst ((List.map Qa) []))),(Qc 0),(.dat (.lst ((List.map Qa) []))),(Qc 0),(Qc 0),(.dat (.lst ((List.map Qa) []))),(.dat (.lst (Qi.toDs []))),(.dat (.lst ((List.map Ql.toD) [])))]),(.tok 59 q6.length),(.box [(.dat (.raw (.pointer none))),(.vec 1 ((List.map Ql.toD) q6))])] (match r with|(v5001,v5002,v5003,v5004,v5005)=>(.tup [(.dat (.agg [(Qa v5002),(.lst ((List.map Qa) v5003)),(Qa v5004),(.lst ((List.map Qa) [])),(Qa 0),(Qa 0),(.lst ((List.map Qa) [])),(.lst (Qi.toDs []))])),(Qc v5005)])) (match r with|(v5001,v5002,v5003,v5004,v5005)=>[(.box [(Qc 0),(.dat (.lst ((List.map Qa) []))),(Qc 0),(.dat (.lst ((List.map Qa) []))),(Qc 0),(Qc 0),(.dat (.lst ((List.map Qa) []))),(.dat (.lst (Qi.toDs []))),(.dat (.lst ((List.map Ql.toD) [])))]),(.tok 59 v5001.length),(.box [(.dat (.raw (.pointer none))),(.vec 1 ((List.map Ql.toD) v5001))])])
theorem QcT:∀ x r,ZJ x=some r→X9 x r:=by
 intro x r hm
 unfold ZJ at hm
 unfold X9
 obtain ⟨q0,q1,q2,q3,q4,q5,q6⟩:=x
 refine PCX_sxB (fn:=f33) rfl ?_
 refine Qd (R_G (Qb 3 (Qe (Qd (Qd (R_G (Qb 3 (Qe ?_))))))))
 refine Qx hm (Q1 _ _) (fun hm=>?_) (fun hm=>?_)
 ·refine Qd (R_G (Qb 2 ?_))
  obtain ⟨v1,hx,hm⟩:=Qg hm
  have hq:=Qfu _ _ hx []
  refine Qp hq ?_
  refine Qb 2 (Qe (Qd (Qd (R_G (Qb 2 ?_)))))
  refine QO Qa q4 (es:=(List.map Qa) q4) rfl ?_
  refine Qb 1 (Qe ?_)
  obtain ⟨⟨v2,v3⟩,hs,hm⟩:=Qg hm
  refine Zy (fun d=>⟨sl d 54 [(0,(.ptr 2 0)),(4,(.ptr 3 0)),(6,(.ptr 4 0))],[(.box [(Qc 0),(.dat (.lst ((List.map Qa) []))),(Qc 0),(.dat (.lst ((List.map Qa) []))),(Qc 0),(Qc 0),(.dat (.lst ((List.map Qa) []))),(.dat (.lst (Qi.toDs []))),(.dat (.lst ((List.map Ql.toD) [])))]),(.tok 59 q6.length),(.box [(.dat (.raw (.pointer none))),(.vec 1 ((List.map Ql.toD) q6))]),(.box [(Qc 0),(.dat (.lst ((List.map Qa) []))),(Qc 0),(.dat (.lst ((List.map Qa) []))),(Qc 0),(Qc 0),(.dat (.lst ((List.map Qa) []))),(.dat (.lst (Qi.toDs [])))]),(.box [(.dat (.lst ((List.map Qa) v2))),(.dat (.lst ((List.map Qa) v3)))])]⟩) ?_ (fun d=>?_)
  ·replace hm:=hs
   clear hs
   refine Qx hm (Q1 _ _) (fun hm=>?_) (fun hm=>?_)
   ·refine R_G (Qb 2 ?_)
    refine Q3 1 Qa hm rfl (fun _=>rfl) (fun v4 hm=>?_)
    refine Qb 1 ?_
    obtain ⟨v5,hx,hm⟩:=Qg hm
    have hq:=Qft _ _ hx []
    refine Qp hq ?_
    refine Qb 1 (Qe ?_)
    obtain ⟨rfl,rfl⟩:=QU hm
    exact Qm
   refine Qo ?_
   obtain ⟨rfl,rfl⟩:=QU hm
   exact Qm
  clear hs
  refine Qd (Qd (R_G (Qb 1 ?_)))
  obtain ⟨v6,hx,hm⟩:=Qg hm
  have hq:=QfF _ _ hx []
  refine Qp hq ?_
  refine Qb 1 (Qe (Qd (R_G (Qb 2 (Qe ?_)))))
  refine Qx hm (ne_dec _ _) (fun hm=>?_) (fun hm=>?_)
  ·refine Qd (R_G (Qb 4 (Qe (Qr ?_))))
   obtain rfl:=Qu hm
   exact ⟨trivial,fin_bodyX 3 (by kernel_rfl) (by kernel_rfl)⟩
  refine Qo (Qd (R_G (Qb 3 ?_)))
  obtain ⟨⟨v7,v8,v9⟩,hx,hm⟩:=Qg hm
  have hq:=QcU _ _ hx
  dsimp only [Ja] at hq
  refine Qbr (n:=3) hq ?_
  refine Qb 2 (Qe (Qr ?_))
  obtain rfl:=Qu hm
  exact ⟨trivial,fin_bodyX 3 (by kernel_rfl) (by kernel_rfl)⟩
 refine Qo (Qd ?_)
 refine QaK ?_
 refine Qb 6 ?_
 obtain ⟨_,hx,hm⟩:=Qg hm
 have hq:=QbS _ _ hx
 dsimp only [XY] at hq
 refine Qgq (n:=0) hq ?_
 refine Qb 6 ?_
 refine Qe ⟨by kernel_rfl,?_⟩
 refine Qd (Qd (R_G (Qb 2 (Qe ?_))))
 refine QaZ (by kernel_rfl) ?_
 refine Qd (R_G (Qb 3 (Qe (Qr ?_))))
 obtain rfl:=Qu hm
 exact ⟨trivial,fin_bodyX 3 (by kernel_rfl) (by kernel_rfl)⟩
def JF (x:(Int × (List Int))):Option (Int × Int) :=
 match x with
 | (p0,p1) =>
 if p0=(-1) then
  some ((W ((p1.length:Int) - 1)),0)
 else
 if p0≥(p1.length:Int) then
  some (0,4)
 else
 some (p0,0)
def Qeh:(Int × (List Int))→(Int × Int)→Prop:=fun x r=>match x,r with
 | (p0,p1),(r0,r1)=>∀ H,PC prog env 95 ([(Qa p0),(.lst ((List.map Qa) p1))].map .dat) H (.tup [(Qc r0),(Qc r1)]) H
theorem Qes:∀ x r,JF x=some r→Qeh x r:=by
 intro x r hm
 unfold JF at hm
 unfold Qeh
 obtain ⟨p0,p1⟩:=x
 obtain ⟨r0,r1⟩:=r
 intro H
 refine PC_sx (ds:=[(Qa p0),(.lst ((List.map Qa) p1))]) (fn:=f95) rfl ?_
 refine Qd (R_G (Qb 2 (Qe (Qd (Qw (Qd (R_G (Qb 3 (Qe ?_)))))))))
 refine Qx hm (Q1 _ _) (fun hm=>?_) (fun hm=>?_)
 ·refine Qd (R_G (Qb 1 ?_))
  refine QO Qa p1 (es:=(List.map Qa) p1) rfl ?_
  refine Qb 3 (Qe (Qr ?_))
  obtain ⟨rfl,rfl⟩:=QU hm
  exact ⟨trivial,Qk⟩
 refine Qd (R_G (Qb 2 ?_))
 refine QO Qa p1 (es:=(List.map Qa) p1) rfl ?_
 refine Qb 2 (Qe ?_)
 refine Qx hm (rfl) (fun hm=>?_) (fun hm=>?_)
 ·refine Qd (R_G (Qb 2 (Qe (Qr ?_))))
  obtain ⟨rfl,rfl⟩:=QU hm
  exact ⟨trivial,Qk⟩
 refine Qo (Qd (R_G (Qb 3 (Qe (Qr ?_)))))
 obtain ⟨rfl,rfl⟩:=QU hm
 exact ⟨trivial,Qk⟩
def Zt (x:Int):Option (Qn × Int) :=
 match x with
 | p0 =>
 some ((⟨([]:(List Int)),([]:(List Int)),([]:(List Int)),([]:(List Int)),0,0,([]:(List Int))⟩:Qn),p0)
def Qei:Int→(Qn × Int)→Prop:=fun x r=>match x,r with
 | p0,(r0,r1)=>∀ H,PC prog env 96 ([(Qa p0)].map .dat) H (.tup [(.dat (Qn.toD r0)),(Qc r1)]) H
theorem ZX:∀ x r,Zt x=some r→Qei x r:=by
 intro p0 r hm
 unfold Zt at hm
 unfold Qei
 obtain ⟨r0,r1⟩:=r
 intro H
 refine PC_sx (ds:=[(Qa p0)]) (fn:=f96) rfl ?_
 refine Qd (R_G (Qb 2 (Qe (Qd (R_G (Qb 4 (Qe (Qr ?_))))))))
 obtain ⟨rfl,rfl⟩:=QU hm
 exact ⟨trivial,Qk⟩
def YO (x:(Int × Int)):Option (Int × Int) :=
 match x with
 | (p0,p1) =>
 some (p0,p1)
def QeN:(Int × Int)→(Int × Int)→Prop:=fun x r=>match x,r with
 | (p0,p1),(v5001,v5002)=>∀ H,PC prog env 98 ([(Qa p0),(Qa p1)].map .dat) H (.fn 123 [(.iptr [(Qa v5001)]),(.iptr [(Qa v5002)])]) H
theorem Qc2:∀ x r,YO x=some r→QeN x r:=by
 intro x r hm
 unfold YO at hm
 unfold QeN
 obtain ⟨p0,p1⟩:=x
 obtain ⟨v5001,v5002⟩:=r
 intro H
 refine PC_sx (ds:=[(Qa p0),(Qa p1)]) (fn:=f98) rfl ?_
 refine Qd (R_G (Qb 3 (Qe (Qd (R_G (Qb 2 (Qe (Qr ?_))))))))
 obtain ⟨rfl,rfl⟩:=QU hm
 exact ⟨trivial,Qk⟩
def Qag (x:(Int × Int × (List Int) × (List Int))):Option (Unit) :=
 match x with
 | (q0,q1,q2,q3) =>
 some ()
def J8:(Int × Int × (List Int) × (List Int))→Unit→Prop:=fun x r=>match x with
 | (q0,q1,q2,q3)=>PC prog env 123 [(.ptr 5 0),(.iptr [(Qa q0)]),(.iptr [(Qa q1)])] [(.box [(.dat (.lst ((List.map Qa) []))),(.dat (.lst ((List.map Qa) []))),(.dat (.lst ((List.map Qa) []))),(.dat (.lst ((List.map Qa) []))),(Qc 0),(Qc 0),(.dat (.lst ((List.map Qa) [])))]),(.box [(.fn 123 [(.iptr [(Qa q0)]),(.iptr [(Qa q1)])])]),(.box [(.dat (.lst ((List.map Qa) []))),(.dat (.lst ((List.map Qa) []))),(.dat (.lst ((List.map Qa) []))),(.dat (.lst ((List.map Qa) []))),(Qc 0),(Qc 0),(.dat (.lst ((List.map Qa) [])))]),(.mt 3 1 (cellsOf Qa q2)),(.mt 3 1 (cellsOf Qa q3)),(.box [(.dat (.lst ((List.map Qa) []))),(.ms 3 1 0 q2.length q2.length),(.ms 4 1 0 q3.length q3.length),(.dat (.lst ((List.map Qa) []))),(Qc (-1)),(Qc 0),(.dat (.lst ((List.map Qa) [])))])] (match r with|_=>(.tup [])) (match r with|_=>[(.box [(.dat (.lst ((List.map Qa) []))),(.dat (.lst ((List.map Qa) []))),(.dat (.lst ((List.map Qa) []))),(.dat (.lst ((List.map Qa) []))),(Qc 0),(Qc 0),(.dat (.lst ((List.map Qa) [])))]),(.box [(.fn 123 [(.iptr [(Qa q0)]),(.iptr [(Qa q1)])])]),(.box [(.dat (.lst ((List.map Qa) []))),(.dat (.lst ((List.map Qa) []))),(.dat (.lst ((List.map Qa) []))),(.dat (.lst ((List.map Qa) []))),(Qc 0),(Qc 0),(.dat (.lst ((List.map Qa) [])))]),(.mt 3 1 (cellsOf Qa q2)),(.mt 3 1 (cellsOf Qa q3)),(.box [(.dat (.lst ((List.map Qa) []))),(.ms 3 1 0 q2.length q2.length),(.ms 4 1 0 q3.length q3.length),(.dat (.lst ((List.map Qa) []))),(Qc q0),(Qc q1),(.dat (.lst ((List.map Qa) [])))])])
theorem QdU:∀ x r,Qag x=some r→J8 x r:=by
 intro x r hm
 unfold Qag at hm
 unfold J8
 obtain ⟨q0,q1,q2,q3⟩:=x
 refine PC_sxB (fn:=f123) rfl ?_
 refine QaK ?_
 refine Qb 10 ?_
 refine Qe ⟨by kernel_rfl,?_⟩
 obtain rfl:=Qu hm
 exact ⟨trivial,QY (by kernel_rfl) (by kernel_rfl)⟩
def XL (x:((List Int) × Int × Int)):Option (Int ⊕ ((List Int) × (List Int))) :=
 match x with
 | (q0,q1,q2) =>
 Zp q0>>=fun (v1:Int) =>
 if v1≠0 then
  some (Sum.inl v1)
 else
 Qz q0>>=fun v2 =>
 Qz q0>>=fun v3 =>
 Qag (q1,q2,v2,v3)>>=fun (_:Unit) =>
 some (Sum.inr (v2,v3))
def JL:((List Int) × Int × Int)→(Int ⊕ ((List Int) × (List Int)))→Prop:=fun x r=>match x with
 | (q0,q1,q2)=>PC prog env 97 [(.dat (.lst ((List.map Qa) q0))),(.dat (.lst ((List.map Qa) q0))),(.arr 1 0 1 1)] [(.box [(.dat (.lst ((List.map Qa) []))),(.dat (.lst ((List.map Qa) []))),(.dat (.lst ((List.map Qa) []))),(.dat (.lst ((List.map Qa) []))),(Qc 0),(Qc 0),(.dat (.lst ((List.map Qa) [])))]),(.box [(.fn 123 [(.iptr [(Qa q1)]),(.iptr [(Qa q2)])])])] (match r with|.inl v5001=>(.tup [(.dat (.agg [(.lst ((List.map Qa) [])),(.lst ((List.map Qa) [])),(.lst ((List.map Qa) [])),(.lst ((List.map Qa) [])),(Qa 0),(Qa 0),(.lst ((List.map Qa) []))])),(Qc v5001)])|.inr ((v5002,v5003))=>(.tup [(.agg [(.dat (.lst ((List.map Qa) []))),(.ms 3 1 0 v5002.length v5002.length),(.ms 4 1 0 v5003.length v5003.length),(.dat (.lst ((List.map Qa) []))),(Qc q1),(Qc q2),(.dat (.lst ((List.map Qa) [])))]),(Qc 0)])) (match r with|.inl v5001=>[(.box [(.dat (.lst ((List.map Qa) []))),(.dat (.lst ((List.map Qa) []))),(.dat (.lst ((List.map Qa) []))),(.dat (.lst ((List.map Qa) []))),(Qc 0),(Qc 0),(.dat (.lst ((List.map Qa) [])))]),(.box [(.fn 123 [(.iptr [(Qa q1)]),(.iptr [(Qa q2)])])]),(.box [(.dat (.lst ((List.map Qa) []))),(.dat (.lst ((List.map Qa) []))),(.dat (.lst ((List.map Qa) []))),(.dat (.lst ((List.map Qa) []))),(Qc 0),(Qc 0),(.dat (.lst ((List.map Qa) [])))])]|.inr ((v5002,v5003))=>[(.box [(.dat (.lst ((List.map Qa) []))),(.dat (.lst ((List.map Qa) []))),(.dat (.lst ((List.map Qa) []))),(.dat (.lst ((List.map Qa) []))),(Qc 0),(Qc 0),(.dat (.lst ((List.map Qa) [])))]),(.box [(.fn 123 [(.iptr [(Qa q1)]),(.iptr [(Qa q2)])])]),(.box [(.dat (.lst ((List.map Qa) []))),(.ms 3 1 0 v5002.length v5002.length),(.ms 4 1 0 v5003.length v5003.length),(.dat (.lst ((List.map Qa) []))),(Qc q1),(Qc q2),(.dat (.lst ((List.map Qa) [])))]),(.mt 3 1 (cellsOf Qa v5002)),(.mt 3 1 (cellsOf Qa v5003)),(.box [(.dat (.lst ((List.map Qa) []))),(.ms 3 1 0 v5002.length v5002.length),(.ms 4 1 0 v5003.length v5003.length),(.dat (.lst ((List.map Qa) []))),(Qc q1),(Qc q2),(.dat (.lst ((List.map Qa) [])))])])
theorem Qct:∀ x r,XL x=some r→JL x r:=by
 intro x r hm
 unfold XL at hm
 unfold JL
 obtain ⟨q0,q1,q2⟩:=x
 refine PC_sxB (fn:=f97) rfl ?_
 refine Qd (R_G (Qb 2 (Qe (Qd (Qd (R_G (Qb 1 ?_)))))))
 obtain ⟨v1,hx,hm⟩:=Qg hm
 have hq:=ZY _ _ hx []
 refine Qp hq ?_
 refine Qb 1 (Qe (Qd (R_G (Qb 2 (Qe ?_)))))
 refine Qx hm (ne_dec _ _) (fun hm=>?_) (fun hm=>?_)
 ·refine Qd (R_G (Qb 4 (Qe (Qr ?_))))
  obtain rfl:=Qu hm
  exact ⟨trivial,QY (by kernel_rfl) (by kernel_rfl)⟩
 refine Qo (Qd (R_G (Qb 1 ?_)))
 obtain ⟨v2,hx,hm⟩:=Qg hm
 have hq:=QG _ _ hx
 dsimp only [QB] at hq
 have hl9:mtOf [Blk.mt 3 (cgm_slices_Clone_int_int v2) (cellsOf Qa v2)] 0=some (3,cgm_slices_Clone_int_int v2,cellsOf Qa v2):=ZS (by kernel_rfl)
 refine Yb (v:=.ms 3 1 0 v2.length v2.length) (fun H=>H++[.mt 3 1 (cellsOf Qa v2)]) rfl (by kernel_rfl) ?_ ?_
 ·intro K hk
  refine Zz 3 (first:=#[]) (cap:=#[]) (j:=(0,3)) (ow':=[]) (f0:=Qa) (l:=v2) rfl ?_ ?_ ?_ (ds:=[.lst ((List.map Qa) q0)]) ?_ hq hl9 ?_ ?_ ?_
  ·kernel_rfl
  ·kernel_rfl
  ·kernel_rfl
  ·kernel_rfl
  ·exact hk
  ·kernel_rfl
  ·decide
 refine Qb 1 ?_
 obtain ⟨v3,hx,hm⟩:=Qg hm
 have hq:=QG _ _ hx
 dsimp only [QB] at hq
 have hl9:mtOf [Blk.mt 3 (cgm_slices_Clone_int_int v3) (cellsOf Qa v3)] 0=some (3,cgm_slices_Clone_int_int v3,cellsOf Qa v3):=ZS (by kernel_rfl)
 refine Yb (v:=.ms 4 1 0 v3.length v3.length) (fun H=>H++[.mt 3 1 (cellsOf Qa v3)]) rfl (by kernel_rfl) ?_ ?_
 ·intro K hk
  refine Zz 4 (first:=#[]) (cap:=#[]) (j:=(0,3)) (ow':=[]) (f0:=Qa) (l:=v3) rfl ?_ ?_ ?_ (ds:=[.lst ((List.map Qa) q0)]) ?_ hq hl9 ?_ ?_ ?_
  ·kernel_rfl
  ·kernel_rfl
  ·kernel_rfl
  ·kernel_rfl
  ·exact hk
  ·kernel_rfl
  ·decide
 refine Qb 3 (Qe (Qd (Qd (R_G (Qb 1 (Qb 1 (Qb 1 (Qe (Qw ?_)))))))))
 refine Ze ?_
 refine RL_at (st':=⟨kp 33 [(6,(.ptr 2 0)),(9,(.ptr 5 0)),(23,(.arr 1 0 1 1)),(24,(Qc 1)),(25,(Qc 0))],[(.box [(.dat (.lst ((List.map Qa) []))),(.dat (.lst ((List.map Qa) []))),(.dat (.lst ((List.map Qa) []))),(.dat (.lst ((List.map Qa) []))),(Qc 0),(Qc 0),(.dat (.lst ((List.map Qa) [])))]),(.box [(.fn 123 [(.iptr [(Qa q1)]),(.iptr [(Qa q2)])])]),(.box [(.dat (.lst ((List.map Qa) []))),(.dat (.lst ((List.map Qa) []))),(.dat (.lst ((List.map Qa) []))),(.dat (.lst ((List.map Qa) []))),(Qc 0),(Qc 0),(.dat (.lst ((List.map Qa) [])))]),(.mt 3 1 (cellsOf Qa v2)),(.mt 3 1 (cellsOf Qa v3)),(.box [(.dat (.lst ((List.map Qa) []))),(.ms 3 1 0 v2.length v2.length),(.ms 4 1 0 v3.length v3.length),(.dat (.lst ((List.map Qa) []))),(Qc (-1)),(Qc 0),(.dat (.lst ((List.map Qa) [])))])]⟩) (prune_of2 [(.box [(.dat (.lst ((List.map Qa) []))),(.dat (.lst ((List.map Qa) []))),(.dat (.lst ((List.map Qa) []))),(.dat (.lst ((List.map Qa) []))),(Qc 0),(Qc 0),(.dat (.lst ((List.map Qa) [])))]),(.box [(.fn 123 [(.iptr [(Qa q1)]),(.iptr [(Qa q2)])])]),(.box [(.dat (.lst ((List.map Qa) []))),(.dat (.lst ((List.map Qa) []))),(.dat (.lst ((List.map Qa) []))),(.dat (.lst ((List.map Qa) []))),(Qc 0),(Qc 0),(.dat (.lst ((List.map Qa) [])))]),(.mt 3 1 (cellsOf Qa v2)),(.mt 3 1 (cellsOf Qa v3)),(.box [(.dat (.lst ((List.map Qa) []))),(.ms 3 1 0 v2.length v2.length),(.ms 4 1 0 v3.length v3.length),(.dat (.lst ((List.map Qa) []))),(Qc (-1)),(Qc 0),(.dat (.lst ((List.map Qa) [])))])] (fun _=>(pg_cons (by kernel_rfl) (pg_cons (by kernel_rfl) (pg_cons (by kernel_rfl) (pg_cons (purge_mt Qa _ _ _ _ _) (pg_cons (purge_mt Qa _ _ _ _ _) (pg_cons (by kernel_rfl) pg_nil))))))) rfl) ?_
 refine Qd (R_G (Qb 1 (Qe (Qd ?_))))
 refine QaZ (by kernel_rfl) ?_
 refine Qo (Qd (Qw (Qd (R_G (Qb 1 (Qb 2 (Qe (R_G (Qb 1 ?_)))))))))
 obtain ⟨_,hx,hm⟩:=Qg hm
 have hq:=QdU _ _ hx
 dsimp only [J8] at hq
 refine Zh hq ?_
 refine Qe (R_G (Qb 2 (Qe ?_)))
 refine RL_at (st':=⟨kp 33 [(6,(.ptr 2 0)),(9,(.ptr 5 0)),(23,(.arr 1 0 1 1)),(24,(Qc 1)),(25,(Qc 1))],[(.box [(.dat (.lst ((List.map Qa) []))),(.dat (.lst ((List.map Qa) []))),(.dat (.lst ((List.map Qa) []))),(.dat (.lst ((List.map Qa) []))),(Qc 0),(Qc 0),(.dat (.lst ((List.map Qa) [])))]),(.box [(.fn 123 [(.iptr [(Qa q1)]),(.iptr [(Qa q2)])])]),(.box [(.dat (.lst ((List.map Qa) []))),(.dat (.lst ((List.map Qa) []))),(.dat (.lst ((List.map Qa) []))),(.dat (.lst ((List.map Qa) []))),(Qc 0),(Qc 0),(.dat (.lst ((List.map Qa) [])))]),(.mt 3 1 (cellsOf Qa v2)),(.mt 3 1 (cellsOf Qa v3)),(.box [(.dat (.lst ((List.map Qa) []))),(.ms 3 1 0 v2.length v2.length),(.ms 4 1 0 v3.length v3.length),(.dat (.lst ((List.map Qa) []))),(Qc q1),(Qc q2),(.dat (.lst ((List.map Qa) [])))])]⟩) (prune_of2 [(.box [(.dat (.lst ((List.map Qa) []))),(.dat (.lst ((List.map Qa) []))),(.dat (.lst ((List.map Qa) []))),(.dat (.lst ((List.map Qa) []))),(Qc 0),(Qc 0),(.dat (.lst ((List.map Qa) [])))]),(.box [(.fn 123 [(.iptr [(Qa q1)]),(.iptr [(Qa q2)])])]),(.box [(.dat (.lst ((List.map Qa) []))),(.dat (.lst ((List.map Qa) []))),(.dat (.lst ((List.map Qa) []))),(.dat (.lst ((List.map Qa) []))),(Qc 0),(Qc 0),(.dat (.lst ((List.map Qa) [])))]),(.mt 3 1 (cellsOf Qa v2)),(.mt 3 1 (cellsOf Qa v3)),(.box [(.dat (.lst ((List.map Qa) []))),(.ms 3 1 0 v2.length v2.length),(.ms 4 1 0 v3.length v3.length),(.dat (.lst ((List.map Qa) []))),(Qc q1),(Qc q2),(.dat (.lst ((List.map Qa) [])))])] (fun _=>(pg_cons (by kernel_rfl) (pg_cons (by kernel_rfl) (pg_cons (by kernel_rfl) (pg_cons (purge_mt Qa _ _ _ _ _) (pg_cons (purge_mt Qa _ _ _ _ _) (pg_cons (by kernel_rfl) pg_nil))))))) rfl) ?_
 refine Qd (R_G (Qb 1 (Qe (Qd ?_))))
 refine Js (by kernel_rfl) ?_
 refine Q8 (Qd (R_G (Qb 3 (Qe (Qr ?_)))))
 obtain rfl:=Qu hm
 exact ⟨trivial,QY (by kernel_rfl) (by kernel_rfl)⟩
def Qae (x:(Int × (List Int))):Option (Qn × Int) :=
 match x with
 | (p0,p1) =>
 JF (p0,p1)>>=fun ((v1,v2):(Int × Int)) =>
 if v2≠0 then
  Zt v2>>=fun ((v3,v4):(Qn × Int)) =>
  some (v3,v4)
 else
 YO (v1,0)>>=fun ((v5,v6):(Int × Int)) =>
 (
 XL (p1,v5,v6)>>=fun (out:Int ⊕ ((List Int) × (List Int))) =>
 match out with
 | .inl v7 =>
  some ((⟨([]:(List Int)),([]:(List Int)),([]:(List Int)),([]:(List Int)),0,0,([]:(List Int))⟩:Qn),v7)
 | .inr ((v8,v9)) =>
  some ((⟨([]:(List Int)),v8,v9,([]:(List Int)),v5,v6,([]:(List Int))⟩:Qn),0)
 )
def QdD:(Int × (List Int))→(Qn × Int)→Prop:=fun x r=>match x,r with
 | (p0,p1),(r0,r1)=>∀ H,PC prog env 58 ([(Qa p0),(.lst ((List.map Qa) p1))].map .dat) H (.tup [(.dat (Qn.toD r0)),(Qc r1)]) H
theorem Qfx:∀ x r,Qae x=some r→QdD x r:=by
 intro x r hm
 unfold Qae at hm
 unfold QdD
 obtain ⟨p0,p1⟩:=x
 obtain ⟨r0,r1⟩:=r
 intro H
 refine PC_sx (ds:=[(Qa p0),(.lst ((List.map Qa) p1))]) (fn:=f58) rfl ?_
 refine Qd (R_G (Qb 2 (Qe (Qd (R_G (Qb 2 ?_))))))
 obtain ⟨⟨v1,v2⟩,hx,hm⟩:=Qg hm
 have hq:=Qes _ _ hx []
 refine Qp hq ?_
 refine Qb 5 (Qe (Qd (Qd (R_G (Qb 2 (Qe ?_))))))
 refine Qx hm (ne_dec _ _) (fun hm=>?_) (fun hm=>?_)
 ·refine Qd (R_G (Qb 1 ?_))
  obtain ⟨⟨v3,v4⟩,hx,hm⟩:=Qg hm
  have hq:=ZX _ _ hx []
  refine Qp hq ?_
  refine Qb 4 (Qe (Qr ?_))
  obtain ⟨rfl,rfl⟩:=QU hm
  exact ⟨trivial,Qk⟩
 refine Qo (Qd (R_G (Qb 3 ?_)))
 obtain ⟨⟨v5,v6⟩,hx,hm⟩:=Qg hm
 have hq:=Qc2 _ _ hx []
 refine Qp hq ?_
 refine Qb 1 ?_
 obtain ⟨out,hx,hm⟩:=Qg hm
 rcases out with v7|⟨v8,v9⟩
 ·have hq:=Qct _ _ hx
  dsimp only [JL] at hq
  refine Zh hq ?_
  refine Qb 4 (Qe (Qr ?_))
  obtain ⟨rfl,rfl⟩:=QU hm
  exact ⟨trivial,Qk⟩
 ·have hq:=Qct _ _ hx
  dsimp only [JL] at hq
  refine Zh hq ?_
  refine Qb 4 (Qe (Qr ?_))
  obtain ⟨rfl,rfl⟩:=QU hm
  exact ⟨trivial,Xl [(.agg [(.dat (.lst ((List.map Qa) []))),(.ms 3 1 0 v8.length v8.length),(.ms 4 1 0 v9.length v9.length),(.dat (.lst ((List.map Qa) []))),(Qc v5),(Qc v6),(.dat (.lst ((List.map Qa) [])))]),(Qc 0)] (by kernel_rfl) (po_tup (ps_cons (p1_agg (pc_cons (by kernel_rfl) (pc_cons (pc_ms (e:=3) Qa v8 rfl (fun _=>rfl) (by kernel_rfl)) (pc_cons (pc_ms (e:=3) Qa v9 rfl (fun _=>rfl) (by kernel_rfl)) (pc_cons (by kernel_rfl) (pc_cons (by kernel_rfl) (pc_cons (by kernel_rfl) (pc_cons (by kernel_rfl) pc_nil)))))))) (ps_cons (by kernel_rfl) ps_nil)))⟩
def JC (x:(Int × Qn × Qi)):Option Qi :=
 match x with
 | (p0,p1,p2) =>
 if p1.axis=(-1) then
  some p2
 else
 some (⟨p0,p1.shape,0,([]:(List Int)),p1.axis,p1.amount,([]:(List Int)),([(⟨p2.kind,p2.shape,p2.buffer,p2.starts,p2.axis,p2.amount,p2.perm,p2.kids⟩:Qi)]:(List Qi))⟩:Qi)
def Qd5:(Int × Qn × Qi)→Qi→Prop:=fun x r=>match x,r with
 | (p0,p1,p2),r0=>∀ H,PC prog env 59 ([(Qa p0),(Qn.toD p1),(Qi.ex p2)].map .dat) H (.dat (Qi.ex r0)) H
theorem Qeo:∀ x r,JC x=some r→Qd5 x r:=by
 intro x r0 hm
 unfold JC at hm
 unfold Qd5
 obtain ⟨p0,p1,p2⟩:=x
 intro H
 refine PC_sx (ds:=[(Qa p0),(Qn.toD p1),(Qi.ex p2)]) (fn:=f59) rfl ?_
 refine Qd (R_G (Qb 3 (Qe (Qd (Qd (R_G (Qb 3 (Qe ?_))))))))
 refine Qx hm (Q1 _ _) (fun hm=>?_) (fun hm=>?_)
 ·refine Qd (R_G (Qb 2 (Qe (Qr ?_))))
  obtain rfl:=Qu hm
  exact ⟨trivial,Qk⟩
 refine Qo (Qd (R_G (Qb 11 (Qe (Qr ?_)))))
 obtain rfl:=Qu hm
 exact ⟨trivial,Qk⟩
def Y2 (x:((List Int) × Nat × (List Int) × (List Int) × (List Int))):Option (Unit) :=
 match x with
 | (q0,q1,q2,q3,q4) =>
 some ()
def Jc:((List Int) × Nat × (List Int) × (List Int) × (List Int))→Unit→Prop:=fun x r=>match x with
 | (q0,q1,q2,q3,q4)=>PC prog env 124 [(.ptr 7 0),(.ptr 0 0)] [(.box [(.dat (.lst ((List.map Qa) q0)))]),(.box [(.dat (.lst ((List.map Qa) []))),(.dat (.lst ((List.map Qa) []))),(.dat (.lst ((List.map Qa) []))),(.dat (.lst ((List.map Qa) []))),(Qc 0),(Qc 0),(.dat (.lst ((List.map Qa) [])))]),(.mt 3 q1 (cellsOf Qa q2)),(.box [(.fn 124 [(.ptr 0 0)])]),(.box [(.dat (.lst ((List.map Qa) []))),(.dat (.lst ((List.map Qa) []))),(.dat (.lst ((List.map Qa) []))),(.dat (.lst ((List.map Qa) []))),(Qc 0),(Qc 0),(.dat (.lst ((List.map Qa) [])))]),(.mt 3 1 (cellsOf Qa q3)),(.mt 3 1 (cellsOf Qa q4)),(.box [(.dat (.lst ((List.map Qa) []))),(.ms 5 1 0 q3.length q3.length),(.ms 6 1 0 q4.length q4.length),(.dat (.lst ((List.map Qa) []))),(Qc (-1)),(Qc 0),(.dat (.lst ((List.map Qa) [])))])] (match r with|_=>(.tup [])) (match r with|_=>[(.box [(.dat (.lst ((List.map Qa) q0)))]),(.box [(.dat (.lst ((List.map Qa) []))),(.dat (.lst ((List.map Qa) []))),(.dat (.lst ((List.map Qa) []))),(.dat (.lst ((List.map Qa) []))),(Qc 0),(Qc 0),(.dat (.lst ((List.map Qa) [])))]),(.mt 3 q1 (cellsOf Qa q2)),(.box [(.fn 124 [(.ptr 0 0)])]),(.box [(.dat (.lst ((List.map Qa) []))),(.dat (.lst ((List.map Qa) []))),(.dat (.lst ((List.map Qa) []))),(.dat (.lst ((List.map Qa) []))),(Qc 0),(Qc 0),(.dat (.lst ((List.map Qa) [])))]),(.mt 3 1 (cellsOf Qa q3)),(.mt 3 1 (cellsOf Qa q4)),(.box [(.dat (.lst ((List.map Qa) []))),(.ms 5 1 0 q3.length q3.length),(.ms 6 1 0 q4.length q4.length),(.dat (.lst ((List.map Qa) []))),(Qc (-1)),(Qc 0),(.dat (.lst ((List.map Qa) q0)))])])
theorem QcX:∀ x r,Y2 x=some r→Jc x r:=by
 intro x r hm
 unfold Y2 at hm
 unfold Jc
 obtain ⟨q0,q1,q2,q3,q4⟩:=x
 refine PC_sxB (fn:=f124) rfl ?_
 refine R_G (Qb 5 (Qe ?_))
 obtain rfl:=Qu hm
 exact ⟨trivial,QY (by kernel_rfl) (by kernel_rfl)⟩
def JV (x:((List Int) × Nat × (List Int) × Nat × (List Int))):Option (Int ⊕ ((List Int) × (List Int))) :=
 match x with
 | (q0,q1,q2,q3,q4) =>
 Xb (q2.length=q3)>>=fun (_:Unit) =>
 Zp q2>>=fun (v2:Int) =>
 if v2≠0 then
  some (Sum.inl v2)
 else
 Qz q0>>=fun v3 =>
 Xb (q2.length=q3)>>=fun (_:Unit) =>
 Qz q2>>=fun v5 =>
 Y2 (q4,q1,q2,v3,v5)>>=fun (_:Unit) =>
 some (Sum.inr (v3,v5))
def JM:((List Int) × Nat × (List Int) × Nat × (List Int))→(Int ⊕ ((List Int) × (List Int)))→Prop:=fun x r=>match x with
 | (q0,q1,q2,q3,q4)=>PC prog env 97 [(.dat (.lst ((List.map Qa) q0))),(.ms 2 q1 0 q3 q3),(.arr 3 0 1 1)] [(.box [(.dat (.lst ((List.map Qa) q4)))]),(.box [(.dat (.lst ((List.map Qa) []))),(.dat (.lst ((List.map Qa) []))),(.dat (.lst ((List.map Qa) []))),(.dat (.lst ((List.map Qa) []))),(Qc 0),(Qc 0),(.dat (.lst ((List.map Qa) [])))]),(.mt 3 q1 (cellsOf Qa q2)),(.box [(.fn 124 [(.ptr 0 0)])])] (match r with|.inl v5001=>(.tup [(.dat (.agg [(.lst ((List.map Qa) [])),(.lst ((List.map Qa) [])),(.lst ((List.map Qa) [])),(.lst ((List.map Qa) [])),(Qa 0),(Qa 0),(.lst ((List.map Qa) []))])),(Qc v5001)])|.inr ((v5002,v5003))=>(.tup [(.agg [(.dat (.lst ((List.map Qa) []))),(.ms 5 1 0 v5002.length v5002.length),(.ms 6 1 0 v5003.length v5003.length),(.dat (.lst ((List.map Qa) []))),(Qc (-1)),(Qc 0),(.dat (.lst ((List.map Qa) q4)))]),(Qc 0)])) (match r with|.inl v5001=>[(.box [(.dat (.lst ((List.map Qa) q4)))]),(.box [(.dat (.lst ((List.map Qa) []))),(.dat (.lst ((List.map Qa) []))),(.dat (.lst ((List.map Qa) []))),(.dat (.lst ((List.map Qa) []))),(Qc 0),(Qc 0),(.dat (.lst ((List.map Qa) [])))]),(.mt 3 q1 (cellsOf Qa q2)),(.box [(.fn 124 [(.ptr 0 0)])]),(.box [(.dat (.lst ((List.map Qa) []))),(.dat (.lst ((List.map Qa) []))),(.dat (.lst ((List.map Qa) []))),(.dat (.lst ((List.map Qa) []))),(Qc 0),(Qc 0),(.dat (.lst ((List.map Qa) [])))])]|.inr ((v5002,v5003))=>[(.box [(.dat (.lst ((List.map Qa) q4)))]),(.box [(.dat (.lst ((List.map Qa) []))),(.dat (.lst ((List.map Qa) []))),(.dat (.lst ((List.map Qa) []))),(.dat (.lst ((List.map Qa) []))),(Qc 0),(Qc 0),(.dat (.lst ((List.map Qa) [])))]),(.mt 3 q1 (cellsOf Qa q2)),(.box [(.fn 124 [(.ptr 0 0)])]),(.box [(.dat (.lst ((List.map Qa) []))),(.ms 5 1 0 v5002.length v5002.length),(.ms 6 1 0 v5003.length v5003.length),(.dat (.lst ((List.map Qa) []))),(Qc (-1)),(Qc 0),(.dat (.lst ((List.map Qa) q4)))]),(.mt 3 1 (cellsOf Qa v5002)),(.mt 3 1 (cellsOf Qa v5003)),(.box [(.dat (.lst ((List.map Qa) []))),(.ms 5 1 0 v5002.length v5002.length),(.ms 6 1 0 v5003.length v5003.length),(.dat (.lst ((List.map Qa) []))),(Qc (-1)),(Qc 0),(.dat (.lst ((List.map Qa) q4)))])])
theorem Qcu:∀ x r,JV x=some r→JM x r:=by
 intro x r hm
 unfold JV at hm
 unfold JM
 obtain ⟨q0,q1,q2,q3,q4⟩:=x
 refine PC_sxB (fn:=f97) rfl ?_
 refine Qd (R_G (Qb 2 (Qe (Qd (Qd (R_G (Qb 1 ?_)))))))
 obtain ⟨_,hl1,hm⟩:=Qg hm
 replace hl1:=Xm hl1
 obtain ⟨v2,hx,hm⟩:=Qg hm
 have hq:=ZY _ _ hx []
 refine Qgp (args:=[(.ms 2 q1 0 q3 q3)]) hq (ps_cons (p1_ms (pc_ms (e:=3) Qa q2 hl1 (fun _=>rfl) (by kernel_rfl))) ps_nil) ?_
 refine Qb 1 (Qe (Qd (R_G (Qb 2 (Qe ?_)))))
 refine Qx hm (ne_dec _ _) (fun hm=>?_) (fun hm=>?_)
 ·refine Qd (R_G (Qb 4 (Qe (Qr ?_))))
  obtain rfl:=Qu hm
  exact ⟨trivial,QY (by kernel_rfl) (by kernel_rfl)⟩
 refine Qo (Qd (R_G (Qb 1 ?_)))
 obtain ⟨v3,hx,hm⟩:=Qg hm
 have hq:=QG _ _ hx
 dsimp only [QB] at hq
 have hl9:mtOf [Blk.mt 3 (cgm_slices_Clone_int_int v3) (cellsOf Qa v3)] 0=some (3,cgm_slices_Clone_int_int v3,cellsOf Qa v3):=ZS (by kernel_rfl)
 refine Yb (v:=.ms 5 1 0 v3.length v3.length) (fun H=>H++[.mt 3 1 (cellsOf Qa v3)]) rfl (by kernel_rfl) ?_ ?_
 ·intro K hk
  refine Zz 5 (first:=#[]) (cap:=#[]) (j:=(0,3)) (ow':=[]) (f0:=Qa) (l:=v3) rfl ?_ ?_ ?_ (ds:=[.lst ((List.map Qa) q0)]) ?_ hq hl9 ?_ ?_ ?_
  ·kernel_rfl
  ·kernel_rfl
  ·kernel_rfl
  ·kernel_rfl
  ·exact hk
  ·kernel_rfl
  ·decide
 refine Qb 1 ?_
 obtain ⟨_,hl4,hm⟩:=Qg hm
 replace hl4:=Xm hl4
 obtain ⟨v5,hx,hm⟩:=Qg hm
 have hq:=QG _ _ hx
 dsimp only [QB] at hq
 have hl9:mtOf [Blk.mt 3 (cgm_slices_Clone_int_int v5) (cellsOf Qa v5)] 0=some (3,cgm_slices_Clone_int_int v5,cellsOf Qa v5):=ZS (by kernel_rfl)
 refine Yb (v:=.ms 6 1 0 v5.length v5.length) (fun H=>H++[.mt 3 1 (cellsOf Qa v5)]) rfl (by kernel_rfl) ?_ ?_
 ·intro K hk
  refine Zz 6 (first:=#[]) (cap:=#[]) (j:=(0,3)) (ow':=[]) (f0:=Qa) (l:=v5) rfl ?_ ?_ ?_ (ds:=[.lst ((List.map Qa) q2)]) ?_ hq hl9 ?_ ?_ ?_
  ·kernel_rfl
  ·kernel_rfl
  ·exact plain_or (cellsOf_plain (fun _=>rfl) _)
  ·exact ps_one (v:=(.ms 2 q1 0 q3 q3)) (by kernel_rfl) (p1_ms (pc_ms (e:=3) Qa q2 hl4 (fun _=>rfl) (by kernel_rfl)))
  ·exact hk
  ·kernel_rfl
  ·decide
 refine Qb 3 (Qe (Qd (Qd (R_G (Qb 1 (Qb 1 (Qb 1 (Qe (Qw ?_)))))))))
 refine Ze ?_
 refine RL_at (st':=⟨kp 33 [(6,(.ptr 4 0)),(9,(.ptr 7 0)),(23,(.arr 3 0 1 1)),(24,(Qc 1)),(25,(Qc 0))],[(.box [(.dat (.lst ((List.map Qa) q4)))]),(.box [(.dat (.lst ((List.map Qa) []))),(.dat (.lst ((List.map Qa) []))),(.dat (.lst ((List.map Qa) []))),(.dat (.lst ((List.map Qa) []))),(Qc 0),(Qc 0),(.dat (.lst ((List.map Qa) [])))]),(.mt 3 q1 (cellsOf Qa q2)),(.box [(.fn 124 [(.ptr 0 0)])]),(.box [(.dat (.lst ((List.map Qa) []))),(.dat (.lst ((List.map Qa) []))),(.dat (.lst ((List.map Qa) []))),(.dat (.lst ((List.map Qa) []))),(Qc 0),(Qc 0),(.dat (.lst ((List.map Qa) [])))]),(.mt 3 1 (cellsOf Qa v3)),(.mt 3 1 (cellsOf Qa v5)),(.box [(.dat (.lst ((List.map Qa) []))),(.ms 5 1 0 v3.length v3.length),(.ms 6 1 0 v5.length v5.length),(.dat (.lst ((List.map Qa) []))),(Qc (-1)),(Qc 0),(.dat (.lst ((List.map Qa) [])))])]⟩) (prune_of2 [(.box [(.dat (.lst ((List.map Qa) q4)))]),(.box [(.dat (.lst ((List.map Qa) []))),(.dat (.lst ((List.map Qa) []))),(.dat (.lst ((List.map Qa) []))),(.dat (.lst ((List.map Qa) []))),(Qc 0),(Qc 0),(.dat (.lst ((List.map Qa) [])))]),(.mt 3 q1 (cellsOf Qa q2)),(.box [(.fn 124 [(.ptr 0 0)])]),(.box [(.dat (.lst ((List.map Qa) []))),(.dat (.lst ((List.map Qa) []))),(.dat (.lst ((List.map Qa) []))),(.dat (.lst ((List.map Qa) []))),(Qc 0),(Qc 0),(.dat (.lst ((List.map Qa) [])))]),(.mt 3 1 (cellsOf Qa v3)),(.mt 3 1 (cellsOf Qa v5)),(.box [(.dat (.lst ((List.map Qa) []))),(.ms 5 1 0 v3.length v3.length),(.ms 6 1 0 v5.length v5.length),(.dat (.lst ((List.map Qa) []))),(Qc (-1)),(Qc 0),(.dat (.lst ((List.map Qa) [])))])] (fun _=>(pg_cons (by kernel_rfl) (pg_cons (by kernel_rfl) (pg_cons (purge_mt Qa _ _ _ _ _) (pg_cons (by kernel_rfl) (pg_cons (by kernel_rfl) (pg_cons (purge_mt Qa _ _ _ _ _) (pg_cons (purge_mt Qa _ _ _ _ _) (pg_cons (by kernel_rfl) pg_nil))))))))) rfl) ?_
 refine Qd (R_G (Qb 1 (Qe (Qd ?_))))
 refine QaZ (by kernel_rfl) ?_
 refine Qo (Qd (Qw (Qd (R_G (Qb 1 (Qb 2 (Qe (R_G (Qb 1 ?_)))))))))
 obtain ⟨_,hx,hm⟩:=Qg hm
 have hq:=QcX _ _ hx
 dsimp only [Jc] at hq
 refine Zh hq ?_
 refine Qe (R_G (Qb 2 (Qe ?_)))
 refine RL_at (st':=⟨kp 33 [(6,(.ptr 4 0)),(9,(.ptr 7 0)),(23,(.arr 3 0 1 1)),(24,(Qc 1)),(25,(Qc 1))],[(.box [(.dat (.lst ((List.map Qa) q4)))]),(.box [(.dat (.lst ((List.map Qa) []))),(.dat (.lst ((List.map Qa) []))),(.dat (.lst ((List.map Qa) []))),(.dat (.lst ((List.map Qa) []))),(Qc 0),(Qc 0),(.dat (.lst ((List.map Qa) [])))]),(.mt 3 q1 (cellsOf Qa q2)),(.box [(.fn 124 [(.ptr 0 0)])]),(.box [(.dat (.lst ((List.map Qa) []))),(.dat (.lst ((List.map Qa) []))),(.dat (.lst ((List.map Qa) []))),(.dat (.lst ((List.map Qa) []))),(Qc 0),(Qc 0),(.dat (.lst ((List.map Qa) [])))]),(.mt 3 1 (cellsOf Qa v3)),(.mt 3 1 (cellsOf Qa v5)),(.box [(.dat (.lst ((List.map Qa) []))),(.ms 5 1 0 v3.length v3.length),(.ms 6 1 0 v5.length v5.length),(.dat (.lst ((List.map Qa) []))),(Qc (-1)),(Qc 0),(.dat (.lst ((List.map Qa) q4)))])]⟩) (prune_of2 [(.box [(.dat (.lst ((List.map Qa) q4)))]),(.box [(.dat (.lst ((List.map Qa) []))),(.dat (.lst ((List.map Qa) []))),(.dat (.lst ((List.map Qa) []))),(.dat (.lst ((List.map Qa) []))),(Qc 0),(Qc 0),(.dat (.lst ((List.map Qa) [])))]),(.mt 3 q1 (cellsOf Qa q2)),(.box [(.fn 124 [(.ptr 0 0)])]),(.box [(.dat (.lst ((List.map Qa) []))),(.dat (.lst ((List.map Qa) []))),(.dat (.lst ((List.map Qa) []))),(.dat (.lst ((List.map Qa) []))),(Qc 0),(Qc 0),(.dat (.lst ((List.map Qa) [])))]),(.mt 3 1 (cellsOf Qa v3)),(.mt 3 1 (cellsOf Qa v5)),(.box [(.dat (.lst ((List.map Qa) []))),(.ms 5 1 0 v3.length v3.length),(.ms 6 1 0 v5.length v5.length),(.dat (.lst ((List.map Qa) []))),(Qc (-1)),(Qc 0),(.dat (.lst ((List.map Qa) q4)))])] (fun _=>(pg_cons (by kernel_rfl) (pg_cons (by kernel_rfl) (pg_cons (purge_mt Qa _ _ _ _ _) (pg_cons (by kernel_rfl) (pg_cons (by kernel_rfl) (pg_cons (purge_mt Qa _ _ _ _ _) (pg_cons (purge_mt Qa _ _ _ _ _) (pg_cons (by kernel_rfl) pg_nil))))))))) rfl) ?_
 refine Qd (R_G (Qb 1 (Qe (Qd ?_))))
 refine Js (by kernel_rfl) ?_
 refine Q8 (Qd (R_G (Qb 3 (Qe (Qr ?_)))))
 obtain rfl:=Qu hm
 exact ⟨trivial,QY (by kernel_rfl) (by kernel_rfl)⟩
def Yc (x:(Int × (List Int) × Int × (List Int) × Nat × (List Int) × Nat)):Option ((Nat × (List Int) × Nat)) :=
 match x with
 | (v604,p1,v204,p0,v805,v806,v807) =>
 if (v807:Int)≤v604 then
  Xb (v806.length=v807)>>=fun (_:Unit) =>
  app 8 v806 ([65536]:List Int)>>=fun v1209 =>
  Yc (v604,p1,v204,p0,(gb v805 ([65536]:List Int).isEmpty),v1209,v1209.length)
 else
 some (v805,v806,v807)
 partial_fixpoint
def Qb4:(Int × (List Int) × Int × (List Int) × Nat × (List Int) × Nat)→(Nat × (List Int) × Nat)→Prop:=fun x r=>match x with
 | (v604,p1,v204,p0,v805,v806,v807)=>∀ st,prune 3 ((Qy (QN [1,1,0,1,0,0,1,1,0,0,1,0,0,0] (QP f99))).bind (env.hint 99).keepAt) st=⟨kp 43 [(1,(.dat (.lst ((List.map Qa) p1)))),(2,(.ptr 0 0)),(4,(.ptr 1 0)),(6,(.ms 2 v805 0 v807 v807)),(7,(Qc v204)),(8,(Qc v604)),(9,(.dat (.lst ((List.map Qa) p0)))),(10,(Qc (p0.length:Int))),(11,(Qc v204))],[(.box [(.dat (.lst ((List.map Qa) p0)))]),(.box [(.dat (.lst ((List.map Qa) []))),(.dat (.lst ((List.map Qa) []))),(.dat (.lst ((List.map Qa) []))),(.dat (.lst ((List.map Qa) []))),(Qc 0),(Qc 0),(.dat (.lst ((List.map Qa) [])))]),(.mt 3 v805 (cellsOf Qa v806))]⟩ →
  RL prog env (env.hint 99) true (QN [1,1,0,1,0,0,1,1,0,0,1,0,0,0] (QP f99)) 3 st (fun e s=>match r with|(v1205,v1206,v1207)=>e=.exit 2∧∃ d,s=⟨sl d 43 [(1,(.dat (.lst ((List.map Qa) p1)))),(2,(.ptr 0 0)),(4,(.ptr 1 0)),(6,(.ms 2 v1205 0 v1207 v1207)),(7,(Qc v204)),(8,(Qc v604)),(9,(.dat (.lst ((List.map Qa) p0)))),(10,(Qc (p0.length:Int))),(11,(Qc v204))],[(.box [(.dat (.lst ((List.map Qa) p0)))]),(.box [(.dat (.lst ((List.map Qa) []))),(.dat (.lst ((List.map Qa) []))),(.dat (.lst ((List.map Qa) []))),(.dat (.lst ((List.map Qa) []))),(Qc 0),(Qc 0),(.dat (.lst ((List.map Qa) [])))]),(.mt 3 v1205 (cellsOf Qa v1206))]⟩)
theorem Qa1:∀ x r,Yc x=some r→Qb4 x r:=by
 refine Yc.partial_correctness _ (fun Yc Qa1 x r hm=>?_)
 unfold Qb4
 obtain ⟨v604,p1,v204,p0,v805,v806,v807⟩:=x
 intro st hst
 refine RL_at hst ?_
 clear hst
 refine Qd (Qd (R_G (Qb 1 (Qb 1 (Qb 2 (Qe ?_))))))
 refine Qx hm (rfl) (fun hm=>?_) (fun hm=>?_)
 ·refine Qo (Qw (R_G (Qb 2 ?_)))
  obtain ⟨_,hl1208,hm⟩:=Qg hm
  replace hl1208:=Xm hl1208
  obtain ⟨v1209,hx,hm⟩:=Qg hm
  refine Yb (v:=.ms 2 (gb v805 ([65536]:List Int).isEmpty) 0 v1209.length v1209.length) (fun H=>H.set 2 (.mt 3 (gb v805 ([65536]:List Int).isEmpty) (cellsOf Qa v1209))) rfl (by kernel_rfl) (fun _ hk=>Qge Qa (l:=v806) (es:=([65536]:List Int)) (bytes:=8) (e:=3) (tt:=2) (g:=v805) (m:=v807) hx (fun _=>rfl) (by kernel_rfl) (by kernel_rfl) (by kernel_rfl) (by kernel_rfl) rfl rfl (by kernel_rfl) hl1208 (by kernel_rfl) (by kernel_rfl) hk) ?_
  refine Qb 1 (Qe ?_)
  exact Qa1 _ _ hm _ (prune_of2 [(.box [(.dat (.lst ((List.map Qa) p0)))]),(.box [(.dat (.lst ((List.map Qa) []))),(.dat (.lst ((List.map Qa) []))),(.dat (.lst ((List.map Qa) []))),(.dat (.lst ((List.map Qa) []))),(Qc 0),(Qc 0),(.dat (.lst ((List.map Qa) [])))]),(.mt 3 (gb v805 ([65536]:List Int).isEmpty) (cellsOf Qa v1209))] (fun _=>(pg_cons (by kernel_rfl) (pg_cons (by kernel_rfl) (pg_cons (purge_mt Qa _ _ _ _ _) pg_nil)))) rfl)
 refine Q8 ?_
 obtain rfl:=Qu hm
 exact ⟨rfl,Qm⟩
def ZP (x:((List Int) × (List Int) × Nat × (List Int) × Nat × Int)):Option ((Nat × (List Int) × Nat)) :=
 match x with
 | (p0,p1,v201,v202,v203,v204) =>
 if v204 < (p0.length:Int) then
  idx p0 v204>>=fun v604 =>
  Yc (v604,p1,v204,p0,v201,v202,v203)>>=fun ((v1205,v1206,v1207):(Nat × (List Int) × Nat)) =>
  Xb (v1206.length=v1207)>>=fun (_:Unit) =>
  idx v1206 v604>>=fun v1210 =>
  idx v1206 v604>>=fun v1212 =>
  idx p1 v204>>=fun v1213 =>
  Xb (v1206.length=v1207)>>=fun (_:Unit) =>
  idx v1206 v604>>=fun v1214 =>
  setM v1206 v604 (if v1213 < v1212 then v1213 else v1212)>>=fun v1216 =>
  ZP (p0,p1,v1205,v1216,v1207,(W (v204+1)))
 else
 some (v201,v202,v203)
 partial_fixpoint
def Qb3:((List Int) × (List Int) × Nat × (List Int) × Nat × Int)→(Nat × (List Int) × Nat)→Prop:=fun x r=>match x with
 | (p0,p1,v201,v202,v203,v204)=>∀ st,prune 3 ((Qy (QN [1,1,0,1,0,0] (QP f99))).bind (env.hint 99).keepAt) st=⟨kp 43 [(1,(.dat (.lst ((List.map Qa) p1)))),(2,(.ptr 0 0)),(4,(.ptr 1 0)),(6,(.ms 2 v201 0 v203 v203)),(9,(.dat (.lst ((List.map Qa) p0)))),(10,(Qc (p0.length:Int))),(11,(Qc v204))],[(.box [(.dat (.lst ((List.map Qa) p0)))]),(.box [(.dat (.lst ((List.map Qa) []))),(.dat (.lst ((List.map Qa) []))),(.dat (.lst ((List.map Qa) []))),(.dat (.lst ((List.map Qa) []))),(Qc 0),(Qc 0),(.dat (.lst ((List.map Qa) [])))]),(.mt 3 v201 (cellsOf Qa v202))]⟩ →
  RL prog env (env.hint 99) true (QN [1,1,0,1,0,0] (QP f99)) 3 st (fun e s=>match r with|(v601,v602,v603)=>e=.exit 0∧∃ d,s=⟨sl d 43 [(1,(.dat (.lst ((List.map Qa) p1)))),(2,(.ptr 0 0)),(4,(.ptr 1 0)),(6,(.ms 2 v601 0 v603 v603))],[(.box [(.dat (.lst ((List.map Qa) p0)))]),(.box [(.dat (.lst ((List.map Qa) []))),(.dat (.lst ((List.map Qa) []))),(.dat (.lst ((List.map Qa) []))),(.dat (.lst ((List.map Qa) []))),(Qc 0),(Qc 0),(.dat (.lst ((List.map Qa) [])))]),(.mt 3 v601 (cellsOf Qa v602))]⟩)
theorem Qa0:∀ x r,ZP x=some r→Qb3 x r:=by
 refine ZP.partial_correctness _ (fun ZP Qa0 x r hm=>?_)
 unfold Qb3
 obtain ⟨p0,p1,v201,v202,v203,v204⟩:=x
 intro st hst
 refine RL_at hst ?_
 clear hst
 refine Qd (R_G (Qb 1 (Qe (Qd ?_))))
 refine Qx hm (rfl) (fun hm=>?_) (fun hm=>?_)
 ·refine Qo (Qd (Qw (Qd (R_G (Qb 1 ?_)))))
  refine Q3 1 Qa hm rfl (fun _=>rfl) (fun v604 hm=>?_)
  refine Qb 3 (Qe (Qd (Qw ?_)))
  obtain ⟨⟨v1205,v1206,v1207⟩,hs,hm⟩:=Qg hm
  refine Ze ?_
  refine RL_use (Qa1 _ _ hs) (prune_of2 [(.box [(.dat (.lst ((List.map Qa) p0)))]),(.box [(.dat (.lst ((List.map Qa) []))),(.dat (.lst ((List.map Qa) []))),(.dat (.lst ((List.map Qa) []))),(.dat (.lst ((List.map Qa) []))),(Qc 0),(Qc 0),(.dat (.lst ((List.map Qa) [])))]),(.mt 3 v201 (cellsOf Qa v202))] (fun _=>(pg_cons (by kernel_rfl) (pg_cons (by kernel_rfl) (pg_cons (purge_mt Qa _ _ _ _ _) pg_nil)))) rfl) ?_
  clear hs
  intro e s hp
  obtain ⟨rfl,d,rfl⟩:=hp
  refine QaK ?_
  refine Qb 4 ?_
  obtain ⟨_,hl1211,hm⟩:=Qg hm
  replace hl1211:=Xm hl1211
  obtain ⟨v1210,hx,hm⟩:=Qg hm
  refine ZD rfl (fun _=>QeZ (e:=3) (n:=v604) (j:=(v604).toNat) (tt:=2) (g:=v1205) (lo:=0) (len:=v1207) (cap:=v1207) (k:=.i64) (by kernel_rfl) (by kernel_rfl) rfl (by kernel_rfl) (by kernel_rfl) (idx_nat hx) (Nat.lt_of_lt_of_eq (idx_lt hx) hl1211)) ?_
  obtain ⟨v1212,hx,hm⟩:=Qg hm
  refine ZD rfl (fun _=>Qgz (tt:=2) (g:=v1205) (j:=(0+(v604).toNat)) (e:=3) (cs:=cellsOf Qa v1206) (v:=.dat (Qa v1212)) (by kernel_rfl) (by kernel_rfl) rfl (by kernel_rfl) (ZS (by kernel_rfl)) (cells_idx Qa hx)) ?_
  refine Qb 2 ?_
  refine Q3 1 Qa hm rfl (fun _=>rfl) (fun v1213 hm=>?_)
  refine Qb 1 ?_
  refine ZD rfl (fun _=>QgD (k:=.i64) (m:=v1212) (n:=v1213) rfl (by kernel_rfl) (by kernel_rfl)) ?_
  obtain ⟨_,hl1215,hm⟩:=Qg hm
  replace hl1215:=Xm hl1215
  obtain ⟨v1214,hx,hm⟩:=Qg hm
  refine ZD rfl (fun _=>QeZ (e:=3) (n:=v604) (j:=(v604).toNat) (tt:=2) (g:=v1205) (lo:=0) (len:=v1207) (cap:=v1207) (k:=.i64) (by kernel_rfl) (by kernel_rfl) rfl (by kernel_rfl) (by kernel_rfl) (idx_nat hx) (Nat.lt_of_lt_of_eq (idx_lt hx) hl1215)) ?_
  obtain ⟨v1216,hx,hm⟩:=Qg hm
  refine Yb (fun H=>H.set 2 (.mt 3 v1205 (cellsOf Qa v1216))) rfl (by kernel_rfl) (fun _=>QgG Qa (l:=v1206) (n:=v604) (y:=(if v1213 < v1212 then v1213 else v1212)) hx (fun _=>rfl) (by kernel_rfl) rfl (by kernel_rfl) (by kernel_rfl) (by kernel_rfl) (by kernel_rfl)) ?_
  refine Qe ⟨by kernel_rfl,?_⟩
  refine R_G (Qb 2 (Qe ?_))
  exact Qa0 _ _ hm _ (prune_of2 [(.box [(.dat (.lst ((List.map Qa) p0)))]),(.box [(.dat (.lst ((List.map Qa) []))),(.dat (.lst ((List.map Qa) []))),(.dat (.lst ((List.map Qa) []))),(.dat (.lst ((List.map Qa) []))),(Qc 0),(Qc 0),(.dat (.lst ((List.map Qa) [])))]),(.mt 3 v1205 (cellsOf Qa v1216))] (fun _=>(pg_cons (by kernel_rfl) (pg_cons (by kernel_rfl) (pg_cons (purge_mt Qa _ _ _ _ _) pg_nil)))) rfl)
 refine Q8 ?_
 obtain rfl:=Qu hm
 exact ⟨rfl,Qm⟩
def XI (x:((List Int) × (List Int))):Option (Qn × Int) :=
 match x with
 | (p0,p1) =>
 ZP (p0,p1,0,([]:List Int),([]:List Int).length,0)>>=fun ((v601,v602,v603):(Nat × (List Int) × Nat)) =>
 (
 JV (p1,v601,v602,v603,p0)>>=fun (out:Int ⊕ ((List Int) × (List Int))) =>
 match out with
 | .inl v1217 =>
  some ((⟨([]:(List Int)),([]:(List Int)),([]:(List Int)),([]:(List Int)),0,0,([]:(List Int))⟩:Qn),v1217)
 | .inr ((v1218,v1219)) =>
  some ((⟨([]:(List Int)),v1218,v1219,([]:(List Int)),(-1),0,p0⟩:Qn),0)
 )
def Qdh:((List Int) × (List Int))→(Qn × Int)→Prop:=fun x r=>match x,r with
 | (p0,p1),(r0,r1)=>∀ H,PC prog env 99 ([(.lst ((List.map Qa) p0)),(.lst ((List.map Qa) p1))].map .dat) H (.tup [(.dat (Qn.toD r0)),(Qc r1)]) H
theorem Qdl:∀ x r,XI x=some r→Qdh x r:=by
 intro x r hm
 unfold XI at hm
 unfold Qdh
 obtain ⟨p0,p1⟩:=x
 obtain ⟨r0,r1⟩:=r
 intro H
 refine PC_sx (ds:=[(.lst ((List.map Qa) p0)),(.lst ((List.map Qa) p1))]) (fn:=f99) rfl ?_
 refine Qd (R_G (Qb 3 (Qe (Qd (R_G (Qb 1 (Qe (Qd (Qd (R_G (Qb 1 ?_)))))))))))
 refine QO Qa p0 (es:=(List.map Qa) p0) rfl ?_
 refine Qb 1 (Qe (Qw ?_))
 obtain ⟨⟨v601,v602,v603⟩,hs,hm⟩:=Qg hm
 refine Ze ?_
 refine RL_use (Qa0 _ _ hs) (prune_of2 [(.box [(.dat (.lst ((List.map Qa) p0)))]),(.box [(.dat (.lst ((List.map Qa) []))),(.dat (.lst ((List.map Qa) []))),(.dat (.lst ((List.map Qa) []))),(.dat (.lst ((List.map Qa) []))),(Qc 0),(Qc 0),(.dat (.lst ((List.map Qa) [])))]),(.mt 3 0 (cellsOf Qa ([]:List Int)))] (fun _=>(pg_cons (by kernel_rfl) (pg_cons (by kernel_rfl) (pg_cons (purge_mt Qa _ _ _ _ _) pg_nil)))) rfl) ?_
 clear hs
 intro e s hp
 obtain ⟨rfl,d,rfl⟩:=hp
 refine Qd (R_G (Qb 4 ?_))
 obtain ⟨out,hx,hm⟩:=Qg hm
 rcases out with v1217|⟨v1218,v1219⟩
 ·have hq:=Qcu _ _ hx
  dsimp only [JM] at hq
  refine Zh hq ?_
  refine Qb 4 (Qe (Qr ?_))
  obtain ⟨rfl,rfl⟩:=QU hm
  exact ⟨trivial,Qk⟩
 ·have hq:=Qcu _ _ hx
  dsimp only [JM] at hq
  refine Zh hq ?_
  refine Qb 4 (Qe (Qr ?_))
  obtain ⟨rfl,rfl⟩:=QU hm
  exact ⟨trivial,Xl [(.agg [(.dat (.lst ((List.map Qa) []))),(.ms 5 1 0 v1218.length v1218.length),(.ms 6 1 0 v1219.length v1219.length),(.dat (.lst ((List.map Qa) []))),(Qc (-1)),(Qc 0),(.dat (.lst ((List.map Qa) p0)))]),(Qc 0)] (by kernel_rfl) (po_tup (ps_cons (p1_agg (pc_cons (by kernel_rfl) (pc_cons (pc_ms (e:=3) Qa v1218 rfl (fun _=>rfl) (by kernel_rfl)) (pc_cons (pc_ms (e:=3) Qa v1219 rfl (fun _=>rfl) (by kernel_rfl)) (pc_cons (by kernel_rfl) (pc_cons (by kernel_rfl) (pc_cons (by kernel_rfl) (pc_cons (by kernel_rfl) pc_nil)))))))) (ps_cons (by kernel_rfl) ps_nil)))⟩
def YV (x:((List Int) × (List Int) × Int)):Option ((List Int)) :=
 match x with
 | (p0,v201,v202) =>
 if v202 < (p0.length:Int) then
  app 8 v201 ([(W ((W ((p0.length:Int) - 1)) - v202))]:List Int)>>=fun v602 =>
  YV (p0,v602,(W (v202+1)))
 else
 some v201
 partial_fixpoint
def QdB:((List Int) × (List Int) × Int)→(List Int)→Prop:=fun x r=>match x with
 | (p0,v201,v202)=>∀ st,prune 2 ((Qy (QN [1,1,0,1,0,0] (QP f60))).bind (env.hint 60).keepAt) st=⟨kp 25 [(0,(.dat (.lst ((List.map Qa) p0)))),(2,(.ptr 0 0)),(4,(.vec 1 ((List.map Qa) v201))),(7,(Qc (p0.length:Int))),(8,(Qc v202))],[(.box [(.dat (.lst ((List.map Qa) []))),(.dat (.lst ((List.map Qa) []))),(.dat (.lst ((List.map Qa) []))),(.dat (.lst ((List.map Qa) []))),(Qc 0),(Qc 0),(.dat (.lst ((List.map Qa) [])))]),(.tok 3 v201.length)]⟩ →
  RL prog env (env.hint 60) true (QN [1,1,0,1,0,0] (QP f60)) 2 st (fun e s=>match r with|v601=>e=.exit 0∧∃ d,s=⟨sl d 25 [(0,(.dat (.lst ((List.map Qa) p0)))),(2,(.ptr 0 0)),(4,(.vec 1 ((List.map Qa) v601)))],[(.box [(.dat (.lst ((List.map Qa) []))),(.dat (.lst ((List.map Qa) []))),(.dat (.lst ((List.map Qa) []))),(.dat (.lst ((List.map Qa) []))),(Qc 0),(Qc 0),(.dat (.lst ((List.map Qa) [])))]),(.tok 3 v601.length)]⟩)
theorem Qcc:∀ x r,YV x=some r→QdB x r:=by
 refine YV.partial_correctness _ (fun YV Qcc x r hm=>?_)
 unfold QdB
 obtain ⟨p0,v201,v202⟩:=x
 intro st hst
 refine RL_at hst ?_
 clear hst
 refine Qd (R_G (Qb 1 (Qe (Qd ?_))))
 refine Qx hm (rfl) (fun hm=>?_) (fun hm=>?_)
 ·refine Qo (Qd (Qw (Qd (R_G (Qb 2 (Qe (R_G (Qb 2 ?_))))))))
  refine QO Qa p0 (es:=(List.map Qa) p0) rfl ?_
  refine Qb 4 ?_
  obtain ⟨v602,hx,hm⟩:=Qg hm
  refine X8 3 1 8 1 Qa v201 ([(W ((W ((p0.length:Int) - 1)) - v202))]:List Int) v602 (xs:=(List.map Qa) v201) (es:=(List.map Qa) ([(W ((W ((p0.length:Int) - 1)) - v202))]:List Int)) (L:=(List.map Qa)) (fun _=>rfl) rfl rfl (fun _=>rfl) hx ?_
  refine Qb 1 (Qe (R_G (Qb 2 (Qe ?_))))
  exact Qcc _ _ hm _ (by kernel_rfl)
 refine Q8 ?_
 obtain rfl:=Qu hm
 exact ⟨rfl,Qm⟩
def QbE (x:(List Int)):Option (Qn × Int) :=
 match x with
 | p0 =>
 YV (p0,([]:List Int),0)>>=fun (v601:(List Int)) =>
 XI (v601,p0)>>=fun ((v603,v604):(Qn × Int)) =>
 some (v603,v604)
def Qfc:(List Int)→(Qn × Int)→Prop:=fun x r=>match x,r with
 | p0,(r0,r1)=>∀ H,PC prog env 60 ([(.lst ((List.map Qa) p0))].map .dat) H (.tup [(.dat (Qn.toD r0)),(Qc r1)]) H
theorem Qgb:∀ x r,QbE x=some r→Qfc x r:=by
 intro p0 r hm
 unfold QbE at hm
 unfold Qfc
 obtain ⟨r0,r1⟩:=r
 intro H
 refine PC_sx (ds:=[(.lst ((List.map Qa) p0))]) (fn:=f60) rfl ?_
 refine Qd (R_G (Qb 2 (Qe (Qd (R_G (Qb 1 (Qe (Qd (Qd (R_G (Qb 1 ?_)))))))))))
 refine QO Qa p0 (es:=(List.map Qa) p0) rfl ?_
 refine Qb 1 (Qe (Qw ?_))
 obtain ⟨v601,hs,hm⟩:=Qg hm
 refine Ze ?_
 refine RL_use (Qcc _ _ hs) (by kernel_rfl) ?_
 clear hs
 intro e s hp
 obtain ⟨rfl,d,rfl⟩:=hp
 refine Qd (R_G (Qb 2 ?_))
 obtain ⟨⟨v603,v604⟩,hx,hm⟩:=Qg hm
 have hq:=Qdl _ _ hx []
 refine Qp hq ?_
 refine Qb 4 (Qe (Qr ?_))
 obtain ⟨rfl,rfl⟩:=QU hm
 exact ⟨trivial,Qk⟩
def YX (x:(Qn × Qi)):Option Qi :=
 match x with
 | (p0,p1) =>
 some (⟨5,p0.shape,0,([]:(List Int)),0,0,p0.perm,([(⟨p1.kind,p1.shape,p1.buffer,p1.starts,p1.axis,p1.amount,p1.perm,p1.kids⟩:Qi)]:(List Qi))⟩:Qi)
def Qcj:(Qn × Qi)→Qi→Prop:=fun x r=>match x,r with
 | (p0,p1),r0=>∀ H,PC prog env 61 ([(Qn.toD p0),(Qi.ex p1)].map .dat) H (.dat (Qi.ex r0)) H
theorem Qcr:∀ x r,YX x=some r→Qcj x r:=by
 intro x r0 hm
 unfold YX at hm
 unfold Qcj
 obtain ⟨p0,p1⟩:=x
 intro H
 refine PC_sx (ds:=[(Qn.toD p0),(Qi.ex p1)]) (fn:=f61) rfl ?_
 refine Qd (R_G (Qb 3 (Qe (Qd (R_G (Qb 8 (Qe (Qr ?_))))))))
 obtain rfl:=Qu hm
 exact ⟨trivial,Qk⟩
def JW (x:((List Int) × (List Int))):Option (Int ⊕ ((List Int) × (List Int))) :=
 match x with
 | (q0,q1) =>
 Zp q1>>=fun (v1:Int) =>
 if v1≠0 then
  some (Sum.inl v1)
 else
 Qz q0>>=fun v2 =>
 Qz q1>>=fun v3 =>
 some (Sum.inr (v2,v3))
def JN:((List Int) × (List Int))→(Int ⊕ ((List Int) × (List Int)))→Prop:=fun x r=>match x with
 | (q0,q1)=>PC prog env 97 [(.dat (.lst ((List.map Qa) q0))),(.dat (.lst ((List.map Qa) q1))),(.dat (.lst []))] [(.box [(.dat (.lst ((List.map Qa) []))),(.dat (.lst ((List.map Qa) []))),(.dat (.lst ((List.map Qa) []))),(.dat (.lst ((List.map Qa) []))),(Qc 0),(Qc 0),(.dat (.lst ((List.map Qa) [])))])] (match r with|.inl v5001=>(.tup [(.dat (.agg [(.lst ((List.map Qa) [])),(.lst ((List.map Qa) [])),(.lst ((List.map Qa) [])),(.lst ((List.map Qa) [])),(Qa 0),(Qa 0),(.lst ((List.map Qa) []))])),(Qc v5001)])|.inr ((v5002,v5003))=>(.tup [(.agg [(.dat (.lst ((List.map Qa) []))),(.ms 2 1 0 v5002.length v5002.length),(.ms 3 1 0 v5003.length v5003.length),(.dat (.lst ((List.map Qa) []))),(Qc (-1)),(Qc 0),(.dat (.lst ((List.map Qa) [])))]),(Qc 0)])) (match r with|.inl v5001=>[(.box [(.dat (.lst ((List.map Qa) []))),(.dat (.lst ((List.map Qa) []))),(.dat (.lst ((List.map Qa) []))),(.dat (.lst ((List.map Qa) []))),(Qc 0),(Qc 0),(.dat (.lst ((List.map Qa) [])))]),(.box [(.dat (.lst ((List.map Qa) []))),(.dat (.lst ((List.map Qa) []))),(.dat (.lst ((List.map Qa) []))),(.dat (.lst ((List.map Qa) []))),(Qc 0),(Qc 0),(.dat (.lst ((List.map Qa) [])))])]|.inr ((v5002,v5003))=>[(.box [(.dat (.lst ((List.map Qa) []))),(.dat (.lst ((List.map Qa) []))),(.dat (.lst ((List.map Qa) []))),(.dat (.lst ((List.map Qa) []))),(Qc 0),(Qc 0),(.dat (.lst ((List.map Qa) [])))]),(.box [(.dat (.lst ((List.map Qa) []))),(.ms 2 1 0 v5002.length v5002.length),(.ms 3 1 0 v5003.length v5003.length),(.dat (.lst ((List.map Qa) []))),(Qc (-1)),(Qc 0),(.dat (.lst ((List.map Qa) [])))]),(.mt 3 1 (cellsOf Qa v5002)),(.mt 3 1 (cellsOf Qa v5003)),(.box [(.dat (.lst ((List.map Qa) []))),(.ms 2 1 0 v5002.length v5002.length),(.ms 3 1 0 v5003.length v5003.length),(.dat (.lst ((List.map Qa) []))),(Qc (-1)),(Qc 0),(.dat (.lst ((List.map Qa) [])))])])
theorem Qcv:∀ x r,JW x=some r→JN x r:=by
 intro x r hm
 unfold JW at hm
 unfold JN
 obtain ⟨q0,q1⟩:=x
 refine PC_sxB (fn:=f97) rfl ?_
 refine Qd (R_G (Qb 2 (Qe (Qd (Qd (R_G (Qb 1 ?_)))))))
 obtain ⟨v1,hx,hm⟩:=Qg hm
 have hq:=ZY _ _ hx []
 refine Qp hq ?_
 refine Qb 1 (Qe (Qd (R_G (Qb 2 (Qe ?_)))))
 refine Qx hm (ne_dec _ _) (fun hm=>?_) (fun hm=>?_)
 ·refine Qd (R_G (Qb 4 (Qe (Qr ?_))))
  obtain rfl:=Qu hm
  exact ⟨trivial,QY (by kernel_rfl) (by kernel_rfl)⟩
 refine Qo (Qd (R_G (Qb 1 ?_)))
 obtain ⟨v2,hx,hm⟩:=Qg hm
 have hq:=QG _ _ hx
 dsimp only [QB] at hq
 have hl9:mtOf [Blk.mt 3 (cgm_slices_Clone_int_int v2) (cellsOf Qa v2)] 0=some (3,cgm_slices_Clone_int_int v2,cellsOf Qa v2):=ZS (by kernel_rfl)
 refine Yb (v:=.ms 2 1 0 v2.length v2.length) (fun H=>H++[.mt 3 1 (cellsOf Qa v2)]) rfl (by kernel_rfl) ?_ ?_
 ·intro K hk
  refine Zz 2 (first:=#[]) (cap:=#[]) (j:=(0,3)) (ow':=[]) (f0:=Qa) (l:=v2) rfl ?_ ?_ ?_ (ds:=[.lst ((List.map Qa) q0)]) ?_ hq hl9 ?_ ?_ ?_
  ·kernel_rfl
  ·kernel_rfl
  ·kernel_rfl
  ·kernel_rfl
  ·exact hk
  ·kernel_rfl
  ·decide
 refine Qb 1 ?_
 obtain ⟨v3,hx,hm⟩:=Qg hm
 have hq:=QG _ _ hx
 dsimp only [QB] at hq
 have hl9:mtOf [Blk.mt 3 (cgm_slices_Clone_int_int v3) (cellsOf Qa v3)] 0=some (3,cgm_slices_Clone_int_int v3,cellsOf Qa v3):=ZS (by kernel_rfl)
 refine Yb (v:=.ms 3 1 0 v3.length v3.length) (fun H=>H++[.mt 3 1 (cellsOf Qa v3)]) rfl (by kernel_rfl) ?_ ?_
 ·intro K hk
  refine Zz 3 (first:=#[]) (cap:=#[]) (j:=(0,3)) (ow':=[]) (f0:=Qa) (l:=v3) rfl ?_ ?_ ?_ (ds:=[.lst ((List.map Qa) q1)]) ?_ hq hl9 ?_ ?_ ?_
  ·kernel_rfl
  ·kernel_rfl
  ·kernel_rfl
  ·kernel_rfl
  ·exact hk
  ·kernel_rfl
  ·decide
 refine Qb 3 (Qe (Qd (Qd (R_G (Qb 1 (Qb 1 (Qb 1 (Qe (Qw ?_)))))))))
 refine Ze ?_
 refine RL_at (st':=⟨kp 33 [(6,(.ptr 1 0)),(9,(.ptr 4 0)),(23,(.dat (.lst []))),(24,(Qc 0)),(25,(Qc 0))],[(.box [(.dat (.lst ((List.map Qa) []))),(.dat (.lst ((List.map Qa) []))),(.dat (.lst ((List.map Qa) []))),(.dat (.lst ((List.map Qa) []))),(Qc 0),(Qc 0),(.dat (.lst ((List.map Qa) [])))]),(.box [(.dat (.lst ((List.map Qa) []))),(.dat (.lst ((List.map Qa) []))),(.dat (.lst ((List.map Qa) []))),(.dat (.lst ((List.map Qa) []))),(Qc 0),(Qc 0),(.dat (.lst ((List.map Qa) [])))]),(.mt 3 1 (cellsOf Qa v2)),(.mt 3 1 (cellsOf Qa v3)),(.box [(.dat (.lst ((List.map Qa) []))),(.ms 2 1 0 v2.length v2.length),(.ms 3 1 0 v3.length v3.length),(.dat (.lst ((List.map Qa) []))),(Qc (-1)),(Qc 0),(.dat (.lst ((List.map Qa) [])))])]⟩) (prune_of2 [(.box [(.dat (.lst ((List.map Qa) []))),(.dat (.lst ((List.map Qa) []))),(.dat (.lst ((List.map Qa) []))),(.dat (.lst ((List.map Qa) []))),(Qc 0),(Qc 0),(.dat (.lst ((List.map Qa) [])))]),(.box [(.dat (.lst ((List.map Qa) []))),(.dat (.lst ((List.map Qa) []))),(.dat (.lst ((List.map Qa) []))),(.dat (.lst ((List.map Qa) []))),(Qc 0),(Qc 0),(.dat (.lst ((List.map Qa) [])))]),(.mt 3 1 (cellsOf Qa v2)),(.mt 3 1 (cellsOf Qa v3)),(.box [(.dat (.lst ((List.map Qa) []))),(.ms 2 1 0 v2.length v2.length),(.ms 3 1 0 v3.length v3.length),(.dat (.lst ((List.map Qa) []))),(Qc (-1)),(Qc 0),(.dat (.lst ((List.map Qa) [])))])] (fun _=>(pg_cons (by kernel_rfl) (pg_cons (by kernel_rfl) (pg_cons (purge_mt Qa _ _ _ _ _) (pg_cons (purge_mt Qa _ _ _ _ _) (pg_cons (by kernel_rfl) pg_nil)))))) rfl) ?_
 refine Qd (R_G (Qb 1 (Qe (Qd ?_))))
 refine Js (by kernel_rfl) ?_
 refine Q8 (Qd (R_G (Qb 3 (Qe (Qr ?_)))))
 obtain rfl:=Qu hm
 exact ⟨trivial,QY (by kernel_rfl) (by kernel_rfl)⟩
def Qbh (x:(List Int)):Option (Qn × Int) :=
 match x with
 | p0 =>
 JG p0>>=fun (v1:Int) =>
 (
 JW (p0,([v1]:List Int))>>=fun (out:Int ⊕ ((List Int) × (List Int))) =>
 match out with
 | .inl v2 =>
  some ((⟨([]:(List Int)),([]:(List Int)),([]:(List Int)),([]:(List Int)),0,0,([]:(List Int))⟩:Qn),v2)
 | .inr ((v3,v4)) =>
  some ((⟨([]:(List Int)),v3,v4,([]:(List Int)),(-1),0,([]:(List Int))⟩:Qn),0)
 )
def QeM:(List Int)→(Qn × Int)→Prop:=fun x r=>match x,r with
 | p0,(r0,r1)=>∀ H,PC prog env 62 ([(.lst ((List.map Qa) p0))].map .dat) H (.tup [(.dat (Qn.toD r0)),(Qc r1)]) H
theorem QfW:∀ x r,Qbh x=some r→QeM x r:=by
 intro p0 r hm
 unfold Qbh at hm
 unfold QeM
 obtain ⟨r0,r1⟩:=r
 intro H
 refine PC_sx (ds:=[(.lst ((List.map Qa) p0))]) (fn:=f62) rfl ?_
 refine Qd (R_G (Qb 2 (Qe (Qd (R_G (Qb 2 ?_))))))
 obtain ⟨v1,hx,hm⟩:=Qg hm
 have hq:=Qet _ _ hx []
 refine Qp hq ?_
 refine Qb 1 ?_
 obtain ⟨out,hx,hm⟩:=Qg hm
 rcases out with v2|⟨v3,v4⟩
 ·have hq:=Qcv _ _ hx
  dsimp only [JN] at hq
  refine Zh hq ?_
  refine Qb 4 (Qe (Qr ?_))
  obtain ⟨rfl,rfl⟩:=QU hm
  exact ⟨trivial,Qk⟩
 ·have hq:=Qcv _ _ hx
  dsimp only [JN] at hq
  refine Zh hq ?_
  refine Qb 4 (Qe (Qr ?_))
  obtain ⟨rfl,rfl⟩:=QU hm
  exact ⟨trivial,Xl [(.agg [(.dat (.lst ((List.map Qa) []))),(.ms 2 1 0 v3.length v3.length),(.ms 3 1 0 v4.length v4.length),(.dat (.lst ((List.map Qa) []))),(Qc (-1)),(Qc 0),(.dat (.lst ((List.map Qa) [])))]),(Qc 0)] (by kernel_rfl) (po_tup (ps_cons (p1_agg (pc_cons (by kernel_rfl) (pc_cons (pc_ms (e:=3) Qa v3 rfl (fun _=>rfl) (by kernel_rfl)) (pc_cons (pc_ms (e:=3) Qa v4 rfl (fun _=>rfl) (by kernel_rfl)) (pc_cons (by kernel_rfl) (pc_cons (by kernel_rfl) (pc_cons (by kernel_rfl) (pc_cons (by kernel_rfl) pc_nil)))))))) (ps_cons (by kernel_rfl) ps_nil)))⟩
def Y4 (x:(Qi × (List Int))):Option Qi :=
 match x with
 | (p0,p1) =>
 some (⟨6,p1,0,([]:(List Int)),0,0,([]:(List Int)),([(⟨p0.kind,p0.shape,p0.buffer,p0.starts,p0.axis,p0.amount,p0.perm,p0.kids⟩:Qi)]:(List Qi))⟩:Qi)
def Qc7:(Qi × (List Int))→Qi→Prop:=fun x r=>match x,r with
 | (p0,p1),r0=>∀ H,PC prog env 63 ([(Qi.ex p0),(.lst ((List.map Qa) p1))].map .dat) H (.dat (Qi.ex r0)) H
theorem QbH:∀ x r,Y4 x=some r→Qc7 x r:=by
 intro x r0 hm
 unfold Y4 at hm
 unfold Qc7
 obtain ⟨p0,p1⟩:=x
 intro H
 refine PC_sx (ds:=[(Qi.ex p0),(.lst ((List.map Qa) p1))]) (fn:=f63) rfl ?_
 refine Qd (R_G (Qb 2 (Qe (Qd (R_G (Qb 5 (Qe (Qr ?_))))))))
 obtain rfl:=Qu hm
 exact ⟨trivial,Qk⟩
def Qbf (x:(Qf × Qi)):Option (Qi × Int) :=
 match x with
 | (p0,p1) =>
 if p0.fn=3 then
  Qae (p0.axis,p1.shape)>>=fun ((v1,v2):(Qn × Int)) =>
  JC (3,v1,p1)>>=fun (v3:Qi) =>
  some (v3,v2)
 else
 if p0.fn=4 then
  QbE p1.shape>>=fun ((v4,v5):(Qn × Int)) =>
  YX (v4,p1)>>=fun (v6:Qi) =>
  some (v6,v5)
 else
 Qbh p1.shape>>=fun ((v7,v8):(Qn × Int)) =>
 Y4 ((⟨p1.kind,p1.shape,p1.buffer,p1.starts,p1.axis,p1.amount,p1.perm,p1.kids⟩:Qi),v7.shape)>>=fun (v9:Qi) =>
 some (v9,v8)
def QeA:(Qf × Qi)→(Qi × Int)→Prop:=fun x r=>match x,r with
 | (p0,p1),(r0,r1)=>∀ H,PC prog env 34 ([(Qf.ex p0),(Qi.ex p1)].map .dat) H (.tup [(.dat (Qi.ex r0)),(Qc r1)]) H
theorem QfQ:∀ x r,Qbf x=some r→QeA x r:=by
 intro x r hm
 unfold Qbf at hm
 unfold QeA
 obtain ⟨p0,p1⟩:=x
 obtain ⟨r0,r1⟩:=r
 intro H
 refine PC_sx (ds:=[(Qf.ex p0),(Qi.ex p1)]) (fn:=f34) rfl ?_
 refine Qd (R_G (Qb 4 (Qe (Qd (Qd (R_G (Qb 2 (Qe (Qw (Qd (R_G ?_)))))))))))
 refine Qb 2 (Qe ?_)
 refine Qx hm (Q1 _ _) (fun hm=>?_) (fun hm=>?_)
 ·refine Qd (R_G (Qb 4 ?_))
  obtain ⟨⟨v1,v2⟩,hx,hm⟩:=Qg hm
  have hq:=Qfx _ _ hx []
  refine Qp hq ?_
  refine Qb 6 (Qe (Qd (R_G (Qb 2 ?_))))
  obtain ⟨v3,hx,hm⟩:=Qg hm
  have hq:=Qeo _ _ hx []
  refine Qp hq ?_
  refine Qb 3 (Qe (Qr ?_))
  obtain ⟨rfl,rfl⟩:=QU hm
  exact ⟨trivial,Qk⟩
 refine Qd (R_G (Qb 2 (Qe ?_)))
 refine Qx hm (Q1 _ _) (fun hm=>?_) (fun hm=>?_)
 ·refine Qd (R_G (Qb 2 ?_))
  obtain ⟨⟨v4,v5⟩,hx,hm⟩:=Qg hm
  have hq:=Qgb _ _ hx []
  refine Qp hq ?_
  refine Qb 6 (Qe (Qd (R_G (Qb 2 ?_))))
  obtain ⟨v6,hx,hm⟩:=Qg hm
  have hq:=Qcr _ _ hx []
  refine Qp hq ?_
  refine Qb 3 (Qe (Qr ?_))
  obtain ⟨rfl,rfl⟩:=QU hm
  exact ⟨trivial,Qk⟩
 refine Qo (Qd (R_G (Qb 2 ?_)))
 obtain ⟨⟨v7,v8⟩,hx,hm⟩:=Qg hm
 have hq:=QfW _ _ hx []
 refine Qp hq ?_
 refine Qb 6 (Qe (Qd (R_G (Qb 3 ?_))))
 obtain ⟨v9,hx,hm⟩:=Qg hm
 have hq:=QbH _ _ hx []
 refine Qp hq ?_
 refine Qb 3 (Qe (Qr ?_))
 obtain ⟨rfl,rfl⟩:=QU hm
 exact ⟨trivial,Qk⟩
def Xs (x:Unit):Option (Unit) :=
 match x with
 | _ =>
 some ()
def QaY:Unit→Unit→Prop:=fun x r=>match x with
 | _=>PC prog env 35 [] [] (match r with|_=>(.mapv 0)) (match r with|_=>[(.map [(.bool true,(.dat (.raw (.func (.func 64) #[] #[])))),(.bool false,(.dat (.raw (.func (.func 65) #[] #[]))))])])
theorem Qex:∀ x r,Xs x=some r→QaY x r:=by
 intro x r hm
 unfold Xs at hm
 unfold QaY
 refine PC_sxB (fn:=f35) rfl ?_
 refine Qd (R_G (Qb 1 (Qe (Qd (R_G (Qb 1 (Qb 1 (Qb 1 (Qb 2 (Qe (Qr ?_)))))))))))
 obtain rfl:=Qu hm
 exact ⟨trivial,QY (by kernel_rfl) (by kernel_rfl)⟩
def Qa5 (x:Int):Option Int :=
 match x with
 | p0 =>
 some p0
def Qfg:Int→Int→Prop:=fun x r=>match x,r with
 | p0,v5001=>∀ H,PC prog env 162 ([(Qa p0)].map .dat) H (.fn 169 [(.iptr [(Qa v5001)])]) H
theorem Qfj:∀ x r,Qa5 x=some r→Qfg x r:=by
 intro p0 v5001 hm
 unfold Qa5 at hm
 unfold Qfg
 intro H
 refine PC_sx (ds:=[(Qa p0)]) (fn:=f162) rfl ?_
 refine Qd (R_G (Qb 2 (Qe (Qd (R_G (Qb 2 (Qe (Qr ?_))))))))
 obtain rfl:=Qu hm
 exact ⟨trivial,Qk⟩
def YF (x:Int):Option (Unit) :=
 match x with
 | q0 =>
 some ()
def XZ:Int→Unit→Prop:=fun x r=>match x with
 | q0=>PC prog env 169 [(.iptr [(Qa q0)])] [] (match r with|_=>(.dat (.lst ((List.map Qa) ([q0]:List Int))))) (match r with|_=>[])
theorem QbT:∀ x r,YF x=some r→XZ x r:=by
 intro q0 r hm
 unfold YF at hm
 unfold XZ
 refine PC_sxB (fn:=f169) rfl ?_
 refine Qd (R_G (Qb 1 (Qe (Qd (R_G (Qb 3 (Qe (Qr ?_))))))))
 obtain rfl:=Qu hm
 exact ⟨trivial,QY (by kernel_rfl) (by kernel_rfl)⟩
def YQ (x:((List Int) × Int × Int)):Option (((List Int) × Int)) :=
 match x with
 | (q0,q1,q2) =>
 ((if q1 < 0 then
  some true
 else
 some (decide (q1 > (q0.length:Int)))
 )>>=fun (v2:Bool) =>
 if v2=true then
  some true
 else
 some (decide (q1 > q1))
 )>>=fun (v1:Bool) =>
 if v1=true then
  some (([]:List Int),4)
 else
 sub q0 0 q1>>=fun v3 =>
 YF q2>>=fun (_:Unit) =>
 sub q0 q1 (q0.length:Int)>>=fun v4 =>
 Ya ([v3,([q2]:List Int),v4]:List (List Int))>>=fun (v5:(List Int)) =>
 some (v5,0)
def XS:((List Int) × Int × Int)→((List Int) × Int)→Prop:=fun x r=>match x with
 | (q0,q1,q2)=>PC prog env 161 [(.dat (.lst ((List.map Qa) q0))),(Qc q1),(Qc q1),(.fn 169 [(.iptr [(Qa q2)])])] [] (match r with|(v5001,v5002)=>(.tup [(.dat (.lst ((List.map Qa) v5001))),(Qc v5002)])) (match r with|(v5001,v5002)=>[])
theorem QcF:∀ x r,YQ x=some r→XS x r:=by
 intro x r hm
 unfold YQ at hm
 unfold XS
 obtain ⟨q0,q1,q2⟩:=x
 refine PC_sxB (fn:=f161) rfl ?_
 refine Qd (R_G (Qb 2 (Qe (Qd (Qd ?_)))))
 obtain ⟨v1,hs,hm⟩:=Qg hm
 refine Zy (fun d=>⟨sl d 33 [(0,(.dat (.lst ((List.map Qa) q0)))),(1,(Qc q1)),(2,(Qc q1)),(3,(.fn 169 [(.iptr [(Qa q2)])])),(22,(Qs v1))],[]⟩) ?_ (fun d=>?_)
 ·replace hm:=hs
  clear hs
  refine QdZ ?_
  refine Qb 3 ?_
  obtain ⟨v2,hs,hm⟩:=Qg hm
  refine XX (j:=8) (fun d=>⟨sl d 33 [(0,(.dat (.lst ((List.map Qa) q0)))),(1,(Qc q1)),(2,(Qc q1)),(3,(.fn 169 [(.iptr [(Qa q2)])])),(17,(Qs v2))],[]⟩) (fun d=>?_) (fun hJ=>?_)
  ·clear hs
   refine Qb 1 ?_
   refine QA 18 hm (QH _) (fun hm=>?_) (fun hm=>?_)
   ·refine Qb 4 ?_
    refine Qe ⟨by kernel_rfl,?_⟩
    obtain rfl:=Qu hm
    exact Qm
   refine Qb 4 ?_
   refine Qe ⟨by kernel_rfl,?_⟩
   obtain rfl:=Qu hm
   exact Qm
  clear hm
  refine QA 12 hs (rfl) (fun hm=>?_) (fun hm=>?_)
  ·refine Qb 5 ?_
   obtain rfl:=Qu hm
   exact hJ _ _
  refine Qb 2 ?_
  refine QO Qa q0 (es:=(List.map Qa) q0) rfl ?_
  refine Qb 2 ?_
  obtain rfl:=Qu hm
  exact hJ _ _
 clear hs
 refine Qx hm (QH _) (fun hm=>?_) (fun hm=>?_)
 ·refine Qd (R_G (Qb 2 (Qe (Qr ?_))))
  obtain rfl:=Qu hm
  exact ⟨trivial,QY (by kernel_rfl) (by kernel_rfl)⟩
 refine Qo (Qd ?_)
 refine QaK ?_
 refine Qb 2 ?_
 obtain ⟨v3,hx,hm⟩:=Qg hm
 refine QfP 1 Qa q0 v3 0 q1 (es:=(List.map Qa) q0) (L:=(List.map Qa)) (a:=natI 0) (b:=natI q1) (fun _=>rfl) rfl (fun _=>by first|rfl|exact num_of_fit ((fun _=>rfl) _)) hx rfl (Or.inl rfl) ?_
 refine Qb 1 ?_
 obtain ⟨_,hx,hm⟩:=Qg hm
 have hq:=QbT _ _ hx
 dsimp only [XZ] at hq
 refine Zh hq ?_
 refine Qb 2 ?_
 obtain ⟨v4,hx,hm⟩:=Qg hm
 refine QfP 1 Qa q0 v4 q1 (q0.length:Int) (es:=(List.map Qa) q0) (L:=(List.map Qa)) (a:=natI q1) (b:=some ((List.map Qa) q0).length) (fun _=>rfl) rfl (fun _=>by first|rfl|exact num_of_fit ((fun _=>rfl) _)) hx rfl (Or.inr ⟨rfl,rfl⟩) ?_
 refine Qb 1 ?_
 obtain ⟨v5,hx,hm⟩:=Qg hm
 have hq:=Jm _ _ hx []
 refine Qp hq ?_
 refine Qb 2 ?_
 refine Qe ⟨by kernel_rfl,?_⟩
 refine Qr ?_
 obtain rfl:=Qu hm
 exact ⟨trivial,QY (by kernel_rfl) (by kernel_rfl)⟩
def Qaj (x:((List Int) × Int × Int)):Option ((List Int) × Int) :=
 match x with
 | (p0,p1,p2) =>
 Qa5 p2>>=fun (v1:Int) =>
 YQ (p0,p1,v1)>>=fun ((v2,v3):((List Int) × Int)) =>
 some (v2,v3)
def QdH:((List Int) × Int × Int)→((List Int) × Int)→Prop:=fun x r=>match x,r with
 | (p0,p1,p2),(r0,r1)=>∀ H,PC prog env 143 ([(.lst ((List.map Qa) p0)),(Qa p1),(Qa p2)].map .dat) H (.tup [(.dat (.lst ((List.map Qa) r0))),(Qc r1)]) H
theorem Qfz:∀ x r,Qaj x=some r→QdH x r:=by
 intro x r hm
 unfold Qaj at hm
 unfold QdH
 obtain ⟨p0,p1,p2⟩:=x
 obtain ⟨r0,r1⟩:=r
 intro H
 refine PC_sx (ds:=[(.lst ((List.map Qa) p0)),(Qa p1),(Qa p2)]) (fn:=f143) rfl ?_
 refine Qd (R_G (Qb 2 (Qe (Qd (R_G (Qb 4 ?_))))))
 obtain ⟨v1,hx,hm⟩:=Qg hm
 have hq:=Qfj _ _ hx []
 refine Qp hq ?_
 obtain ⟨⟨v2,v3⟩,hx,hm⟩:=Qg hm
 have hq:=QcF _ _ hx
 dsimp only [XS] at hq
 refine Zh hq ?_
 refine Qb 4 (Qe (Qr ?_))
 obtain ⟨rfl,rfl⟩:=QU hm
 exact ⟨trivial,Qk⟩
def YR (x:((List Int) × Int × Int × Int)):Option (((List Int) × Int)) :=
 match x with
 | (q0,q1,q2,q3) =>
 ((if q1 < 0 then
  some true
 else
 some (decide (q2 > (q0.length:Int)))
 )>>=fun (v2:Bool) =>
 if v2=true then
  some true
 else
 some (decide (q1 > q2))
 )>>=fun (v1:Bool) =>
 if v1=true then
  some (([]:List Int),4)
 else
 sub q0 0 q1>>=fun v3 =>
 YF q3>>=fun (_:Unit) =>
 sub q0 q2 (q0.length:Int)>>=fun v4 =>
 Ya ([v3,([q3]:List Int),v4]:List (List Int))>>=fun (v5:(List Int)) =>
 some (v5,0)
def XT:((List Int) × Int × Int × Int)→((List Int) × Int)→Prop:=fun x r=>match x with
 | (q0,q1,q2,q3)=>PC prog env 161 [(.dat (.lst ((List.map Qa) q0))),(Qc q1),(Qc q2),(.fn 169 [(.iptr [(Qa q3)])])] [] (match r with|(v5001,v5002)=>(.tup [(.dat (.lst ((List.map Qa) v5001))),(Qc v5002)])) (match r with|(v5001,v5002)=>[])
theorem QcG:∀ x r,YR x=some r→XT x r:=by
 intro x r hm
 unfold YR at hm
 unfold XT
 obtain ⟨q0,q1,q2,q3⟩:=x
 refine PC_sxB (fn:=f161) rfl ?_
 refine Qd (R_G (Qb 2 (Qe (Qd (Qd ?_)))))
 obtain ⟨v1,hs,hm⟩:=Qg hm
 refine Zy (fun d=>⟨sl d 33 [(0,(.dat (.lst ((List.map Qa) q0)))),(1,(Qc q1)),(2,(Qc q2)),(3,(.fn 169 [(.iptr [(Qa q3)])])),(22,(Qs v1))],[]⟩) ?_ (fun d=>?_)
 ·replace hm:=hs
  clear hs
  refine QdZ ?_
  refine Qb 3 ?_
  obtain ⟨v2,hs,hm⟩:=Qg hm
  refine XX (j:=8) (fun d=>⟨sl d 33 [(0,(.dat (.lst ((List.map Qa) q0)))),(1,(Qc q1)),(2,(Qc q2)),(3,(.fn 169 [(.iptr [(Qa q3)])])),(17,(Qs v2))],[]⟩) (fun d=>?_) (fun hJ=>?_)
  ·clear hs
   refine Qb 1 ?_
   refine QA 18 hm (QH _) (fun hm=>?_) (fun hm=>?_)
   ·refine Qb 4 ?_
    refine Qe ⟨by kernel_rfl,?_⟩
    obtain rfl:=Qu hm
    exact Qm
   refine Qb 4 ?_
   refine Qe ⟨by kernel_rfl,?_⟩
   obtain rfl:=Qu hm
   exact Qm
  clear hm
  refine QA 12 hs (rfl) (fun hm=>?_) (fun hm=>?_)
  ·refine Qb 5 ?_
   obtain rfl:=Qu hm
   exact hJ _ _
  refine Qb 2 ?_
  refine QO Qa q0 (es:=(List.map Qa) q0) rfl ?_
  refine Qb 2 ?_
  obtain rfl:=Qu hm
  exact hJ _ _
 clear hs
 refine Qx hm (QH _) (fun hm=>?_) (fun hm=>?_)
 ·refine Qd (R_G (Qb 2 (Qe (Qr ?_))))
  obtain rfl:=Qu hm
  exact ⟨trivial,QY (by kernel_rfl) (by kernel_rfl)⟩
 refine Qo (Qd ?_)
 refine QaK ?_
 refine Qb 2 ?_
 obtain ⟨v3,hx,hm⟩:=Qg hm
 refine QfP 1 Qa q0 v3 0 q1 (es:=(List.map Qa) q0) (L:=(List.map Qa)) (a:=natI 0) (b:=natI q1) (fun _=>rfl) rfl (fun _=>by first|rfl|exact num_of_fit ((fun _=>rfl) _)) hx rfl (Or.inl rfl) ?_
 refine Qb 1 ?_
 obtain ⟨_,hx,hm⟩:=Qg hm
 have hq:=QbT _ _ hx
 dsimp only [XZ] at hq
 refine Zh hq ?_
 refine Qb 2 ?_
 obtain ⟨v4,hx,hm⟩:=Qg hm
 refine QfP 1 Qa q0 v4 q2 (q0.length:Int) (es:=(List.map Qa) q0) (L:=(List.map Qa)) (a:=natI q2) (b:=some ((List.map Qa) q0).length) (fun _=>rfl) rfl (fun _=>by first|rfl|exact num_of_fit ((fun _=>rfl) _)) hx rfl (Or.inr ⟨rfl,rfl⟩) ?_
 refine Qb 1 ?_
 obtain ⟨v5,hx,hm⟩:=Qg hm
 have hq:=Jm _ _ hx []
 refine Qp hq ?_
 refine Qb 2 ?_
 refine Qe ⟨by kernel_rfl,?_⟩
 refine Qr ?_
 obtain rfl:=Qu hm
 exact ⟨trivial,QY (by kernel_rfl) (by kernel_rfl)⟩
def Y7 (x:((List Int) × Int × Int)):Option ((List Int) × Int) :=
 match x with
 | (p0,p1,p2) =>
 if p1≥(p0.length:Int) then
  some (([]:(List Int)),4)
 else
 Qa5 p2>>=fun (v1:Int) =>
 YR (p0,p1,(W (p1+1)),v1)>>=fun ((v2,v3):((List Int) × Int)) =>
 some (v2,v3)
def Qdi:((List Int) × Int × Int)→((List Int) × Int)→Prop:=fun x r=>match x,r with
 | (p0,p1,p2),(r0,r1)=>∀ H,PC prog env 144 ([(.lst ((List.map Qa) p0)),(Qa p1),(Qa p2)].map .dat) H (.tup [(.dat (.lst ((List.map Qa) r0))),(Qc r1)]) H
theorem Qdm:∀ x r,Y7 x=some r→Qdi x r:=by
 intro x r hm
 unfold Y7 at hm
 unfold Qdi
 obtain ⟨p0,p1,p2⟩:=x
 obtain ⟨r0,r1⟩:=r
 intro H
 refine PC_sx (ds:=[(.lst ((List.map Qa) p0)),(Qa p1),(Qa p2)]) (fn:=f144) rfl ?_
 refine Qd (R_G (Qb 2 (Qe (Qd (Qd (R_G (Qb 2 ?_)))))))
 refine QO Qa p0 (es:=(List.map Qa) p0) rfl ?_
 refine Qb 1 (Qe ?_)
 refine Qx hm (rfl) (fun hm=>?_) (fun hm=>?_)
 ·refine Qd (R_G (Qb 2 (Qe (Qr ?_))))
  obtain ⟨rfl,rfl⟩:=QU hm
  exact ⟨trivial,Qk⟩
 refine Qo (Qd (R_G (Qb 5 ?_)))
 obtain ⟨v1,hx,hm⟩:=Qg hm
 have hq:=Qfj _ _ hx []
 refine Qp hq ?_
 obtain ⟨⟨v2,v3⟩,hx,hm⟩:=Qg hm
 have hq:=QcG _ _ hx
 dsimp only [XT] at hq
 refine Zh hq ?_
 refine Qb 4 (Qe (Qr ?_))
 obtain ⟨rfl,rfl⟩:=QU hm
 exact ⟨trivial,Qk⟩
def Yd (x:((List Int) × (List Int) × Int × Int)):Option ((List Int) × Int) :=
 match x with
 | (p0,p1,p2,p3) =>
 if (p0.length:Int)=p2 then
  Qz p0>>=fun v1 =>
  some (v1,0)
 else
 if (p0.length:Int)=(W (p2 - 1)) then
  Qaj (p0,p3,1)>>=fun ((v2,v3):((List Int) × Int)) =>
  some (v2,v3)
 else
 if (p0.length:Int)=0 then
  Y7 (p1,p3,1)>>=fun ((v4,v5):((List Int) × Int)) =>
  some (v4,v5)
 else
 some (([]:(List Int)),4)
def QdG:((List Int) × (List Int) × Int × Int)→((List Int) × Int)→Prop:=fun x r=>match x,r with
 | (p0,p1,p2,p3),(r0,r1)=>∀ H,PC prog env 125 ([(.lst ((List.map Qa) p0)),(.lst ((List.map Qa) p1)),(Qa p2),(Qa p3)].map .dat) H (.tup [(.dat (.lst ((List.map Qa) r0))),(Qc r1)]) H
theorem QdV:∀ x r,Yd x=some r→QdG x r:=by
 intro x r hm
 unfold Yd at hm
 unfold QdG
 obtain ⟨p0,p1,p2,p3⟩:=x
 obtain ⟨r0,r1⟩:=r
 intro H
 refine PC_sx (ds:=[(.lst ((List.map Qa) p0)),(.lst ((List.map Qa) p1)),(Qa p2),(Qa p3)]) (fn:=f125) rfl ?_
 refine Qd (R_G (Qb 2 (Qe (Qd (Qd (R_G (Qb 1 ?_)))))))
 refine QO Qa p0 (es:=(List.map Qa) p0) rfl ?_
 refine Qe (Qw (Qd (R_G (Qb 3 (Qe ?_)))))
 refine Qx hm (Q1 _ _) (fun hm=>?_) (fun hm=>?_)
 ·refine Qd (R_G (Qb 1 ?_))
  obtain ⟨v1,hx,hm⟩:=Qg hm
  have hq:=QG _ _ hx
  dsimp only [QB] at hq
  have hl9:mtOf [Blk.mt 3 (cgm_slices_Clone_int_int v1) (cellsOf Qa v1)] 0=some (3,cgm_slices_Clone_int_int v1,cellsOf Qa v1):=ZS (by kernel_rfl)
  refine Yb (v:=.ms 0 1 0 v1.length v1.length) (fun H=>H++[.mt 3 1 (cellsOf Qa v1)]) rfl (by kernel_rfl) ?_ ?_
  ·intro K hk
   refine Zz 0 (first:=#[]) (cap:=#[]) (j:=(0,3)) (ow':=[]) (f0:=Qa) (l:=v1) rfl ?_ ?_ ?_ (ds:=[.lst ((List.map Qa) p0)]) ?_ hq hl9 ?_ ?_ ?_
   ·kernel_rfl
   ·kernel_rfl
   ·kernel_rfl
   ·kernel_rfl
   ·exact hk
   ·kernel_rfl
   ·decide
  refine Qb 2 (Qe (Qr ?_))
  obtain ⟨rfl,rfl⟩:=QU hm
  exact ⟨trivial,Xl [(.ms 0 1 0 v1.length v1.length),(Qc 0)] (by kernel_rfl) (po_tup (ps_cons (p1_ms (pc_ms (e:=3) Qa v1 rfl (fun _=>rfl) (by kernel_rfl))) (ps_cons (by kernel_rfl) ps_nil)))⟩
 refine Qd (R_G (Qb 4 (Qe ?_)))
 refine Qx hm (Q1 _ _) (fun hm=>?_) (fun hm=>?_)
 ·refine Qd (R_G (Qb 2 ?_))
  obtain ⟨⟨v2,v3⟩,hx,hm⟩:=Qg hm
  have hq:=Qfz _ _ hx []
  refine Qp hq ?_
  refine Qb 4 (Qe (Qr ?_))
  obtain ⟨rfl,rfl⟩:=QU hm
  exact ⟨trivial,Qk⟩
 refine Qd (R_G (Qb 2 (Qe ?_)))
 refine Qx hm (Q1 _ _) (fun hm=>?_) (fun hm=>?_)
 ·refine Qd (R_G (Qb 2 ?_))
  obtain ⟨⟨v4,v5⟩,hx,hm⟩:=Qg hm
  have hq:=Qdm _ _ hx []
  refine Qp hq ?_
  refine Qb 4 (Qe (Qr ?_))
  obtain ⟨rfl,rfl⟩:=QU hm
  exact ⟨trivial,Qk⟩
 refine Qo (Qd (R_G (Qb 2 (Qe (Qr ?_)))))
 obtain ⟨rfl,rfl⟩:=QU hm
 exact ⟨trivial,Qk⟩
def Qaw (x:Unit):Option (List Int) :=
 match x with
 | _ =>
 some ([]:(List Int))
def QcO:Unit→(List Int)→Prop:=fun x r=>match x,r with
 | _,r0=>∀ H,PC prog env 163 ([].map .dat) H (.dat (.lst ((List.map Qa) r0))) H
theorem Qe2:∀ x r,Qaw x=some r→QcO x r:=by
 intro x r0 hm
 unfold Qaw at hm
 unfold QcO
 intro H
 refine PC_sx (ds:=[]) (fn:=f163) rfl ?_
 refine Qd (R_G (Qb 1 (Qe (Qd (R_G (Qb 1 (Qe (Qr ?_))))))))
 obtain rfl:=Qu hm
 exact ⟨trivial,Qk⟩
def YP (x:((List Int) × Int × Int)):Option (((List Int) × Int)) :=
 match x with
 | (q0,q1,q2) =>
 ((if q1 < 0 then
  some true
 else
 some (decide (q2 > (q0.length:Int)))
 )>>=fun (v2:Bool) =>
 if v2=true then
  some true
 else
 some (decide (q1 > q2))
 )>>=fun (v1:Bool) =>
 if v1=true then
  some (([]:List Int),4)
 else
 sub q0 0 q1>>=fun v3 =>
 Qaw ()>>=fun (v4:(List Int)) =>
 sub q0 q2 (q0.length:Int)>>=fun v5 =>
 Ya ([v3,v4,v5]:List (List Int))>>=fun (v6:(List Int)) =>
 some (v6,0)
def XR:((List Int) × Int × Int)→((List Int) × Int)→Prop:=fun x r=>match x with
 | (q0,q1,q2)=>PC prog env 161 [(.dat (.lst ((List.map Qa) q0))),(Qc q1),(Qc q2),(.dat (.raw (.func (.func 163) #[] #[])))] [] (match r with|(v5001,v5002)=>(.tup [(.dat (.lst ((List.map Qa) v5001))),(Qc v5002)])) (match r with|(v5001,v5002)=>[])
theorem QcE:∀ x r,YP x=some r→XR x r:=by
 intro x r hm
 unfold YP at hm
 unfold XR
 obtain ⟨q0,q1,q2⟩:=x
 refine PC_sxB (fn:=f161) rfl ?_
 refine Qd (R_G (Qb 2 (Qe (Qd (Qd ?_)))))
 obtain ⟨v1,hs,hm⟩:=Qg hm
 refine Zy (fun d=>⟨sl d 33 [(0,(.dat (.lst ((List.map Qa) q0)))),(1,(Qc q1)),(2,(Qc q2)),(3,(.dat (.raw (.func (.func 163) #[] #[])))),(22,(Qs v1))],[]⟩) ?_ (fun d=>?_)
 ·replace hm:=hs
  clear hs
  refine QdZ ?_
  refine Qb 3 ?_
  obtain ⟨v2,hs,hm⟩:=Qg hm
  refine XX (j:=8) (fun d=>⟨sl d 33 [(0,(.dat (.lst ((List.map Qa) q0)))),(1,(Qc q1)),(2,(Qc q2)),(3,(.dat (.raw (.func (.func 163) #[] #[])))),(17,(Qs v2))],[]⟩) (fun d=>?_) (fun hJ=>?_)
  ·clear hs
   refine Qb 1 ?_
   refine QA 18 hm (QH _) (fun hm=>?_) (fun hm=>?_)
   ·refine Qb 4 ?_
    refine Qe ⟨by kernel_rfl,?_⟩
    obtain rfl:=Qu hm
    exact Qm
   refine Qb 4 ?_
   refine Qe ⟨by kernel_rfl,?_⟩
   obtain rfl:=Qu hm
   exact Qm
  clear hm
  refine QA 12 hs (rfl) (fun hm=>?_) (fun hm=>?_)
  ·refine Qb 5 ?_
   obtain rfl:=Qu hm
   exact hJ _ _
  refine Qb 2 ?_
  refine QO Qa q0 (es:=(List.map Qa) q0) rfl ?_
  refine Qb 2 ?_
  obtain rfl:=Qu hm
  exact hJ _ _
 clear hs
 refine Qx hm (QH _) (fun hm=>?_) (fun hm=>?_)
 ·refine Qd (R_G (Qb 2 (Qe (Qr ?_))))
  obtain rfl:=Qu hm
  exact ⟨trivial,QY (by kernel_rfl) (by kernel_rfl)⟩
 refine Qo (Qd ?_)
 refine QaK ?_
 refine Qb 2 ?_
 obtain ⟨v3,hx,hm⟩:=Qg hm
 refine QfP 1 Qa q0 v3 0 q1 (es:=(List.map Qa) q0) (L:=(List.map Qa)) (a:=natI 0) (b:=natI q1) (fun _=>rfl) rfl (fun _=>by first|rfl|exact num_of_fit ((fun _=>rfl) _)) hx rfl (Or.inl rfl) ?_
 refine Qb 1 ?_
 obtain ⟨v4,hx,hm⟩:=Qg hm
 have hq:=Qe2 _ _ hx []
 refine Qp hq ?_
 refine Qb 2 ?_
 obtain ⟨v5,hx,hm⟩:=Qg hm
 refine QfP 1 Qa q0 v5 q2 (q0.length:Int) (es:=(List.map Qa) q0) (L:=(List.map Qa)) (a:=natI q2) (b:=some ((List.map Qa) q0).length) (fun _=>rfl) rfl (fun _=>by first|rfl|exact num_of_fit ((fun _=>rfl) _)) hx rfl (Or.inr ⟨rfl,rfl⟩) ?_
 refine Qb 1 ?_
 obtain ⟨v6,hx,hm⟩:=Qg hm
 have hq:=Jm _ _ hx []
 refine Qp hq ?_
 refine Qb 2 ?_
 refine Qe ⟨by kernel_rfl,?_⟩
 refine Qr ?_
 obtain rfl:=Qu hm
 exact ⟨trivial,QY (by kernel_rfl) (by kernel_rfl)⟩
def YW (x:((List Int) × Int)):Option ((List Int) × Int) :=
 match x with
 | (p0,p1) =>
 if p1≥(p0.length:Int) then
  some (([]:(List Int)),4)
 else
 YP (p0,p1,(W (p1+1)))>>=fun ((v1,v2):((List Int) × Int)) =>
 some (v1,v2)
def QdI:((List Int) × Int)→((List Int) × Int)→Prop:=fun x r=>match x,r with
 | (p0,p1),(r0,r1)=>∀ H,PC prog env 145 ([(.lst ((List.map Qa) p0)),(Qa p1)].map .dat) H (.tup [(.dat (.lst ((List.map Qa) r0))),(Qc r1)]) H
theorem QdW:∀ x r,YW x=some r→QdI x r:=by
 intro x r hm
 unfold YW at hm
 unfold QdI
 obtain ⟨p0,p1⟩:=x
 obtain ⟨r0,r1⟩:=r
 intro H
 refine PC_sx (ds:=[(.lst ((List.map Qa) p0)),(Qa p1)]) (fn:=f145) rfl ?_
 refine Qd (R_G (Qb 2 (Qe (Qd (Qd (R_G (Qb 2 ?_)))))))
 refine QO Qa p0 (es:=(List.map Qa) p0) rfl ?_
 refine Qb 1 (Qe ?_)
 refine Qx hm (rfl) (fun hm=>?_) (fun hm=>?_)
 ·refine Qd (R_G (Qb 2 (Qe (Qr ?_))))
  obtain ⟨rfl,rfl⟩:=QU hm
  exact ⟨trivial,Qk⟩
 refine Qo (Qd (R_G (Qb 4 ?_)))
 obtain ⟨⟨v1,v2⟩,hx,hm⟩:=Qg hm
 have hq:=QcE _ _ hx
 dsimp only [XR] at hq
 refine Zh hq ?_
 refine Qb 4 (Qe (Qr ?_))
 obtain ⟨rfl,rfl⟩:=QU hm
 exact ⟨trivial,Qk⟩
def Za (x:((List Int) × (List Int) × Int)):Option (Unit ⊕ Unit) :=
 match x with
 | (p0,p1,v201) =>
 if v201 < (p0.length:Int) then
  idx p0 v201>>=fun v601 =>
  idx p1 v201>>=fun v602 =>
  if v601≠v602 then
   some (Sum.inl ())
  else
  Za (p0,p1,(W (v201+1)))
 else
 some (Sum.inr ())
 partial_fixpoint
def QaF:((List Int) × (List Int) × Int)→(Unit ⊕ Unit)→Prop:=fun x r=>match x with
 | (p0,p1,v201)=>∀ st,prune 0 ((Qy (QN [1,1,0,1,0,0] (QP f50))).bind (env.hint 50).keepAt) st=⟨kp 26 [(0,(.dat (.lst ((List.map Qa) p0)))),(1,(.dat (.lst ((List.map Qa) p1)))),(12,(Qc (p0.length:Int))),(13,(Qc v201))],[]⟩ →
  RL prog env (env.hint 50) true (QN [1,1,0,1,0,0] (QP f50)) 0 st (fun e s=>match r with|.inl _=>e=.ret∧∃ d,s=⟨sl d 26 [(4,(Qs false))],[]⟩|.inr (_)=>e=.exit 0∧∃ d,s=⟨sl d 26 [],[]⟩)
theorem YJ:∀ x r,Za x=some r→QaF x r:=by
 refine Za.partial_correctness _ (fun Za YJ x r hm=>?_)
 unfold QaF
 obtain ⟨p0,p1,v201⟩:=x
 intro st hst
 refine RL_at hst ?_
 clear hst
 refine Qd (R_G (Qb 1 (Qe (Qd ?_))))
 refine Qx hm (rfl) (fun hm=>?_) (fun hm=>?_)
 ·refine Qo (Qd (Qw (Qd (R_G (Qb 2 (Qe (Qd ?_)))))))
  refine QaK ?_
  refine Qb 2 ?_
  refine Q3 1 Qa hm rfl (fun _=>rfl) (fun v601 hm=>?_)
  refine Qb 3 ?_
  refine Q3 1 Qa hm rfl (fun _=>rfl) (fun v602 hm=>?_)
  refine Qb 2 ?_
  refine Qe ⟨by kernel_rfl,?_⟩
  refine Qx hm (ne_dec _ _) (fun hm=>?_) (fun hm=>?_)
  ·refine Qd (R_G (Qb 1 (Qe (Qr ?_))))
   obtain rfl:=Qu hm
   exact ⟨rfl,Qm⟩
  refine Qo (R_G (Qb 2 (Qe ?_)))
  exact YJ _ _ hm _ (by kernel_rfl)
 refine Q8 ?_
 obtain rfl:=Qu hm
 exact ⟨rfl,Qm⟩
def Yl (x:((List Int) × (List Int))):Option Bool :=
 match x with
 | (p0,p1) =>
 if (p0.length:Int)≠(p1.length:Int) then
  some false
 else
 (
 Za (p0,p1,0)>>=fun (out:Unit ⊕ Unit) =>
 match out with
 | .inl _ =>
  some false
 | .inr (_) =>
  some true
 )
def Qba:((List Int) × (List Int))→Bool→Prop:=fun x r=>match x,r with
 | (p0,p1),r0=>∀ H,PC prog env 50 ([(.lst ((List.map Qa) p0)),(.lst ((List.map Qa) p1))].map .dat) H (Qs r0) H
theorem Qc4:∀ x r,Yl x=some r→Qba x r:=by
 intro x r0 hm
 unfold Yl at hm
 unfold Qba
 obtain ⟨p0,p1⟩:=x
 intro H
 refine PC_sx (ds:=[(.lst ((List.map Qa) p0)),(.lst ((List.map Qa) p1))]) (fn:=f50) rfl ?_
 refine Qd (R_G (Qb 1 (Qe (Qd (Qd (R_G (Qb 1 ?_)))))))
 refine QO Qa p0 (es:=(List.map Qa) p0) rfl ?_
 refine Qb 1 ?_
 refine QO Qa p1 (es:=(List.map Qa) p1) rfl ?_
 refine Qb 1 (Qe ?_)
 refine Qx hm (ne_dec _ _) (fun hm=>?_) (fun hm=>?_)
 ·refine Qd (R_G (Qb 1 (Qe (Qr ?_))))
  obtain rfl:=Qu hm
  exact ⟨trivial,Qk⟩
 refine Qo (Qd (Qd (R_G (Qb 1 ?_))))
 refine QO Qa p0 (es:=(List.map Qa) p0) rfl ?_
 refine Qb 1 (Qe (Qw ?_))
 obtain ⟨out,hs,hm⟩:=Qg hm
 refine Ze ?_
 rcases out with _|_
 ·refine RL_use (YJ _ _ hs) (by kernel_rfl) ?_
  clear hs
  intro e s hp
  obtain ⟨rfl,d,rfl⟩:=hp
  obtain rfl:=Qu hm
  exact ⟨trivial,Qk⟩
 ·refine RL_use (YJ _ _ hs) (by kernel_rfl) ?_
  clear hs
  intro e s hp
  obtain ⟨rfl,d,rfl⟩:=hp
  refine Qd (R_G (Qb 1 (Qe (Qr ?_))))
  obtain rfl:=Qu hm
  exact ⟨trivial,Qk⟩
def Xk (x:((List Int) × (List Int))):Option Bool :=
 match x with
 | (p0,p1) =>
 Yl (p0,p1)>>=fun (v1:Bool) =>
 some v1
def Qem:((List Int) × (List Int))→Bool→Prop:=fun x r=>match x,r with
 | (p0,p1),r0=>∀ H,PC prog env 49 ([(.lst ((List.map Qa) p0)),(.lst ((List.map Qa) p1))].map .dat) H (Qs r0) H
theorem Qeu:∀ x r,Xk x=some r→Qem x r:=by
 intro x r0 hm
 unfold Xk at hm
 unfold Qem
 obtain ⟨p0,p1⟩:=x
 intro H
 refine PC_sx (ds:=[(.lst ((List.map Qa) p0)),(.lst ((List.map Qa) p1))]) (fn:=f49) rfl ?_
 refine Qd (R_G (Qb 1 (Qe (Qd (R_G (Qb 2 ?_))))))
 obtain ⟨v1,hx,hm⟩:=Qg hm
 have hq:=Qc4 _ _ hx []
 refine Qp hq ?_
 refine Qb 1 (Qe (Qr ?_))
 obtain rfl:=Qu hm
 exact ⟨trivial,Qk⟩
def Qbi (x:(Int × Int)):Option (Int × Bool) :=
 match x with
 | (p0,p1) =>
 some ((W (p0+p1)),(decide ((W (p0+p1))≤65536)))
def QeO:(Int × Int)→(Int × Bool)→Prop:=fun x r=>match x,r with
 | (p0,p1),(r0,r1)=>∀ H,PC prog env 164 ([(Qa p0),(Qa p1)].map .dat) H (.tup [(Qc r0),(Qs r1)]) H
theorem QfX:∀ x r,Qbi x=some r→QeO x r:=by
 intro x r hm
 unfold Qbi at hm
 unfold QeO
 obtain ⟨p0,p1⟩:=x
 obtain ⟨r0,r1⟩:=r
 intro H
 refine PC_sx (ds:=[(Qa p0),(Qa p1)]) (fn:=f164) rfl ?_
 refine Qd (R_G (Qb 2 (Qe (Qd (R_G (Qb 9 (Qe (Qr ?_))))))))
 obtain ⟨rfl,rfl⟩:=QU hm
 exact ⟨trivial,Qk⟩
end Go.Proofs.Tryz
